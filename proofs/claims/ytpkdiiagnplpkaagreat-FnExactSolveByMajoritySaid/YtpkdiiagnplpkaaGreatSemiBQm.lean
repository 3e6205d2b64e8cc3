import Derived.Test.YtpkdiiagnplpkaaGreatKindQm
import Derived.Test.YtpkdiiagnplpkaaGreatFailBQm
import Derived.Test.YtpkdiiagnplpkaaGreatArcFBQm
import Derived.Test.YtpkdiiagnplpkaaGreatPairsQm
import Derived.Test.YtpkdiiagnplpkaaGreatKindSQm
import Derived.Test.YtpkdiiagnplpkaaGreatArcsSQm
import Derived.Test.YtpkdiiagnplpkaaGreatMakeArcsSQm
set_option linter.unusedSimpArgs false
set_option linter.unusedVariables false
set_option maxHeartbeats 4000000
set_option maxRecDepth 100000
namespace Go.Proofs.YtpkdiiagnplpkaaGreat
open Go.RowKit Go.Shelf Go.IntWalk
open Rep (Rd Own sz)
def wayF (kb : Bool) (t : Tmpl) (x : Inst) (f : OpT) : Int := if instOk t x && opOk t.1 f then (if kb && decide (brokenF t f < 0) then 0 else 4) else 1
theorem wayF_0 {kb : Bool} {t : Tmpl} {x : Inst} {f : OpT} (h : wayF kb t x f = 0) : instOk t x = true ∧ opOk t.1 f = true ∧ kb = true := by
 unfold wayF at h
 by_cases h1 : (instOk t x && opOk t.1 f) = true
 · rw [if_pos h1] at h
   by_cases h2 : (kb && decide (brokenF t f < 0)) = true
   · rw [Bool.and_eq_true] at h1 h2
     exact ⟨h1.1, h1.2, h2.1⟩
   · rw [if_neg h2] at h
     cases h
 · rw [if_neg h1] at h
   cases h
def fullD (size V : Nat) : List (List Int) := List.replicate V (upL 0 size)
theorem upL_rises (size : Nat) (h : 1 ≤ size) : risesB 0 ((size : Int) - 1) (upL 0 size) = true := by
 unfold risesB
 rw [List.all_eq_true]
 intro i hi
 rw [List.mem_range, upL_len] at hi
 unfold risAt
 have hg : ∀ k, k < size → (upL 0 size).getD k 0 = (k : Int) := fun k hk => by
  rw [List.getD, List.getElem?_eq_getElem (by rw [upL_len]; exact hk)]
  simp [upL]
 rw [hg i hi, Bool.and_eq_true, Bool.or_eq_true]
 refine ⟨inB_mk (by omega), ?_⟩
 by_cases h0 : i = 0
 · exact .inl (decide_eq_true h0)
 · right
   rw [hg (i - 1) (by omega)]
   exact decide_eq_true (by omega)
theorem fullD_ok {t : Tmpl} {x : Inst} {sn V : Nat} (h : instOk t x = true) (hs : t.1 = (sn : Int)) (hV : x.1 = (V : Int)) : domsOk t x (fullD sn V) = true := by
 have h1 := (tmplOk_get (instOk_get h).1).1
 unfold domsOk
 rw [h, Bool.true_and, Bool.and_eq_true]
 refine ⟨decide_eq_true (by simp [fullD, hV]), ?_⟩
 rw [List.all_eq_true]
 intro d hd
 obtain ⟨_, rfl⟩ := List.mem_replicate.1 hd
 rw [hs]
 exact upL_rises sn (by omega)
theorem fullD_succ (size V : Nat) : fullD size V ++ [upL 0 size] = fullD size (V + 1) := List.replicate_succ'.symm
theorem fullDomains_c (sn V : Nat) (rs : List RelT) (cs : List OpT) (t1 x1 : Value) (w : World) (ht : Rd w [t1] rs) (hx : Rd w [x1] cs) (hs : sn ≤ 4) (hV : V ≤ 10) :
 Calls Tryz.prog 36 #[.agg #[.int .i64 sn, t1], .agg #[.int .i64 V, x1]] w fun e w' => ∃ v, e = .returned v ∧ AccP (fun z => w.heap.size ≤ z) 28 w' v (fullD sn V) ∧ Below w.heap.size w w' := by
 obtain ⟨at0, ct0, rfl, _⟩ := rd_list ht
 obtain ⟨ax, cx, rfl, _⟩ := rd_list hx
 clear ht hx
 have hs12 := (St.start w).alloc #[.int .i64 sn, .slice at0 rs.length ct0] 42 (n := w.heap.size) (by simp)
 obtain ⟨k0_0, k0_1⟩ := hs12.c2 0 0 0 1
 have hs13 := hs12.alloc #[.int .i64 V, .slice ax cs.length cx] 46 (n := w.heap.size + 1) (by simp)
 clear k0_0 k0_1
 obtain ⟨k0_0, k0_1, k1_0, k1_1⟩ := hs13.c4 0 0 0 1 1 0 1 1
 have HS0 := qH (show St w (w.heap.size + 1 + 1) (((w.alloc (.cells #[.int .i64 sn, .slice at0 rs.length ct0] 42)).alloc (.cells #[.int .i64 V, .slice ax cs.length cx] 46)).alloc (.cells #[] 28)) [(w.heap.size, #[.int .i64 sn, .slice at0 rs.length ct0], 42), (w.heap.size + 1, #[.int .i64 V, .slice ax cs.length cx], 46)] from hs13.step (belowA ((w.alloc (.cells #[.int .i64 sn, .slice at0 rs.length ct0] 42)).alloc (.cells #[.int .i64 V, .slice ax cs.length cx] 46)) (.cells #[] 28)))
 have HA0 := qH (show AccP (fun z => w.heap.size + 1 + 1 ≤ z ∧ z < (((w.alloc (.cells #[.int .i64 sn, .slice at0 rs.length ct0] 42)).alloc (.cells #[.int .i64 V, .slice ax cs.length cx] 46)).alloc (.cells #[] 28)).heap.size) 28 (((w.alloc (.cells #[.int .i64 sn, .slice at0 rs.length ct0] 42)).alloc (.cells #[.int .i64 V, .slice ax cs.length cx] 46)).alloc (.cells #[] 28)) (.slice (some ⟨w.heap.size + 1 + 1, 0, none⟩) 0 0) (fullD sn 0) from by
  have h := accP_made (α := List Int) ((w.alloc (.cells #[.int .i64 sn, .slice at0 rs.length ct0] 42)).alloc (.cells #[.int .i64 V, .slice ax cs.length cx] 46)) 28
  have e9 : (((w.alloc (.cells #[.int .i64 sn, .slice at0 rs.length ct0] 42)).alloc (.cells #[.int .i64 V, .slice ax cs.length cx] 46))).heap.size = w.heap.size + 1 + 1 := by simp
  rw [e9] at h
  exact h.wk (fun z hz => by subst hz; simp))
 go_enter Tryz.func36, Tryz.ntmps36
 go_wp2_with fail
 go_loopw [5, 9] (fun oo kv wl => ∃ (k c : Nat) (ao : Option Addr), k ≤ V ∧ kv = .int .i64 k ∧ oo = .slice ao k c ∧ Hid (St w (w.heap.size + 1 + 1) wl [(w.heap.size, #[.int .i64 sn, .slice at0 rs.length ct0], 42), (w.heap.size + 1, #[.int .i64 V, .slice ax cs.length cx], 46)]) ∧ Hid (AccP (fun z => w.heap.size + 1 + 1 ≤ z ∧ z < wl.heap.size) 28 wl (.slice ao k c) (fullD sn k))) (fun _ kv _ => V - (intOf kv).toNat)
 case atStart => exact ⟨0, 0, _, Nat.zero_le _, rfl, rfl, HS0.out, HA0.out⟩
 case round =>
  clear HS0 HA0
  obtain ⟨k, c, ao, hk, rfl, rfl, hst, hac⟩ := hrel
  have hs2 := hst.out
  have hlo := hs2.hi
  obtain ⟨k0_0, k0_1, k1_0, k1_1⟩ := hs2.c4 0 0 0 1 1 0 1 1
  by_cases hlt : k < V
  · have hkI : (k : Int) < V := by omega
    have HFS := qH (fullD_succ sn k)
    have HFN := qH (show (fullD sn k).length = k by simp [fullD])
    go_wp2_with fail
    refine (upTo_c 0 sn _ (by omega) (by omega) (by omega)).mono ?_
    rintro e w5 ⟨v5, rfl, hA5, hb5⟩
    obtain ⟨a5, c5, rfl, _⟩ := hA5.len
    have HI6 := qH (((hA5.accP (Nat.le_refl _)).ip).mono (belowA w5 (.cells #[.slice a5 (upL 0 sn).length c5] 28)))
    have HA6 := qH ((hac.out.mono hb5).mono (belowA w5 (.cells #[.slice a5 (upL 0 sn).length c5] 28)))
    have HS6 := qH ((hs2.step hb5).step (belowA w5 (.cells #[.slice a5 (upL 0 sn).length c5] 28)))
    have hz5 := hb5.size
    clear hA5 hb5
    go_wp2_with (at_builtin; refine wpList_append_accP _ rfl _ _ _ rfl E_lists rfl HA6.out HI6.out (fun z h1 h2 => by have h3 := h1.2; have h4 := h2.1; omega) ⟨w5.heap.size, 0, none⟩ 1 rfl (news1 (cell_at_block (heap_alloc_new _ _))) (by rw [HFN.out]; omega) ?_; simp only [HFN.out, HFS.out]; intro a9 c9 w9 hA9 hB9)
    have hz9 := hB9.size
    have HS9 := qH (HS6.out.butP hB9 (fun z hz => by have := hz.1; omega) (fun x hx hA => by have h1 := hA.1; simp at hx; rcases hx with rfl | rfl <;> (simp only at h1; omega)))
    have HA9 := qH (hA9.tight.wk (C := fun z => w.heap.size + 1 + 1 ≤ z ∧ z < w9.heap.size) (fun z hz => ⟨by
     rcases hz.1 with h | h | h
     · exact h.1
     · have := h.1; omega
     · rw [h]; simp; omega, hz.2⟩))
    clear hA9 hB9 hz9
    go_wp2_with fail
    go_roundw
    case rel => exact ⟨k + 1, c9, a9, by omega, by go_num, rfl, HS9.out, HA9.out⟩
    case measure => simp [intOf]; omega
  · obtain rfl : k = V := by omega
    have hnl : ¬ ((k : Int) < k) := by omega
    have HAF := qH (hac.out.wk (C := fun z => w.heap.size ≤ z) (fun z hz => by have := hz.1; omega))
    have HBF := qH hs2.bel
    go_wp2_with fail
    go_ret
    exact ⟨_, rfl, HAF.out, HBF.out⟩
end Go.Proofs.YtpkdiiagnplpkaaGreat
namespace Go.Proofs.YtpkdiiagnplpkaaGreat
open Go.RowKit Go.Shelf Go.IntWalk
open Rep (Rd Own sz)
def goneD (ds : List (List Int)) : Bool := ds.any (fun d => decide (d.length = 0))
theorem wayF_I64 (kb : Bool) (t : Tmpl) (x : Inst) (f : OpT) : I64 (wayF kb t x f) := by
 unfold wayF
 split
 · split <;> exact ⟨by decide, by decide⟩
 · exact ⟨by decide, by decide⟩
theorem full_in {t : Tmpl} {x : Inst} {sn V : Nat} (hs : t.1 = (sn : Int)) : InA (fun a => 0 ≤ a ∧ a ≤ t.1 - 1) V x.2.length (arcsF t x (fullD sn V)) := by
 refine arcsA_in _ ⟨by simp [fullD], fun d hd a ha => ?_, fun e he => by cases he⟩
 obtain ⟨_, rfl⟩ := List.mem_replicate.1 hd
 obtain ⟨k, hk, rfl⟩ := List.mem_map.1 ha
 have := List.mem_range.1 hk
 omega
theorem fresh_tail {α β : Type} [Rep α] [Rep β] {lo : Nat} {w : World} {v : Value} {vs : List Value} {x : α × β} (hα : sz α = 1) (h : Fresh lo w (v :: vs) x) : Fresh lo w vs x.2 := by
 obtain ⟨ps, h1, h2, h3⟩ := h
 obtain ⟨p, q, rfl, _, h5⟩ := own_cons hα h1
 exact ⟨q, h5, (List.nodup_append.1 h2).2.1, fun k hk => h3 k (by simp [hk])⟩
theorem fresh_vdA {lo : Nat} {w : World} {k : Int} {v : Value} {l : List (Int × Int × Int)} (hI : I64 k) (h : Fresh lo w [v] l) : Fresh lo w [.int .i64 k, .slice none 0 0, v, .slice none 0 0, .slice none 0 0] ((k, [], l, [], []) : Vdct) := by
 obtain ⟨ps, h1, h2, h3⟩ := h
 have e : ∀ {α : Type} [Rep α], Own [] w [.slice none 0 0] ([] : List α) := ⟨_, rfl, .inl ⟨rfl, rfl, none, 0, rfl, Nat.zero_le _⟩⟩
 exact ⟨[] ++ ([] ++ (ps ++ ([] ++ []))), mk_own ⟨rfl, rfl, hI⟩ (mk_own e (mk_own h1 (mk_own e e))), by simpa using h2, fun k hk => h3 k (by simpa using hk)⟩
structure FullFacts (t : Tmpl) (x : Inst) (sn V : Nat) : Prop where
 f : DomFacts t x (fullD sn V)
 len : (fullD sn V).length = V
 i64 : ∀ e, e ∈ (arcsF t x (fullD sn V)).2 → I64 e.1 ∧ I64 e.2.1 ∧ I64 e.2.2
 inn : InA (fun a => 0 ≤ a ∧ a ≤ t.1 - 1) V x.2.length (arcsF t x (fullD sn V))
theorem full_facts {t : Tmpl} {x : Inst} {sn V : Nat} (h : instOk t x = true) (hs : t.1 = (sn : Int)) (hV : x.1 = (V : Int)) : FullFacts t x sn V :=
 ⟨dom_facts (fullD_ok h hs hV), by simp [fullD], arcsF_i64 (fullD_ok h hs hV), full_in hs⟩
end Go.Proofs.YtpkdiiagnplpkaaGreat
namespace Go.Proofs.YtpkdiiagnplpkaaGreat
open Go.RowKit Go.Shelf Go.IntWalk
open Rep (Rd Own sz)
theorem firstI_m1 {α : Type} (q : α → Bool) (l : List α) : firstI q l = -1 ∨ 0 ≤ firstI q l := by
 unfold firstI
 cases h : l.findIdx? q with
 | none => exact .inl rfl
 | some k => exact .inr (by simp)
theorem broken_m1 (t : Tmpl) (f : OpT) : (brokenF t f != -1) = !decide (brokenF t f < 0) := by
 rcases firstI_m1 (fun r => !keepsP t.1 f r) t.2 with h | h
 · have e : brokenF t f = -1 := h
   rw [e]; rfl
 · have e : 0 ≤ brokenF t f := h
   rw [show decide (brokenF t f < 0) = false from decide_eq_false (by omega)]
   rw [show (brokenF t f != -1) = true from by rw [bne_iff_ne]; omega]
   rfl
theorem l03Count_c (n : Nat) (w : World) (hn : n ≤ 1000000) :
 Calls Tryz.prog 63 #[.int .i64 n] w fun e w' => ∃ v, e = .returned v ∧ Acc w.heap.size w'.heap.size 2 w' v (upL 0 n) ∧ Below w.heap.size w w' := by
 have HM := qH (acc_made (α := Int) w 2)
 go_enter Tryz.func63, Tryz.ntmps63
 go_wp2_with fail
 go_loopw [3, 4] (fun o i wl => ∃ (k : Nat) (ao : Option Addr) (co : Nat), k ≤ n ∧ i = .int .i64 k ∧ o = .slice ao k co ∧ Hid (Below w.heap.size w wl) ∧ Hid (Acc w.heap.size wl.heap.size 2 wl (.slice ao k co) (upL 0 k))) (fun _ i _ => n - (intOf i).toNat)
 case atStart => exact ⟨0, _, _, Nat.zero_le _, rfl, rfl, belowA _ _, by simpa [upL, Hid] using HM.out⟩
 case round =>
  clear HM
  obtain ⟨k, ao, co, hk, rfl, rfl, hbl, hac⟩ := hrel
  have hb0 := hbl.out.size
  have HLN := qH (upL_len 0 k)
  have HSC := qH (show upL 0 k ++ [(k : Int)] = upL 0 (k + 1) by rw [upL_succ, Int.zero_add])
  by_cases hlt : k < n
  · have hkI : (k : Int) < n := by omega
    go_wp2_with (at_builtin; go_loud (refine wpList_append_ints _ rfl _ _ _ rfl E_ints rfl (Acc.mono hac.out (belowA _ (.cells #[.int .i64 k] 2))) (by omega) (by simp) ⟨wr.heap.size, 0, none⟩ 1 rfl (ns := [(k : Int)]) (news1 (cell_at_block (heap_alloc_new _ _))) (fun b hb => by simp at hb; subst hb; exact i64_of _ (by omega) (by omega)) (by rw [HLN.out]; simp; omega) ?_); simp only [HLN.out, HSC.out]; intro a9 c9 w9 hA9 hB9 hK9)
    have HA := qH hA9
    have HB := qH (hbl.out.trans ((belowA wr (.cells #[.int .i64 k] 2)).mono hbl.out.size) |>.trans hB9)
    clear hA9 hB9 hK9 hac hbl
    go_wp2_with fail
    go_roundw
    case rel => exact ⟨k + 1, a9, c9, hlt, by go_num, rfl, HB.out, HA.out⟩
    case measure => simp [intOf]; omega
  · obtain rfl : k = n := by omega
    have hnl : ¬ ((k : Int) < k) := by omega
    go_wp2_with fail
    go_ret
    exact ⟨_, rfl, hac.out, hbl.out⟩
theorem l05Full_c (sn V tb xb : Nat) (w : World) (tc : w.cell? ⟨tb, 0, none⟩ = some (.int .i64 sn)) (xc : w.cell? ⟨xb, 0, none⟩ = some (.int .i64 V)) (hs : sn ≤ 4) (hV : V ≤ 10) :
 Calls Tryz.prog 25 #[.pointer (some ⟨tb, 0, none⟩), .pointer (some ⟨xb, 0, none⟩)] w fun e w' => ∃ v, e = .returned v ∧ AccP (fun z => w.heap.size ≤ z) 28 w' v (fullD sn V) ∧ Below w.heap.size w w' := by
 have tc_ := qC (St.start w).bel tc
 clear tc_
 obtain ⟨tc_, xc_⟩ := cL2 (St.start w).bel tc xc
 have HS0 := qH (show St w w.heap.size (w.alloc (.cells #[] 28)) [] from (St.start w).step (belowA w (.cells #[] 28)))
 have HA0 := qH (show AccP (fun z => w.heap.size ≤ z ∧ z < (w.alloc (.cells #[] 28)).heap.size) 28 (w.alloc (.cells #[] 28)) (.slice (some ⟨w.heap.size, 0, none⟩) 0 0) (fullD sn 0) from (accP_made (α := List Int) w 28).wk (fun z hz => by subst hz; simp))
 go_enter Tryz.func25, Tryz.ntmps25
 go_wp2_with fail
 go_loopw [5, 6] (fun oo kv wl => ∃ (k c : Nat) (ao : Option Addr), k ≤ V ∧ kv = .int .i64 k ∧ oo = .slice ao k c ∧ Hid (St w w.heap.size wl []) ∧ Hid (AccP (fun z => w.heap.size ≤ z ∧ z < wl.heap.size) 28 wl (.slice ao k c) (fullD sn k))) (fun _ kv _ => V - (intOf kv).toNat)
 case atStart => exact ⟨0, 0, _, Nat.zero_le _, rfl, rfl, HS0.out, HA0.out⟩
 case round =>
  clear HS0 HA0
  obtain ⟨k, c, ao, hk, rfl, rfl, hst, hac⟩ := hrel
  have hs2 := hst.out
  have hlo := hs2.hi
  obtain ⟨tc_, xc_⟩ := cL2 hs2.bel tc xc
  by_cases hlt : k < V
  · have hkI : (k : Int) < V := by omega
    have HFS := qH (fullD_succ sn k)
    have HFN := qH (show (fullD sn k).length = k by simp [fullD])
    go_wp2_with fail
    refine (l03Count_c sn _ (by omega)).mono ?_
    rintro e wC ⟨v5, rfl, hA5, hb5⟩
    obtain ⟨a5, c5, rfl, _⟩ := hA5.len
    have HI6 := qH (((hA5.accP (Nat.le_refl _)).ip).mono (belowA wC (.cells #[.slice a5 (upL 0 sn).length c5] 28)))
    have HA6 := qH ((hac.out.mono hb5).mono (belowA wC (.cells #[.slice a5 (upL 0 sn).length c5] 28)))
    have HS6 := qH ((hs2.step hb5).step (belowA wC (.cells #[.slice a5 (upL 0 sn).length c5] 28)))
    have hz5 := hb5.size
    clear hA5 hb5
    go_wp2_with (at_builtin; refine wpList_append_accP _ rfl _ _ _ rfl E_lists rfl HA6.out HI6.out (fun z h1 h2 => by have h3 := h1.2; have h4 := h2.1; omega) ⟨wC.heap.size, 0, none⟩ 1 rfl (news1 (cell_at_block (heap_alloc_new _ _))) (by rw [HFN.out]; omega) ?_; simp only [HFN.out, HFS.out]; intro a9 c9 w9 hA9 hB9)
    have hz9 := hB9.size
    have HS9 := qH (HS6.out.butP hB9 (fun z hz => hz.1) (fun x hx hA => by cases hx))
    have HA9 := qH (hA9.tight.wk (C := fun z => w.heap.size ≤ z ∧ z < w9.heap.size) (fun z hz => ⟨by
     rcases hz.1 with h | h | h
     · exact h.1
     · have := h.1; omega
     · rw [h]; simp; omega, hz.2⟩))
    clear hA9 hB9 hz9
    go_wp2_with fail
    go_roundw
    case rel => exact ⟨k + 1, c9, a9, by omega, by go_num, rfl, HS9.out, HA9.out⟩
    case measure => simp [intOf]; omega
  · obtain rfl : k = V := by omega
    have hnl : ¬ ((k : Int) < k) := by omega
    have HAF := qH (hac.out.wk (C := fun z => w.heap.size ≤ z) (fun z hz => hz.1))
    have HBF := qH hs2.bel
    go_wp2_with fail
    go_ret
    exact ⟨_, rfl, HAF.out, HBF.out⟩
theorem l06Gone_c (ds : List (List Int)) (vd : Value) (w : World) (hd : Rd w [vd] ds) :
 Calls Tryz.prog 27 #[vd] w fun e w' => e = .returned (.bool (goneD ds)) ∧ Below w.heap.size w w' := by
 obtain ⟨ad, cd, rfl, hdr⟩ := rd_list hd
 have hb0 := (rdSl_len hdr).2
 unfold maxLen at hb0
 have HDR := qH hdr
 clear hd hdr
 go_enter Tryz.func27, Tryz.ntmps27
 go_wp2_with fail
 go_loopw [3] (fun iv wl => ∃ k : Nat, k ≤ ds.length ∧ iv = .int .i64 k ∧ Hid (Below w.heap.size w wl) ∧ Hid (∀ q (hq : q < ds.length), q < k → ds[q].length ≠ 0)) (fun iv _ => ds.length - (intOf iv).toNat)
 case atStart => exact ⟨0, Nat.zero_le _, rfl, Below.refl _ _, fun q hq h => absurd h (Nat.not_lt_zero _)⟩
 case round =>
  obtain ⟨k, hk, rfl, hbl, hr⟩ := hrel
  by_cases hlt : k < ds.length
  · have hkI : (k : Int) < ds.length := by omega
    obtain ⟨b4, o4, u4, rfl, qd, hdn⟩ := rdSl_one rfl HDR.out k hlt
    obtain ⟨a5, c5, rfl, _⟩ := rd_list hdn
    have qd2 := qC hbl.out qd
    have HYS := qH (fun (h : ds[k].length = 0) => show goneD ds = true from by
     unfold goneD
     rw [List.any_eq_true]
     exact ⟨ds[k], List.getElem_mem hlt, decide_eq_true h⟩)
    have HNX := qH (fun (h : ds[k].length ≠ 0) => show ∀ q (hq : q < ds.length), q < k + 1 → ds[q].length ≠ 0 from fun q hq hqk => by
     rcases Nat.lt_or_ge q k with h1 | h1
     · exact hr.out q hq h1
     · obtain rfl : q = k := by omega
       exact h)
    clear hdn qd
    generalize ds[k] = D at *
    by_cases h0 : D.length = 0
    · have hbb : ((D.length : Int) == 0) = true := by rw [h0]; rfl
      have H9 := qH (HYS.out h0)
      have HBF := qH hbl.out
      clear h0
      go_wp2_with fail
      go_ret
      exact ⟨ret_bool H9.out.symm, HBF.out⟩
    · have hbb : ((D.length : Int) == 0) = false := by rw [beq_eq_false_iff_ne]; omega
      have H9 := qH (HNX.out h0)
      have HBF := qH hbl.out
      clear h0
      go_wp2_with fail
      go_roundw
      case rel => exact ⟨k + 1, by omega, by go_num, HBF.out, H9.out⟩
      case measure => simp [intOf]; omega
  · obtain rfl : k = ds.length := by omega
    have hnl : ¬ ((ds.length : Int) < ds.length) := by omega
    have H9 := qH (show goneD ds = false from by
     unfold goneD
     rw [List.any_eq_false]
     intro d hd
     obtain ⟨q, hq, rfl⟩ := List.getElem_of_mem hd
     have := hr.out q hq hq
     simpa using this)
    have HBF := qH hbl.out
    go_wp2_with fail
    go_ret
    exact ⟨ret_bool H9.out.symm, HBF.out⟩
end Go.Proofs.YtpkdiiagnplpkaaGreat
namespace Go.Proofs.YtpkdiiagnplpkaaGreat
open Go.RowKit Go.Shelf Go.IntWalk
open Rep (Rd Own sz)
end Go.Proofs.YtpkdiiagnplpkaaGreat
