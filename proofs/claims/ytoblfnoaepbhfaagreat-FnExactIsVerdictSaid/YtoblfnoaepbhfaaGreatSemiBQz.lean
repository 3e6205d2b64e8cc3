import Derived.Test.YtoblfnoaepbhfaaGreatTmplBQz
import Derived.Test.YtoblfnoaepbhfaaGreatRowsBQz
import Derived.Test.YtoblfnoaepbhfaaGreatDomBQz
import Derived.Test.YtoblfnoaepbhfaaGreatRelOfQz
import Derived.Test.YtoblfnoaepbhfaaGreatFailBQz
import Derived.Test.YtoblfnoaepbhfaaGreatArcFBQz
import Derived.Test.YtoblfnoaepbhfaaGreatPairsQz
import Derived.Test.YtoblfnoaepbhfaaGreatRowBQz
import Derived.Test.YtoblfnoaepbhfaaGreatArcMBQz
set_option linter.unusedSimpArgs false
set_option linter.unusedVariables false
set_option maxHeartbeats 4000000
set_option maxRecDepth 100000
namespace Go.Proofs.YtoblfnoaepbhfaaGreat
open Go.Proofs.Tryz
open Go.RowKit Go.Shelf Go.IntWalk
open Rep (Rd Own sz)
def jW (size V : Nat) : List (List Int) := List.replicate V (KI 0 size)
theorem JG (size V : Nat) : jW size V ++ [KI 0 size] = jW size (V + 1) := List.replicate_succ'.symm
theorem KJ (sn V : Nat) (rs : List bH) (cs : List nI) (t1 x1 : Value) (w : World) (ht : Rd w [t1] rs) (hx : Rd w [x1] cs) (hs : sn ≤ 4) (hV : V ≤ 10) :
 Calls prog 58 #[.agg #[.int .i64 sn, t1], .agg #[.int .i64 V, x1]] w fun e w' => ∃ v, e = .returned v ∧ bM (fun z => w.heap.size ≤ z) 28 w' v (jW sn V) ∧ Below w.heap.size w w' := by
 obtain ⟨at0, ct0, rfl, _⟩ := ah ht
 obtain ⟨ax, cx, rfl, _⟩ := ah hx
 clear ht hx
 have kT := (St.start w).alloc #[.int .i64 sn, .slice at0 rs.length ct0] 42 (n := w.heap.size) (by simp)
 have fV := kT.alloc #[.int .i64 V, .slice ax cs.length cx] 46 (n := w.heap.size + 1) (by simp)
 obtain ⟨aF, aH, aJ, aK⟩ := fV.c4 0 0 0 1 1 0 1 1
 have Tf := qH (show St w (w.heap.size + 1 + 1) (((w.alloc (.cells #[.int .i64 sn, .slice at0 rs.length ct0] 42)).alloc (.cells #[.int .i64 V, .slice ax cs.length cx] 46)).alloc (.cells #[] 28)) [(w.heap.size, #[.int .i64 sn, .slice at0 rs.length ct0], 42), (w.heap.size + 1, #[.int .i64 V, .slice ax cs.length cx], 46)] from fV.step (aB ((w.alloc (.cells #[.int .i64 sn, .slice at0 rs.length ct0] 42)).alloc (.cells #[.int .i64 V, .slice ax cs.length cx] 46)) (.cells #[] 28)))
 have HA0 := qH (show bM (fun z => w.heap.size + 1 + 1 ≤ z ∧ z < (((w.alloc (.cells #[.int .i64 sn, .slice at0 rs.length ct0] 42)).alloc (.cells #[.int .i64 V, .slice ax cs.length cx] 46)).alloc (.cells #[] 28)).heap.size) 28 (((w.alloc (.cells #[.int .i64 sn, .slice at0 rs.length ct0] 42)).alloc (.cells #[.int .i64 V, .slice ax cs.length cx] 46)).alloc (.cells #[] 28)) (.slice (some ⟨w.heap.size + 1 + 1, 0, none⟩) 0 0) (jW sn 0) from by
  have h := qM (α := List Int) ((w.alloc (.cells #[.int .i64 sn, .slice at0 rs.length ct0] 42)).alloc (.cells #[.int .i64 V, .slice ax cs.length cx] 46)) 28
  have e9 : (((w.alloc (.cells #[.int .i64 sn, .slice at0 rs.length ct0] 42)).alloc (.cells #[.int .i64 V, .slice ax cs.length cx] 46))).heap.size = w.heap.size + 1 + 1 := by simp
  rw [e9] at h
  exact h.wk (fun z hz => by subst hz; simp))
 go_enter func58, ntmps58
 go_wp2_with fail
 go_loopw [5, 9] (fun oo kv wl => ∃ (k c : Nat) (ao : Option Addr), k ≤ V ∧ kv = .int .i64 k ∧ oo = .slice ao k c ∧ Hid (St w (w.heap.size + 1 + 1) wl [(w.heap.size, #[.int .i64 sn, .slice at0 rs.length ct0], 42), (w.heap.size + 1, #[.int .i64 V, .slice ax cs.length cx], 46)]) ∧ Hid (bM (fun z => w.heap.size + 1 + 1 ≤ z ∧ z < wl.heap.size) 28 wl (.slice ao k c) (jW sn k))) (fun _ kv _ => V - (intOf kv).toNat)
 case atStart => exact ⟨0, 0, _, Nat.zero_le _, rfl, rfl, Tf.out, HA0.out⟩
 clear Tf HA0
 obtain ⟨k, c, ao, hk, rfl, rfl, hst, hac⟩ := hrel
 have hs2 := hst.out
 have hlo := hs2.hi
 obtain ⟨aF, aH, aJ, aK⟩ := hs2.c4 0 0 0 1 1 0 1 1
 by_cases hlt : k < V
 rotate_left
 · obtain rfl : k = V := by omega
   have hnl : ¬ ((k : Int) < k) := by omega
   have Oy := qH (hac.out.wk (C := fun z => w.heap.size ≤ z) (fun z hz => by have := hz.1; omega))
   have lu := qH hs2.bel
   go_wp2_with fail
   go_ret
   exact ⟨_, rfl, Oy.out, lu.out⟩
 have QH : (k : Int) < V := by omega
 have HFS := qH (JG sn k)
 have HFN := qH (show (jW sn k).length = k by simp [jW])
 go_wp2_with fail
 refine (aja 0 sn _ (by omega) (by omega) (by omega)).mono ?_
 rintro e w5 ⟨v5, rfl, PO, hb5⟩
 obtain ⟨a5, c5, rfl, _⟩ := PO.len
 have HI6 := qH (((PO.alg (Nat.le_refl _)).ip).mono (aB w5 (.cells #[.slice a5 (KI 0 sn).length c5] 28)))
 have HA6 := qH ((hac.out.mono hb5).mono (aB w5 (.cells #[.slice a5 (KI 0 sn).length c5] 28)))
 have HS6 := qH ((hs2.step hb5).step (aB w5 (.cells #[.slice a5 (KI 0 sn).length c5] 28)))
 have hz5 := hb5.size
 clear PO hb5
 go_wp2_with (at_builtin; refine bW _ rfl _ _ _ rfl oq rfl HA6.out HI6.out (fun z h1 h2 => by have h3 := h1.2; have h4 := h2.1; omega) ⟨w5.heap.size, 0, none⟩ 1 rfl (qB (aA (heap_alloc_new _ _))) (by rw [HFN.out]; omega) ?_; simp only [HFN.out, HFS.out]; intro a9 c9 w9 jG vg)
 have Y3 := vg.size
 have xw := qH (HS6.out.lU vg (fun z hz => by have := hz.1; omega) (fun x hx hA => by have h1 := hA.1; simp at hx; rcases hx with rfl | rfl <;> (simp only at h1; omega)))
 have Et := qH (jG.tight.wk (C := fun z => w.heap.size + 1 + 1 ≤ z ∧ z < w9.heap.size) (fun z hz => ⟨by
  rcases hz.1 with h | h | h
  · exact h.1
  · have := h.1; omega
  · rw [h]; simp; omega, hz.2⟩))
 clear jG vg Y3
 go_wp2_with fail
 go_roundw
 case rel => exact ⟨k + 1, c9, a9, by omega, by go_num, rfl, xw.out, Et.out⟩
 simp [intOf]; omega
theorem Vw (w : World) (l : List (List Int)) : IX 175 #[] w l (fun d => decide (d.length = 0)) := by
 intro W y u0 hbel hy hmem
 obtain ⟨ay, cy, rfl, _⟩ := ah hy
 show Calls prog 175 #[_] W _
 clear hy hbel hmem
 by_cases h : y.length = 0
 · have hb : ((y.length : Int) == 0) = true := by rw [h]; rfl
   have H9 := qH (show decide (y.length = 0) = true from decide_eq_true h)
   clear h
   go_enter func175, ntmps175
   go_wp2_with fail
   go_ret
   exact ⟨ak H9.out.symm, Below.refl _ _⟩
 have hb : ((y.length : Int) == 0) = false := by rw [beq_eq_false_iff_ne]; omega
 have H9 := qH (show decide (y.length = 0) = false from decide_eq_false h)
 clear h
 go_enter func175, ntmps175
 go_wp2_with fail
 go_ret
 exact ⟨ak H9.out.symm, Below.refl _ _⟩
def y5 (ds : List (List Int)) : Bool := ds.any (fun d => decide (d.length = 0))
structure akU (t : dB) (x : Inst) (sn V : Nat) : Prop where
 f : Rz t x (jW sn V)
 len : (jW sn V).length = V
 i64 : ∀ e, e ∈ (agj t x (jW sn V)).2 → I64 e.1 ∧ I64 e.2.1 ∧ I64 e.2.2
 inn : InA (fun a => 0 ≤ a ∧ a ≤ t.1 - 1) V x.2.length (agj t x (jW sn V))
theorem Vx (n : Nat) (w : World) (hn : n ≤ 1000000) :
 Calls prog 110 #[.int .i64 n] w fun e w' => ∃ v, e = .returned v ∧ Acc w.heap.size w'.heap.size 2 w' v (KI 0 n) ∧ Below w.heap.size w w' := by
 have HM := qH (mJ (α := Int) w 2)
 go_enter func110, ntmps110
 go_wp2_with fail
 go_loopw [3, 4] (fun o i wl => ∃ (k : Nat) (ao : Option Addr) (co : Nat), k ≤ n ∧ i = .int .i64 k ∧ o = .slice ao k co ∧ Hid (Below w.heap.size w wl) ∧ Hid (Acc w.heap.size wl.heap.size 2 wl (.slice ao k co) (KI 0 k))) (fun _ i _ => n - (intOf i).toNat)
 case atStart => exact ⟨0, _, _, Nat.zero_le _, rfl, rfl, aB _ _, by simpa [KI, Hid] using HM.out⟩
 clear HM
 obtain ⟨k, ao, co, hk, rfl, rfl, hbl, hac⟩ := hrel
 have hb0 := hbl.out.size
 have HLN := qH (Po 0 k)
 have qU := qH (show KI 0 k ++ [(k : Int)] = KI 0 (k + 1) by rw [RJ, Int.zero_add])
 by_cases hlt : k < n
 · have QH : (k : Int) < n := by omega
   go_wp2_with (at_builtin; go_loud (refine dS _ rfl _ _ _ rfl eH rfl (Acc.mono hac.out (aB _ (.cells #[.int .i64 k] 2))) (by omega) (by simp) ⟨wr.heap.size, 0, none⟩ 1 rfl (ns := [(k : Int)]) (qB (aA (heap_alloc_new _ _))) (fun b hb => by simp at hb; subst hb; exact jf _ (by omega) (by omega)) (by rw [HLN.out]; simp; omega) ?_); simp only [HLN.out, qU.out]; intro a9 c9 w9 jG vg hK9)
   have HA := qH jG
   have HB := qH (hbl.out.trans ((aB wr (.cells #[.int .i64 k] 2)).mono hbl.out.size) |>.trans vg)
   clear jG vg hK9 hac hbl
   go_wp2_with fail
   go_roundw
   case rel => exact ⟨k + 1, a9, c9, hlt, by go_num, rfl, HB.out, HA.out⟩
   simp [intOf]; omega
 obtain rfl : k = n := by omega
 have hnl : ¬ ((k : Int) < k) := by omega
 go_wp2_with fail
 go_ret
 exact ⟨_, rfl, hac.out, hbl.out⟩
theorem YL (sn V tb xb : Nat) (w : World) (tc : w.cell? ⟨tb, 0, none⟩ = some (.int .i64 sn)) (xc : w.cell? ⟨xb, 0, none⟩ = some (.int .i64 V)) (hs : sn ≤ 4) (hV : V ≤ 10) :
 Calls prog 47 #[.pointer (some ⟨tb, 0, none⟩), .pointer (some ⟨xb, 0, none⟩)] w fun e w' => ∃ v, e = .returned v ∧ bM (fun z => w.heap.size ≤ z) 28 w' v (jW sn V) ∧ Below w.heap.size w w' := by
 have qg := qC (St.start w).bel tc
 clear qg
 obtain ⟨qg, xc_⟩ := iQ (St.start w).bel tc xc
 have Tf := qH (show St w w.heap.size (w.alloc (.cells #[] 28)) [] from (St.start w).step (aB w (.cells #[] 28)))
 have HA0 := qH (show bM (fun z => w.heap.size ≤ z ∧ z < (w.alloc (.cells #[] 28)).heap.size) 28 (w.alloc (.cells #[] 28)) (.slice (some ⟨w.heap.size, 0, none⟩) 0 0) (jW sn 0) from (qM (α := List Int) w 28).wk (fun z hz => by subst hz; simp))
 go_enter func47, ntmps47
 go_wp2_with fail
 go_loopw [5, 6] (fun oo kv wl => ∃ (k c : Nat) (ao : Option Addr), k ≤ V ∧ kv = .int .i64 k ∧ oo = .slice ao k c ∧ Hid (St w w.heap.size wl []) ∧ Hid (bM (fun z => w.heap.size ≤ z ∧ z < wl.heap.size) 28 wl (.slice ao k c) (jW sn k))) (fun _ kv _ => V - (intOf kv).toNat)
 case atStart => exact ⟨0, 0, _, Nat.zero_le _, rfl, rfl, Tf.out, HA0.out⟩
 clear Tf HA0
 obtain ⟨k, c, ao, hk, rfl, rfl, hst, hac⟩ := hrel
 have hs2 := hst.out
 have hlo := hs2.hi
 obtain ⟨qg, xc_⟩ := iQ hs2.bel tc xc
 by_cases hlt : k < V
 rotate_left
 · obtain rfl : k = V := by omega
   have hnl : ¬ ((k : Int) < k) := by omega
   have Oy := qH (hac.out.wk (C := fun z => w.heap.size ≤ z) (fun z hz => hz.1))
   have lu := qH hs2.bel
   go_wp2_with fail
   go_ret
   exact ⟨_, rfl, Oy.out, lu.out⟩
 have QH : (k : Int) < V := by omega
 have HFS := qH (JG sn k)
 have HFN := qH (show (jW sn k).length = k by simp [jW])
 go_wp2_with fail
 refine (Vx sn _ (by omega)).mono ?_
 rintro e wC ⟨v5, rfl, PO, hb5⟩
 obtain ⟨a5, c5, rfl, _⟩ := PO.len
 have HI6 := qH (((PO.alg (Nat.le_refl _)).ip).mono (aB wC (.cells #[.slice a5 (KI 0 sn).length c5] 28)))
 have HA6 := qH ((hac.out.mono hb5).mono (aB wC (.cells #[.slice a5 (KI 0 sn).length c5] 28)))
 have HS6 := qH ((hs2.step hb5).step (aB wC (.cells #[.slice a5 (KI 0 sn).length c5] 28)))
 have hz5 := hb5.size
 clear PO hb5
 go_wp2_with (at_builtin; refine bW _ rfl _ _ _ rfl oq rfl HA6.out HI6.out (fun z h1 h2 => by have h3 := h1.2; have h4 := h2.1; omega) ⟨wC.heap.size, 0, none⟩ 1 rfl (qB (aA (heap_alloc_new _ _))) (by rw [HFN.out]; omega) ?_; simp only [HFN.out, HFS.out]; intro a9 c9 w9 jG vg)
 have Y3 := vg.size
 have xw := qH (HS6.out.lU vg (fun z hz => hz.1) (fun x hx hA => by cases hx))
 have Et := qH (jG.tight.wk (C := fun z => w.heap.size ≤ z ∧ z < w9.heap.size) (fun z hz => ⟨by
  rcases hz.1 with h | h | h
  · exact h.1
  · have := h.1; omega
  · rw [h]; simp; omega, hz.2⟩))
 clear jG vg Y3
 go_wp2_with fail
 go_roundw
 case rel => exact ⟨k + 1, c9, a9, by omega, by go_num, rfl, xw.out, Et.out⟩
 simp [intOf]; omega
theorem YM (ds : List (List Int)) (vd : Value) (w : World) (hd : Rd w [vd] ds) :
 Calls prog 49 #[vd] w fun e w' => e = .returned (.bool (y5 ds)) ∧ Below w.heap.size w w' := by
 obtain ⟨ad, cd, rfl, hdr⟩ := ah hd
 have hb0 := (aN hdr).2
 unfold maxLen at hb0
 have HDR := qH hdr
 clear hd hdr
 go_enter func49, ntmps49
 go_wp2_with fail
 go_loopw [3] (fun iv wl => ∃ k : Nat, k ≤ ds.length ∧ iv = .int .i64 k ∧ Hid (Below w.heap.size w wl) ∧ Hid (∀ q (hq : q < ds.length), q < k → ds[q].length ≠ 0)) (fun iv _ => ds.length - (intOf iv).toNat)
 case atStart => exact ⟨0, Nat.zero_le _, rfl, Below.refl _ _, fun q hq h => absurd h (Nat.not_lt_zero _)⟩
 obtain ⟨k, hk, rfl, hbl, hr⟩ := hrel
 by_cases hlt : k < ds.length
 rotate_left
 · obtain rfl : k = ds.length := by omega
   have hnl : ¬ ((ds.length : Int) < ds.length) := by omega
   have H9 := qH (show y5 ds = false from by
    unfold y5
    rw [List.any_eq_false]
    intro d hd
    obtain ⟨q, hq, rfl⟩ := List.getElem_of_mem hd
    have := hr.out q hq hq
    simpa using this)
   have lu := qH hbl.out
   go_wp2_with fail
   go_ret
   exact ⟨ak H9.out.symm, lu.out⟩
 have QH : (k : Int) < ds.length := by omega
 obtain ⟨b4, o4, u4, rfl, qd, hdn⟩ := bF rfl HDR.out k hlt
 obtain ⟨a5, c5, rfl, _⟩ := ah hdn
 have qd2 := qC hbl.out qd
 have HYS := qH (fun (h : ds[k].length = 0) => show y5 ds = true from by
  unfold y5
  rw [List.any_eq_true]
  exact ⟨ds[k], List.getElem_mem hlt, decide_eq_true h⟩)
 have pW := qH (fun (h : ds[k].length ≠ 0) => show ∀ q (hq : q < ds.length), q < k + 1 → ds[q].length ≠ 0 from fun q hq hqk => by
  rcases Nat.lt_or_ge q k with h1 | h1
  · exact hr.out q hq h1
  · obtain rfl : q = k := by omega
    exact h)
 clear hdn qd
 generalize ds[k] = D at *
 by_cases h0 : D.length = 0
 · have hbb : ((D.length : Int) == 0) = true := by rw [h0]; rfl
   have H9 := qH (HYS.out h0)
   have lu := qH hbl.out
   clear h0
   go_wp2_with fail
   go_ret
   exact ⟨ak H9.out.symm, lu.out⟩
 have hbb : ((D.length : Int) == 0) = false := by rw [beq_eq_false_iff_ne]; omega
 have H9 := qH (pW.out h0)
 have lu := qH hbl.out
 clear h0
 go_wp2_with fail
 go_roundw
 case rel => exact ⟨k + 1, by omega, by go_num, lu.out, H9.out⟩
 simp [intOf]; omega
end Go.Proofs.YtoblfnoaepbhfaaGreat
