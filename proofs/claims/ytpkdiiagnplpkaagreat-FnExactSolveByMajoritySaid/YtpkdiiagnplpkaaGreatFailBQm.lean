import Derived.Test.YtpkdiiagnplpkaaGreatTmplBQm
import Derived.Test.YtpkdiiagnplpkaaGreatArcMBQm
import Derived.Test.YtpkdiiagnplpkaaGreatKeepBQm
import Derived.Test.YtpkdiiagnplpkaaGreatRowBQm
import Derived.Laws.CopyOwn
set_option linter.unusedSimpArgs false
set_option linter.unusedVariables false
set_option maxHeartbeats 4000000
set_option maxRecDepth 100000
namespace Go.Proofs.YtpkdiiagnplpkaaGreat
open Go.RowKit Go.Shelf Go.IntWalk
open Rep (Rd Own sz)
theorem has1_c (l m : List Int) (v0 v1 : Value) (w : World) (r0 : Rd w [v0] l) (r1 : Rd w [v1] m) :
 Calls Tryz.prog 180 #[v0, v1] w fun e w' => e = .returned (.int .i64 (cmpL l m)) ∧ w = w' := by
 obtain ⟨a, c, rfl, h0⟩ := rd_list r0
 obtain ⟨a', c', rfl, h1⟩ := rd_list r1
 have HR := qH r0
 have HM := qH r1
 clear r0 r1 h0 h1
 go_enter Tryz.func180, Tryz.ntmps180
 go_wp2_with fail
 refine (compare_c l m _ _ _ HR.out HM.out).mono ?_
 rintro e w1 ⟨rfl, rfl⟩
 go_wp2_with fail
 go_ret
 exact ⟨rfl, rfl⟩
theorem bsearch_c (x : List (List Int)) (t : List Int) (v0 v1 : Value) (w : World) (r0 : Rd w [v0] x) (r1 : Rd w [v1] t) (hi : Inc x) (hl : x.length ≤ 1000000) :
 Calls Tryz.prog 179 #[v0, v1, .func (.func 180) #[] #[]] w fun e w' => ∃ k : Int, e = .returned (.tuple #[.int .i64 k, .bool (hasT x t)]) ∧ w = w' := by
 obtain ⟨a, c, rfl, h0⟩ := rd_list r0
 obtain ⟨a', c', rfl, h1⟩ := rd_list r1
 have HR := qH h0
 have HM := qH r1
 have HI := qH hi
 clear r0 r1 h0 h1 hi
 have eg : ∀ args w, (callFunc 180 args).run Tryz.prog w = .ok (.enter 180 args) w := enters_of Tryz.func180 (by kernel_rfl) rfl
 go_enter Tryz.func179, Tryz.ntmps179
 go_wp2_with fail
 go_loop [9, 10] (fun i j => ∃ (p q : Nat), p ≤ q ∧ q ≤ x.length ∧ i = .int .i64 p ∧ j = .int .i64 q ∧ Hid (∀ k, k < p → cmpL (x.getD k []) t < 0) ∧ Hid (∀ k, q ≤ k → k < x.length → 0 ≤ cmpL (x.getD k []) t)) (fun i j => (intOf j).toNat - (intOf i).toNat)
 case atStart => exact ⟨0, x.length, Nat.zero_le _, Nat.le_refl _, rfl, rfl, fun k hk => absurd hk (Nat.not_lt_zero _), fun k h1 h2 => absurd h2 (by omega)⟩
 case round =>
  obtain ⟨p, q, hpq, hq, rfl, rfl, hlo, hhi⟩ := hrel
  by_cases hlt : p < q
  · have hh : (p + q) / 2 < q := by omega
    have hh2 : p ≤ (p + q) / 2 := by omega
    generalize hmid : (p + q) / 2 = h at *
    have hhl : h < x.length := by omega
    obtain ⟨b, o, u0, rfl, q0, hx⟩ := rdSl_one rfl HR.out h hhl
    have HX := qH hx
    obtain ⟨a0, c0, rfl, _⟩ := rd_list hx
    clear hx
    go_wp2_with fail
    refine (has1_c x[h] t _ _ _ HX.out HM.out).mono ?_
    rintro e w1 ⟨rfl, rfl⟩
    have eh : x.getD h [] = x[h] := by simp [List.getD, hhl]
    by_cases hc : cmpL x[h] t < 0
    · have HLO := qH (search_lo HI.out hhl (by rw [eh]; exact hc))
      clear eh
      generalize cmpL x[h] t = C at *
      go_wp2_with fail
      go_round
      case rel => exact ⟨h + 1, q, by omega, hq, by congr 1; omega, rfl, HLO.out, hhi.out⟩
      case measure => simp [intOf]; omega
    · have HHI := qH (search_hi HI.out (by rw [eh]; exact hc))
      have hc0 : 0 ≤ cmpL x[h] t := by omega
      clear eh
      generalize cmpL x[h] t = C at *
      go_wp2_with fail
      go_round
      case rel => exact ⟨p, h, hh2, by omega, rfl, by congr 1; omega, hlo.out, HHI.out⟩
      case measure => simp [intOf]; omega
  · obtain rfl : p = q := by omega
    have HS := qH (search_end HI.out hq hlo.out hhi.out)
    by_cases hp : p < x.length
    · obtain ⟨b, o, u0, rfl, q0, hx⟩ := rdSl_one rfl HR.out p hp
      have HX := qH hx
      obtain ⟨a0, c0, rfl, _⟩ := rd_list hx
      clear hx
      go_wp2_with fail
      refine (has1_c x[p] t _ _ _ HX.out HM.out).mono ?_
      rintro e w1 ⟨rfl, rfl⟩
      have HS2 := qH (show hasT x t = (cmpL x[p] t == 0) by
       rw [HS.out, decide_eq_true hp, show x.getD p [] = x[p] by simp [List.getD, hp], Bool.true_and]
       by_cases h : cmpL x[p] t = 0 <;> simp [h])
      generalize cmpL x[p] t = C at *
      go_wp2_with fail
      refine bodyPost_ret (v := .tuple #[.int .i64 p, .bool (C == 0)]) (by simp [results, Tryz.results179, go_sem]) rfl (by first | exact ⟨_, by rw [HS2.out], rfl⟩ | exact ⟨⟨_, by rw [HS2.out]⟩, rfl⟩)
    · obtain rfl : p = x.length := by omega
      have HS2 := qH (show hasT x t = false by rw [HS.out, decide_eq_false hp]; rfl)
      go_wp2_with fail
      refine bodyPost_ret (v := .tuple #[.int .i64 x.length, .bool false]) (by simp [results, Tryz.results179, go_sem]) rfl (by first | exact ⟨_, by rw [HS2.out], rfl⟩ | exact ⟨⟨_, by rw [HS2.out]⟩, rfl⟩)
theorem has_c (r : RelT) (t : List Int) (v0 v1 va : Value) (w : World) (hr : Rd w [v0, v1] r) (ht : Rd w [va] t) (hi : Inc r.2) (hl : r.2.length ≤ 1000000) :
 Calls Tryz.prog 148 #[.agg #[v0, v1], va] w fun e w' => e = .returned (.bool (hasT r.2 t)) ∧ Below w.heap.size w w' := by
 obtain ⟨ar, l⟩ := r
 have z := rd_cons rfl hr
 obtain ⟨rfl, _⟩ := rd_i1 z.1
 have HL := qH z.2
 obtain ⟨a, c, rfl, _⟩ := rd_list z.2
 have HT := qH ht
 obtain ⟨a2, c2, rfl, _⟩ := rd_list ht
 have HI := qH hi
 simp only at hl
 clear hr z ht hi
 have hs1 := (St.start w).alloc #[.int .i64 ar, .slice a l.length c] 87 (n := w.heap.size) (by simp)
 obtain ⟨k0_0, k0_1⟩ := hs1.c2 0 0 0 1
 go_enter Tryz.func148, Tryz.ntmps148
 go_wp2_with fail
 refine (bsearch_c l t _ _ _ (Rd.mono HL.out hs1.bel) (Rd.mono HT.out hs1.bel) HI.out hl).mono ?_
 rintro e w1 ⟨k, rfl, rfl⟩
 generalize hH : hasT l t = H at *
 have HH := qH hH
 clear hH
 go_wp2_with fail
 go_ret
 exact ⟨ret_bool HH.out.symm, hs1.bel⟩
theorem l01Has_c (r : RelT) (t : List Int) (pb po : Nat) (v1 va : Value) (w : World) (hr : Rd w [v1] r.2) (hc : w.cell? ⟨pb, po + 1, none⟩ = some v1) (ht : Rd w [va] t) :
 Calls Tryz.prog 158 #[.pointer (some ⟨pb, po, none⟩), va] w fun e w' => e = .returned (.bool (hasT r.2 t)) ∧ Below w.heap.size w w' := by
 obtain ⟨ar, l⟩ := r
 simp only at hr ⊢
 obtain ⟨a, c, rfl, h0⟩ := rd_list hr
 have hb0 := (rdSl_len h0).2
 unfold maxLen at hb0
 have HR := qH h0
 have HT := qH ht
 obtain ⟨a2, c2, rfl, _⟩ := rd_list ht
 clear hr h0 ht
 have hc_ := qC (St.start w).bel hc
 go_enter Tryz.func158, Tryz.ntmps158
 go_wp2_with fail
 go_loopw [5] (fun i wl => ∃ k : Nat, k ≤ l.length ∧ i = .int .i64 k ∧ Hid (Below w.heap.size w wl) ∧ Hid (∀ j (hj : j < l.length), j < k → l[j] ≠ t)) (fun i _ => l.length - (intOf i).toNat)
 case atStart => exact ⟨0, Nat.zero_le _, rfl, Below.refl _ _, fun j _ hj => absurd hj (Nat.not_lt_zero _)⟩
 case round =>
  obtain ⟨k, hk, rfl, hbl, hn⟩ := hrel
  have hsr := (St.start w).step hbl.out
  have hc_ := qC hsr.bel hc
  clear hbl
  by_cases hlt : k < l.length
  · obtain ⟨b, o, u0, rfl, q0, hx⟩ := rdSl_one rfl HR.out k hlt
    have HX := qH hx
    obtain ⟨a0, c0, rfl, _⟩ := rd_list hx
    clear hx
    clear hc_
    obtain ⟨hc_, q0_⟩ := cL2 hsr.bel hc q0
    clear hc_ q0_
    obtain ⟨hc_, q0_⟩ := cL2 hsr.bel hc q0
    go_wp2_with fail
    refine (l00Same_c l[k] t _ _ _ (Rd.mono HX.out hsr.bel) (Rd.mono HT.out hsr.bel)).mono ?_
    rintro e w1 ⟨rfl, n1, rfl⟩
    by_cases he : l[k] = t
    · rw [decide_eq_true he]
      have HQ := qH (show hasT l t = true by unfold hasT; rw [List.contains_iff_mem, ← he]; exact List.getElem_mem hlt)
      clear he
      go_wp2_with fail
      go_ret
      exact ⟨ret_bool HQ.out.symm, hsr.bel.trans ((drewN_below _ _).mono hsr.bel.size)⟩
    · rw [decide_eq_false he]
      have HQ := qH he
      clear he
      go_wp2_with fail
      go_roundw
      case rel =>
       refine ⟨k + 1, by omega, by go_num, hsr.bel.trans ((drewN_below _ _).mono hsr.bel.size), fun j hj hjk => ?_⟩
       rcases Nat.lt_or_ge j k with h | h
       · exact hn.out j hj h
       · obtain rfl : j = k := by omega
         exact HQ.out
      case measure => simp [intOf]; omega
  · obtain rfl : k = l.length := by omega
    have HQ := qH (show hasT l t = false by
     unfold hasT
     rw [← Bool.not_eq_true, List.contains_iff_mem]
     intro hm
     obtain ⟨j, hj, e⟩ := List.getElem_of_mem hm
     exact hn.out j hj hj e)
    go_wp2_with fail
    go_ret
    exact ⟨ret_bool HQ.out.symm, hsr.bel⟩
end Go.Proofs.YtpkdiiagnplpkaaGreat
namespace Go.Proofs.YtpkdiiagnplpkaaGreat
open Go.RowKit Go.Shelf Go.IntWalk
open Rep (Rd Own sz)
structure ConF (t : Tmpl) (vars : Int) (c : OpT) (n : Nat) : Prop where
 rel : c.1 = (n : Int)
 lt : n < t.2.length
 inc : Inc (t.2.getD n (0, [])).2
 cnt : (t.2.getD n (0, [])).2.length ≤ 256
 sc : ∀ v, v ∈ c.2 → 0 ≤ v ∧ v < vars
 four : c.2.length ≤ 4
end Go.Proofs.YtpkdiiagnplpkaaGreat
namespace Go.Proofs.YtpkdiiagnplpkaaGreat
open Go.RowKit Go.Shelf Go.IntWalk
open Rep (Rd Own sz)
structure RepR (g n k : Nat) (a : Int) (w : World) : Prop where
 get : ∃ (cur : Array Value) (e : TypeId), w.heap[g]? = some (.cells cur e (0, 0)) ∧ n ≤ cur.size ∧ ∀ i, i < k → cur[i]? = some (.int .i64 a)
theorem RepR.mono {g n k : Nat} {a : Int} {w w' : World} (h : RepR g n k a w) (hb : Below w.heap.size w w') : RepR g n k a w' := by
 obtain ⟨cur, e, h1, h2⟩ := h.get
 exact ⟨cur, e, by rw [hb.block g (Array.getElem?_eq_some_iff.1 h1).1]; exact h1, h2⟩
theorem RepR.fresh {g n c : Nat} {a : Int} {w : World} (h : RepR g n n a w) (hI : I64 a) (hn : n ≤ c) (hc : c ≤ maxLen) {lo : Nat} (hg : lo ≤ g) : Fresh lo w [.slice (some ⟨g, 0, none⟩) n c] (List.replicate n a) := by
 obtain ⟨cur, e, h1, h2, h3⟩ := h.get
 refine ⟨[g], ⟨_, rfl, .inr ⟨g, 0, c, cur, e, List.replicate n [], by simp, by simpa using hn, hc, h1, by simp, by simp, fun i hi => ?_⟩⟩, by simp, fun k hk => by simp at hk; omega⟩
 have hin : i < n := by simpa using hi
 refine ⟨[], [.int .i64 a], by simp [hin], ⟨rfl, by simp, by simpa using hI⟩, fun k hk => ?_⟩
 obtain rfl : k = 0 := by simp at hk; omega
 simpa [sz] using h3 i hin
end Go.Proofs.YtpkdiiagnplpkaaGreat
namespace Go.Proofs.YtpkdiiagnplpkaaGreat
open Go.RowKit Go.Shelf Go.IntWalk
open Rep (Rd Own sz)
def vd0 : Vdct := (0, [], [], [], [])
theorem fresh_vd {lo : Nat} {w : World} {k : Int} {v : Value} {l : List Int} (hI : I64 k) (h : Fresh lo w [v] l) : Fresh lo w [.int .i64 k, v, .slice none 0 0, .slice none 0 0, .slice none 0 0] ((k, l, [], [], []) : Vdct) := by
 obtain ⟨ps, h1, h2, h3⟩ := h
 have e : ∀ {α : Type} [Rep α], Own [] w [.slice none 0 0] ([] : List α) := ⟨_, rfl, .inl ⟨rfl, rfl, none, 0, rfl, Nat.zero_le _⟩⟩
 exact ⟨[] ++ (ps ++ ([] ++ ([] ++ []))), mk_own ⟨rfl, rfl, hI⟩ (mk_own h1 (mk_own e (mk_own e e))), by simpa using h2, fun k hk => h3 k (by simpa using hk)⟩
def brokenF (t : Tmpl) (f : OpT) : Int := firstI (fun r => !keepsP t.1 f r) t.2
theorem firstBroken1_by (size : Int) (f : OpT) (tb fb : Nat) (f0 f1 : Value) (rs : List RelT) (w : World) (hok : opOk size f = true) (hrs : ∀ r, r ∈ rs → relOk size r = true) (hf : Rd w [f0, f1] f) (hc0 : w.cell? ⟨tb, 0, none⟩ = some (.int .i64 size)) (d0 : w.cell? ⟨fb, 0, none⟩ = some f0) (d1 : w.cell? ⟨fb, 1, none⟩ = some f1) :
 PredRl 175 #[.pointer (some ⟨tb, 0, none⟩), .pointer (some ⟨fb, 0, none⟩)] w rs (fun r => !keepsP size f r) := by
 intro W r u0 u1 hb hr hmem
 obtain ⟨g0, e0, e1⟩ := cL3 hb hc0 d0 d1
 have HF := qH (Rd.mono hf hb)
 have HR := qH hr
 have HRK := qH (hrs r hmem)
 have HOK := qH hok
 obtain ⟨fa, ft⟩ := f
 obtain ⟨ra, rt⟩ := r
 have zf := rd_cons rfl hf
 obtain ⟨rfl, _⟩ := rd_i1 zf.1
 obtain ⟨af, cf, rfl, _⟩ := rd_list zf.2
 have zr := rd_cons rfl hr
 obtain ⟨rfl, _⟩ := rd_i1 zr.1
 obtain ⟨ar, cr, rfl, _⟩ := rd_list zr.2
 clear hf hr zf zr hc0 d0 d1 hb hmem hrs hok
 show Calls Tryz.prog 175 #[_, .pointer (some ⟨tb, 0, none⟩), .pointer (some ⟨fb, 0, none⟩)] W _
 have g0_ := qC (St.start W).bel g0
 clear g0_
 obtain ⟨g0_, e0_⟩ := cL2 (St.start W).bel g0 e0
 clear g0_ e0_
 obtain ⟨g0_, e0_, e1_⟩ := cL3 (St.start W).bel g0 e0 e1
 have hs5 := (St.start W).alloc #[.int .i64 ra, .slice ar rt.length cr] 87 (n := W.heap.size) (by simp)
 clear g0_ e0_ e1_
 obtain ⟨k0_0, k0_1⟩ := hs5.c2 0 0 0 1
 obtain ⟨g0_, e0_, e1_⟩ := cL3 hs5.bel g0 e0 e1
 go_enter Tryz.func175, Tryz.ntmps175
 go_wp2_with fail
 refine (keeps_c size (fa, ft) (ra, rt) _ _ _ _ _ (Rd.mono HF.out hs5.bel) (Rd.mono HR.out hs5.bel) HOK.out HRK.out).mono ?_
 rintro e w6 ⟨rfl, hbw6⟩
 have hz_w6 : W.heap.size + 1 ≤ w6.heap.size := by have h9 := hbw6.size; (try simp at h9); omega
 have hs7 := hs5.step hbw6
 clear k0_0 k0_1 g0_ e0_ e1_
 obtain ⟨k0_0, k0_1⟩ := hs7.c2 0 0 0 1
 obtain ⟨g0_, e0_, e1_⟩ := cL3 hs7.bel g0 e0 e1
 go_wp2_with fail
 go_ret
 exact ⟨rfl, hs7.bel⟩
theorem isKept_c (t : Tmpl) (f : OpT) (t0 t1 f0 f1 : Value) (w : World) (ht : Rd w [t0, t1] t) (hf : Rd w [f0, f1] f) (hok : opOk t.1 f = true) (hrs : ∀ r, r ∈ t.2 → relOk t.1 r = true) :
 Calls Tryz.prog 73 #[.agg #[t0, t1], .agg #[f0, f1]] w fun e w' => e = .returned (.bool (decide (brokenF t f < 0))) ∧ Below w.heap.size w w' := by
 obtain ⟨size, rs⟩ := t
 obtain ⟨fa, ft⟩ := f
 have zt := rd_cons rfl ht
 obtain ⟨rfl, _⟩ := rd_i1 zt.1
 obtain ⟨at0, ct0, rfl, _⟩ := rd_list zt.2
 have zf := rd_cons rfl hf
 obtain ⟨rfl, _⟩ := rd_i1 zf.1
 obtain ⟨af, cf, rfl, _⟩ := rd_list zf.2
 have HR := qH zt.2
 have HF := qH hf
 have HOK := qH hok
 have HRS := qH hrs
 clear ht hf zt zf hok hrs
 have eg : ∀ args w, (callFunc 175 args).run Tryz.prog w = .ok (.enter 175 args) w := enters_of Tryz.func175 (by kernel_rfl) rfl
 have inner : ∀ (W : World), Rd W [.slice at0 rs.length ct0] rs → Rd W [.int .i64 fa, .slice af ft.length cf] (fa, ft) → Calls Tryz.prog 136 #[.agg #[.int .i64 size, .slice at0 rs.length ct0], .agg #[.int .i64 fa, .slice af ft.length cf]] W fun e w' => e = .returned (.int .i64 (brokenF (size, rs) (fa, ft))) ∧ Below W.heap.size W w' := by
  intro W h1 h2
  have HR1 := qH h1
  have HF1 := qH h2
  clear h1 h2
  have hs8 := (St.start W).alloc #[.int .i64 size, .slice at0 rs.length ct0] 42 (n := W.heap.size) (by simp)
  obtain ⟨k0_0, k0_1⟩ := hs8.c2 0 0 0 1
  have hs9 := hs8.alloc #[.int .i64 fa, .slice af ft.length cf] 48 (n := W.heap.size + 1) (by simp)
  clear k0_0 k0_1
  obtain ⟨k0_0, k0_1, k1_0, k1_1⟩ := hs9.c4 0 0 0 1 1 0 1 1
  go_enter Tryz.func136, Tryz.ntmps136
  go_wp2_with fail
  refine (indexRels_c rs _ 175 _ _ _ (Rd.mono HR1.out hs9.bel) eg (firstBroken1_by size (fa, ft) (W.heap.size) (W.heap.size + 1) _ _ rs _ HOK.out HRS.out (Rd.mono HF1.out hs9.bel) (hs9.c 0 0) (hs9.c 1 0) (hs9.c 1 1))).mono ?_
  rintro e w10 ⟨rfl, hbw10⟩
  have hz_w10 : W.heap.size + 1 + 1 ≤ w10.heap.size := by have h9 := hbw10.size; (try simp at h9); omega
  have hs11 := hs9.step hbw10
  clear k0_0 k0_1 k1_0 k1_1
  obtain ⟨k0_0, k0_1, k1_0, k1_1⟩ := hs11.c4 0 0 0 1 1 0 1 1
  go_wp2_with fail
  go_ret
  exact ⟨rfl, hs11.bel⟩
 have hs12 := (St.start w).alloc #[.int .i64 size, .slice at0 rs.length ct0] 42 (n := w.heap.size) (by simp)
 obtain ⟨k0_0, k0_1⟩ := hs12.c2 0 0 0 1
 have hs13 := hs12.alloc #[.int .i64 fa, .slice af ft.length cf] 48 (n := w.heap.size + 1) (by simp)
 clear k0_0 k0_1
 obtain ⟨k0_0, k0_1, k1_0, k1_1⟩ := hs13.c4 0 0 0 1 1 0 1 1
 go_enter Tryz.func73, Tryz.ntmps73
 go_wp2_with fail
 refine (inner _ (Rd.mono HR.out hs13.bel) (Rd.mono HF.out hs13.bel)).mono ?_
 rintro e w14 ⟨rfl, hbw14⟩
 have hz_w14 : w.heap.size + 1 + 1 ≤ w14.heap.size := by have h9 := hbw14.size; (try simp at h9); omega
 have hs15 := hs13.step hbw14
 clear k0_0 k0_1 k1_0 k1_1
 obtain ⟨k0_0, k0_1, k1_0, k1_1⟩ := hs15.c4 0 0 0 1 1 0 1 1
 go_wp2_with fail
 go_ret
 exact ⟨rfl, hs15.bel⟩
theorem solution_c (ao : Option Addr) (n c : Nat) (w : World) : Calls Tryz.prog 39 #[.slice ao n c] w fun e w' => e = .returned (.agg #[.int .i64 0, .slice ao n c, .slice none 0 0, .slice none 0 0, .slice none 0 0]) ∧ Below w.heap.size w w' := by
 have hs16 := (St.start w).alloc #[.int .i64 0, .slice none 0 0, .slice none 0 0, .slice none 0 0, .slice none 0 0] 37 (n := w.heap.size) (by simp)
 obtain ⟨k0_0, k0_1, k0_2, k0_3, k0_4⟩ := hs16.c5 0 0 0 1 0 2 0 3 0 4
 go_enter Tryz.func39, Tryz.ntmps39
 have g0 := (hs16.freeAt 0 rfl 0)
 have g1 := (hs16.freeAt 0 rfl 1)
 have g2 := (hs16.freeAt 0 rfl 2)
 have g3 := (hs16.freeAt 0 rfl 3)
 have g4 := (hs16.freeAt 0 rfl 4)
 have hs9 := (((((hs16.set (p := []) (by simp) 0 (.int .i64 0)).set (p := []) (by simp) 1 (.slice ao n c)).set (p := []) (by simp) 2 (.slice none 0 0)).set (p := []) (by simp) 3 (.slice none 0 0)).set (p := []) (by simp) 4 (.slice none 0 0))
 obtain ⟨y0, y1, y2, y3, y4⟩ := hs9.c5 0 0 0 1 0 2 0 3 0 4
 clear hs9
 go_wp2_with fail
 refine bodyPost_ret (v := .agg #[.int .i64 0, .slice ao n c, .slice none 0 0, .slice none 0 0, .slice none 0 0]) (by simp [results, Tryz.results39, go_sem, y0, y1, y2, y3, y4]) rfl ⟨rfl, belowA _ _⟩
end Go.Proofs.YtpkdiiagnplpkaaGreat
namespace Go.Proofs.YtpkdiiagnplpkaaGreat
open Go.RowKit Go.Shelf Go.IntWalk
open Rep (Rd Own sz)
theorem l02First_c (t : Tmpl) (f : OpT) (tb fb : Nat) (t0 t1 f0 f1 : Value) (w : World) (ht : Rd w [t0, t1] t) (hf : Rd w [f0, f1] f) (hok : opOk t.1 f = true) (hrs : ∀ r, r ∈ t.2 → relOk t.1 r = true)
 (tc0 : w.cell? ⟨tb, 0, none⟩ = some t0) (tc1 : w.cell? ⟨tb, 1, none⟩ = some t1) (fc0 : w.cell? ⟨fb, 0, none⟩ = some f0) (fc1 : w.cell? ⟨fb, 1, none⟩ = some f1) :
 Calls Tryz.prog 62 #[.pointer (some ⟨tb, 0, none⟩), .pointer (some ⟨fb, 0, none⟩)] w fun e w' => e = .returned (.int .i64 (brokenF t f)) ∧ Below w.heap.size w w' := by
 obtain ⟨size, rs⟩ := t
 obtain ⟨fa, ft⟩ := f
 have zt := rd_cons rfl ht
 obtain ⟨rfl, _⟩ := rd_i1 zt.1
 obtain ⟨at0, ct0, rfl, hrr⟩ := rd_list zt.2
 have zf := rd_cons rfl hf
 obtain ⟨rfl, _⟩ := rd_i1 zf.1
 obtain ⟨af, cf, rfl, _⟩ := rd_list zf.2
 have hb0 := (rdSl_len hrr).2
 unfold maxLen at hb0
 have HRR := qH hrr
 have HF := qH hf
 have HOK := qH hok
 have HRS := qH hrs
 have HQ := qH (show brokenF (size, rs) (fa, ft) = firstI (fun r => !keepsP size (fa, ft) r) rs from rfl)
 clear ht hf zt zf hok hrs hrr
 have tc0_ := qC (St.start w).bel tc0
 clear tc0_
 obtain ⟨tc0_, tc1_⟩ := cL2 (St.start w).bel tc0 tc1
 clear tc0_ tc1_
 obtain ⟨tc0_, tc1_, fc0_⟩ := cL3 (St.start w).bel tc0 tc1 fc0
 clear tc0_ tc1_ fc0_
 obtain ⟨tc0_, tc1_, fc0_, fc1_⟩ := cL4 (St.start w).bel tc0 tc1 fc0 fc1
 go_enter Tryz.func62, Tryz.ntmps62
 go_wp2_with fail
 go_loopw [5] (fun i wl => ∃ k : Nat, k ≤ rs.length ∧ i = .int .i64 k ∧ Hid (Below w.heap.size w wl) ∧ Hid (∀ j (hj : j < rs.length), j < k → (!keepsP size (fa, ft) rs[j]) = false)) (fun i _ => rs.length - (intOf i).toNat)
 case atStart => exact ⟨0, Nat.zero_le _, rfl, Below.refl _ _, fun j hj h => absurd h (Nat.not_lt_zero _)⟩
 case round =>
  obtain ⟨k, hk, rfl, hbl, hr⟩ := hrel
  have hs1 := (St.start w).step hbl.out
  obtain ⟨tc0_, tc1_, fc0_, fc1_⟩ := cL4 hs1.bel tc0 tc1 fc0 fc1
  have HB := hbl
  by_cases hlt : k < rs.length
  · have hkl : (k : Int) < rs.length := by omega
    obtain ⟨b, o, u0, u1, rfl, p0, p1, hy⟩ := rdSl_two rfl HRR.out k hlt
    have HY := qH hy
    have hyz := rd_cons rfl hy
    obtain ⟨rfl, _⟩ := rd_i1 hyz.1
    obtain ⟨a1, c1, rfl, _⟩ := rd_list hyz.2
    have HRK := qH (HRS.out _ (List.getElem_mem hlt))
    have HNX := qH (fun (h : (!keepsP size (fa, ft) rs[k]) = false) => show ∀ j (hj : j < rs.length), j < k + 1 → (!keepsP size (fa, ft) rs[j]) = false from fun j hj hjk => by
     rcases Nat.lt_or_ge j k with h1 | h1
     · exact hr.out j hj h1
     · obtain rfl : j = k := by omega
       exact h)
    have HYS := qH (fun (h : (!keepsP size (fa, ft) rs[k]) = true) => firstI_at (q := fun r => !keepsP size (fa, ft) r) hlt hr.out h)
    clear hy hyz
    generalize rs[k] = RK at *
    obtain ⟨ra, rt⟩ := RK
    simp only at p0 p1
    clear tc0_ tc1_ fc0_ fc1_
    obtain ⟨tc0_, tc1_, fc0_, fc1_, p0_⟩ := cL5 hs1.bel tc0 tc1 fc0 fc1 p0
    clear tc0_ tc1_ fc0_ fc1_ p0_
    obtain ⟨tc0_, tc1_, fc0_, fc1_, p0_, p1_⟩ := cL6 hs1.bel tc0 tc1 fc0 fc1 p0 p1
    clear tc0_ tc1_ fc0_ fc1_ p0_ p1_
    obtain ⟨tc0_, tc1_, fc0_, fc1_, p0_, p1_⟩ := cL6 hs1.bel tc0 tc1 fc0 fc1 p0 p1
    cases hh : keepsP size (fa, ft) (ra, rt) with
    | true =>
     have H9 := qH (HNX.out (by rw [hh]; rfl))
     have HE := qH hh
     clear hh
     go_upto_region 4 with fail
     refine t4R (fun w' => w'.cell? ⟨tb, 0, none⟩ = some (.int .i64 size) ∧ w'.cell? ⟨tb, 1, none⟩ = some (.slice (some ⟨b, o, none⟩) rs.length ct0) ∧ w'.cell? ⟨fb, 0, none⟩ = some (.int .i64 fa) ∧ w'.cell? ⟨fb, 1, none⟩ = some (.slice af ft.length cf) ∧ w'.cell? ⟨b, o + k * 2, none⟩ = some (.int .i64 ra) ∧ w'.cell? ⟨b, o + k * 2 + 1, none⟩ = some (.slice a1 rt.length c1)) (.float 0 (.float 1 (.float 2 (.float 3 (.float 4 (.float 5 (.float 6 (.float 7 (.float 8 (.float 9 (.float 10 (.hard 11 (.float 12 .nil))))))))))))) ?_ ?_
     · exact ⟨qC (hs1.drew).bel tc0, qC (hs1.drew).bel tc1, qC (hs1.drew).bel fc0, qC (hs1.drew).bel fc1, qC (hs1.drew).bel p0, qC (hs1.drew).bel p1⟩
     have hs17 := hs1.drew
     have HB_18 := qH (HB.out.trans (((belowD _)).mono HB.out.size))
     clear HB
     clear tc0_ tc1_ fc0_ fc1_ p0_ p1_
     have hz_wd19 : wr.heap.size ≤ (wr.drew).heap.size := by simp
     generalize hgen_wd19 : wr.drew = wd19 at *
     clear hgen_wd19
     refine t4F ?_
     refine t4_hard rfl (by rfl) (fun K hK => ?_)
     go_wp2_with (go_at_call 103; refine (l02Keeps_c size (fa, ft) (ra, rt) fb 0 b (o + k * 2) _ _ _ _ _ (Rd.mono HF.out hs17.bel) (qC hs17.bel fc0) (qC hs17.bel fc1) (Rd.mono HY.out hs17.bel) (qC hs17.bel p0) (qC hs17.bel p1) HOK.out HRK.out).mono ?_; rintro e w20 ⟨rfl, hbw20⟩)
     have hz_w20 : wd19.heap.size ≤ w20.heap.size := by have h9 := hbw20.size; (try simp at h9); omega
     have hs21 := hs17.step hbw20
     have HB_22 := qH (HB_18.out.trans ((hbw20).mono HB_18.out.size))
     clear HB_18
     rw [HE.out]
     refine ⟨⟨qC hs21.bel tc0, qC hs21.bel tc1, qC hs21.bel fc0, qC hs21.bel fc1, qC hs21.bel p0, qC hs21.bel p1⟩, ?_⟩
     refine t4F ?_
     obtain ⟨tc0_, tc1_, fc0_, fc1_, p0_, p1_⟩ := cL6 hs21.bel tc0 tc1 fc0 fc1 p0 p1
     refine t4_nil (NoPanic.normal ?_)
     go_wp2_with fail
     go_roundw
     case rel => exact ⟨k + 1, by omega, by go_num, HB_22.out, H9.out⟩
     case measure => simp [intOf]; omega
    | false =>
     have H9 := qH (show brokenF (size, rs) (fa, ft) = (k : Int) by rw [HQ.out]; exact HYS.out (by rw [hh]; rfl))
     have HE := qH hh
     clear hh
     go_upto_region 4 with fail
     refine t4R (fun w' => w'.cell? ⟨tb, 0, none⟩ = some (.int .i64 size) ∧ w'.cell? ⟨tb, 1, none⟩ = some (.slice (some ⟨b, o, none⟩) rs.length ct0) ∧ w'.cell? ⟨fb, 0, none⟩ = some (.int .i64 fa) ∧ w'.cell? ⟨fb, 1, none⟩ = some (.slice af ft.length cf) ∧ w'.cell? ⟨b, o + k * 2, none⟩ = some (.int .i64 ra) ∧ w'.cell? ⟨b, o + k * 2 + 1, none⟩ = some (.slice a1 rt.length c1)) (.float 0 (.float 1 (.float 2 (.float 3 (.float 4 (.float 5 (.float 6 (.float 7 (.float 8 (.float 9 (.float 10 (.hard 11 (.float 12 .nil))))))))))))) ?_ ?_
     · exact ⟨qC (hs1.drew).bel tc0, qC (hs1.drew).bel tc1, qC (hs1.drew).bel fc0, qC (hs1.drew).bel fc1, qC (hs1.drew).bel p0, qC (hs1.drew).bel p1⟩
     have hs23 := hs1.drew
     have HB_24 := qH (HB.out.trans (((belowD _)).mono HB.out.size))
     clear HB
     clear tc0_ tc1_ fc0_ fc1_ p0_ p1_
     have hz_wd25 : wr.heap.size ≤ (wr.drew).heap.size := by simp
     generalize hgen_wd25 : wr.drew = wd25 at *
     clear hgen_wd25
     refine t4F ?_
     refine t4_hard rfl (by rfl) (fun K hK => ?_)
     go_wp2_with (go_at_call 103; refine (l02Keeps_c size (fa, ft) (ra, rt) fb 0 b (o + k * 2) _ _ _ _ _ (Rd.mono HF.out hs23.bel) (qC hs23.bel fc0) (qC hs23.bel fc1) (Rd.mono HY.out hs23.bel) (qC hs23.bel p0) (qC hs23.bel p1) HOK.out HRK.out).mono ?_; rintro e w26 ⟨rfl, hbw26⟩)
     have hz_w26 : wd25.heap.size ≤ w26.heap.size := by have h9 := hbw26.size; (try simp at h9); omega
     have hs27 := hs23.step hbw26
     clear HB_24
     rw [HE.out]
     refine ⟨⟨qC hs27.bel tc0, qC hs27.bel tc1, qC hs27.bel fc0, qC hs27.bel fc1, qC hs27.bel p0, qC hs27.bel p1⟩, ?_⟩
     refine t4F ?_
     obtain ⟨tc0_, tc1_, fc0_, fc1_, p0_, p1_⟩ := cL6 hs27.bel tc0 tc1 fc0 fc1 p0 p1
     refine t4_nil (NoPanic.normal ?_)
     go_wp2_with fail
     go_ret
     exact ⟨ret_int H9.out.symm, hs27.bel⟩
  · obtain rfl : k = rs.length := by omega
    have hnl : ¬ ((rs.length : Int) < rs.length) := by omega
    have H9 := qH (show brokenF (size, rs) (fa, ft) = -1 by rw [HQ.out]; exact firstI_no hr.out)
    have HBF := qH HB.out
    go_wp2_with fail
    go_ret
    exact ⟨ret_int H9.out.symm, HBF.out⟩
end Go.Proofs.YtpkdiiagnplpkaaGreat
