/-
  SEVERAL TEXTS IN ONE.
-/
import Derived.Test.YthceklaoikeokaaGreatDoorRowsB
import Derived.Test.YthceklaoikeokaaGreatDoorKinds
import Derived.Test.YthceklaoikeokaaGreatDoorSysB

/-
  CONTRACTS: slices.IndexFunc on rows; the first row 0 = r of the program.
-/
namespace Go.Proofs.YthceklaoikeokaaGreatDoor
open Go.RowKit Go.Shelf
open Rep (Rd Own sz)
set_option linter.unusedSimpArgs false
set_option linter.unusedVariables false

def PredR (g : Nat) (cb : Array Value) (w : World) (l : List RowT) (q : RowT → Bool) : Prop :=
  ∀ (W : World) (x : RowT) (u0 u1 : Value), Below w.heap.size w W → Rd W [u0, u1] x → x ∈ l → Calls Tryz.prog g (#[.agg #[u0, u1]] ++ cb) W fun e w' => e = .returned (.bool (q x)) ∧ Below W.heap.size W w'
set_option maxRecDepth 100000 in
set_option maxHeartbeats 1000000 in
theorem indexRows_c (l : List RowT) (v : Value) (g : Nat) (cb : Array Value) (q : RowT → Bool) (w : World) (r : Rd w [v] l)
    (eg : ∀ args w, (callFunc g args).run Tryz.prog w = .ok (.enter g args) w) (hby : PredR g cb w l q) :
    Calls Tryz.prog 62 #[v, .func (.func g) #[] cb] w fun e w' => e = .returned (.int .i64 (firstI q l)) ∧ Below w.heap.size w w' := by
  obtain ⟨a, c, rfl, h⟩ := rd_list r
  clear r
  have hb := (rdSl_len h).2
  unfold maxLen at hb
  generalize hn : l.length = n at *
  have HN := Lib.hid hn
  have HH := Lib.hid h
  have HBY := Lib.hid hby
  clear hn h hby
  go_enter Tryz.func62, Tryz.ntmps62
  go_wp2_with fail
  go_loopw [8] (fun i wr => ∃ k : Nat, k ≤ n ∧ i = .int .i64 k ∧ Hid (Below w.heap.size w wr) ∧ Hid (∀ j (hj : j < l.length), j < k → q l[j] = false)) (fun i _ => n - (intOf i).toNat)
  case atStart => exact ⟨0, Nat.zero_le _, rfl, Below.refl _ _, fun j _ hj => absurd hj (Nat.not_lt_zero _)⟩
  case round =>
    obtain ⟨k, hk, rfl, hbl, hr⟩ := hrel
    by_cases hlt : k < n
    · have k1 : k < l.length := by rw [HN.out]; exact hlt
      obtain ⟨b, o, u0, u1, rfl, q0, q1, hx⟩ := rdSl_two rfl (rdSl_mono hbl.out HH.out) k k1
      have HX := Lib.hid hx
      clear hx
      go_wp2_with fail
      go_at_fn g
      refine (HBY.out _ l[k] _ _ hbl.out HX.out (List.getElem_mem k1)).mono ?_
      rintro e w1 ⟨rfl, hb1⟩
      cases hq : q l[k] with
      | true =>
        have HQ := Lib.hid hq
        clear hq
        go_wp2_with fail
        go_ret
        exact ⟨ret_int (firstI_at k1 (fun j hj h => hr.out j hj h) HQ.out).symm, hbl.out.trans (hb1.mono hbl.out.size)⟩
      | false =>
        have HQ := Lib.hid hq
        clear hq
        go_wp2_with fail
        go_roundw
        case rel =>
          refine ⟨k + 1, by omega, by go_num, hbl.out.trans (hb1.mono hbl.out.size), ?_⟩
          intro j hj hjk
          rcases Nat.lt_or_ge j k with h | h
          · exact hr.out j hj h
          · obtain rfl : j = k := by omega
            exact HQ.out
        case measure => simp [intOf]; omega
    · obtain rfl : k = n := by omega
      go_wp2_with fail
      go_ret
      refine ⟨ret_int ?_, hbl.out⟩
      rw [firstI_no (fun j hj _ => hr.out j hj (by have := HN.out; omega))]
theorem rdSl_drop {α : Type} [Rep α] {w : World} {b o c : Nat} {l : List α} (h : RdSl w (some ⟨b, o, none⟩) c l) (d : Nat) (hd : d ≤ l.length) : RdSl w (some ⟨b, o + d * sz α, none⟩) (c - d) (l.drop d) := by
  refine ⟨by simp; have := h.1; omega, by have := h.2.1; omega, fun i hi => ?_⟩
  have hi' : d + i < l.length := by simp at hi; omega
  obtain ⟨b', o', vs, e, hr, hc⟩ := h.2.2 (d + i) hi'
  simp only [Option.some.injEq, Addr.mk.injEq, and_true] at e
  obtain ⟨rfl, rfl⟩ := e
  refine ⟨b, _, vs, rfl, by simpa using hr, ?_⟩
  rw [show o + d * sz α + i * sz α = o + (d + i) * sz α by rw [Nat.add_mul]; omega]
  exact hc
set_option maxRecDepth 100000 in
set_option maxHeartbeats 1000000 in
theorem reduced1_by (w : World) (b u : Nat) (l : List RowT) (hc : w.cell? ⟨b, 0, none⟩ = some (.int .i64 u)) (hl : ∀ r, r ∈ l → u < r.1.length ∧ r.1.length ≤ 1000000) : PredR 63 #[.pointer (some ⟨b, 0, none⟩)] w l (fun r => r.1.getD u 0 != 0) := by
  intro W x u0 u1 hb hr hm
  obtain ⟨hu, hx6⟩ := hl x hm
  have hcW := cellL hb hc
  show Calls Tryz.prog 63 #[_, .pointer (some ⟨b, 0, none⟩)] W _
  obtain ⟨xl, xb⟩ := x
  have z := rd_cons rfl hr
  obtain ⟨a, c, rfl, _⟩ := rd_list z.1
  obtain ⟨a', c', rfl, _⟩ := rd_list z.2
  simp only at hu hx6
  have hs := (St.start W).alloc #[.slice a xl.length c, .slice a' xb.length c'] 53 rfl
  obtain ⟨b2, o2, rfl, hc2, _⟩ := rd_int_at z.1 u hu
  have hc3 := cellL hs.bel hc2
  have hc4 := cellL hs.bel hcW
  have e1 : xl.getD u 0 = xl[u] := by simp [List.getD, hu]
  have E1 := Lib.hid e1
  clear e1 z hr hm
  have hul : (u : Int) < xl.length := by omega
  generalize hA : xl[u] = A at *
  have HA := Lib.hid hA
  clear hA
  go_enter Tryz.func63, Tryz.ntmps63
  go_wp2_with fail
  first
    | (go_quiet (fail); go_wp2_with fail; go_ret; exact ⟨ret_bool (by first | rw [HA.out] | (show _ = (xl.getD u 0 != 0); rw [E1.out])), hs.bel.trans ((drewN_below _ _).mono hs.bel.size)⟩)
    | (go_ret; exact ⟨ret_bool (by first | rw [HA.out] | (show _ = (xl.getD u 0 != 0); rw [E1.out])), hs.bel⟩)
set_option maxRecDepth 100000 in
set_option maxHeartbeats 1000000 in
theorem contradiction1_by (w : World) (l : List RowT) (hl : ∀ r, r ∈ l → 0 < r.1.length ∧ r.1.length ≤ 1000000) : PredR 64 #[] w l contrQ := by
  intro W x u0 u1 hb hr hm
  obtain ⟨hu, hx6⟩ := hl x hm
  show Calls Tryz.prog 64 #[_] W _
  have z := rd_cons rfl hr
  obtain ⟨a, c, rfl, _⟩ := rd_list z.1
  obtain ⟨a', c', rfl, _⟩ := rd_list z.2
  have HR := Lib.hid hr
  clear z hr hm
  have hs := (St.start W).alloc #[.slice a x.1.length c, .slice a' x.2.length c'] 53 rfl
  go_enter Tryz.func64, Tryz.ntmps64
  go_wp2_with fail
  refine (isNone_c x _ _ _ (Rd.mono HR.out hs.bel) hu hx6).mono ?_
  rintro e w1 ⟨rfl, hb1⟩
  have hs1 := hs.step hb1
  have k0 := hs1.cellAt 0 rfl 0 rfl
  have k1 := hs1.cellAt 0 rfl 1 rfl
  cases hn : noneR x.1 with
  | false =>
    have HN := Lib.hid hn
    clear hn
    go_wp2_with fail
    go_ret
    exact ⟨ret_bool (by simp [contrQ, HN.out]), hs1.bel⟩
  | true =>
    have HN := Lib.hid hn
    clear hn
    go_wp2_with fail
    refine (right_c x _ _ _ (Rd.mono HR.out hs1.bel) hu hx6).mono ?_
    rintro e w2 ⟨rfl, hb2⟩
    go_wp2_with fail
    go_ret
    exact ⟨ret_bool (by simp [contrQ, HN.out]), (hs1.step hb2).bel⟩
set_option maxRecDepth 100000 in
set_option maxHeartbeats 1000000 in
theorem contradiction_c (l : List RowT) (v : Value) (w : World) (r : Rd w [v] l) (hl : ∀ r, r ∈ l → 0 < r.1.length ∧ r.1.length ≤ 1000000) :
    Calls Tryz.prog 26 #[v] w fun e w' => ∃ (a0 : Option Addr) (n0 c0 : Nat) (a1 : Option Addr) (n1 c1 : Nat), e = .returned (.tuple #[.agg #[.slice a0 n0 c0, .slice a1 n1 c1], .bool (decide (0 ≤ firstI contrQ l))]) ∧ Below w.heap.size w w' ∧ ∀ i (h : i < l.length), firstI contrQ l = i → Rd w' [.slice a0 n0 c0, .slice a1 n1 c1] l[i] := by
  obtain ⟨a, c, rfl, h⟩ := rd_list r
  have hb := (rdSl_len h).2
  unfold maxLen at hb
  have HR := Lib.hid r
  clear r h
  have eg : ∀ args w, (callFunc 64 args).run Tryz.prog w = .ok (.enter 64 args) w := enters_of Tryz.func64 (by kernel_rfl) rfl
  have hs := (St.start w).alloc #[.slice none 0 0, .slice none 0 0] 53 rfl
  go_enter Tryz.func26, Tryz.ntmps26
  go_wp2_with fail
  refine (indexRows_c l _ 64 _ _ _ (Rd.mono HR.out hs.bel) eg (contradiction1_by _ l hl)).mono ?_
  rintro e w1 ⟨he0, hb1⟩
  have hs1 := hs.step hb1
  have k0 := hs1.cellAt 0 rfl 0 rfl
  have k1 := hs1.cellAt 0 rfl 1 rfl
  have g0 := hs1.freeAt 0 rfl 0
  have g1 := hs1.freeAt 0 rfl 1
  have hlo := firstI_lo contrQ l
  by_cases hf : firstI contrQ l < 0
  · have HF := Lib.hid hf
    have hd : Hid (decide (0 ≤ firstI contrQ l) = false) := Lib.hid (by simpa using hf)
    have x1 := hs1.set (p := []) (by simp) 0 (.slice none 0 0)
    have x2 := x1.set (p := []) (by simp) 1 (.slice none 0 0)
    have hm1 : firstI contrQ l = -1 := by omega
    rw [hm1] at he0
    subst he0
    clear hf hm1
    go_wp2_with fail
    refine bodyPost_ret (v := .tuple #[.agg #[.slice none 0 0, .slice none 0 0], .bool false]) (by simp [results, Tryz.results26, go_sem, k0, k1, g0, g1]) rfl ⟨none, 0, 0, none, 0, 0, by rw [hd.out], x2.bel, fun i hi he => ?_⟩
    have := HF.out
    omega
  · have hd : Hid (decide (0 ≤ firstI contrQ l) = true) := Lib.hid (by simpa using hf)
    obtain ⟨i, hi, hi2⟩ : ∃ i : Nat, firstI contrQ l = i ∧ i < l.length := by
      unfold firstI at hf ⊢
      cases h : l.findIdx? contrQ with
      | none => rw [h] at hf; exact absurd (by decide : (-1 : Int) < 0) hf
      | some i => exact ⟨i, rfl, find_lt h⟩
    have HI := Lib.hid hi
    rw [hi] at he0
    subst he0
    obtain ⟨b, o, u0, u1, rfl, f0, f1, hx⟩ := rd_two_at rfl (Rd.mono HR.out hs1.bel) i hi2
    have z := rd_cons rfl hx
    obtain ⟨a0, c0, rfl, _⟩ := rd_list z.1
    obtain ⟨a1, c1, rfl, _⟩ := rd_list z.2
    have HX := Lib.hid hx
    have hil : (i : Int) < l.length := by omega
    have x1 := hs1.set (p := []) (by simp) 0 (.slice a0 l[i].1.length c0)
    have x2 := x1.set (p := []) (by simp) 1 (.slice a1 l[i].2.length c1)
    clear hf hi z hx hlo
    have HR0 := Lib.hid (rd_two_at rfl HR.out i hi2)
    go_wp2_with fail
    refine bodyPost_ret (v := .tuple #[.agg #[.slice a0 l[i].1.length c0, .slice a1 l[i].2.length c1], .bool true]) (by simp [results, Tryz.results26, go_sem, k0, k1, g0, g1]) rfl ⟨_, _, _, _, _, _, by rw [hd.out], x2.bel, fun i' hi' he => ?_⟩
    obtain rfl : i = i' := by have := HI.out; omega
    obtain ⟨b', o', y0, y1, e', g0', g1', hy⟩ := HR0.out
    simp only [Option.some.injEq, Addr.mk.injEq, and_true] at e'
    obtain ⟨rfl, rfl⟩ := e'
    have t0 := cellL hs1.bel g0'
    have t1 := cellL hs1.bel g1'
    rw [f0] at t0
    rw [f1] at t1
    simp only [Option.some.injEq] at t0 t1
    subst t0 t1
    exact Rd.mono hy x2.bel

end Go.Proofs.YthceklaoikeokaaGreatDoor

/-
  CONTRACTS: l00Own and l07False of the reference.
-/
namespace Go.Proofs.YthceklaoikeokaaGreatDoor
open Go.RowKit Go.Shelf
open Rep (Rd Own sz)
set_option linter.unusedSimpArgs false
set_option linter.unusedVariables false

theorem run_append_zero {P : Program} {w : World} {base : Nat} {t ty e : TypeId} {i : TypeInfo} {size : Nat} (ht : P.underlying t = some (.slice e)) (hi : P.info? e = some i)
    {v : Value} {n : Nat} {xs : List Value} (hown : w.ownsRow base e size v n xs) (a : Option Addr) (c : Nat) :
    (Builtin.append_ #[t, t] ty #[v, .slice a 0 c]).run P w = .ok v w := by
  rcases hown.2 with ⟨rfl, rfl⟩ | ⟨g, cap, cur, rfl, _, _, hnc, _⟩
  · cases a <;> simp [Builtin.append_, run_underlying ht, sizeOf, typeInfo, hi, Builtin.lenOf, Builtin.firstCells, loadCells, loadCellsFrom]
  · cases a <;> simp [Builtin.append_, run_underlying ht, sizeOf, typeInfo, hi, Builtin.lenOf, Builtin.firstCells, hnc, storeCells, loadCells, loadCellsFrom]
theorem wpList_append_zero {P : Program} (w : World) {ops : Array Oper} {rest : List Oper} {o : Oper} {a : Act} {Q : Exit → Act → World → Prop} (hgd : o.guard = none) (s x : Operand) (t : TypeId)
    (ho : o.op = .call { callee := .builtin .append, args := #[s, x], argTypes := #[t, t] }) {e : TypeId} {α : Type} [Rep α] {z : Value} {bytes : Nat} (E : ElemT P t e α z bytes) {B H : Nat} {v : Value} {l : List α}
    (hs : a.eval s = v) (hacc : Acc B H e w v l) (ad : Option Addr) (c : Nat) (hx : a.eval x = .slice ad 0 c)
    (h : wpList P ops Q rest (a.put o.dst v) w) : wpList P ops Q (o :: rest) a w := by
  refine wpList_plain hgd fun K hK => ?_
  obtain ⟨i, hi, _⟩ := E.info
  obtain ⟨xs, pss, h1, _⟩ := hacc
  have hr := run_append_zero (P := P) (ty := o.type) E.und hi h1 ad c
  unfold Oper.wp execOp
  simp only [ho, resolve, invoke, builtin, Sem.run_bind, Sem.run_pure, Result.andThen_ok, List.map_toArray, List.map_cons, List.map_nil, hs, hx, hr]
  exact hK _ _ h
set_option maxRecDepth 100000 in
set_option maxHeartbeats 1000000 in
theorem l00Own_c (l : List Int) (v : Value) (w : World) (r : Rd w [v] l) (hl : l.length ≤ 1073741824) :
    Calls Tryz.prog 85 #[v] w fun e w' => ∃ v', e = .returned v' ∧ Acc w.heap.size w'.heap.size 2 w' v' l ∧ Below w.heap.size w w' := by
  obtain ⟨a, c, rfl, h⟩ := rd_list r
  have HR := Lib.hid h
  clear r h
  have hacc : Acc w.heap.size (w.heap.size + 1) 2 (w.alloc (.cells #[] 2)) (.slice (some ⟨w.heap.size, 0, none⟩) 0 0) ([] : List Int) := acc_made w 2
  cases l with
  | nil =>
    go_enter Tryz.func85, Tryz.ntmps85
    go_wp2_with (refine wpList_append_zero _ rfl _ _ _ rfl E_ints rfl hacc a c rfl ?_)
    go_wp2_with fail
    go_ret
    exact ⟨_, rfl, by simpa using hacc, belowA _ _⟩
  | cons n0 l0 =>
    obtain ⟨b, o, -, rfl, -, -⟩ := HR.out.2.2 0 (by simp)
    generalize hL : n0 :: l0 = l at *
    clear hL
    have hnews : ∀ j u, (ivals l)[j]? = some u → w.cell? ((⟨b, o, none⟩ : Addr).add j) = some u ∧ I64 (l.getD j 0) := by
      intro j u hu
      have hj : j < l.length := by have := (List.getElem?_eq_some_iff.1 hu).1; simpa [ivals] using this
      obtain ⟨b', o', e, hc, hI⟩ := rdSl_int HR.out j hj
      simp only [Option.some.injEq, Addr.mk.injEq] at e
      obtain ⟨rfl, rfl, -⟩ := e
      have hadd : ((⟨b, o, none⟩ : Addr).add j) = ⟨b, o + j, none⟩ := by unfold Addr.add; split <;> simp_all
      rw [hadd, hc]
      refine ⟨?_, hI⟩
      rw [← hu]; simp [ivals, hj, List.getD]
    have hI : ∀ a, a ∈ l → I64 a := by
      intro a ha
      obtain ⟨j, hj, rfl⟩ := List.getElem_of_mem ha
      have := (hnews j _ (List.getElem?_eq_getElem (by simpa [ivals] using hj))).2
      simpa [List.getD, hj] using this
    have hn2 : ∀ j u, (ivals l)[j]? = some u → (w.alloc (.cells #[] 2)).cell? ((⟨b, o, none⟩ : Addr).add j) = some u := fun j u hu => cellL (belowA _ _) (hnews j u hu).1
    go_enter Tryz.func85, Tryz.ntmps85
    go_wp2_with (refine wpList_append_ints _ rfl _ _ _ rfl E_ints rfl hacc (Nat.le_succ _) (by simp) ⟨b, o, none⟩ c rfl hn2 hI (by simpa using hl) ?_; intro a' c' w' hA hB _)
    simp only [List.length_nil, Nat.zero_add, List.nil_append] at hA ⊢
    go_wp2_with fail
    go_ret
    exact ⟨_, rfl, hA, (belowA _ _).trans hB⟩
theorem falseF_at {rows : List SRow} {done k : Nat} (hd : done ≤ k) (hk : k < rows.length) (h0 : ∀ j (hj : j < rows.length), done ≤ j → j < k → (rows[j].2.1 != 0) = false) (h1 : (rows[k].2.1 != 0) = true) : falseF rows done = k := by
  have : (rows.drop done).findIdx? (fun r => r.2.1 != 0) = some (k - done) := by
    rw [List.findIdx?_eq_some_iff_getElem]
    refine ⟨by simp; omega, ?_, fun j hj => ?_⟩
    · simp only [List.getElem_drop, show done + (k - done) = k by omega]; exact h1
    · simp only [List.getElem_drop]
      simpa using h0 (done + j) (by omega) (by omega) (by omega)
  unfold falseF; rw [this]
  simp only
  omega
theorem falseF_no {rows : List SRow} {done : Nat} (h0 : ∀ j (hj : j < rows.length), done ≤ j → (rows[j].2.1 != 0) = false) : falseF rows done = -1 := by
  have : (rows.drop done).findIdx? (fun r => r.2.1 != 0) = none := by
    rw [List.findIdx?_eq_none_iff]
    intro r hr
    obtain ⟨j, hj, rfl⟩ := List.getElem_of_mem hr
    simp only [List.getElem_drop]
    exact h0 (done + j) (by simp at hj; omega) (by omega)
  unfold falseF; rw [this]
set_option maxRecDepth 100000 in
set_option maxHeartbeats 1000000 in
theorem l07False_c (l : List SRow) (v : Value) (done : Nat) (w : World) (r : Rd w [v] l) (hd : done ≤ l.length) (hl : l.length ≤ 1000000) :
    Calls Tryz.prog 32 #[v, .int .i64 done] w fun e w' => e = .returned (.int .i64 (falseF l done)) ∧ w = w' := by
  obtain ⟨a, c, rfl, h⟩ := rd_list r
  have HR := Lib.hid r
  clear r h
  go_enter Tryz.func32, Tryz.ntmps32
  go_wp2_with fail
  go_loopw [5] (fun i wr => ∃ k : Nat, done ≤ k ∧ k ≤ l.length ∧ i = .int .i64 k ∧ wr = w ∧ Hid (∀ j (hj : j < l.length), done ≤ j → j < k → (l[j].2.1 != 0) = false)) (fun i _ => l.length - (intOf i).toNat)
  case atStart => exact ⟨done, Nat.le_refl _, hd, rfl, rfl, fun j _ h1 h2 => by omega⟩
  case round =>
    obtain ⟨k, hdk, hk, rfl, rfl, hr⟩ := hrel
    by_cases hlt : k < l.length
    · obtain ⟨b', o', u0, u1, u2, rfl, q0, q1, q2, hx⟩ := rd_three_at rfl HR.out k hlt
      have z := rd_cons rfl (rd_cons rfl hx).2
      obtain ⟨rfl, _⟩ := rd_i1 z.1
      have hkl : (k : Int) < l.length := by omega
      clear z hx
      cases hq : (l[k].2.1 != 0) with
      | true =>
        have HQ := Lib.hid hq
        go_wp2_with fail
        go_ret
        exact ⟨ret_int (falseF_at hdk hlt (fun j hj h1 h2 => hr.out j hj h1 h2) HQ.out).symm, rfl⟩
      | false =>
        have HQ := Lib.hid hq
        go_wp2_with fail
        go_roundw
        case rel =>
          refine ⟨k + 1, by omega, by omega, by go_num, trivial, ?_⟩
          intro j hj h1 hjk
          rcases Nat.lt_or_ge j k with h | h
          · exact hr.out j hj h1 h
          · obtain rfl : j = k := by omega
            exact HQ.out
        case measure => simp [intOf]; omega
    · obtain rfl : k = l.length := by omega
      go_wp2_with fail
      go_ret
      refine ⟨ret_int ?_, rfl⟩
      rw [falseF_no (fun j hj h1 => hr.out j hj h1 hj)]

end Go.Proofs.YthceklaoikeokaaGreatDoor

/-
  PLAIN: a row of the reference taken out of an owned slice of rows, written in place, and put back; two rows that change places.
-/
namespace Go.Proofs.YthceklaoikeokaaGreatDoor
open Go.RowKit
open Rep (Rd Own sz)
set_option linter.unusedSimpArgs false
set_option linter.unusedVariables false

theorem putArr_row {cur : Array Value} {q : Nat} {v0 v2 : Value} (x : Value) (h0 : cur[q]? = some v0) (h2 : cur[q + 2]? = some v2) : putArr cur q [v0, x, v2] = cur.setIfInBounds (q + 1) x := by
  rw [putArr_same _ h0]
  show putArr (cur.setIfInBounds (q + 1) x) (q + 1 + 1) [v2] = _
  rw [putArr_same _ (by rw [Array.getElem?_setIfInBounds_ne (by omega)]; exact h2)]
  rfl
theorem ip_row {A : Nat → Prop} {w : World} {g n c : Nat} {l : List SRow} (h : Ip A w [.slice (some ⟨g, 0, none⟩) n c] l) (j : Nat) (hj : j < l.length) :
    ∃ cur e p0 p2 v0 v2, RowIn w g (j * 3) cur e p0 p2 v0 v2 l[j] ∧ (∀ k, k ∈ p0 ++ p2 → A k) ∧ A g ∧
      ∀ (w' : World) (x : Int) (r' : SRow), RowIn w' g (j * 3) (cur.setIfInBounds (j * 3 + 1) (.int .i64 x)) e p0 p2 v0 v2 r' → r'.2.1 = x → I64 x → OnlyAt (g :: (p0 ++ p2)) w w' → Ip A w' [.slice (some ⟨g, 0, none⟩) n c] (l.set j r') := by
  obtain ⟨ps, ho, hn, hA⟩ := h
  obtain ⟨g', o, c', cur, e, p, vs, hv, hblk, hO, hc, hgp, hgn, hpn, hpp, hput⟩ := own_elem (own_list ho) hn j hj
  simp only [Value.slice.injEq, Option.some.injEq, Addr.mk.injEq, and_true] at hv
  obtain ⟨⟨rfl, rfl⟩, rfl, rfl⟩ := hv
  have hl := Rep.rd_len (Rep.own_rd hO)
  obtain ⟨v0, v1, v2, rfl⟩ : ∃ v0 v1 v2, vs = [v0, v1, v2] := by
    match vs, hl with
    | [a, b, c], _ => exact ⟨a, b, c, rfl⟩
  obtain ⟨p0, q0, rfl, hO0, hO1⟩ := own_cons rfl hO
  obtain ⟨p1, p2, rfl, hO1, hO2⟩ := own_cons rfl hO1
  obtain ⟨rfl, rfl, hI⟩ := own_i1 hO1
  simp only [List.nil_append] at hgn hpn hpp hput
  have e3 : 0 + j * sz SRow = j * 3 := by rw [Nat.zero_add]; rfl
  have k0 : cur[j * 3]? = some v0 := by have := hc 0 (by simp); rw [e3] at this; simpa using this
  have k1 : cur[j * 3 + 1]? = some (.int .i64 l[j].2.1) := by have := hc 1 (by simp); rw [e3] at this; simpa using this
  have k2 : cur[j * 3 + 2]? = some v2 := by have := hc 2 (by simp); rw [e3] at this; simpa using this
  rw [List.nodup_append] at hpn
  refine ⟨cur, e, p0, p2, v0, v2, ⟨hblk, k0, k1, k2, own_list hO0, own_list hO2, fun h => hgn (by simp [h]), fun h => hgn (by simp [h]), fun k h1 h2 => hpn.2.2 k h1 k h2 rfl⟩, fun k hk => hA k (hpp k hk), hA g hgp, ?_⟩
  intro w' x r' hr hx hIx hon
  refine ⟨ps, ⟨_, rfl, hput w' [v0, .int .i64 x, v2] r' ?_ ?_ (fun k h1 h2 h3 => hon.block k (by simp only [List.mem_cons, not_or]; exact ⟨h3, h2⟩))⟩, hn, hA⟩
  · rw [e3, putArr_row _ k0 k2]; exact hr.blk
  · obtain ⟨r0, r1, r2⟩ := r'
    have hx : r1 = x := hx
    subst hx
    exact mk_own ⟨v0, rfl, hr.own0⟩ (mk_own (p := []) ⟨rfl, rfl, hIx⟩ ⟨v2, rfl, hr.own2⟩)
theorem ip_swap3 {α : Type} [Rep α] (hα : sz α = 3) {A : Nat → Prop} {w : World} {g n c : Nat} {l : List α} (h : Ip A w [.slice (some ⟨g, 0, none⟩) n c] l) (d : α) (i j : Nat) (hil : i < l.length) (hjl : j < l.length) {v0 v1 v2 u0 u1 u2 : Value}
    (c0 : w.cell? ⟨g, i * 3, none⟩ = some v0) (c1 : w.cell? ⟨g, i * 3 + 1, none⟩ = some v1) (c2 : w.cell? ⟨g, i * 3 + 2, none⟩ = some v2) (d0 : w.cell? ⟨g, j * 3, none⟩ = some u0) (d1 : w.cell? ⟨g, j * 3 + 1, none⟩ = some u1) (d2 : w.cell? ⟨g, j * 3 + 2, none⟩ = some u2) :
    Ip A ((((((w.setCell ⟨g, i * 3, none⟩ u0).setCell ⟨g, i * 3 + 1, none⟩ u1).setCell ⟨g, i * 3 + 2, none⟩ u2).setCell ⟨g, j * 3, none⟩ v0).setCell ⟨g, j * 3 + 1, none⟩ v1).setCell ⟨g, j * 3 + 2, none⟩ v2) [.slice (some ⟨g, 0, none⟩) n c] (swapL d l i j) := by
  have := ip_swap h d i j hil hjl (vi := [v0, v1, v2]) (vj := [u0, u1, u2]) (by rw [hα]; rfl) (by rw [hα]; rfl)
    (fun k hk => by
      rw [hα] at hk ⊢
      rw [Nat.zero_add]
      match k, hk with
      | 0, _ => simpa using c0
      | 1, _ => simpa using c1
      | 2, _ => simpa using c2)
    (fun k hk => by
      rw [hα] at hk ⊢
      rw [Nat.zero_add]
      match k, hk with
      | 0, _ => simpa using d0
      | 1, _ => simpa using d1
      | 2, _ => simpa using d2)
  rw [hα, Nat.zero_add, Nat.zero_add] at this
  exact this

end Go.Proofs.YthceklaoikeokaaGreatDoor

/-
  PLAIN: two rows of an owned slice of rows: one is written, the other is read meanwhile.
-/
namespace Go.Proofs.YthceklaoikeokaaGreatDoor
open Go.RowKit
open Rep (Rd Own sz)
set_option linter.unusedSimpArgs false
set_option linter.unusedVariables false

/-- Element j of an owned slice, how it is put back, and element d that is another one. -/
theorem own_elem2 {α : Type} [Rep α] {ps : List Nat} {w : World} {v : Value} {l : List α} (h : OwnSl ps w v l) (hn : ps.Nodup) (j : Nat) (hj : j < l.length) (d : Nat) (hd : d < l.length) (hjd : d ≠ j) :
    ∃ g o c cur e p vs q us, v = .slice (some ⟨g, o, none⟩) l.length c ∧ w.heap[g]? = some (.cells cur e (0, 0)) ∧ Own p w vs l[j] ∧ (∀ k, k < vs.length → cur[o + j * sz α + k]? = vs[k]?) ∧
      g ∈ ps ∧ g ∉ p ∧ p.Nodup ∧ (∀ k, k ∈ p → k ∈ ps) ∧
      Own q w us l[d] ∧ (∀ k, k < us.length → cur[o + d * sz α + k]? = us[k]?) ∧ g ∉ q ∧ (∀ k, k ∈ q → k ∉ p) ∧
      ∀ (w' : World) (vs' : List Value) (y : α), w'.heap[g]? = some (.cells (putArr cur (o + j * sz α) vs') e (0, 0)) → Own p w' vs' y → (∀ k, k ∈ ps → k ∉ p → k ≠ g → w'.heap[k]? = w.heap[k]?) → OwnSl ps w' v (l.set j y) := by
  have hh := h
  rcases h with ⟨rfl, _⟩ | ⟨g, o, c, cur, e, pss, rfl, h1, h2, h3, rfl, h5, h6⟩
  · exact absurd hj (Nat.not_lt_zero _)
  obtain ⟨p, vs, hp, hO, hc⟩ := h6 j hj
  obtain ⟨q, us, hq, hOq, hcq⟩ := h6 d hd
  have hjp : j < pss.length := by omega
  have hpj : pss[j] = p := by rw [List.getElem?_eq_getElem hjp] at hp; simpa using hp
  have hwhole : pss = pss.take j ++ p :: pss.drop (j + 1) := by
    conv => lhs; rw [← List.take_append_drop j pss, List.drop_eq_getElem_cons hjp, hpj]
  have hmem : ∀ k, k ∈ p → k ∈ List.flatten pss := fun k hk => List.mem_flatten.2 ⟨p, List.mem_of_getElem? hp, hk⟩
  have hgn := (List.nodup_cons.1 hn).1
  have hfn := (List.nodup_cons.1 hn).2
  have hdis : ∀ i q, i ≠ j → pss[i]? = some q → ∀ k, k ∈ q → k ∉ p := by
    intro i q hij hq k hk hkp
    rw [hwhole, List.flatten_append, List.flatten_cons] at hfn
    simp only [List.nodup_append, List.mem_append] at hfn
    obtain ⟨_, ⟨_, _, n3⟩, n4⟩ := hfn
    rcases Nat.lt_or_gt_of_ne hij with hlt | hlt
    · refine n4 k (List.mem_flatten.2 ⟨q, ?_, hk⟩) k (.inl hkp) rfl
      refine List.mem_iff_getElem?.2 ⟨i, ?_⟩
      rw [List.getElem?_take_of_lt hlt]; exact hq
    · refine n3 k hkp k (List.mem_flatten.2 ⟨q, ?_, hk⟩) rfl
      refine List.mem_iff_getElem?.2 ⟨i - (j + 1), ?_⟩
      rw [List.getElem?_drop, show j + 1 + (i - (j + 1)) = i by omega]; exact hq
  obtain ⟨g', o', c', cur', e', p', vs', hv', hb', hO', hc', m1, m2, m3, m4, m5⟩ := own_elem hh hn j hj
  simp only [Value.slice.injEq, Option.some.injEq, Addr.mk.injEq, and_true] at hv'
  obtain ⟨⟨rfl, rfl⟩, -, rfl⟩ := hv'
  rw [h3] at hb'
  simp only [Option.some.injEq, Obj.cells.injEq, and_true] at hb'
  obtain ⟨rfl, rfl⟩ := hb'
  refine ⟨g, o, c, cur, e, p, vs, q, us, rfl, h3, hO, hc, m1, fun hk => hgn (hmem g hk), ?_, fun k hk => List.mem_cons_of_mem _ (hmem k hk), hOq, hcq, fun hk => hgn (List.mem_flatten.2 ⟨q, List.mem_of_getElem? hq, hk⟩), hdis d q hjd hq, ?_⟩
  · rw [hwhole, List.flatten_append, List.flatten_cons] at hfn
    simp only [List.nodup_append] at hfn
    exact hfn.2.1.1
  · intro w' vs' y hg hy hk
    have hvl' := Rep.rd_len (Rep.own_rd hy)
    refine .inr ⟨g, o, c, _, e, pss, by simp, by simpa using h1, h2, hg, rfl, by simpa using h5, fun i hi => ?_⟩
    simp only [List.length_set] at hi
    by_cases hij : j = i
    · subst hij
      refine ⟨p, vs', hp, by simpa using hy, fun k hk' => putArr_in vs' _ k cur hk' ?_⟩
      have hvl := Rep.rd_len (Rep.own_rd hO)
      have := hc k (by omega)
      rw [List.getElem?_eq_getElem (by omega)] at this
      exact (Array.getElem?_eq_some_iff.1 this).1
    · obtain ⟨q, us, hq, hOq, hcq⟩ := h6 i hi
      have hul := Rep.rd_len (Rep.own_rd hOq)
      refine ⟨q, us, hq, ?_, fun k hk' => ?_⟩
      · simp only [List.getElem_set_ne hij]
        refine Rep.own_frame (fun k hkq => hk k (List.mem_cons_of_mem _ (List.mem_flatten.2 ⟨q, List.mem_of_getElem? hq, hkq⟩)) (hdis i q (Ne.symm hij) hq k hkq) ?_) hOq
        rintro rfl
        exact hgn (List.mem_flatten.2 ⟨q, List.mem_of_getElem? hq, hkq⟩)
      · rw [putArr_out]
        · exact hcq k hk'
        · have hks : k < sz α := by omega
          rcases Nat.lt_or_gt_of_ne hij with hlt | hlt
          · right
            have : (j + 1) * sz α ≤ i * sz α := Nat.mul_le_mul_right _ hlt
            rw [Nat.add_mul] at this
            omega
          · left
            have := idx_lt (s := sz α) hlt hks
            omega
theorem step_found {α : Type} (O : ROps α) (u : Nat) (R : List α) (bs : List Int) (q : Nat) (h0 : bs.length ≤ q) (hq : q < R.length) (hz : ∀ j (hj : j < R.length), bs.length ≤ j → j < q → O.get R[j] u = 0) (hn : O.get R[q] u ≠ 0) :
    stepE O u (R, bs) = (mapTo (elimRow O u bs.length (O.scale R[q] (O.get R[q] u))) ((swapL O.dflt R bs.length q).set bs.length (O.scale R[q] (O.get R[q] u))) R.length, bs ++ [(u : Int)]) := by
  have hf : (R.drop bs.length).findIdx? (fun r => O.get r u != 0) = some (q - bs.length) := by
    rw [List.findIdx?_eq_some_iff_getElem]
    refine ⟨by simp; omega, ?_, fun j hj => ?_⟩
    · simp only [List.getElem_drop, bne_iff_ne]
      have : bs.length + (q - bs.length) = q := by omega
      simp only [this]
      exact hn
    · simp only [List.getElem_drop, bne_iff_ne, ne_eq, Decidable.not_not]
      exact hz _ (by omega) (by omega) (by omega)
  unfold stepE
  show (match (R.drop bs.length).findIdx? (fun r => O.get r u != 0) with | none => _ | some i => _) = _
  rw [hf]
  show (pivotE O u R bs.length (q - bs.length), bs ++ [(u : Int)]) = _
  have e : bs.length + (q - bs.length) = q := by omega
  have hg : R.getD q O.dflt = R[q] := by simp [List.getD, hq]
  have h := mapTo_all (elimRow O u bs.length (O.scale R[q] (O.get R[q] u))) ((swapL O.dflt R bs.length q).set bs.length (O.scale R[q] (O.get R[q] u)))
  simp only [List.length_set, swapL_length] at h
  rw [h]
  unfold pivotE
  simp only [e, swap_at O.dflt R bs.length q (by omega) hq, hg]
theorem allG_mapTo {p : Int} {U n : Nat} {u d : Nat} {x : SRow} {rows : List SRow} (hp : 0 < p) (h : AllG p U n rows) (hx : GoodS p U n x) (j : Nat) : AllG p U n (mapTo (elimRow (opsS p) u d x) rows j) := by
  intro r hr
  unfold mapTo at hr
  rcases List.mem_append.1 hr with hr | hr
  · simp only [List.mem_mapIdx] at hr
    obtain ⟨i, hi, rfl⟩ := hr
    have h2 : GoodS p U n (rows.take j)[i] := h _ (List.mem_of_mem_take (List.getElem_mem hi))
    unfold elimRow
    split
    · exact h2
    · show GoodS p U n (if _ then _ else _)
      split
      · exact h2
      · exact goodS_less hp _ h2 hx
  · exact h r (List.mem_of_mem_drop hr)
theorem RowIn.same {w w' : World} {b o : Nat} {cur : Array Value} {e : TypeId} {p0 p2 : List Nat} {v0 v2 : Value} {r : SRow} (h : RowIn w b o cur e p0 p2 v0 v2 r) (hb : w'.heap = w.heap) : RowIn w' b o cur e p0 p2 v0 v2 r :=
  ⟨by rw [hb]; exact h.blk, h.c0, h.c1, h.c2, ownSl_heap h.own0 hb, ownSl_heap h.own2 hb, h.n0, h.n2, h.dis⟩
theorem OnlyAt.but' {ps : List Nat} {a b : World} {n : Nat} (h : OnlyAt ps (a.drewN n) b) : But ps a b := ⟨h.os, h.tape, h.output, by rw [h.size]; exact Nat.le_refl _, fun k _ hp => h.block k hp⟩
theorem ip_row2 {A : Nat → Prop} {w : World} {g n c : Nat} {l : List SRow} (h : Ip A w [.slice (some ⟨g, 0, none⟩) n c] l) (j : Nat) (hj : j < l.length) (d : Nat) (hd : d < l.length) (hjd : d ≠ j) :
    ∃ cur e p0 p2 v0 v2 u0 u2, RowIn w g (j * 3) cur e p0 p2 v0 v2 l[j] ∧ (∀ k, k ∈ p0 ++ p2 → A k) ∧ A g ∧
      (∀ (w' : World) (x : Int), OnlyAt (g :: (p0 ++ p2)) w w' → w'.heap[g]? = some (.cells (cur.setIfInBounds (j * 3 + 1) (.int .i64 x)) e (0, 0)) → OthIn w' g (d * 3) u0 u2 l[d]) ∧
      ∀ (w' : World) (x : Int) (r' : SRow), RowIn w' g (j * 3) (cur.setIfInBounds (j * 3 + 1) (.int .i64 x)) e p0 p2 v0 v2 r' → r'.2.1 = x → I64 x → OnlyAt (g :: (p0 ++ p2)) w w' → Ip A w' [.slice (some ⟨g, 0, none⟩) n c] (l.set j r') := by
  obtain ⟨ps, ho, hn, hA⟩ := h
  obtain ⟨g', o, c', cur, e, p, vs, q, us, hv, hblk, hO, hc, hgp, hgn, hpn, hpp, hOq, hcq, hgq, hqp, hput⟩ := own_elem2 (own_list ho) hn j hj d hd hjd
  simp only [Value.slice.injEq, Option.some.injEq, Addr.mk.injEq, and_true] at hv
  obtain ⟨⟨rfl, rfl⟩, rfl, rfl⟩ := hv
  have hl := Rep.rd_len (Rep.own_rd hO)
  have hlq := Rep.rd_len (Rep.own_rd hOq)
  obtain ⟨v0, v1, v2, rfl⟩ : ∃ v0 v1 v2, vs = [v0, v1, v2] := by
    match vs, hl with
    | [a, b, c], _ => exact ⟨a, b, c, rfl⟩
  obtain ⟨u0, u1, u2, rfl⟩ : ∃ v0 v1 v2, us = [v0, v1, v2] := by
    match us, hlq with
    | [a, b, c], _ => exact ⟨a, b, c, rfl⟩
  obtain ⟨p0, q0, rfl, hO0, hO1⟩ := own_cons rfl hO
  obtain ⟨p1, p2, rfl, hO1, hO2⟩ := own_cons rfl hO1
  obtain ⟨rfl, rfl, hI⟩ := own_i1 hO1
  simp only [List.nil_append] at hgn hpn hpp hput hqp
  have e3 : 0 + j * sz SRow = j * 3 := by rw [Nat.zero_add]; rfl
  have e3d : 0 + d * sz SRow = d * 3 := by rw [Nat.zero_add]; rfl
  have k0 : cur[j * 3]? = some v0 := by have := hc 0 (by simp); rw [e3] at this; simpa using this
  have k1 : cur[j * 3 + 1]? = some (.int .i64 l[j].2.1) := by have := hc 1 (by simp); rw [e3] at this; simpa using this
  have k2 : cur[j * 3 + 2]? = some v2 := by have := hc 2 (by simp); rw [e3] at this; simpa using this
  have t0 : cur[d * 3]? = some u0 := by have := hcq 0 (by simp); rw [e3d] at this; simpa using this
  have t1 : cur[d * 3 + 1]? = some u1 := by have := hcq 1 (by simp); rw [e3d] at this; simpa using this
  have t2 : cur[d * 3 + 2]? = some u2 := by have := hcq 2 (by simp); rw [e3d] at this; simpa using this
  rw [List.nodup_append] at hpn
  refine ⟨cur, e, p0, p2, v0, v2, u0, u2, ⟨hblk, k0, k1, k2, own_list hO0, own_list hO2, fun h => hgn (by simp [h]), fun h => hgn (by simp [h]), fun k h1 h2 => hpn.2.2 k h1 k h2 rfl⟩, fun k hk => hA k (hpp k hk), hA g hgp, ?_, ?_⟩
  · intro w' x hon hb
    have hR : Rd w' [u0, u1, u2] l[d] := Rep.own_rd (Own.only hOq hon (fun k hk hk2 => by
      rcases List.mem_cons.1 hk2 with rfl | hk2
      · exact hgq hk
      · exact hqp k hk hk2))
    have z := rd_cons rfl hR
    have z2 := rd_cons rfl z.2
    obtain ⟨rfl, _⟩ := rd_i1 z2.1
    refine ⟨?_, ?_, ?_, z.1, z2.2⟩
    · rw [cell_at_block hb, Array.getElem?_setIfInBounds_ne (by omega)]; exact t0
    · rw [cell_at_block hb, Array.getElem?_setIfInBounds_ne (by omega)]; exact t1
    · rw [cell_at_block hb, Array.getElem?_setIfInBounds_ne (by omega)]; exact t2
  · intro w' x r' hr hx hIx hon
    refine ⟨ps, ⟨_, rfl, hput w' [v0, .int .i64 x, v2] r' ?_ ?_ (fun k h1 h2 h3 => hon.block k (by simp only [List.mem_cons, not_or]; exact ⟨h3, h2⟩))⟩, hn, hA⟩
    · rw [e3, putArr_row _ k0 k2]; exact hr.blk
    · obtain ⟨r0, r1, r2⟩ := r'
      have hx : r1 = x := hx
      subst hx
      exact mk_own ⟨v0, rfl, hr.own0⟩ (mk_own (p := []) ⟨rfl, rfl, hIx⟩ ⟨v2, rfl, hr.own2⟩)

end Go.Proofs.YthceklaoikeokaaGreatDoor

/-
  CONTRACT: (*l07Row).scale of the reference. (Printed by wip/genrow.py.)
-/
namespace Go.Proofs.YthceklaoikeokaaGreatDoor
open Go.RowKit Go.Shelf Go.IntWalk
open Rep (Rd Own sz)
set_option linter.unusedSimpArgs false
set_option linter.unusedVariables false


set_option maxRecDepth 100000 in
set_option maxHeartbeats 4000000 in
theorem scale_c (p k : Int) (r : SRow) (b o : Nat) (cur : Array Value) (e : TypeId) (p0 p2 : List Nat) (v0 v2 : Value) (w : World) (hr : RowIn w b o cur e p0 p2 v0 v2 r)
    (hp0 : 2 ≤ p) (hp : p ≤ 3) (hk0 : 0 ≤ k) (hk : k ≤ 100) (gr : Res p r.1) (gr1 : 0 ≤ r.2.1 ∧ r.2.1 < p) (gr2 : Res p r.2.2) :
    Calls Tryz.prog 34 #[.pointer (some ⟨b, o, none⟩), .int .i64 k, .int .i64 p] w fun en w' => en = .returned (.tuple #[]) ∧ RowIn w' b o (cur.setIfInBounds (o + 1) (.int .i64 (scaleS p k r).2.1)) e p0 p2 v0 v2 (scaleS p k r) ∧ OnlyAt (b :: (p0 ++ p2)) w w' := by
  obtain ⟨rl, rr, rb⟩ := r
  have hrow := hr
  obtain ⟨hblk, hc0, hc1, hc2, ho0, ho2, hn0, hn2, hd⟩ := hr
  obtain ⟨a0, c0, rfl, hm0⟩ := ownSl_len ho0
  obtain ⟨a2, c2, rfl, hm2⟩ := ownSl_len ho2
  unfold maxLen at hm0 hm2
  simp only at gr gr1 gr2  hm0 hm2 hc1
  have BLK := Lib.hid hblk
  have HC0 := Lib.hid hc0
  have HC1 := Lib.hid hc1
  have HC2 := Lib.hid hc2
  have O0 := Lib.hid ho0
  have O2 := Lib.hid ho2
  have GR := Lib.hid gr
  have GR2 := Lib.hid gr2
  have ob : o + 1 < cur.size := (Array.getElem?_eq_some_iff.1 hc1).1
  clear hblk hc0 hc1 hc2 ho0 ho2 gr gr2 hrow
  have hp1 : p ≠ 0 := by omega
  have hp2 : (p == 0) = false := by simpa using hp1
  go_enter Tryz.func34, Tryz.ntmps34
  go_wp2_with fail
  go_loopw [6] (fun i wr => ∃ j : Nat, j ≤ rl.length ∧ i = .int .i64 j ∧ Hid (OnlyAt (b :: (p0 ++ p2)) w wr) ∧ Hid (wr.heap[b]? = some (.cells (cur) e (0, 0))) ∧ Hid (OwnSl p0 wr (.slice a0 rl.length c0) (zipTo (fun a _ => a * k % p) rl rl j)) ∧ Hid (OwnSl p2 wr (.slice a2 rb.length c2) (rb))) (fun i _ => rl.length - (intOf i).toNat)
  case atStart => exact ⟨0, Nat.zero_le _, rfl, OnlyAt.refl _ _, BLK.out, by simpa [Hid, zipTo_zero] using O0.out, O2.out⟩
  case round =>
    obtain ⟨j, hj, rfl, hon, hbk, hme, hot⟩ := hrel
    have q0 : wr.cell? ⟨b, o, none⟩ = some (.slice a0 rl.length c0) := by rw [cell_at_block hbk.out]; exact HC0.out
    by_cases hlt : j < rl.length
    · have hlq : j < rl.length := hlt
      obtain ⟨g', o', c', hv, hps, hc, hf, hI, hset⟩ := own_int_set hme.out j (by rw [zipTo_length _ _ _ _ (by omega) (by omega)]; omega)
      rw [zipTo_length _ _ _ _ (by omega) (by omega)] at hv
      simp only [Value.slice.injEq] at hv
      obtain ⟨rfl, -, rfl⟩ := hv
      rw [zipTo_get _ _ _ _ hlt (by omega)] at hc hI
      have gA := GR.out.get j hlt
      have hz := Lib.hid (zipTo_succ (fun a _ => a * k % p) rl rl j hlt hlq)
      have HSET := Lib.hid hset
      have HPS := Lib.hid hps
      clear hset hps
      generalize hA : rl[j] = A at *
      clear hA
      have hm := small_mul gA gA hp hk0 hk
      rw [Int.mul_comm] at hm
      have hw1 : IntKind.i64.wrap (A * k) = A * k := i64_in _ (by omega)
      have hT : (A * k).tmod p = A * k % p := Int.tmod_eq_emod_of_nonneg (by omega)
      have hE0 := Int.emod_nonneg (A * k) hp1
      have hE1 := Int.emod_lt_of_pos (A * k) (show 0 < p by omega)
      have hw2 : IntKind.i64.wrap (A * k % p) = A * k % p := i64_in _ (by omega)
      have hN := HSET.out (A * k % p) ⟨by omega, by omega⟩
      rw [hz.out] at hN
      have HN := Lib.hid hN
      clear hN
      have hjr : (j : Int) < rl.length := by omega
      go_wp2_with fail
      refine wp_region_noPanic (wp_region_el (fun w' => w'.cell? ⟨b, o, none⟩ = some (.slice (some ⟨g', o', none⟩) rl.length c0) ∧ w'.cell? ⟨g', o' + j, none⟩ = some (.int .i64 A)) [(0, 0), (1, 0), (2, 0), (3, 0), (4, 0), (5, 0), (6, 0), (7, 0), (8, 0), (9, 0), (10, 0), (11, 0), (12, 0), (13, 0), (14, 0), (15, 0), (16, 0), (17, 2)] (by kernel_rfl) (by kernel_rfl) (by kernel_rfl) rfl ?_ (fun _ _ _ _ _ h => h) ?_)
      · exact ⟨q0, hc⟩
      (repeat (first | (apply el_skip rfl (by rfl); try simp only [Act.put, List.setIfInBounds_toArray, List.set_cons_zero, List.set_cons_succ]) | (apply el_float rfl (by rfl); (· (intro w' hS; go_simp <;> with_reducible rfl)); (try simp only [Act.put, List.setIfInBounds_toArray, List.set_cons_zero, List.set_cons_succ]))))
      refine el_last rfl (by rfl) (fun K hK => ?_)
      go_wp2_with fail
      refine el_nil (NoPanic.normal ?_)
      go_wp2_with fail
      go_roundw
      case rel =>
        have hg : g' ∈ p0 := by rw [HPS.out]; simp
        have hgb : g' ≠ b := fun h => hn0 (h ▸ hg)
        have hgo : ∀ z, z ∈ p2 → z ∉ [g'] := fun z hz hz2 => by obtain rfl : z = g' := (by simpa using hz2); exact hd z hg hz
        have hst := (OnlyAt.refl [g'] wr.drew).setCell (p := ⟨g', o' + j, none⟩) (by simp) (.int .i64 (A * k % p))
        refine ⟨j + 1, by omega, by go_num, ?_, ?_, ?_, ?_⟩
        · exact (hon.out.drewN 1).trans (hst.mono (fun z hz => by obtain rfl : z = g' := (by simpa using hz); simp [hg]))
        · exact (hst.block b (by simp; exact fun h => hgb h.symm)).trans hbk.out
        · exact ownSl_heap HN.out rfl
        · exact ownSl_only (ownSl_heap (w' := wr.drew) hot.out rfl) hst hgo
      case measure => simp [intOf]; omega
    · obtain rfl : j = rl.length := by omega
      have ON := hon
      have BK := hbk
      have K0 := hme
      have K2 := hot
      clear hon hbk hme hot
      have q2 : wr.cell? ⟨b, o + 1, none⟩ = some (.int .i64 rr) := by rw [cell_at_block BK.out]; exact HC1.out
      have f2 : wr.frozen? ⟨b, o + 1, none⟩ = false := free_at_block BK.out
      have hm := small_mul gr1 gr1 hp hk0 hk
      rw [Int.mul_comm] at hm
      have hw1 : IntKind.i64.wrap (rr * k) = rr * k := i64_in _ (by omega)
      have hT : (rr * k).tmod p = rr * k % p := Int.tmod_eq_emod_of_nonneg (by omega)
      have hE0 := Int.emod_nonneg (rr * k) hp1
      have hE1 := Int.emod_lt_of_pos (rr * k) (show 0 < p by omega)
      have hw2 : IntKind.i64.wrap (rr * k % p) = rr * k % p := i64_in _ (by omega)
      go_wp2_with fail
      have hst : OnlyAt [b] wr (wr.setCell ⟨b, o + 1, none⟩ (.int .i64 (rr * k % p))) := ((OnlyAt.refl [b] wr).setCell (p := ⟨b, o + 1, none⟩) (by simp) (.int .i64 (rr * k % p)))
      have BK' : Hid ((wr.setCell ⟨b, o + 1, none⟩ (.int .i64 (rr * k % p))).heap[b]? = some (.cells (cur.setIfInBounds (o + 1) (.int .i64 (rr * k % p))) e (0, 0))) := heap_setCell_at _ _ _ _ _ _ _ BK.out
      have ON' : Hid (OnlyAt (b :: (p0 ++ p2)) w (wr.setCell ⟨b, o + 1, none⟩ (.int .i64 (rr * k % p)))) := ON.out.trans (hst.mono (fun z hz => by obtain rfl : z = b := (by simpa using hz); simp))
      have K0' := Lib.hid (ownSl_only K0.out hst (fun z hz hz2 => by obtain rfl : z = b := (by simpa using hz2); exact hn0 hz))
      have K2' := Lib.hid (ownSl_only K2.out hst (fun z hz hz2 => by obtain rfl : z = b := (by simpa using hz2); exact hn2 hz))
      clear BK ON K0 K2 hst q2 f2
      have BK := BK'
      have ON := ON'
      have K0 := K0'
      have K2 := K2'
      clear BK' ON' K0' K2'
      generalize hWR : (wr.setCell ⟨b, o + 1, none⟩ (.int .i64 (rr * k % p))) = WR at *
      clear hWR
      go_wp2_with fail
      go_loopw [7] (fun i wr => ∃ j : Nat, j ≤ rb.length ∧ i = .int .i64 j ∧ Hid (OnlyAt (b :: (p0 ++ p2)) w wr) ∧ Hid (wr.heap[b]? = some (.cells (cur.setIfInBounds (o + 1) (.int .i64 (rr * k % p))) e (0, 0))) ∧ Hid (OwnSl p2 wr (.slice a2 rb.length c2) (zipTo (fun a _ => a * k % p) rb rb j)) ∧ Hid (OwnSl p0 wr (.slice a0 rl.length c0) (zipTo (fun a _ => a * k % p) rl rl rl.length))) (fun i _ => rb.length - (intOf i).toNat)
      case atStart => exact ⟨0, Nat.zero_le _, rfl, ON.out, BK.out, by simpa [Hid, zipTo_zero] using K2.out, K0.out⟩
      case round =>
        obtain ⟨j, hj, rfl, hon, hbk, hme, hot⟩ := hrel
        have q0 : wr.cell? ⟨b, o + 2, none⟩ = some (.slice a2 rb.length c2) := by rw [cell_at_block hbk.out]; rw [Array.getElem?_setIfInBounds_ne (by omega)]; exact HC2.out
        by_cases hlt : j < rb.length
        · have hlq : j < rb.length := hlt
          obtain ⟨g', o', c', hv, hps, hc, hf, hI, hset⟩ := own_int_set hme.out j (by rw [zipTo_length _ _ _ _ (by omega) (by omega)]; omega)
          rw [zipTo_length _ _ _ _ (by omega) (by omega)] at hv
          simp only [Value.slice.injEq] at hv
          obtain ⟨rfl, -, rfl⟩ := hv
          rw [zipTo_get _ _ _ _ hlt (by omega)] at hc hI
          have gA := GR2.out.get j hlt
          have hz := Lib.hid (zipTo_succ (fun a _ => a * k % p) rb rb j hlt hlq)
          have HSET := Lib.hid hset
          have HPS := Lib.hid hps
          clear hset hps
          generalize hA : rb[j] = A at *
          clear hA
          have hm := small_mul gA gA hp hk0 hk
          rw [Int.mul_comm] at hm
          have hw1 : IntKind.i64.wrap (A * k) = A * k := i64_in _ (by omega)
          have hT : (A * k).tmod p = A * k % p := Int.tmod_eq_emod_of_nonneg (by omega)
          have hE0 := Int.emod_nonneg (A * k) hp1
          have hE1 := Int.emod_lt_of_pos (A * k) (show 0 < p by omega)
          have hw2 : IntKind.i64.wrap (A * k % p) = A * k % p := i64_in _ (by omega)
          have hN := HSET.out (A * k % p) ⟨by omega, by omega⟩
          rw [hz.out] at hN
          have HN := Lib.hid hN
          clear hN
          have hjr : (j : Int) < rb.length := by omega
          go_wp2_with fail
          refine wp_region_noPanic (wp_region_el (fun w' => w'.cell? ⟨b, o + 2, none⟩ = some (.slice (some ⟨g', o', none⟩) rb.length c2) ∧ w'.cell? ⟨g', o' + j, none⟩ = some (.int .i64 A)) [(0, 0), (1, 0), (2, 0), (3, 0), (4, 0), (5, 0), (6, 0), (7, 0), (8, 0), (9, 0), (10, 0), (11, 0), (12, 0), (13, 0), (14, 0), (15, 0), (16, 0), (17, 2)] (by kernel_rfl) (by kernel_rfl) (by kernel_rfl) rfl ?_ (fun _ _ _ _ _ h => h) ?_)
          · exact ⟨q0, hc⟩
          (repeat (first | (apply el_skip rfl (by rfl); try simp only [Act.put, List.setIfInBounds_toArray, List.set_cons_zero, List.set_cons_succ]) | (apply el_float rfl (by rfl); (· (intro w' hS; go_simp <;> with_reducible rfl)); (try simp only [Act.put, List.setIfInBounds_toArray, List.set_cons_zero, List.set_cons_succ]))))
          refine el_last rfl (by rfl) (fun K hK => ?_)
          go_wp2_with fail
          refine el_nil (NoPanic.normal ?_)
          go_wp2_with fail
          go_roundw
          case rel =>
            have hg : g' ∈ p2 := by rw [HPS.out]; simp
            have hgb : g' ≠ b := fun h => hn2 (h ▸ hg)
            have hgo : ∀ z, z ∈ p0 → z ∉ [g'] := fun z hz hz2 => by obtain rfl : z = g' := (by simpa using hz2); exact hd z hz hg
            have hst := (OnlyAt.refl [g'] wr.drew).setCell (p := ⟨g', o' + j, none⟩) (by simp) (.int .i64 (A * k % p))
            refine ⟨j + 1, by omega, by go_num, ?_, ?_, ?_, ?_⟩
            · exact (hon.out.drewN 1).trans (hst.mono (fun z hz => by obtain rfl : z = g' := (by simpa using hz); simp [hg]))
            · exact (hst.block b (by simp; exact fun h => hgb h.symm)).trans hbk.out
            · exact ownSl_heap HN.out rfl
            · exact ownSl_only (ownSl_heap (w' := wr.drew) hot.out rfl) hst hgo
          case measure => simp [intOf]; omega
        · obtain rfl : j = rb.length := by omega
          go_wp2_with fail
          refine bodyPost_end (v := .tuple #[]) (by simp [results, Tryz.results34, go_sem]) rfl ⟨rfl, ⟨hbk.out, ?_, ?_, ?_, ?_, ?_, hn0, hn2, hd⟩, hon.out⟩
          · rw [Array.getElem?_setIfInBounds_ne (by omega)]; exact HC0.out
          · rw [Array.getElem?_setIfInBounds_self_of_lt ob]
          · rw [Array.getElem?_setIfInBounds_ne (by omega)]; exact HC2.out
          · have h := hot.out
            rw [zipTo_all _ _ _ (Nat.le_refl _)] at h
            exact h
          · have h := hme.out
            rw [zipTo_all _ _ _ (Nat.le_refl _)] at h
            exact h

end Go.Proofs.YthceklaoikeokaaGreatDoor
