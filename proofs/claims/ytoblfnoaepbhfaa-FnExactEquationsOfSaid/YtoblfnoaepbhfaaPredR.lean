/-
  CONTRACTS: slices.IndexFunc on rows; the first row 0 = r of the program.
-/
import Derived.Test.YtoblfnoaepbhfaaRowD
import Derived.Test.YtoblfnoaepbhfaaRref
namespace Go.Proofs.Ytoblfnoaepbhfaa
open Go.RowKit Go.Shelf
open Rep (Rd Own sz)
set_option linter.unusedSimpArgs false
set_option linter.unusedVariables false

def PredR (g : Nat) (cb : Array Value) (w : World) (l : List RowT) (q : RowT → Bool) : Prop :=
  ∀ (W : World) (x : RowT) (u0 u1 : Value), Below w.heap.size w W → Rd W [u0, u1] x → x ∈ l → Calls Try.prog g (#[.agg #[u0, u1]] ++ cb) W fun e w' => e = .returned (.bool (q x)) ∧ Below W.heap.size W w'
set_option maxRecDepth 100000 in
set_option maxHeartbeats 1000000 in
theorem indexRows_c (l : List RowT) (v : Value) (g : Nat) (cb : Array Value) (q : RowT → Bool) (w : World) (r : Rd w [v] l)
    (eg : ∀ args w, (callFunc g args).run Try.prog w = .ok (.enter g args) w) (hby : PredR g cb w l q) :
    Calls Try.prog 134 #[v, .func (.func g) #[] cb] w fun e w' => e = .returned (.int .i64 (firstI q l)) ∧ Below w.heap.size w w' := by
  obtain ⟨a, c, rfl, h⟩ := rd_list r
  clear r
  have hb := (rdSl_len h).2
  unfold maxLen at hb
  generalize hn : l.length = n at *
  have HN := Lib.hid hn
  have HH := Lib.hid h
  have HBY := Lib.hid hby
  clear hn h hby
  go_enter Try.func134, Try.ntmps134
  go_wp2_with fail
  go_loopw [8] (fun i wr => ∃ k : Nat, k ≤ n ∧ i = .int .i64 k ∧ Hid (Below w.heap.size w wr) ∧ Hid (∀ j (hj : j < l.length), j < k → q l[j] = false)) (fun i _ => n - (intOf i).toNat)
  case atStart => exact ⟨0, Nat.zero_le _, rfl, Below.refl _ _, fun j _ hj => absurd hj (Nat.not_lt_zero _)⟩
  case round =>
    obtain ⟨k, hk, rfl, hbl, hr⟩ := hrel
    by_cases hlt : k < n
    · have k1 : k < l.length := by rw [HN.out]; exact hlt
      obtain ⟨b, o, u0, u1, rfl, q0, q1, hx⟩ := rdSl_two rfl (rdSl_mono hbl.out HH.out) k k1
      have HX := Lib.hid hx
      clear hx
      go_wp2_with fail
      go_at_fn g
      refine (HBY.out _ l[k] _ _ hbl.out HX.out (List.getElem_mem k1)).mono ?_
      rintro e w1 ⟨rfl, hb1⟩
      cases hq : q l[k] with
      | true =>
        have HQ := Lib.hid hq
        clear hq
        go_wp2_with fail
        go_ret
        exact ⟨ret_int (firstI_at k1 (fun j hj h => hr.out j hj h) HQ.out).symm, hbl.out.trans (hb1.mono hbl.out.size)⟩
      | false =>
        have HQ := Lib.hid hq
        clear hq
        go_wp2_with fail
        go_roundw
        case rel =>
          refine ⟨k + 1, by omega, by go_num, hbl.out.trans (hb1.mono hbl.out.size), ?_⟩
          intro j hj hjk
          rcases Nat.lt_or_ge j k with h | h
          · exact hr.out j hj h
          · obtain rfl : j = k := by omega
            exact HQ.out
        case measure => simp [intOf]; omega
    · obtain rfl : k = n := by omega
      go_wp2_with fail
      go_ret
      refine ⟨ret_int ?_, hbl.out⟩
      rw [firstI_no (fun j hj _ => hr.out j hj (by have := HN.out; omega))]
theorem rdSl_drop {α : Type} [Rep α] {w : World} {b o c : Nat} {l : List α} (h : RdSl w (some ⟨b, o, none⟩) c l) (d : Nat) (hd : d ≤ l.length) : RdSl w (some ⟨b, o + d * sz α, none⟩) (c - d) (l.drop d) := by
  refine ⟨by simp; have := h.1; omega, by have := h.2.1; omega, fun i hi => ?_⟩
  have hi' : d + i < l.length := by simp at hi; omega
  obtain ⟨b', o', vs, e, hr, hc⟩ := h.2.2 (d + i) hi'
  simp only [Option.some.injEq, Addr.mk.injEq, and_true] at e
  obtain ⟨rfl, rfl⟩ := e
  refine ⟨b, _, vs, rfl, by simpa using hr, ?_⟩
  rw [show o + d * sz α + i * sz α = o + (d + i) * sz α by rw [Nat.add_mul]; omega]
  exact hc
set_option maxRecDepth 100000 in
set_option maxHeartbeats 1000000 in
theorem reduced1_by (w : World) (b u : Nat) (l : List RowT) (hc : w.cell? ⟨b, 0, none⟩ = some (.int .i64 u)) (hl : ∀ r, r ∈ l → u < r.1.length ∧ r.1.length ≤ 1000000) : PredR 135 #[.pointer (some ⟨b, 0, none⟩)] w l (fun r => r.1.getD u 0 != 0) := by
  intro W x u0 u1 hb hr hm
  obtain ⟨hu, hx6⟩ := hl x hm
  have hcW := cellL hb hc
  show Calls Try.prog 135 #[_, .pointer (some ⟨b, 0, none⟩)] W _
  obtain ⟨xl, xb⟩ := x
  have z := rd_cons rfl hr
  obtain ⟨a, c, rfl, _⟩ := rd_list z.1
  obtain ⟨a', c', rfl, _⟩ := rd_list z.2
  simp only at hu hx6
  have hs := (St.start W).alloc #[.slice a xl.length c, .slice a' xb.length c'] 160 rfl
  obtain ⟨b2, o2, rfl, hc2, _⟩ := rd_int_at z.1 u hu
  have hc3 := cellL hs.bel hc2
  have hc4 := cellL hs.bel hcW
  have e1 : xl.getD u 0 = xl[u] := by simp [List.getD, hu]
  have E1 := Lib.hid e1
  clear e1 z hr hm
  have hul : (u : Int) < xl.length := by omega
  generalize hA : xl[u] = A at *
  have HA := Lib.hid hA
  clear hA
  go_enter Try.func135, Try.ntmps135
  go_wp2_with fail
  first
    | (go_quiet (fail); go_wp2_with fail; go_ret; exact ⟨ret_bool (by first | rw [HA.out] | (show _ = (xl.getD u 0 != 0); rw [E1.out])), hs.bel.trans ((drewN_below _ _).mono hs.bel.size)⟩)
    | (go_ret; exact ⟨ret_bool (by first | rw [HA.out] | (show _ = (xl.getD u 0 != 0); rw [E1.out])), hs.bel⟩)
set_option maxRecDepth 100000 in
set_option maxHeartbeats 1000000 in
theorem contradiction1_by (w : World) (l : List RowT) (hl : ∀ r, r ∈ l → 0 < r.1.length ∧ r.1.length ≤ 1000000) : PredR 139 #[] w l contrQ := by
  intro W x u0 u1 hb hr hm
  obtain ⟨hu, hx6⟩ := hl x hm
  show Calls Try.prog 139 #[_] W _
  have z := rd_cons rfl hr
  obtain ⟨a, c, rfl, _⟩ := rd_list z.1
  obtain ⟨a', c', rfl, _⟩ := rd_list z.2
  have HR := Lib.hid hr
  clear z hr hm
  have hs := (St.start W).alloc #[.slice a x.1.length c, .slice a' x.2.length c'] 160 rfl
  go_enter Try.func139, Try.ntmps139
  go_wp2_with fail
  refine (isNone_c x _ _ _ (Rd.mono HR.out hs.bel) hu hx6).mono ?_
  rintro e w1 ⟨rfl, hb1⟩
  have hs1 := hs.step hb1
  have k0 := hs1.cellAt 0 rfl 0 rfl
  have k1 := hs1.cellAt 0 rfl 1 rfl
  cases hn : noneR x.1 with
  | false =>
    have HN := Lib.hid hn
    clear hn
    go_wp2_with fail
    go_ret
    exact ⟨ret_bool (by simp [contrQ, HN.out]), hs1.bel⟩
  | true =>
    have HN := Lib.hid hn
    clear hn
    go_wp2_with fail
    refine (right_c x _ _ _ (Rd.mono HR.out hs1.bel) hu hx6).mono ?_
    rintro e w2 ⟨rfl, hb2⟩
    go_wp2_with fail
    go_ret
    exact ⟨ret_bool (by simp [contrQ, HN.out]), (hs1.step hb2).bel⟩
set_option maxRecDepth 100000 in
set_option maxHeartbeats 1000000 in
theorem contradiction_c (l : List RowT) (v : Value) (w : World) (r : Rd w [v] l) (hl : ∀ r, r ∈ l → 0 < r.1.length ∧ r.1.length ≤ 1000000) :
    Calls Try.prog 99 #[v] w fun e w' => ∃ (a0 : Option Addr) (n0 c0 : Nat) (a1 : Option Addr) (n1 c1 : Nat), e = .returned (.tuple #[.agg #[.slice a0 n0 c0, .slice a1 n1 c1], .bool (decide (0 ≤ firstI contrQ l))]) ∧ Below w.heap.size w w' ∧ ∀ i (h : i < l.length), firstI contrQ l = i → Rd w' [.slice a0 n0 c0, .slice a1 n1 c1] l[i] := by
  obtain ⟨a, c, rfl, h⟩ := rd_list r
  have hb := (rdSl_len h).2
  unfold maxLen at hb
  have HR := Lib.hid r
  clear r h
  have eg : ∀ args w, (callFunc 139 args).run Try.prog w = .ok (.enter 139 args) w := enters_of Try.func139 (by kernel_rfl) rfl
  have hs := (St.start w).alloc #[.slice none 0 0, .slice none 0 0] 160 rfl
  go_enter Try.func99, Try.ntmps99
  go_wp2_with fail
  refine (indexRows_c l _ 139 _ _ _ (Rd.mono HR.out hs.bel) eg (contradiction1_by _ l hl)).mono ?_
  rintro e w1 ⟨he0, hb1⟩
  have hs1 := hs.step hb1
  have k0 := hs1.cellAt 0 rfl 0 rfl
  have k1 := hs1.cellAt 0 rfl 1 rfl
  have g0 := hs1.freeAt 0 rfl 0
  have g1 := hs1.freeAt 0 rfl 1
  have hlo := firstI_lo contrQ l
  by_cases hf : firstI contrQ l < 0
  · have HF := Lib.hid hf
    have hd : Hid (decide (0 ≤ firstI contrQ l) = false) := Lib.hid (by simpa using hf)
    have x1 := hs1.set (p := []) (by simp) 0 (.slice none 0 0)
    have x2 := x1.set (p := []) (by simp) 1 (.slice none 0 0)
    have hm1 : firstI contrQ l = -1 := by omega
    rw [hm1] at he0
    subst he0
    clear hf hm1
    go_wp2_with fail
    refine bodyPost_ret (v := .tuple #[.agg #[.slice none 0 0, .slice none 0 0], .bool false]) (by simp [results, Try.results99, go_sem, k0, k1, g0, g1]) rfl ⟨none, 0, 0, none, 0, 0, by rw [hd.out], x2.bel, fun i hi he => ?_⟩
    have := HF.out
    omega
  · have hd : Hid (decide (0 ≤ firstI contrQ l) = true) := Lib.hid (by simpa using hf)
    obtain ⟨i, hi, hi2⟩ : ∃ i : Nat, firstI contrQ l = i ∧ i < l.length := by
      unfold firstI at hf ⊢
      cases h : l.findIdx? contrQ with
      | none => rw [h] at hf; exact absurd (by decide : (-1 : Int) < 0) hf
      | some i => exact ⟨i, rfl, find_lt h⟩
    have HI := Lib.hid hi
    rw [hi] at he0
    subst he0
    obtain ⟨b, o, u0, u1, rfl, f0, f1, hx⟩ := rd_two_at rfl (Rd.mono HR.out hs1.bel) i hi2
    have z := rd_cons rfl hx
    obtain ⟨a0, c0, rfl, _⟩ := rd_list z.1
    obtain ⟨a1, c1, rfl, _⟩ := rd_list z.2
    have HX := Lib.hid hx
    have hil : (i : Int) < l.length := by omega
    have x1 := hs1.set (p := []) (by simp) 0 (.slice a0 l[i].1.length c0)
    have x2 := x1.set (p := []) (by simp) 1 (.slice a1 l[i].2.length c1)
    clear hf hi z hx hlo
    have HR0 := Lib.hid (rd_two_at rfl HR.out i hi2)
    go_wp2_with fail
    refine bodyPost_ret (v := .tuple #[.agg #[.slice a0 l[i].1.length c0, .slice a1 l[i].2.length c1], .bool true]) (by simp [results, Try.results99, go_sem, k0, k1, g0, g1]) rfl ⟨_, _, _, _, _, _, by rw [hd.out], x2.bel, fun i' hi' he => ?_⟩
    obtain rfl : i = i' := by have := HI.out; omega
    obtain ⟨b', o', y0, y1, e', g0', g1', hy⟩ := HR0.out
    simp only [Option.some.injEq, Addr.mk.injEq, and_true] at e'
    obtain ⟨rfl, rfl⟩ := e'
    have t0 := cellL hs1.bel g0'
    have t1 := cellL hs1.bel g1'
    rw [f0] at t0
    rw [f1] at t1
    simp only [Option.some.injEq] at t0 t1
    subst t0 t1
    exact Rd.mono hy x2.bel

end Go.Proofs.Ytoblfnoaepbhfaa
