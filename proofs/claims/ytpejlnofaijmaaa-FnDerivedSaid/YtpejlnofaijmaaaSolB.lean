/-
  SEVERAL TEXTS IN ONE.
-/
import Derived.Test.YtpejlnofaijmaaaSysB
import Derived.Test.YtpejlnofaijmaaaReduced
import Derived.Test.YtpejlnofaijmaaaRowB
import Derived.Test.YtpejlnofaijmaaaReduceS
import Derived.Test.YtpejlnofaijmaaaRowsB
import Derived.Test.YtpejlnofaijmaaaKinds
import Derived.Test.YtpejlnofaijmaaaBase

/-
  CONTRACTS: RankOfSystem, CountAnswers. (Printed by wip/gensys.py.)
-/
namespace Go.Proofs.Ytpejlnofaijmaaa
open Go.RowKit Go.Shelf Go.IntWalk
open Rep (Rd Own sz)
set_option linter.unusedSimpArgs false
set_option linter.unusedVariables false

set_option maxRecDepth 100000 in
set_option maxHeartbeats 1000000 in
theorem RankOfSystem_c (x : Sys) (v0 v1 v2 : Value) (w : World) (hx : Rd w [v0, v1, v2] x) :
    Calls Try.prog 27 #[.agg #[v0, v1, v2]] w fun e w' => e = .returned (.tuple #[.int .i64 (rankF x).1, .int .i64 (rankF x).2]) ∧ Below w.heap.size w w' := by
  obtain ⟨p, u, l⟩ := x
  have HX := Lib.hid hx
  have z := rd_cons rfl hx
  obtain ⟨rfl, _⟩ := rd_i1 z.1
  have z2 := rd_cons rfl z.2
  obtain ⟨rfl, _⟩ := rd_i1 z2.1
  obtain ⟨a, c, rfl, _⟩ := rd_list z2.2
  clear hx z z2
  have hs := (St.start w).alloc #[.int .i64 p, .int .i64 u, .slice a l.length c] 26 rfl
  have k0 := hs.cellAt 0 rfl 0 rfl
  have k1 := hs.cellAt 0 rfl 1 rfl
  have k2 := hs.cellAt 0 rfl 2 rfl
  go_enter Try.func27, Try.ntmps27
  go_wp2_with fail
  refine (ValidSystem_c (p, u, l) _ _ _ _ (Rd.mono HX.out hs.bel)).mono ?_
  rintro e w1 ⟨rfl, hb1⟩
  have hs1 := hs.step hb1
  clear k0 k1 k2
  have k0 := hs1.cellAt 0 rfl 0 rfl
  have k1 := hs1.cellAt 0 rfl 1 rfl
  have k2 := hs1.cellAt 0 rfl 2 rfl
  cases hok : validS (p, u, l) with
  | false =>
    have HK := Lib.hid hok
    clear hok
    go_wp2_with fail
    refine bodyPost_ret (v := .tuple #[.int .i64 0, .int .i64 1]) (by simp [results, Try.results27, go_sem]) rfl ⟨?_, hs1.bel⟩
    unfold rankF; rw [HK.out]; rfl
  | true =>
    have HK := Lib.hid hok
    have KO := Lib.hid (elim_ok hok)
    clear hok
    go_wp2_with fail
    refine (reduced_c (p, u, l) _ _ _ _ (Rd.mono HX.out hs1.bel) HK.out).mono ?_
    rintro e w2 ⟨vr, vb, rfl, rr, rb, hb2⟩
    obtain ⟨ar, cr, rfl, _⟩ := rd_list rr
    obtain ⟨ab, cb, rfl, _⟩ := rd_list rb
    have RR := Lib.hid rr
    have RB := Lib.hid rb
    have hs2 := hs1.step hb2
    clear rr rb
    clear k0 k1 k2
    have k0 := hs2.cellAt 0 rfl 0 rfl
    have k1 := hs2.cellAt 0 rfl 1 rfl
    have k2 := hs2.cellAt 0 rfl 2 rfl
    go_wp2_with fail
    refine (contradiction_c _ _ _ RR.out KO.out.contr).mono ?_
    rintro e w3 ⟨o0, n0, d0, o1, n1, d1, rfl, hb3, hat⟩
    have HAT := Lib.hid hat
    rw [contrI KO.out]
    have hs3 := hs2.step hb3
    clear hat
    clear k0 k1 k2
    have hs5 := hs3.alloc #[.slice o0 n0 d0, .slice o1 n1 d1] 53 rfl
    have k0 := hs5.cellAt 0 rfl 0 rfl
    have k1 := hs5.cellAt 0 rfl 1 rfl
    have k2 := hs5.cellAt 0 rfl 2 rfl
    have m2 := hs5.cellAt 1 rfl 0 rfl
    have m3 := hs5.cellAt 1 rfl 1 rfl
    by_cases hf : 0 ≤ falseS (p, u, l)
    · rw [decide_eq_true hf]
      have HF := Lib.hid hf
      clear hf
      go_wp2_with fail
      refine bodyPost_ret (v := .tuple #[.int .i64 0, .int .i64 4]) (by simp [results, Try.results27, go_sem]) rfl ⟨?_, hs5.bel⟩
      unfold rankF; rw [if_pos HK.out, if_pos HF.out]
    · rw [decide_eq_false hf]
      have HF := Lib.hid hf
      have HFL := Lib.hid KO.out.flat
      clear hf
      go_wp2_with fail
      refine bodyPost_ret (v := .tuple #[.int .i64 (elimI (p, u, l)).2.length, .int .i64 0]) (by simp [results, Try.results27, go_sem]) rfl ⟨?_, hs5.bel⟩
      unfold rankF; rw [if_pos HK.out, if_neg (by have := HF.out; omega), HFL.out]

end Go.Proofs.Ytpejlnofaijmaaa

/-
  CONTRACTS: CountAnswers. (Printed by wip/gensys.py.)
-/
namespace Go.Proofs.Ytpejlnofaijmaaa
open Go.RowKit Go.Shelf Go.IntWalk
open Rep (Rd Own sz)
set_option linter.unusedSimpArgs false
set_option linter.unusedVariables false

theorem ElimOk.pow {s : Sys} (h : ElimOk s) : 0 ≤ s.2.1 - ((elimS s).2.length : Int) ∧ s.2.1 - ((elimS s).2.length : Int) ≤ 12 ∧ s.1 ^ (s.2.1 - ((elimS s).2.length : Int)).toNat ≤ 1000000000 := by
  have h1 := h.leU
  have h2 := h.hu
  have h3 : (s.2.1 - ((elimS s).2.length : Int)).toNat ≤ 12 := by omega
  refine ⟨by omega, by omega, ?_⟩
  have h4 : s.1 ^ (s.2.1 - ((elimS s).2.length : Int)).toNat ≤ s.1 ^ 12 := pow_le_of (by have := h.hp; omega) h3
  refine Int.le_trans h4 ?_
  rcases h.hp with hp | hp <;> rw [hp] <;> decide
set_option maxRecDepth 100000 in
set_option maxHeartbeats 1000000 in
theorem CountAnswers_c (x : Sys) (v0 v1 v2 : Value) (w : World) (hx : Rd w [v0, v1, v2] x) :
    Calls Try.prog 11 #[.agg #[v0, v1, v2]] w fun e w' => e = .returned (.tuple #[.int .i64 (countF x).1, .int .i64 (countF x).2]) ∧ Below w.heap.size w w' := by
  obtain ⟨p, u, l⟩ := x
  have HX := Lib.hid hx
  have z := rd_cons rfl hx
  obtain ⟨rfl, _⟩ := rd_i1 z.1
  have z2 := rd_cons rfl z.2
  obtain ⟨rfl, _⟩ := rd_i1 z2.1
  obtain ⟨a, c, rfl, _⟩ := rd_list z2.2
  clear hx z z2
  have hs := (St.start w).alloc #[.int .i64 p, .int .i64 u, .slice a l.length c] 26 rfl
  have k0 := hs.cellAt 0 rfl 0 rfl
  have k1 := hs.cellAt 0 rfl 1 rfl
  have k2 := hs.cellAt 0 rfl 2 rfl
  go_enter Try.func11, Try.ntmps11
  go_wp2_with fail
  refine (RankOfSystem_c (p, u, l) _ _ _ _ (Rd.mono HX.out hs.bel)).mono ?_
  rintro e w1 ⟨rfl, hb1⟩
  have hs1 := hs.step hb1
  clear k0 k1 k2
  have k0 := hs1.cellAt 0 rfl 0 rfl
  have k1 := hs1.cellAt 0 rfl 1 rfl
  have k2 := hs1.cellAt 0 rfl 2 rfl
  cases hok : validS (p, u, l) with
  | false =>
    have HK := Lib.hid hok
    have hr : rankF (p, u, l) = (0, 1) := by unfold rankF; rw [hok]; rfl
    rw [hr]
    clear hok hr
    go_wp2_with fail
    refine bodyPost_ret (v := .tuple #[.int .i64 0, .int .i64 1]) (by simp [results, Try.results11, go_sem]) rfl ⟨?_, hs1.bel⟩
    unfold countF; rw [HK.out]; rfl
  | true =>
    have HK := Lib.hid hok
    have KO := Lib.hid (elim_ok hok)
    by_cases hf : 0 ≤ falseS (p, u, l)
    · have hr : rankF (p, u, l) = (0, 4) := by unfold rankF; rw [if_pos hok, if_pos hf]
      rw [hr]
      have HF := Lib.hid hf
      clear hok hr hf
      go_wp2_with fail
      refine bodyPost_ret (v := .tuple #[.int .i64 0, .int .i64 0]) (by simp [results, Try.results11, go_sem]) rfl ⟨?_, hs1.bel⟩
      unfold countF; rw [if_pos HK.out, if_pos HF.out]
    · have hr : rankF (p, u, l) = (((elimS (p, u, l)).2.length : Int), 0) := by unfold rankF; rw [if_pos hok, if_neg hf]
      rw [hr]
      have HF := Lib.hid hf
      clear hok hr hf
      have hpw := KO.out.pow
      have hp2 := KO.out.hp
      have hu2 := KO.out.hu
      simp only at hpw hp2 hu2
      generalize hR : (elimS (p, u, l)).2.length = RK at *
      have HR := Lib.hid hR
      clear hR
      have hpn : 2 ≤ p := by omega
      obtain ⟨hp5, hp6, hp7⟩ := hpw
      have HP7 := Lib.hid hp7
      clear hp7
      go_wp2_with (go_at_call 28; refine (power_c p (u - RK) _ (by omega) (by omega) (by omega) (Int.le_trans HP7.out (by decide))).mono ?_; rintro e w2 ⟨rfl, rfl⟩)
      refine bodyPost_ret (v := .tuple #[.int .i64 (p ^ (u - (RK : Int)).toNat), .int .i64 0]) (by simp [results, Try.results11, go_sem]) rfl ⟨?_, hs1.bel⟩
      unfold countF; rw [if_pos HK.out, if_neg (by have := HF.out; omega), HR.out]

end Go.Proofs.Ytpejlnofaijmaaa

/-
  CONTRACTS: RefuteSystem. (Printed by wip/gensys.py.)
-/
namespace Go.Proofs.Ytpejlnofaijmaaa
open Go.RowKit Go.Shelf Go.IntWalk
open Rep (Rd Own sz)
set_option linter.unusedSimpArgs false
set_option linter.unusedVariables false

theorem fresh_nil {α : Type} [Rep α] {lo : Nat} {w : World} (a : Option Addr) : Fresh lo w [.slice a 0 0] ([] : List α) :=
  ⟨[], ⟨_, rfl, .inl ⟨rfl, rfl, a, 0, rfl, Nat.zero_le _⟩⟩, by simp, by simp⟩
theorem row_by (a b : Option Addr) (n m c d : Nat) (w : World) : (Instr.field 53 (.agg #[.slice a n c, .slice b m d]) 1).run Try.prog w = .ok (.slice b m d) w := by kernel_rfl
theorem falseS_lt {s : Sys} (h : 0 ≤ falseS s) : (falseS s).toNat < (elimS s).1.length ∧ falseS s = (falseS s).toNat := ⟨(falseF_lt h).1, (falseF_lt h).2.1⟩
theorem elim_badI {s : Sys} (K : ElimOk s) (hf : 0 ≤ falseS s) : ∃ h : (falseS s).toNat < (elimI s).1.length, (elimI s).1[(falseS s).toNat] = flat (badS s) := by
  have h1 := (falseS_lt hf).1
  have hlt : (falseS s).toNat < (elimI s).1.length := by rw [K.flat]; simpa using h1
  refine ⟨hlt, ?_⟩
  have : (elimI s).1[(falseS s).toNat]? = some (flat (badS s)) := by
    rw [K.flat]
    unfold badS
    simp only [List.getElem?_map, List.getD, List.getElem?_eq_getElem h1, Option.map_some, Option.getD_some]
  rw [List.getElem?_eq_getElem hlt] at this
  simpa using this
theorem refuteF_small (x : Sys) : (refuteF x).1.length ≤ 1000000 := by
  unfold refuteF
  split
  · rename_i h
    have K := elim_ok h
    split
    · rename_i hf
      have := (K.bad hf).1.by_
      have := K.hl
      simp [scaleS, scaleL]; omega
    · simp
  · simp
theorem ownInts_nodup {ps : List Nat} {w : World} {v : Value} {l : List Int} (h : OwnSl ps w v l) : ps.Nodup := by
  rcases h with ⟨_, rfl, _⟩ | ⟨g, o, c, cur, e, pss, _, _, _, _, rfl, h5, h6⟩
  · simp
  · have hps : List.flatten pss = [] := by
      rw [List.flatten_eq_nil_iff]
      intro p hp
      obtain ⟨j, hj, rfl⟩ := List.mem_iff_getElem.1 hp
      obtain ⟨p', vs, hp', hO, _⟩ := h6 j (by omega)
      rw [List.getElem?_eq_getElem hj] at hp'
      cases hp'
      exact hO.1
    rw [hps]; simp

end Go.Proofs.Ytpejlnofaijmaaa

/-
  CONTRACTS: SolveSystem. (Printed by wip/gensys.py.)
-/
namespace Go.Proofs.Ytpejlnofaijmaaa
open Go.RowKit Go.Shelf Go.IntWalk
open Rep (Rd Own sz)
set_option linter.unusedSimpArgs false
set_option linter.unusedVariables false

theorem solveTo_length (rows : List SRow) (bs : List Int) (U : Nat) : ∀ j, (solveTo rows bs U j).length = U
  | 0 => by simp [solveTo]
  | j + 1 => by rw [solveTo, List.length_set]; exact solveTo_length rows bs U j
theorem solveF_small (x : Sys) : (solveF x).1.length ≤ 1000000 := by
  unfold solveF
  split
  · rename_i h
    have K := elim_ok h
    split
    · simp
    · have := K.hu
      rw [solveTo_length]; omega
  · simp
/-- A row that is done begins where it begins. -/
theorem elim_first {s : Sys} (K : ElimOk s) (j : Nat) (hj : j < (elimS s).2.length) (hr : j < (elimS s).1.length) : firstI (fun a => a != 0) (elimS s).1[j].1 = (elimS s).2[j] := by
  obtain ⟨b, hb, hbU⟩ := K.bs j hj
  have hlen := (K.good _ (List.getElem_mem hr)).len
  have hcol := K.rref.col j _ j _ (List.getElem?_eq_getElem hr) (List.getElem?_eq_getElem hj)
  have hlead := K.rref.lead j _ _ (List.getElem?_eq_getElem hr) (List.getElem?_eq_getElem hj)
  rw [hb] at hcol hlead ⊢
  rw [if_pos rfl, Int.toNat_natCast] at hcol
  have hbl : b < (elimS s).1[j].1.length := by omega
  refine firstI_at hbl (fun i hi hib => ?_) ?_
  · have := hlead i (by omega)
    simp only [List.getD, List.getElem?_eq_getElem hi, Option.getD_some] at this
    simp [this]
  · simp only [List.getD, List.getElem?_eq_getElem hbl, Option.getD_some] at hcol
    simp [hcol]
theorem elim_rowI {s : Sys} (K : ElimOk s) (j : Nat) (hj : j < (elimS s).1.length) (h : j < (elimI s).1.length) : (elimI s).1[j] = flat (elimS s).1[j] := by
  have : (elimI s).1[j]? = some (flat (elimS s).1[j]) := by
    rw [K.flat]
    simp only [List.getElem?_map, List.getElem?_eq_getElem hj, Option.map_some]
  rw [List.getElem?_eq_getElem h] at this
  simpa using this

end Go.Proofs.Ytpejlnofaijmaaa

/-
  CONTRACTS: ReduceSystem. (Printed by wip/gensys.py.)
-/
namespace Go.Proofs.Ytpejlnofaijmaaa
open Go.RowKit Go.Shelf Go.IntWalk
open Rep (Rd Own sz)
set_option linter.unusedSimpArgs false
set_option linter.unusedVariables false

def eqnOf (r : SRow) : Eqn := (r.1, r.2.1)
def redTo (rows : List SRow) (j : Nat) : List Eqn := (rows.take j).map eqnOf
theorem redTo_succ (rows : List SRow) (j : Nat) (h : j < rows.length) : redTo rows (j + 1) = redTo rows j ++ [eqnOf rows[j]] := by
  unfold redTo; rw [List.take_succ_eq_append_getElem h, List.map_append]; rfl
theorem redTo_length (rows : List SRow) (j : Nat) (h : j ≤ rows.length) : (redTo rows j).length = j := by simp [redTo]; omega
theorem rd_take {α : Type} [Rep α] {w : World} {a : Option Addr} {n c : Nat} {l : List α} (h : Rd w [.slice a n c] l) (m : Nat) (hm : m ≤ l.length) : Rd w [.slice a m c] (l.take m) := by
  obtain ⟨a', c', e, hr⟩ := rd_list h
  simp only [Value.slice.injEq] at e
  obtain ⟨rfl, -, rfl⟩ := e
  have := mk_rd (rdSl_take hr m)
  rw [List.length_take, Nat.min_eq_left hm] at this
  exact this
theorem reducedF_no {s : Sys} (h : ¬ 0 ≤ falseS s) : reducedF s = (s.1, s.2.1, redTo (elimS s).1 (elimS s).2.length) := by
  unfold reducedF; rw [if_neg h]; rfl
theorem reducedF_yes {s : Sys} (h : 0 ≤ falseS s) : reducedF s = (s.1, s.2.1, [(List.replicate s.2.1.toNat 0, 1)]) := by
  unfold reducedF; rw [if_pos h]
/-- One equation in a block of its own. -/
theorem own_eqn1 {w : World} {g c : Nat} {e : TypeId} {v : Value} {n : Int} {l : List Int} {ps : List Nat} (hb : w.heap[g]? = some (.cells #[v, .int .i64 n] e (0, 0))) (ho : OwnSl ps w v l) (hn : I64 n) (hc : 1 ≤ c) (hm : c ≤ maxLen) :
    OwnSl (g :: ps) w (.slice (some ⟨g, 0, none⟩) 1 c) [((l, n) : Eqn)] := by
  refine .inr ⟨g, 0, c, _, e, [ps], rfl, hc, hm, hb, by simp, rfl, fun i hi => ?_⟩
  obtain rfl : i = 0 := by simp at hi; omega
  refine ⟨ps, [v, .int .i64 n], rfl, by have h := mk_own (q := []) (x := l) (y := n) (w := w) (p := ps) ⟨v, rfl, ho⟩ ⟨rfl, rfl, hn⟩; rw [List.append_nil] at h; exact h, fun k hk => ?_⟩
  match k, hk with
  | 0, _ => simp
  | 1, _ => simp

end Go.Proofs.Ytpejlnofaijmaaa

/-
  CONTRACTS: ReduceSystem, the reference's side; both.
-/
namespace Go.Proofs.Ytpejlnofaijmaaa
open Go.RowKit Go.Shelf Go.IntWalk
open Rep (Rd Own sz)
set_option linter.unusedSimpArgs false
set_option linter.unusedVariables false

/-- The rows as they are owned, one by one. -/
theorem fresh_rows {lo : Nat} {w : World} {g n c : Nat} {R : List SRow} (h : Fresh lo w [.slice (some ⟨g, 0, none⟩) n c] R) :
    ∃ rss : List (List Nat), rss.length = R.length ∧ (List.flatten rss).Nodup ∧ (∀ k, k ∈ List.flatten rss → lo ≤ k ∧ k < w.heap.size) ∧
      ∀ i (hi : i < R.length), ∃ p p1 v0 v2, rss[i]? = some p ∧ (∀ k, k ∈ p1 → k ∈ p) ∧ p1.Nodup ∧ Own p1 w [v0] R[i].1 ∧ I64 R[i].2.1 ∧ w.cell? ⟨g, i * 3, none⟩ = some v0 ∧ w.cell? ⟨g, i * 3 + 1, none⟩ = some (.int .i64 R[i].2.1) ∧ w.cell? ⟨g, i * 3 + 2, none⟩ = some v2 := by
  obtain ⟨ps, ⟨v, e, ho⟩, hnd, hlo⟩ := h
  obtain rfl : .slice (some ⟨g, 0, none⟩) n c = v := by simpa using e
  have hlt := Rep.own_lt (α := List SRow) (ps := ps) (w := w) (vs := [.slice (some ⟨g, 0, none⟩) n c]) (x := R) ⟨_, rfl, ho⟩
  rcases ho with ⟨rfl, rfl, _⟩ | ⟨g', o', c', cur, e', pss, hv, _, _, hh, rfl, h5, h6⟩
  · exact ⟨[], rfl, by simp, by simp, fun i hi => absurd hi (Nat.not_lt_zero _)⟩
  · simp only [Value.slice.injEq, Option.some.injEq, Addr.mk.injEq, and_true] at hv
    obtain ⟨⟨rfl, rfl⟩, rfl, rfl⟩ := hv
    refine ⟨pss, h5, (List.nodup_cons.1 hnd).2, fun k hk => ⟨hlo k (List.mem_cons_of_mem _ hk), hlt k (List.mem_cons_of_mem _ hk)⟩, fun i hi => ?_⟩
    obtain ⟨p, vs, hp, hO, hc⟩ := h6 i hi
    have hl := Rep.rd_len (Rep.own_rd hO)
    match vs, hl with
    | [v0, v1, v2], _ =>
      obtain ⟨p1, q1, rfl, ho1, ho2⟩ := own_cons rfl hO
      obtain ⟨p2, q2, rfl, ho3, _⟩ := own_cons rfl ho2
      obtain ⟨_, e1, hI⟩ := ho3
      obtain rfl : v1 = .int .i64 R[i].2.1 := by simpa using e1
      have hpn : (p1 ++ (p2 ++ q2)).Nodup := by
        have h7 := (List.nodup_cons.1 hnd).2
        exact (List.pairwise_flatten.1 h7).1 _ (List.mem_of_getElem? hp)
      refine ⟨_, p1, v0, v2, hp, fun k hk => by simp [hk], (List.nodup_append.1 hpn).1, ho1, hI, ?_, ?_, ?_⟩
      · rw [cell_at_block hh]; have := hc 0 (by simp); simpa using this
      · rw [cell_at_block hh]; have := hc 1 (by simp); simpa using this
      · rw [cell_at_block hh]; have := hc 2 (by simp); simpa using this
theorem flat_nodup {rss pss : List (List Nat)} (h : (List.flatten rss).Nodup) (hs : ∀ (i : Nat) p, pss[i]? = some p → p.Nodup ∧ ∃ q, rss[i]? = some q ∧ ∀ k, k ∈ p → k ∈ q) : (List.flatten pss).Nodup := by
  refine nodup_of_disj (fun k p hp => (hs k p hp).1) (fun a b p q hab hp hq k hk hkq => ?_)
  obtain ⟨_, p', hp', hs1⟩ := hs a p hp
  obtain ⟨_, q', hq', hs2⟩ := hs b q hq
  have h2 := (List.pairwise_flatten.1 h).2
  rw [List.pairwise_iff_getElem] at h2
  obtain ⟨ha, ea⟩ := List.getElem?_eq_some_iff.1 hp'
  obtain ⟨hb, eb⟩ := List.getElem?_eq_some_iff.1 hq'
  rcases Nat.lt_or_gt_of_ne hab with h3 | h3
  · exact h2 a b ha hb h3 k (by rw [ea]; exact hs1 k hk) k (by rw [eb]; exact hs2 k hkq) rfl
  · exact h2 b a hb ha h3 k (by rw [eb]; exact hs2 k hkq) k (by rw [ea]; exact hs1 k hk) rfl
theorem accP_of_row {α : Type} [Rep α] {A : Nat → Prop} {e : TypeId} {w : World} {v : Value} {l : List α} {xs : List Value} {pss : List (List Nat)} (h : w.ownsRow 0 e (sz α) v l.length xs) (hp : pss.length = l.length)
    (hel : ∀ i (hi : i < l.length), ∃ p vs, pss[i]? = some p ∧ Own p w vs l[i] ∧ ∀ k, k < vs.length → xs[i * sz α + k]? = vs[k]?) (hn : (v.ownBlock.toList ++ List.flatten pss).Nodup) (hA : ∀ k, k ∈ v.ownBlock.toList ++ List.flatten pss → A k) : AccP A e w v l := by
  have ho : Own (v.ownBlock.toList ++ List.flatten pss) w [v] l := ⟨_, rfl, ownSl_of_row h hp hel⟩
  exact ⟨xs, pss, h, hp, hn, fun k hk => ⟨hA k hk, Rep.own_lt ho k hk⟩, hel⟩
theorem own0_sys {w : World} : Own [] w [.int .i64 0, .int .i64 0, .slice none 0 0] ((0, 0, []) : Sys) :=
  mk_own (p := []) ⟨rfl, rfl, ⟨by decide, by decide⟩⟩ (mk_own (p := []) ⟨rfl, rfl, ⟨by decide, by decide⟩⟩ ⟨_, rfl, .inl ⟨rfl, rfl, none, 0, rfl, Nat.zero_le _⟩⟩)
theorem reduceF_ok {x : Sys} (h : validS x = true) : reduceF x = (reducedF x, 0) := by unfold reduceF; rw [if_pos h]
theorem reduceF_bad {x : Sys} (h : validS x = false) : reduceF x = ((0, 0, []), 1) := by unfold reduceF; rw [h]; rfl

end Go.Proofs.Ytpejlnofaijmaaa
