/-
  PLAIN: many elements are appended at once; steps, read cell by cell.
-/
import Derived.Test.YtamkfnkikiekaaaGreatArcsPRa
namespace Go.Proofs.YtamkfnkikiekaaaGreat
open Go.RowKit
open Rep (Rd Own sz)
set_option linter.unusedSimpArgs false
set_option linter.unusedVariables false

theorem wp_append_rows {P : Program} (w : World) {o : Oper} {a : Act} {K : Act → World → Prop} {Q : Exit → Act → World → Prop} (s x : Operand) (t : TypeId)
    (ho : o.op = .call { callee := .builtin .append, args := #[s, x], argTypes := #[t, t] }) {e : TypeId} {α : Type} [Rep α] {z : Value} {bytes : Nat} (E : ElemT P t e α z bytes) {v : Value} {n m : Nat} {xs : List Value}
    (hs : a.eval s = v) (hrow : w.ownsRow 0 e (sz α) v n xs) {vs : List Value} (hvs : vs.length = m * sz α) (hone : ∀ u, u ∈ vs → u.oneCell' = true)
    (ad : Addr) (c : Nat) (hx : a.eval x = .slice (some ad) m c) (hnews : ∀ j u, vs[j]? = some u → w.cell? (ad.add j) = some u) (hm0 : 0 < m) (hlen : n + m ≤ 1073741824)
    (h : ∀ g' c' w', (v.ownBlock = some g' ∨ g' = w.heap.size) → w'.ownsRow 0 e (sz α) (.slice (some ⟨g', 0, none⟩) (n + m) c') (n + m) (xs ++ vs) → But v.ownBlock.toList w w' → g' < w'.heap.size → K (a.put o.dst (.slice (some ⟨g', 0, none⟩) (n + m) c')) w') : o.wp P a w K Q := by
  obtain ⟨i, hi, hz, hsz, hb⟩ := E.info
  have hbytes : (n + m) * bytes ≤ 140737488355328 := by
    have h1 := E.small
    calc (n + m) * bytes ≤ 1073741824 * 1000 := Nat.mul_le_mul hlen h1
      _ ≤ _ := by decide
  have hm : n + m ≤ maxLen := by unfold maxLen; omega
  obtain ⟨v', w', hr, hown, hgr, hnil, hat⟩ := run_append_own_at (P := P) w 0 t o.type e i z (sz α) bytes E.und hi hz hsz hb E.zs E.pos v n xs hrow ad m c vs hvs hnews hone hm hbytes (Nat.zero_le _)
  rcases hown.2 with ⟨rfl, h0⟩ | ⟨g', cap, cur, rfl, hg', hh', hc', hm', hs', ht'⟩
  · omega
  have hgg : v.ownBlock = some g' ∨ g' = w.heap.size := by
    rcases hat with h | h
    · exact .inl (by rw [← h]; rfl)
    · exact .inr (by simpa [Value.ownBlock] using h)
  have hlt : g' < w'.heap.size := (Array.getElem?_eq_some_iff.1 hh').1
  have hbut : But v.ownBlock.toList w w' := ⟨hgr.os, hgr.tape, hgr.output, hgr.size, fun k hk hp => hgr.block k hk (fun e => hp (by rw [← e]; simp))⟩
  unfold Oper.wp execOp
  simp only [ho, resolve, invoke, builtin, Sem.run_bind, Sem.run_pure, Result.andThen_ok, List.map_toArray, List.map_cons, List.map_nil, hs, hx, hr]
  exact h g' cap w' hgg hown hbut hlt
theorem news3 {w : World} {b : Nat} {v0 v1 v2 : Value} (h0 : w.cell? ⟨b, 0, none⟩ = some v0) (h1 : w.cell? ⟨b, 1, none⟩ = some v1) (h2 : w.cell? ⟨b, 2, none⟩ = some v2) : ∀ j u, [v0, v1, v2][j]? = some u → w.cell? ((⟨b, 0, none⟩ : Addr).add j) = some u := by
  intro j u hj
  match j with
  | 0 => simp at hj; subst hj; exact h0
  | 1 => simp at hj; subst hj; exact h1
  | 2 => simp at hj; subst hj; exact h2
  | j + 3 => simp at hj
theorem flat3_length (M : List (Int × Int × Int)) : (flat3 M).length = M.length * 3 := by
  induction M with
  | nil => rfl
  | cons a M ih =>
    have e : flat3 (a :: M) = .int .i64 a.1 :: .int .i64 a.2.1 :: .int .i64 a.2.2 :: flat3 M := rfl
    rw [e]; simp only [List.length_cons, ih]; omega
theorem flat3_one (M : List (Int × Int × Int)) : ∀ u, u ∈ flat3 M → u.oneCell' = true := by
  intro u hu
  unfold flat3 at hu
  obtain ⟨e, _, he⟩ := List.mem_flatMap.1 hu
  simp only [List.mem_cons, List.not_mem_nil, or_false] at he
  rcases he with rfl | rfl | rfl <;> rfl
theorem rd_step {w : World} {v0 v1 v2 : Value} {e : Int × Int × Int} (h : Rd w [v0, v1, v2] e) : v0 = .int .i64 e.1 ∧ v1 = .int .i64 e.2.1 ∧ v2 = .int .i64 e.2.2 ∧ I64 e.1 ∧ I64 e.2.1 ∧ I64 e.2.2 := by
  have z := rd_cons rfl h
  obtain ⟨e0, i0⟩ := rd_i1 z.1
  have y := rd_cons rfl z.2
  obtain ⟨e1, i1⟩ := rd_i1 y.1
  obtain ⟨e2, i2⟩ := rd_i1 y.2
  exact ⟨e0, e1, e2, i0, i1, i2⟩
/-- Step number i, in its three cells. -/
theorem step_cells {w : World} {a : Option Addr} {c n : Nat} {M : List (Int × Int × Int)} (h : Rd w [.slice a n c] M) (i : Nat) (hi : i < M.length) : ∃ b o, a = some ⟨b, o, none⟩ ∧ w.cell? ⟨b, o + i * 3, none⟩ = some (.int .i64 M[i].1) ∧ w.cell? ⟨b, o + i * 3 + 1, none⟩ = some (.int .i64 M[i].2.1) ∧ w.cell? ⟨b, o + i * 3 + 2, none⟩ = some (.int .i64 M[i].2.2) ∧ (I64 M[i].1 ∧ I64 M[i].2.1 ∧ I64 M[i].2.2) := by
  obtain ⟨a', c', e1, hsl⟩ := rd_list h
  simp only [Value.slice.injEq] at e1
  obtain ⟨rfl, -, rfl⟩ := e1
  obtain ⟨b, o, v0, v1, v2, rfl, q0, q1, q2, hr⟩ := rdSl_three rfl hsl i hi
  obtain ⟨rfl, rfl, rfl, hI⟩ := rd_step hr
  exact ⟨b, o, rfl, q0, q1, q2, hI⟩
theorem steps_news {w : World} {b o c n : Nat} {M : List (Int × Int × Int)} (h : Rd w [.slice (some ⟨b, o, none⟩) n c] M) : ∀ j u, (flat3 M)[j]? = some u → w.cell? ((⟨b, o, none⟩ : Addr).add j) = some u := by
  intro j u hj
  have hjl : j < (flat3 M).length := (List.getElem?_eq_some_iff.1 hj).1
  rw [flat3_length] at hjl
  have hi : j / 3 < M.length := by omega
  obtain ⟨b', o', e1, q0, q1, q2, _⟩ := step_cells h (j / 3) hi
  simp only [Option.some.injEq, Addr.mk.injEq, and_true] at e1
  obtain ⟨rfl, rfl⟩ := e1
  have hg := flat3_get M (j / 3) hi (j % 3) (by omega)
  rw [show j / 3 * 3 + j % 3 = j by omega, hj] at hg
  have hk : j % 3 < 3 := by omega
  have hjj : j = j / 3 * 3 + j % 3 := by omega
  have ha : (⟨b, o, none⟩ : Addr).add j = ⟨b, o + j, none⟩ := by
    unfold Addr.add
    by_cases h0 : j = 0
    · simp [h0]
    · simp [h0]
  rw [ha]
  generalize j / 3 = d at *
  generalize j % 3 = r at *
  subst hjj
  match r, hk with
  | 0, _ => rw [show some u = some _ from hg]; exact q0
  | 1, _ => rw [show some u = some _ from hg, ← Nat.add_assoc]; exact q1
  | 2, _ => rw [show some u = some _ from hg, ← Nat.add_assoc]; exact q2
/-- A row of steps, as a list that is read. -/
theorem steps_rd {w : World} {e : TypeId} {g c n : Nat} {M : List (Int × Int × Int)} (hrow : w.ownsRow 0 e 3 (.slice (some ⟨g, 0, none⟩) n c) n (flat3 M)) (hn : n = M.length) (hI : ∀ x, x ∈ M → I64 x.1 ∧ I64 x.2.1 ∧ I64 x.2.2) : Rd w [.slice (some ⟨g, 0, none⟩) n c] M := by
  subst hn
  have ho := ownSl_of_row (α := Int × Int × Int) (l := M) (pss := List.replicate M.length []) hrow (by simp) (fun i hi => ⟨[], _, by simp [hi], own_step3 w (hI _ (List.getElem_mem hi)), fun k hk => flat3_get M i hi k (by simpa using hk)⟩)
  exact Own.rd (show Own _ w [_] M from ⟨_, rfl, ho⟩)

end Go.Proofs.YtamkfnkikiekaaaGreat

