/-
  PLAIN: append(s, make([]T, m)...), which the model takes as one operation: m zeros more.
-/
import Derived.Test.YthceklaoikeokaaGreatDoorRowsB
import Derived.Lib.AppendZeros
namespace Go.Proofs.YthceklaoikeokaaGreatDoor
open Go.RowKit
open Rep (Rd Own sz)
set_option linter.unusedSimpArgs false
set_option linter.unusedVariables false

theorem run_append_zeros_row {P : Program} (w : World) (t tn ty e : TypeId) (i : TypeInfo) (z : Value) (kn : IntKind) (ht : P.underlying t = some (.slice e)) (htn : P.underlying tn = some (.int kn)) (hi : P.info? e = some i) (hz : i.zero = some z)
    (hzs : z.cells.size = i.size) (hsz : 0 < i.size) (v : Value) (n : Nat) (xs : List Value) (hown : w.ownsRow 0 e i.size v n xs) (m : Nat)
    (h1 : ∀ u, u ∈ (Builtin.zeroCells z.cells m).toList → u.oneCell' = true)
    (h63 : n + m ≤ maxLen) (hbytes : (n + m) * i.bytes ≤ 140737488355328) :
    ∃ v' w', (Builtin.append_ #[t, tn] ty #[v, .int .i64 (m : Int)]).run P w = .ok v' w' ∧ w'.ownsRow 0 e i.size v' (n + m) (xs ++ (Builtin.zeroCells z.cells m).toList) ∧ But v.ownBlock.toList w w' ∧ (v'.ownBlock = v.ownBlock ∨ v'.ownBlock = some w.heap.size) := by
  have hsmall : n + m ≤ 9223372036854775807 := by simp only [maxLen] at h63; omega
  have hl : (Builtin.zeroCells z.cells m).toList.length = m * i.size := by rw [Array.length_toList, size_zeroCells, hzs]
  have hlen : (xs ++ (Builtin.zeroCells z.cells m).toList).length = (n + m) * i.size := by rw [List.length_append, hown.1, hl, Nat.add_mul]
  have hw : IntKind.i64.wrap (m : Int) = m := by rw [IntKind.wrap_i64]; omega
  have hneg : ¬ ((m : Int) < 0) := by omega
  have hmb : m * i.bytes ≤ 140737488355328 := Nat.le_trans (Nat.mul_le_mul_right _ (by omega)) hbytes
  have h48i : ¬ (281474976710656 < (m : Int) * (i.bytes : Int)) := by rw [← Int.natCast_mul]; omega
  rcases hown.2 with ⟨rfl, rfl⟩ | ⟨g, cap, cur, rfl, hbg, hg, hnc, hcm, hcs, htake⟩
  · have hx : xs = [] := List.eq_nil_of_length_eq_zero (by simpa using hown.1)
    subst hx
    by_cases hm : m = 0
    · subst hm
      refine ⟨.slice none 0 0, w, ?_, ?_, ⟨rfl, rfl, rfl, Nat.le_refl _, fun _ _ _ => rfl⟩, Or.inl rfl⟩
      · have hw0 : IntKind.i64.wrap 0 = 0 := by simpa using hw
        simp [Builtin.append_, run_underlying ht, run_underlying htn, sizeOf, typeInfo, hi, asInt, asIntOf, hw0, Builtin.lenOf, Builtin.firstCells, loadCells, loadCellsFrom]
      · have : (Builtin.zeroCells z.cells 0).toList = [] := List.eq_nil_of_length_eq_zero (by rw [hl]; simp)
        rw [this]
        exact World.ownsRow_nil w 0 e i.size
    · have hr := Lib.run_append_nil_zeros (P := P) w t tn ty e i z .i64 kn ht htn hi hz m (by omega) hsz (by omega) (by omega)
      have hge := grownCap_ge w m 0 e
      have hcm : grownCap w m 0 e ≤ maxLen := grownCap_le_maxLen w m 0 e (by omega)
      refine ⟨_, _, hr, ⟨by simpa using hlen, .inr ⟨w.heap.size, _, _, by rw [Nat.zero_add], Nat.zero_le _, heap_alloc_new w.drew _, by omega, hcm, ?_, ?_⟩⟩, ⟨rfl, rfl, rfl, by simp, fun k hk _ => (Below.heap_alloc w.drew _ k (by simpa using hk) : _)⟩, Or.inr rfl⟩
      · simp only [Array.size_append, size_zeroCells, hzs, ← Nat.add_mul]
        congr 1
        omega
      · simp only [Array.toList_append, List.nil_append, Nat.zero_add]
        rw [← hl]
        exact List.take_left
  · by_cases hroom : n + m ≤ cap
    · have hfit : n * i.size + (Builtin.zeroCells z.cells m).toList.length ≤ cur.size := by rw [hl, hcs, ← Nat.add_mul]; exact Nat.mul_le_mul_right _ hroom
      have hst := run_storeCells_at P g (n * i.size) e (Builtin.zeroCells z.cells m).toList 0 cur w hg (by simpa using hfit) h1
      simp only [Nat.add_zero] at hst
      have hr : (Builtin.append_ #[t, tn] ty #[.slice (some ⟨g, 0, none⟩) n cap, .int .i64 (m : Int)]).run P w = .ok (.slice (some ⟨g, 0, none⟩) (n + m) cap) (w.setRow g (cur.toList.take (n * i.size) ++ (Builtin.zeroCells z.cells m).toList ++ cur.toList.drop (n * i.size + (Builtin.zeroCells z.cells m).toList.length)).toArray) := by
        by_cases hm : m * i.size = 0
        · have hzn : (Builtin.zeroCells z.cells m).toList = [] := List.eq_nil_of_length_eq_zero (by rw [hl]; exact hm)
          rw [hzn] at hst ⊢
          simp [Builtin.append_, run_underlying ht, run_underlying htn, sizeOf, typeInfo, zeroValue, hi, hz, asInt, asIntOf, hw, hneg, h48i, hm, hroom, Addr.add_lit, hst]
        · simp [Builtin.append_, run_underlying ht, run_underlying htn, sizeOf, typeInfo, zeroValue, hi, hz, asInt, asIntOf, hw, hneg, h48i, hm, hroom, Addr.add_lit, hst]
      refine ⟨_, _, hr, ⟨hlen, .inr ⟨g, cap, _, rfl, hbg, setRow_heap w g cur _ e _ hg, hroom, hcm, ?_, ?_⟩⟩, ⟨rfl, rfl, rfl, by simp [World.setRow], fun k _ hk => setRow_other w g k _ (fun e => hk (by simp [Value.ownBlock, e]))⟩, Or.inl rfl⟩
      · simp only [List.size_toArray, List.length_append, List.length_take, List.length_drop, Array.length_toList] at hfit ⊢
        omega
      · rw [htake, ← hlen]
        exact List.take_left
    · have holds : ∀ j u, xs[j]? = some u → w.cell? ((⟨g, 0, none⟩ : Addr).add j) = some u := hown.cells (g := g) rfl
      have hn : ¬ (n + m ≤ cap) := hroom
      have hm0 : ¬ m * i.size = 0 := Nat.mul_ne_zero (by omega) (by omega)
      have h63' : ¬ (9223372036854775807 < ((n : Int) + (m : Int))) := by omega
      have hfits := growslice_fits (need := n + m) (old := cap) (by omega) hbytes
      have h48' : ¬ (281474976710656 < Builtin.nextslicecap (n + m) cap * i.bytes) := by omega
      have hfo := run_firstCells_some (P := P) w.drew i.size n ⟨g, 0, none⟩ n cap xs hown.1 (by simpa using holds)
      have hr : (Builtin.append_ #[t, tn] ty #[.slice (some ⟨g, 0, none⟩) n cap, .int .i64 (m : Int)]).run P w = .ok (.slice (some ⟨w.heap.size, 0, none⟩) (n + m) (grownCap w (n + m) cap e)) (w.drew.alloc (.cells (xs.toArray ++ Builtin.zeroCells z.cells m ++ Builtin.zeroCells z.cells (grownCap w (n + m) cap e - (n + m))) e)) := by
        simp [Builtin.append_, run_underlying ht, run_underlying htn, sizeOf, typeInfo, zeroValue, hi, hz, asInt, asIntOf, hw, hneg, h48i, hm0, hn, h63', h48', Question.forced, hfo, newRow, grownCap]
      have hge := grownCap_ge w (n + m) cap e
      have hcm2 : grownCap w (n + m) cap e ≤ maxLen := grownCap_le_maxLen w (n + m) cap e h63
      refine ⟨_, _, hr, ⟨hlen, .inr ⟨w.heap.size, _, _, rfl, Nat.zero_le _, heap_alloc_new w.drew _, hge, hcm2, ?_, ?_⟩⟩, ⟨rfl, rfl, rfl, by simp, fun k hk _ => (Below.heap_alloc w.drew _ k (by simpa using hk) : _)⟩, Or.inr rfl⟩
      · simp only [Array.size_append, List.size_toArray, size_zeroCells, hzs, hown.1, ← Nat.add_mul]
        congr 1
        omega
      · simp only [Array.toList_append, List.append_assoc]
        rw [← List.append_assoc, ← hlen]
        exact List.take_left
theorem zeroCells_int (m : Nat) : (Builtin.zeroCells (Value.cells (.int .i64 0)) m).toList = ivals (List.replicate m 0) := by
  have h : Value.cells (.int .i64 0) = #[Value.int .i64 0] := rfl
  rw [h]
  unfold Builtin.zeroCells ivals
  rw [List.map_replicate]
  apply List.ext_getElem
  · simp
  · intro j h1 h2
    simp [Nat.mod_one]
/-- m zeros more, of a slice of ints that was made anew. -/
theorem wp_append_zeros {P : Program} (w : World) {o : Oper} {a : Act} {K : Act → World → Prop} {Q : Exit → Act → World → Prop} (s x : Operand) (t tn : TypeId)
    (ho : o.op = .call { callee := .builtin .append, args := #[s, x], argTypes := #[t, tn] }) {e : TypeId} {z : Value} {bytes : Nat} (E : ElemT P t e Int z bytes) (hzz : z = .int .i64 0) {kn : IntKind} (htn : P.underlying tn = some (.int kn)) {B H : Nat} {v : Value} {l : List Int}
    (hs : a.eval s = v) (hacc : Acc B H e w v l) (hB : B ≤ w.heap.size) (m : Nat) (hx : a.eval x = .int .i64 (m : Int)) (hlen : l.length + m ≤ 1000000)
    (h : ∀ a' c' w', Rd w' [.slice a' (l.length + m) c'] (l ++ List.replicate m 0) → Below B w w' → (∀ k, H ≤ k → k < w.heap.size → w'.heap[k]? = w.heap[k]?) → K (a.put o.dst (.slice a' (l.length + m) c')) w') : o.wp P a w K Q := by
  subst hzz
  obtain ⟨i, hi, hz, hsz, hb⟩ := E.info
  obtain ⟨h1, h4, hIl⟩ := acc_ints_get hacc
  have hs1 : i.size = 1 := by rw [hsz]; rfl
  have hbytes : (l.length + m) * i.bytes ≤ 140737488355328 := by
    have h1 := E.small
    rw [hb]
    calc (l.length + m) * bytes ≤ 1000000 * 1000 := Nat.mul_le_mul hlen h1
      _ ≤ _ := by decide
  have hm : l.length + m ≤ maxLen := by unfold maxLen; omega
  obtain ⟨v', w', hr, hown, hbut, hat⟩ := run_append_zeros_row (P := P) w t tn o.type e i (.int .i64 0) kn E.und htn hi hz (by rw [hs1]; rfl) (by omega) v l.length (ivals l) (by rw [hs1]; exact row_base h1) m (by
    intro u hu
    rw [zeroCells_int] at hu
    unfold ivals at hu
    obtain ⟨y, _, rfl⟩ := List.mem_map.1 hu
    rfl) hm hbytes
  rw [hs1, zeroCells_int] at hown
  have hown2 : w'.ownsRow 0 e 1 v' (l ++ List.replicate m 0).length (ivals (l ++ List.replicate m 0)) := by simpa [ivals] using hown
  have hI' : ∀ b, b ∈ l ++ List.replicate m 0 → I64 b := fun b hb => by
    rcases List.mem_append.1 hb with hb | hb
    · exact hIl b hb
    · rw [List.eq_of_mem_replicate hb]; exact ⟨by decide, by decide⟩
  have hrd : Rd w' [v'] (l ++ List.replicate m 0) := by
    have h7 : Acc 0 w'.heap.size e w' v' (l ++ List.replicate m 0) := acc_ints_mk hown2 (fun g hg => by
      rcases hown2.2 with ⟨rfl, _⟩ | ⟨g', cap, cur, rfl, _, hh, _⟩
      · cases hg
      · simp only [Value.ownBlock, Option.some.injEq] at hg
        subst hg
        exact ⟨Nat.zero_le _, (Array.getElem?_eq_some_iff.1 hh).1⟩) hI'
    exact h7.rd
  obtain ⟨a', c', rfl, _⟩ := rd_list hrd
  simp only [List.length_append, List.length_replicate] at hr hrd
  unfold Oper.wp execOp
  simp only [ho, resolve, invoke, builtin, Sem.run_bind, Sem.run_pure, Result.andThen_ok, List.map_toArray, List.map_cons, List.map_nil, hs, hx, hr]
  refine h a' c' w' hrd ⟨hbut.os, hbut.tape, hbut.output, hbut.size, fun k hk => ?_⟩ (fun k hk hkw => hbut.block k hkw (fun hm => ?_))
  · refine hbut.block k (by omega) (fun hm => ?_)
    simp only [Option.mem_toList] at hm
    have := (h4 k hm).1; omega
  · simp only [Option.mem_toList] at hm
    have := (h4 k hm).2; omega

end Go.Proofs.YthceklaoikeokaaGreatDoor
