/-
  PLAIN: two rows of an owned slice of rows: one is written, the other is read meanwhile.
-/
import Derived.Test.YtoblfnoaepbhfaaIpRow
namespace Go.Proofs.Ytoblfnoaepbhfaa
open Go.RowKit
open Rep (Rd Own sz)
set_option linter.unusedSimpArgs false
set_option linter.unusedVariables false

/-- Element j of an owned slice, how it is put back, and element d that is another one. -/
theorem own_elem2 {α : Type} [Rep α] {ps : List Nat} {w : World} {v : Value} {l : List α} (h : OwnSl ps w v l) (hn : ps.Nodup) (j : Nat) (hj : j < l.length) (d : Nat) (hd : d < l.length) (hjd : d ≠ j) :
    ∃ g o c cur e p vs q us, v = .slice (some ⟨g, o, none⟩) l.length c ∧ w.heap[g]? = some (.cells cur e (0, 0)) ∧ Own p w vs l[j] ∧ (∀ k, k < vs.length → cur[o + j * sz α + k]? = vs[k]?) ∧
      g ∈ ps ∧ g ∉ p ∧ p.Nodup ∧ (∀ k, k ∈ p → k ∈ ps) ∧
      Own q w us l[d] ∧ (∀ k, k < us.length → cur[o + d * sz α + k]? = us[k]?) ∧ g ∉ q ∧ (∀ k, k ∈ q → k ∉ p) ∧
      ∀ (w' : World) (vs' : List Value) (y : α), w'.heap[g]? = some (.cells (putArr cur (o + j * sz α) vs') e (0, 0)) → Own p w' vs' y → (∀ k, k ∈ ps → k ∉ p → k ≠ g → w'.heap[k]? = w.heap[k]?) → OwnSl ps w' v (l.set j y) := by
  have hh := h
  rcases h with ⟨rfl, _⟩ | ⟨g, o, c, cur, e, pss, rfl, h1, h2, h3, rfl, h5, h6⟩
  · exact absurd hj (Nat.not_lt_zero _)
  obtain ⟨p, vs, hp, hO, hc⟩ := h6 j hj
  obtain ⟨q, us, hq, hOq, hcq⟩ := h6 d hd
  have hjp : j < pss.length := by omega
  have hpj : pss[j] = p := by rw [List.getElem?_eq_getElem hjp] at hp; simpa using hp
  have hwhole : pss = pss.take j ++ p :: pss.drop (j + 1) := by
    conv => lhs; rw [← List.take_append_drop j pss, List.drop_eq_getElem_cons hjp, hpj]
  have hmem : ∀ k, k ∈ p → k ∈ List.flatten pss := fun k hk => List.mem_flatten.2 ⟨p, List.mem_of_getElem? hp, hk⟩
  have hgn := (List.nodup_cons.1 hn).1
  have hfn := (List.nodup_cons.1 hn).2
  have hdis : ∀ i q, i ≠ j → pss[i]? = some q → ∀ k, k ∈ q → k ∉ p := by
    intro i q hij hq k hk hkp
    rw [hwhole, List.flatten_append, List.flatten_cons] at hfn
    simp only [List.nodup_append, List.mem_append] at hfn
    obtain ⟨_, ⟨_, _, n3⟩, n4⟩ := hfn
    rcases Nat.lt_or_gt_of_ne hij with hlt | hlt
    · refine n4 k (List.mem_flatten.2 ⟨q, ?_, hk⟩) k (.inl hkp) rfl
      refine List.mem_iff_getElem?.2 ⟨i, ?_⟩
      rw [List.getElem?_take_of_lt hlt]; exact hq
    · refine n3 k hkp k (List.mem_flatten.2 ⟨q, ?_, hk⟩) rfl
      refine List.mem_iff_getElem?.2 ⟨i - (j + 1), ?_⟩
      rw [List.getElem?_drop, show j + 1 + (i - (j + 1)) = i by omega]; exact hq
  obtain ⟨g', o', c', cur', e', p', vs', hv', hb', hO', hc', m1, m2, m3, m4, m5⟩ := own_elem hh hn j hj
  simp only [Value.slice.injEq, Option.some.injEq, Addr.mk.injEq, and_true] at hv'
  obtain ⟨⟨rfl, rfl⟩, -, rfl⟩ := hv'
  rw [h3] at hb'
  simp only [Option.some.injEq, Obj.cells.injEq, and_true] at hb'
  obtain ⟨rfl, rfl⟩ := hb'
  refine ⟨g, o, c, cur, e, p, vs, q, us, rfl, h3, hO, hc, m1, fun hk => hgn (hmem g hk), ?_, fun k hk => List.mem_cons_of_mem _ (hmem k hk), hOq, hcq, fun hk => hgn (List.mem_flatten.2 ⟨q, List.mem_of_getElem? hq, hk⟩), hdis d q hjd hq, ?_⟩
  · rw [hwhole, List.flatten_append, List.flatten_cons] at hfn
    simp only [List.nodup_append] at hfn
    exact hfn.2.1.1
  · intro w' vs' y hg hy hk
    have hvl' := Rep.rd_len (Rep.own_rd hy)
    refine .inr ⟨g, o, c, _, e, pss, by simp, by simpa using h1, h2, hg, rfl, by simpa using h5, fun i hi => ?_⟩
    simp only [List.length_set] at hi
    by_cases hij : j = i
    · subst hij
      refine ⟨p, vs', hp, by simpa using hy, fun k hk' => putArr_in vs' _ k cur hk' ?_⟩
      have hvl := Rep.rd_len (Rep.own_rd hO)
      have := hc k (by omega)
      rw [List.getElem?_eq_getElem (by omega)] at this
      exact (Array.getElem?_eq_some_iff.1 this).1
    · obtain ⟨q, us, hq, hOq, hcq⟩ := h6 i hi
      have hul := Rep.rd_len (Rep.own_rd hOq)
      refine ⟨q, us, hq, ?_, fun k hk' => ?_⟩
      · simp only [List.getElem_set_ne hij]
        refine Rep.own_frame (fun k hkq => hk k (List.mem_cons_of_mem _ (List.mem_flatten.2 ⟨q, List.mem_of_getElem? hq, hkq⟩)) (hdis i q (Ne.symm hij) hq k hkq) ?_) hOq
        rintro rfl
        exact hgn (List.mem_flatten.2 ⟨q, List.mem_of_getElem? hq, hkq⟩)
      · rw [putArr_out]
        · exact hcq k hk'
        · have hks : k < sz α := by omega
          rcases Nat.lt_or_gt_of_ne hij with hlt | hlt
          · right
            have : (j + 1) * sz α ≤ i * sz α := Nat.mul_le_mul_right _ hlt
            rw [Nat.add_mul] at this
            omega
          · left
            have := idx_lt (s := sz α) hlt hks
            omega
theorem step_found {α : Type} (O : ROps α) (u : Nat) (R : List α) (bs : List Int) (q : Nat) (h0 : bs.length ≤ q) (hq : q < R.length) (hz : ∀ j (hj : j < R.length), bs.length ≤ j → j < q → O.get R[j] u = 0) (hn : O.get R[q] u ≠ 0) :
    stepE O u (R, bs) = (mapTo (elimRow O u bs.length (O.scale R[q] (O.get R[q] u))) ((swapL O.dflt R bs.length q).set bs.length (O.scale R[q] (O.get R[q] u))) R.length, bs ++ [(u : Int)]) := by
  have hf : (R.drop bs.length).findIdx? (fun r => O.get r u != 0) = some (q - bs.length) := by
    rw [List.findIdx?_eq_some_iff_getElem]
    refine ⟨by simp; omega, ?_, fun j hj => ?_⟩
    · simp only [List.getElem_drop, bne_iff_ne]
      have : bs.length + (q - bs.length) = q := by omega
      simp only [this]
      exact hn
    · simp only [List.getElem_drop, bne_iff_ne, ne_eq, Decidable.not_not]
      exact hz _ (by omega) (by omega) (by omega)
  unfold stepE
  show (match (R.drop bs.length).findIdx? (fun r => O.get r u != 0) with | none => _ | some i => _) = _
  rw [hf]
  show (pivotE O u R bs.length (q - bs.length), bs ++ [(u : Int)]) = _
  have e : bs.length + (q - bs.length) = q := by omega
  have hg : R.getD q O.dflt = R[q] := by simp [List.getD, hq]
  have h := mapTo_all (elimRow O u bs.length (O.scale R[q] (O.get R[q] u))) ((swapL O.dflt R bs.length q).set bs.length (O.scale R[q] (O.get R[q] u)))
  simp only [List.length_set, swapL_length] at h
  rw [h]
  unfold pivotE
  simp only [e, swap_at O.dflt R bs.length q (by omega) hq, hg]
theorem allG_mapTo {p : Int} {U n : Nat} {u d : Nat} {x : SRow} {rows : List SRow} (hp : 0 < p) (h : AllG p U n rows) (hx : GoodS p U n x) (j : Nat) : AllG p U n (mapTo (elimRow (opsS p) u d x) rows j) := by
  intro r hr
  unfold mapTo at hr
  rcases List.mem_append.1 hr with hr | hr
  · simp only [List.mem_mapIdx] at hr
    obtain ⟨i, hi, rfl⟩ := hr
    have h2 : GoodS p U n (rows.take j)[i] := h _ (List.mem_of_mem_take (List.getElem_mem hi))
    unfold elimRow
    split
    · exact h2
    · show GoodS p U n (if _ then _ else _)
      split
      · exact h2
      · exact goodS_less hp _ h2 hx
  · exact h r (List.mem_of_mem_drop hr)
theorem RowIn.same {w w' : World} {b o : Nat} {cur : Array Value} {e : TypeId} {p0 p2 : List Nat} {v0 v2 : Value} {r : SRow} (h : RowIn w b o cur e p0 p2 v0 v2 r) (hb : w'.heap = w.heap) : RowIn w' b o cur e p0 p2 v0 v2 r :=
  ⟨by rw [hb]; exact h.blk, h.c0, h.c1, h.c2, ownSl_heap h.own0 hb, ownSl_heap h.own2 hb, h.n0, h.n2, h.dis⟩
theorem OnlyAt.but' {ps : List Nat} {a b : World} {n : Nat} (h : OnlyAt ps (a.drewN n) b) : But ps a b := ⟨h.os, h.tape, h.output, by rw [h.size]; exact Nat.le_refl _, fun k _ hp => h.block k hp⟩
theorem ip_row2 {A : Nat → Prop} {w : World} {g n c : Nat} {l : List SRow} (h : Ip A w [.slice (some ⟨g, 0, none⟩) n c] l) (j : Nat) (hj : j < l.length) (d : Nat) (hd : d < l.length) (hjd : d ≠ j) :
    ∃ cur e p0 p2 v0 v2 u0 u2, RowIn w g (j * 3) cur e p0 p2 v0 v2 l[j] ∧ (∀ k, k ∈ p0 ++ p2 → A k) ∧ A g ∧
      (∀ (w' : World) (x : Int), OnlyAt (g :: (p0 ++ p2)) w w' → w'.heap[g]? = some (.cells (cur.setIfInBounds (j * 3 + 1) (.int .i64 x)) e (0, 0)) → OthIn w' g (d * 3) u0 u2 l[d]) ∧
      ∀ (w' : World) (x : Int) (r' : SRow), RowIn w' g (j * 3) (cur.setIfInBounds (j * 3 + 1) (.int .i64 x)) e p0 p2 v0 v2 r' → r'.2.1 = x → I64 x → OnlyAt (g :: (p0 ++ p2)) w w' → Ip A w' [.slice (some ⟨g, 0, none⟩) n c] (l.set j r') := by
  obtain ⟨ps, ho, hn, hA⟩ := h
  obtain ⟨g', o, c', cur, e, p, vs, q, us, hv, hblk, hO, hc, hgp, hgn, hpn, hpp, hOq, hcq, hgq, hqp, hput⟩ := own_elem2 (own_list ho) hn j hj d hd hjd
  simp only [Value.slice.injEq, Option.some.injEq, Addr.mk.injEq, and_true] at hv
  obtain ⟨⟨rfl, rfl⟩, rfl, rfl⟩ := hv
  have hl := Rep.rd_len (Rep.own_rd hO)
  have hlq := Rep.rd_len (Rep.own_rd hOq)
  obtain ⟨v0, v1, v2, rfl⟩ : ∃ v0 v1 v2, vs = [v0, v1, v2] := by
    match vs, hl with
    | [a, b, c], _ => exact ⟨a, b, c, rfl⟩
  obtain ⟨u0, u1, u2, rfl⟩ : ∃ v0 v1 v2, us = [v0, v1, v2] := by
    match us, hlq with
    | [a, b, c], _ => exact ⟨a, b, c, rfl⟩
  obtain ⟨p0, q0, rfl, hO0, hO1⟩ := own_cons rfl hO
  obtain ⟨p1, p2, rfl, hO1, hO2⟩ := own_cons rfl hO1
  obtain ⟨rfl, rfl, hI⟩ := own_i1 hO1
  simp only [List.nil_append] at hgn hpn hpp hput hqp
  have e3 : 0 + j * sz SRow = j * 3 := by rw [Nat.zero_add]; rfl
  have e3d : 0 + d * sz SRow = d * 3 := by rw [Nat.zero_add]; rfl
  have k0 : cur[j * 3]? = some v0 := by have := hc 0 (by simp); rw [e3] at this; simpa using this
  have k1 : cur[j * 3 + 1]? = some (.int .i64 l[j].2.1) := by have := hc 1 (by simp); rw [e3] at this; simpa using this
  have k2 : cur[j * 3 + 2]? = some v2 := by have := hc 2 (by simp); rw [e3] at this; simpa using this
  have t0 : cur[d * 3]? = some u0 := by have := hcq 0 (by simp); rw [e3d] at this; simpa using this
  have t1 : cur[d * 3 + 1]? = some u1 := by have := hcq 1 (by simp); rw [e3d] at this; simpa using this
  have t2 : cur[d * 3 + 2]? = some u2 := by have := hcq 2 (by simp); rw [e3d] at this; simpa using this
  rw [List.nodup_append] at hpn
  refine ⟨cur, e, p0, p2, v0, v2, u0, u2, ⟨hblk, k0, k1, k2, own_list hO0, own_list hO2, fun h => hgn (by simp [h]), fun h => hgn (by simp [h]), fun k h1 h2 => hpn.2.2 k h1 k h2 rfl⟩, fun k hk => hA k (hpp k hk), hA g hgp, ?_, ?_⟩
  · intro w' x hon hb
    have hR : Rd w' [u0, u1, u2] l[d] := Rep.own_rd (Own.only hOq hon (fun k hk hk2 => by
      rcases List.mem_cons.1 hk2 with rfl | hk2
      · exact hgq hk
      · exact hqp k hk hk2))
    have z := rd_cons rfl hR
    have z2 := rd_cons rfl z.2
    obtain ⟨rfl, _⟩ := rd_i1 z2.1
    refine ⟨?_, ?_, ?_, z.1, z2.2⟩
    · rw [cell_at_block hb, Array.getElem?_setIfInBounds_ne (by omega)]; exact t0
    · rw [cell_at_block hb, Array.getElem?_setIfInBounds_ne (by omega)]; exact t1
    · rw [cell_at_block hb, Array.getElem?_setIfInBounds_ne (by omega)]; exact t2
  · intro w' x r' hr hx hIx hon
    refine ⟨ps, ⟨_, rfl, hput w' [v0, .int .i64 x, v2] r' ?_ ?_ (fun k h1 h2 h3 => hon.block k (by simp only [List.mem_cons, not_or]; exact ⟨h3, h2⟩))⟩, hn, hA⟩
    · rw [e3, putArr_row _ k0 k2]; exact hr.blk
    · obtain ⟨r0, r1, r2⟩ := r'
      have hx : r1 = x := hx
      subst hx
      exact mk_own ⟨v0, rfl, hr.own0⟩ (mk_own (p := []) ⟨rfl, rfl, hIx⟩ ⟨v2, rfl, hr.own2⟩)

end Go.Proofs.Ytoblfnoaepbhfaa
