/-
  CONTRACT: the search for polymorphisms, the reference's side: on to the next one.
-/
import Derived.Test.YtllenfkbfeanmaaGreatPolySSa
namespace Go.Proofs.YtllenfkbfeanmaaGreat
open Go.RowKit Go.Shelf Go.IntWalk
open Rep (Rd Own sz)
set_option linter.unusedSimpArgs false
set_option linter.unusedVariables false

/-- The search at block rb: its lists in block cb, its fixed values in fb (none), its table in tb. -/
structure RunQ (lo hi : Nat) (w : World) (t : Tmpl) (m rb cb fb tb tp n : Nat) (es ec tr : TypeId) (tab : List Int) (steps : Nat) (bg : Bool) : Prop where
  qblk : ∃ sv, w.heap[rb]? = some (.cells #[.pointer (some ⟨tp, 0, none⟩), .int .i64 m, sv, .slice (some ⟨cb, 0, none⟩) n n, .slice (some ⟨fb, 0, none⟩) n n, .slice (some ⟨tb, 0, none⟩) n n, .int .i64 steps, .bool bg] tr (0, 0)) ∧ RunM lo hi w cb n es ec sv (setsP t t.2.length) (dueL (looksTo t m t.2.length))
  qfix : OwnSl [fb] w (.slice (some ⟨fb, 0, none⟩) n n) (List.replicate n (-1))
  qtab : OwnSl [tb] w (.slice (some ⟨tb, 0, none⟩) n n) tab
  qlen : tab.length = n
  qtc : w.cell? ⟨tp, 0, none⟩ = some (.int .i64 t.1)
  qdis : (rb ≠ cb ∧ rb ≠ fb ∧ rb ≠ tb ∧ cb ≠ fb ∧ cb ≠ tb ∧ fb ≠ tb) ∧ (tp ≠ rb ∧ tp ≠ tb) ∧ rb < lo ∧ tb < lo ∧ fb < lo
section
variable {lo hi : Nat} {w : World} {t : Tmpl} {m rb cb fb tb tp n : Nat} {es ec tr : TypeId} {tab : List Int} {steps : Nat} {bg : Bool}
theorem RunQ.mono (h : RunQ lo hi w t m rb cb fb tb tp n es ec tr tab steps bg) {w' : World} (hb : Below w.heap.size w w') : RunQ lo hi w' t m rb cb fb tb tp n es ec tr tab steps bg := by
  obtain ⟨sv, h1, h2⟩ := h.qblk
  exact ⟨⟨sv, by rw [hb.block rb (Array.getElem?_eq_some_iff.1 h1).1]; exact h1, h2.mono hb⟩, ownSl_mono h.qfix hb, ownSl_mono h.qtab hb, h.qlen, cellL hb h.qtc, h.qdis⟩
theorem RunQ.setRun (h : RunQ lo hi w t m rb cb fb tb tp n es ec tr tab steps bg) (k : Nat) (b : Bool) : RunQ lo hi (w.setCell ⟨rb, 6, none⟩ (.int .i64 k)) t m rb cb fb tb tp n es ec tr tab k bg ∧ RunQ lo hi (w.setCell ⟨rb, 7, none⟩ (.bool b)) t m rb cb fb tb tp n es ec tr tab steps b := by
  obtain ⟨sv, h1, h2⟩ := h.qblk
  have d := h.qdis
  refine ⟨⟨⟨sv, ?_, h2.setCell _ (by omega) (.inl (by omega))⟩, ?_, ?_, h.qlen, ?_, d⟩, ⟨⟨sv, ?_, h2.setCell _ (by omega) (.inl (by omega))⟩, ?_, ?_, h.qlen, ?_, d⟩⟩
  · rw [heap_setCell_at w rb 6 _ _ _ _ h1]; rfl
  · exact ownSl_but h.qfix ((OnlyAt.refl [rb] w).setCell (p := ⟨rb, 6, none⟩) (by simp) _).but (fun k hk => by simp at hk ⊢; omega)
  · exact ownSl_but h.qtab ((OnlyAt.refl [rb] w).setCell (p := ⟨rb, 6, none⟩) (by simp) _).but (fun k hk => by simp at hk ⊢; omega)
  · exact cellK h.qtc (Below.heap_setCell _ _ _ _ (by simp; omega))
  · rw [heap_setCell_at w rb 7 _ _ _ _ h1]; rfl
  · exact ownSl_but h.qfix ((OnlyAt.refl [rb] w).setCell (p := ⟨rb, 7, none⟩) (by simp) _).but (fun k hk => by simp at hk ⊢; omega)
  · exact ownSl_but h.qtab ((OnlyAt.refl [rb] w).setCell (p := ⟨rb, 7, none⟩) (by simp) _).but (fun k hk => by simp at hk ⊢; omega)
  · exact cellK h.qtc (Below.heap_setCell _ _ _ _ (by simp; omega))
theorem RunQ.tabAt (h : RunQ lo hi w t m rb cb fb tb tp n es ec tr tab steps bg) {p : Nat} (hp : p < n) : w.cell? ⟨tb, p, none⟩ = some (.int .i64 (tab.getD p 0)) ∧ w.frozen? ⟨tb, p, none⟩ = false ∧ ∀ x, I64 x → RunQ lo hi (w.setCell ⟨tb, p, none⟩ (.int .i64 x)) t m rb cb fb tb tp n es ec tr (tab.set p x) steps bg := by
  obtain ⟨sv, h1, h2⟩ := h.qblk
  have d := h.qdis
  obtain ⟨g, o, c, e, hps, hc, hf, hset⟩ := ownSl_int h.qtab p (by rw [h.qlen]; exact hp)
  simp only [Value.slice.injEq, Option.some.injEq, Addr.mk.injEq] at e
  obtain ⟨⟨rfl, rfl, _⟩, _, rfl⟩ := e
  rw [Nat.zero_add] at hc hf hset
  refine ⟨hc, hf, fun x hx => ⟨⟨sv, ?_, h2.setCell _ (by omega) (.inl (by omega))⟩, ?_, hset x hx, by simpa using h.qlen, ?_, d⟩⟩
  · rw [Below.heap_setCell _ _ _ _ (by simp; omega)]; exact h1
  · exact ownSl_but h.qfix ((OnlyAt.refl [tb] w).setCell (p := ⟨tb, p, none⟩) (by simp) _).but (fun k hk => by simp at hk ⊢; omega)
  · exact cellK h.qtc (Below.heap_setCell _ _ _ _ (by simp; omega))
theorem RunQ.fixAt (h : RunQ lo hi w t m rb cb fb tb tp n es ec tr tab steps bg) {p : Nat} (hp : p < n) : w.cell? ⟨fb, p, none⟩ = some (.int .i64 (-1)) := by
  obtain ⟨g, o, c, e, hps, hc, hf, hset⟩ := ownSl_int h.qfix p (by simpa using hp)
  simp only [Value.slice.injEq, Option.some.injEq, Addr.mk.injEq] at e
  obtain ⟨⟨rfl, rfl, _⟩, _, rfl⟩ := e
  rw [Nat.zero_add] at hc
  rw [hc]
  simp [List.getD, hp]
theorem RunQ.rdTab (h : RunQ lo hi w t m rb cb fb tb tp n es ec tr tab steps bg) : Rd w [.slice (some ⟨tb, 0, none⟩) n n] tab := Own.rd (ps := [tb]) ⟨_, rfl, h.qtab⟩
end
/-- A table that is being filled: values, the one that is tried last (none: -1), none behind it. -/
def tabQ (n : Nat) (rp : List Int) (a : Nat) : List Int := rp.reverse ++ (((a : Int) - 1) :: List.replicate (n - rp.length - 1) (-1))
theorem tabQ_len {n : Nat} {rp : List Int} {a : Nat} (h : rp.length < n) : (tabQ n rp a).length = n := by simp [tabQ]; omega
theorem tabQ_at {n : Nat} {rp : List Int} {a : Nat} : (tabQ n rp a).getD rp.length 0 = (a : Int) - 1 := by simp [tabQ, List.getD, List.getElem?_append_right]
theorem tabQ_set {n : Nat} {rp : List Int} {a b : Nat} : (tabQ n rp a).set rp.length ((b : Int) - 1) = tabQ n rp b := by
  unfold tabQ
  rw [List.set_append_right _ _ (by simp)]
  simp
theorem tabQ_back {n : Nat} {v : Int} {rq : List Int} {a : Nat} (hv : 0 ≤ v) (h : rq.length + 1 < n) : (tabQ n (v :: rq) a).set (rq.length + 1) (-1) = tabQ n rq (v.toNat + 1) := by
  unfold tabQ
  rw [List.set_append_right _ _ (by simp)]
  simp only [List.reverse_cons, List.length_append, List.length_reverse, List.length_cons, List.length_nil, Nat.zero_add, Nat.sub_self, List.set_cons_zero, List.append_assoc, List.cons_append, List.nil_append]
  have e1 : ((v.toNat + 1 : Nat) : Int) - 1 = v := by omega
  have e2 : n - rq.length - 1 = (n - (rq.length + 1) - 1) + 1 := by omega
  rw [e1, e2, List.replicate_succ]
theorem tabQ_on {n : Nat} {rp : List Int} {a : Nat} (h : rp.length + 1 < n) : tabQ n rp (a + 1) = tabQ n ((a : Int) :: rp) 0 := by
  unfold tabQ
  have e1 : ((a + 1 : Nat) : Int) - 1 = a := by omega
  have e2 : n - rp.length - 1 = (n - (rp.length + 1) - 1) + 1 := by omega
  simp only [List.reverse_cons, List.length_cons, List.append_assoc, List.cons_append, List.nil_append]
  rw [e1, e2, List.replicate_succ]
  rfl
theorem tabQ_take {n : Nat} {rp : List Int} {a : Nat} : (tabQ n rp (a + 1)).take (rp.length + 1) = rp.reverse ++ [(a : Int)] := by
  unfold tabQ
  have e1 : ((a + 1 : Nat) : Int) - 1 = a := by omega
  rw [e1]
  rw [show rp.length + 1 = (rp.reverse ++ [(a : Int)]).length by simp]
  rw [show rp.reverse ++ ((a : Int) :: List.replicate (n - rp.length - 1) (-1)) = (rp.reverse ++ [(a : Int)]) ++ List.replicate (n - rp.length - 1) (-1) by simp]
  exact List.take_left' rfl
/-- What a live search goes on with. -/
def UpSame (t : Tmpl) (m n : Nat) (rp : List Int) (a s : Nat) (rp' : List Int) (a' s' : Nat) : Prop := ∀ kind, upR kind (fitL t m) t.1.toNat n rp a s = upR kind (fitL t m) t.1.toNat n rp' a' s'
def ValR (t : Tmpl) (rp : List Int) : Prop := ∀ v, v ∈ rp → 0 ≤ v ∧ v < t.1
def stepOf (w : World) (rb : Nat) : Nat := match w.cell? ⟨rb, 6, none⟩ with | some (.int _ k) => k.toNat | _ => 0
def nextC (q : Nat) : Int := if q = 7 then 7 else 0
/-- What going on has brought: a table (1), the budget's end (7), nothing (0). -/
def NextR (lo hi : Nat) (w' : World) (t : Tmpl) (m rb cb fb tb tp n : Nat) (es ec tr : TypeId) (rp : List Int) (a s : Nat) (q : Nat) : Prop :=
  (q = 1 ∧ ∃ (rp' : List Int) (a' s' : Nat), rp'.length + 1 = n ∧ ValR t rp' ∧ (a' : Int) < t.1 ∧ (s < s' ∧ s' ≤ 6000) ∧ RunQ lo hi w' t m rb cb fb tb tp n es ec tr (tabQ n rp' (a' + 1)) s' true ∧
    ∀ kind, upR kind (fitL t m) t.1.toNat n rp a s = if kind (rp'.reverse ++ [(a' : Int)]) then .hit (rp'.reverse ++ [(a' : Int)]) else upR kind (fitL t m) t.1.toNat n rp' (a' + 1) s') ∨
  (q = 7 ∧ ∀ kind, upR kind (fitL t m) t.1.toNat n rp a s = .out) ∨
  (q = 0 ∧ ∀ kind, ∃ s', upR kind (fitL t m) t.1.toNat n rp a s = .dry s')
theorem RunQ.stepEq {lo hi : Nat} {w : World} {t : Tmpl} {m rb cb fb tb tp n : Nat} {es ec tr : TypeId} {tab : List Int} {steps : Nat} {bg : Bool} (h : RunQ lo hi w t m rb cb fb tb tp n es ec tr tab steps bg) : stepOf w rb = steps := by
  obtain ⟨sv, h1, h2⟩ := h.qblk
  unfold stepOf
  rw [cell_at_block h1]
  simp
theorem meas_step {s n q p : Nat} (hs : s < 6000) (hq : q ≤ n) : (6001 - (s + 1)) * (n + 2) + q + 1 < (6001 - s) * (n + 2) + p + 1 := by
  have e : 6001 - s = (6001 - (s + 1)) + 1 := by omega
  rw [e, Nat.add_mul]
  omega
theorem Val_snoc {t : Tmpl} {rp : List Int} {a : Nat} (h : ValR t rp) (ha : (a : Int) < t.1) : Val t.1 (rp.reverse ++ [(a : Int)]) := by
  intro x hx
  rcases List.mem_append.1 hx with h1 | h1
  · have := h x (by simpa using h1); omega
  · simp only [List.mem_singleton] at h1; subst h1; omega
set_option maxRecDepth 100000 in
set_option maxHeartbeats 16000000 in
theorem next04_c (t : Tmpl) (m rb cb fb tb tp n lo hi : Nat) (es ec tr : TypeId) (rp : List Int) (a s : Nat) (bg : Bool) (w : World) (hok : tmplOk t = true) (hn : n ≤ 1000) (hn1 : 1 ≤ n)
    (hQ : RunQ lo hi w t m rb cb fb tb tp n es ec tr (tabQ n rp a) s bg) (hv : ValR t rp) (ha : (a : Int) ≤ t.1) (hs6 : s ≤ 6000) (hbg : bg = false → rp = []) (hbg2 : bg = true → rp.length + 1 = n) :
    Calls Tryz.prog 31 #[.pointer (some ⟨rb, 0, none⟩)] w fun e w' => ∃ q : Nat, e = .returned (.tuple #[.bool (q == 1), .int .i64 (nextC q)]) ∧ But [rb, tb] w w' ∧ NextR lo hi w' t m rb cb fb tb tp n es ec tr rp a s q := by
  have hsz := (tmplOk_get hok).1
  have HQ := Lib.hid hQ
  have HBG := Lib.hid hbg
  have HBG2 := Lib.hid hbg2
  have hnI : (1 : Int) ≤ n := by omega
  have hwn : IntKind.i64.wrap ((n : Int) - 1) = ((n - 1 : Nat) : Int) := by rw [i64_in _ (by omega)]; omega
  obtain ⟨sv, hb0, hM⟩ := hQ.qblk
  have c5 : w.cell? ⟨rb, 5, none⟩ = some (.slice (some ⟨tb, 0, none⟩) n n) := by rw [cell_at_block hb0]; rfl
  have c7 : w.cell? ⟨rb, 7, none⟩ = some (.bool bg) := by rw [cell_at_block hb0]; rfl
  have f7 : w.frozen? ⟨rb, 7, none⟩ = false := free_at_block hb0
  clear hQ hbg hbg2 hb0 hM
  go_enter Tryz.func31, Tryz.ntmps31
  cases bg with
  | false =>
    obtain rfl := HBG.out rfl
    go_wp2_with fail
    have HQ1 := Lib.hid (HQ.out.setRun 0 true).2
    have HBT1 := Lib.hid (show But [rb, tb] w (w.setCell ⟨rb, 7, none⟩ (.bool true)) from ((OnlyAt.refl [rb, tb] w).setCell (p := ⟨rb, 7, none⟩) (by simp) _).but)
    generalize w.setCell ⟨rb, 7, none⟩ (.bool true) = w1 at *
    go_loopw [5] (fun i wl => ∃ (rp' : List Int) (a' s' : Nat) (z : Int), i = .int .i64 z ∧ z < (n : Int) ∧ Hid (But [rb, tb] w wl) ∧ Hid ((z = (rp'.length : Int) ∧ RunQ lo hi wl t m rb cb fb tb tp n es ec tr (tabQ n rp' a') s' true ∧ ValR t rp' ∧ (a' : Int) ≤ t.1 ∧ (s ≤ s' ∧ s' ≤ 6000) ∧ UpSame t m n [] a s rp' a' s') ∨ (z = -1 ∧ ∀ kind, ∃ s1, upR kind (fitL t m) t.1.toNat n [] a s = .dry s1))) (fun i wl => if intOf i < 0 then 0 else (6001 - stepOf wl rb) * (n + 2) + (intOf i).toNat + 1)
    case atStart => exact ⟨[], a, s, 0, rfl, (by omega), HBT1.out, .inl ⟨rfl, HQ1.out, hv, ha, ⟨Nat.le_refl _, hs6⟩, fun kind => rfl⟩⟩
    case round =>
      clear HQ1 HBT1 HQ
      obtain ⟨rp', a', s', z, rfl, hzn, hbt, hor⟩ := hrel
      by_cases hz : 0 ≤ z
      · obtain ⟨hz1, HQr, hvr, har, ⟨hss, hsr⟩, hup⟩ : z = (rp'.length : Int) ∧ RunQ lo hi wr t m rb cb fb tb tp n es ec tr (tabQ n rp' a') s' true ∧ ValR t rp' ∧ (a' : Int) ≤ t.1 ∧ (s ≤ s' ∧ s' ≤ 6000) ∧ UpSame t m n [] a s rp' a' s' := by
          rcases hor.out with h | h
          · exact h
          · omega
        subst hz1
        clear hor
        have hpn : rp'.length < n := by omega
        have hBT := hbt.out
        have HMS := Lib.hid HQr.stepEq
        have HR := Lib.hid HQr
        obtain ⟨sv2, hb2, hM2⟩ := HQr.qblk
        have d0 : wr.cell? ⟨rb, 0, none⟩ = some (.pointer (some ⟨tp, 0, none⟩)) := by rw [cell_at_block hb2]; rfl
        have d4 : wr.cell? ⟨rb, 4, none⟩ = some (.slice (some ⟨fb, 0, none⟩) n n) := by rw [cell_at_block hb2]; rfl
        have d5 : wr.cell? ⟨rb, 5, none⟩ = some (.slice (some ⟨tb, 0, none⟩) n n) := by rw [cell_at_block hb2]; rfl
        have d8 := (HQr.tabAt hpn).1
        rw [tabQ_at] at d8
        go_wp2_with fail
        refine (other_c t.1 ((a' : Int) - 1) rp'.length n rb fb tb tp _ hsz (by omega) hpn d0 d4 d5 HQr.qtc (HQr.fixAt hpn) d8).mono ?_
        rintro e w2 ⟨rfl, hbe⟩
        clear d0 d4 d5 d8 HQr hM2 hb2
        have HQ2 := Lib.hid (HR.out.mono hbe)
        have HBT2 := Lib.hid (hBT.trans (but_of hbe))
        clear hBT hbt HR hbe
        have hzI : (0 : Int) ≤ rp'.length := by omega
        obtain ⟨sv2, hb2, hM2⟩ := HQ2.out.qblk
        have d5 : w2.cell? ⟨rb, 5, none⟩ = some (.slice (some ⟨tb, 0, none⟩) n n) := by rw [cell_at_block hb2]; rfl
        have d6 : w2.cell? ⟨rb, 6, none⟩ = some (.int .i64 s') := by rw [cell_at_block hb2]; rfl
        have g6 : w2.frozen? ⟨rb, 6, none⟩ = false := free_at_block hb2
        have hpI : (rp'.length : Int) < n := by omega
        clear hb2 hM2
        by_cases ha2 : (a' : Int) < t.1
        · rw [show (if (a' : Int) - 1 + 1 < t.1 then (a' : Int) - 1 + 1 else -1) = (a' : Int) by rw [if_pos (by omega)]; omega]
          have hna : ¬ (a' : Int) < 0 := by omega
          have hw1 : IntKind.i64.wrap ((s' : Int) + 1) = (s' : Int) + 1 := i64_in _ (by omega)
          clear d5
          go_upto_region 12 with fail
          have HQ3 := Lib.hid (show RunQ lo hi (w2.setCell ⟨rb, 6, none⟩ (.int .i64 ((s' : Int) + 1))) t m rb cb fb tb tp n es ec tr (tabQ n rp' a') (s' + 1) true from (HQ2.out.setRun (s' + 1) true).1)
          have HBT3 := Lib.hid (HBT2.out.trans ((OnlyAt.refl [rb, tb] w2).setCell (p := ⟨rb, 6, none⟩) (by simp) (.int .i64 ((s' : Int) + 1))).but)
          clear d6 g6 HQ2 HBT2
          generalize w2.setCell ⟨rb, 6, none⟩ (.int .i64 ((s' : Int) + 1)) = w3 at *
          obtain ⟨sv3, hb3, hM3⟩ := HQ3.out.qblk
          have d5 : w3.cell? ⟨rb, 5, none⟩ = some (.slice (some ⟨tb, 0, none⟩) n n) := by rw [cell_at_block hb3]; rfl
          have d6 : w3.cell? ⟨rb, 6, none⟩ = some (.int .i64 ((s' : Int) + 1)) := by rw [cell_at_block hb3]; rfl
          obtain ⟨d8, d9, hst⟩ := HQ3.out.tabAt hpn
          have HST := Lib.hid hst
          clear hb3 hM3 hw1 hst
          have HUS := Lib.hid (fun kind => (hup kind).trans (upR_step kind (fitL t m) t.1.toNat (n := n) (rp := rp') (a := a') (s := s') (by omega) hpn))
          by_cases hs60 : s' = 6000
          · have hgt : (6000 : Int) < (s' : Int) + 1 := by omega
            have HRES := Lib.hid (show ∀ kind, upR kind (fitL t m) t.1.toNat n [] a s = .out from fun kind => by rw [HUS.out kind, if_pos hs60])
            clear hs60
            go_wp2_with fail
            exact bodyPost_ret (v := .tuple #[.bool false, .int .i64 7]) (by simp [results, Tryz.results31, go_sem]) rfl ⟨7, rfl, HBT3.out, .inr (.inl ⟨rfl, HRES.out⟩)⟩
          · have hgt : ¬ (6000 : Int) < (s' : Int) + 1 := by omega
            have hs59 : s' < 6000 := by omega
            go_upto_region 15 with fail
            have HQ4 := Lib.hid (HST.out ((a' : Int)) ⟨by omega, by omega⟩)
            have HBT4 := Lib.hid (HBT3.out.trans ((OnlyAt.refl [rb, tb] w3).setCell (p := ⟨tb, rp'.length, none⟩) (by simp) (.int .i64 (a' : Int))).but)
            rw [show (a' : Int) = ((a' + 1 : Nat) : Int) - 1 by omega, tabQ_set] at HQ4
            rw [show ((a' + 1 : Nat) : Int) - 1 = (a' : Int) by omega] at HQ4
            clear d5 d6 d8 d9 HQ3 HBT3 HST hgt hna
            generalize w3.setCell ⟨tb, rp'.length, none⟩ (.int .i64 (a' : Int)) = w4 at *
            obtain ⟨sv4, hb4, hM4⟩ := HQ4.out.qblk
            obtain ⟨aD, cD, e3, hD⟩ := hM4.at hpn
            have e0 : w4.cell? ⟨rb, 0, none⟩ = some (.pointer (some ⟨tp, 0, none⟩)) := by rw [cell_at_block hb4]; rfl
            have e2 : w4.cell? ⟨rb, 2, none⟩ = some sv4 := by rw [cell_at_block hb4]; rfl
            have e4 : w4.cell? ⟨rb, 3, none⟩ = some (.slice (some ⟨cb, 0, none⟩) n n) := by rw [cell_at_block hb4]; rfl
            have e5 : w4.cell? ⟨rb, 5, none⟩ = some (.slice (some ⟨tb, 0, none⟩) n n) := by rw [cell_at_block hb4]; rfl
            go_wp2_with fail
            refine (fits_c t m rp'.length n rb cb tb tp (rp'.reverse ++ [(a' : Int)]) (tabQ n rp' (a' + 1)) sv4 _ _ hok hpn (by simp) (tabQ_len hpn) tabQ_take (Val_snoc hvr ha2) hM4.rdS hD HQ4.out.rdTab e0 e2 e4 e5 HQ4.out.qtc e3).mono ?_
            rintro e w5 ⟨rfl, hbf⟩
            have HQ5 := Lib.hid (HQ4.out.mono hbf)
            have HBT5 := Lib.hid (HBT4.out.trans (but_of hbf))
            have HS5 := Lib.hid HQ5.out.stepEq
            clear e0 e2 e3 e4 e5 hD hM4 hb4 HQ4 HBT4 hbf
            cases hF : fitL t m (rp'.reverse ++ [(a' : Int)]) with
            | false =>
              have HNX := Lib.hid (show UpSame t m n [] a s rp' (a' + 1) (s' + 1) from fun kind => by rw [HUS.out kind, if_neg (by omega), hF]; rfl)
              clear HUS hF
              go_wp2_with fail
              go_roundw
              case rel => exact ⟨rp', a' + 1, s' + 1, rp'.length, rfl, by omega, HBT5.out, .inl ⟨rfl, HQ5.out, hvr, by omega, ⟨by omega, by omega⟩, HNX.out⟩⟩
              case measure =>
                have := meas_step (n := n) (q := rp'.length) (p := rp'.length) hs59 (by omega)
                simp only [intOf, HS5.out, HMS.out]
                rw [if_neg (by omega), if_neg (by omega)]
                simpa using this
            | true =>
              by_cases hl : rp'.length + 1 = n
              · have hlI : (rp'.length : Int) + 1 = n := by omega
                have HRS := Lib.hid (show NextR lo hi w5 t m rb cb fb tb tp n es ec tr [] a s 1 from .inl ⟨rfl, rp', a', s' + 1, hl, hvr, ha2, ⟨by omega, by omega⟩, HQ5.out, fun kind => by rw [HUS.out kind, if_neg (by omega), hF, if_pos rfl, if_pos hl]⟩)
                clear HUS hF hl
                go_wp2_with fail
                exact bodyPost_ret (v := .tuple #[.bool true, .int .i64 0]) (by simp [results, Tryz.results31, go_sem]) rfl ⟨1, rfl, HBT5.out, HRS.out⟩
              · have hlI : ¬ (rp'.length : Int) + 1 = n := by omega
                have HNX := Lib.hid (show UpSame t m n [] a s ((a' : Int) :: rp') 0 (s' + 1) from fun kind => by rw [HUS.out kind, if_neg (by omega), hF, if_pos rfl, if_neg hl])
                rw [tabQ_on (by omega)] at HQ5
                have hw2 : IntKind.i64.wrap ((rp'.length : Int) + 1) = (rp'.length : Int) + 1 := i64_in _ (by omega)
                clear HUS hF hl
                go_wp2_with fail
                go_roundw
                case rel =>
                  refine ⟨(a' : Int) :: rp', 0, s' + 1, (rp'.length : Int) + 1, rfl, by omega, HBT5.out, .inl ⟨by simp, HQ5.out, fun x hx => ?_, by omega, ⟨by omega, by omega⟩, HNX.out⟩⟩
                  rcases List.mem_cons.1 hx with hx | hx
                  · subst hx; omega
                  · exact hvr x hx
                case measure =>
                  have := meas_step (n := n) (q := rp'.length + 1) (p := rp'.length) hs59 (by omega)
                  simp only [intOf, HS5.out, HMS.out]
                  rw [if_neg (by omega), if_neg (by omega)]
                  rw [show ((rp'.length : Int) + 1).toNat = rp'.length + 1 by omega]
                  simpa using this
        · have hae : ¬ (a' : Int) < t.1 := ha2
          rw [show (if (a' : Int) - 1 + 1 < t.1 then (a' : Int) - 1 + 1 else -1) = -1 by rw [if_neg (by omega)]]
          have hlt0 : (-1 : Int) < 0 := by omega
          obtain ⟨d8, d9, hst⟩ := HQ2.out.tabAt hpn
          have HST := Lib.hid hst
          have hw2 : IntKind.i64.wrap ((rp'.length : Int) - 1) = (rp'.length : Int) - 1 := i64_in _ (by omega)
          have HUS := Lib.hid (fun kind => (hup kind).trans (upR_end kind (fitL t m) t.1.toNat (n := n) (rp := rp') (a := a') (s := s') (by omega)))
          clear d6 g6 hst
          go_upto_region 10 with fail
          have HQ3 := Lib.hid (HST.out (-1) ⟨by omega, by omega⟩)
          have HBT3 := Lib.hid (HBT2.out.trans ((OnlyAt.refl [rb, tb] w2).setCell (p := ⟨tb, rp'.length, none⟩) (by simp) (.int .i64 (-1))).but)
          clear d5 d8 d9 HQ2 HBT2 HST
          generalize w2.setCell ⟨tb, rp'.length, none⟩ (.int .i64 (-1)) = w3 at *
          have HS3 := Lib.hid HQ3.out.stepEq
          go_wp2_with fail
          go_roundw
          case rel =>
            cases rp' with
            | nil => exact ⟨[], 0, 0, _, rfl, by simp; omega, HBT3.out, .inr ⟨by simp, fun kind => ⟨s', HUS.out kind⟩⟩⟩
            | cons v rq =>
              have hv0 := hvr v (List.mem_cons_self ..)
              have hQ3 := HQ3.out
              simp only [List.length_cons] at hQ3 hpn
              rw [tabQ_back hv0.1 hpn] at hQ3
              exact ⟨rq, v.toNat + 1, s', _, rfl, by simp; omega, HBT3.out, .inl ⟨by simp, hQ3, fun x hx => hvr x (List.mem_cons_of_mem _ hx), by omega, ⟨hss, hsr⟩, HUS.out⟩⟩
          case measure =>
            simp only [intOf, HS3.out, HMS.out]
            rw [if_neg (show ¬ (rp'.length : Int) < 0 by omega)]
            split
            · omega
            · have e1 : ((rp'.length : Int) - 1).toNat < (rp'.length : Int).toNat := by omega
              omega
      · have hz1 : z = -1 := by
          rcases hor.out with h | h
          · omega
          · exact h.1
        subst hz1
        have HDR := Lib.hid (show ∀ kind, ∃ s1, upR kind (fitL t m) t.1.toNat n [] a s = .dry s1 from by
          rcases hor.out with h | h
          · omega
          · exact h.2)
        clear hor
        have hm1 : ¬ (0 : Int) ≤ -1 := by omega
        go_wp2_with fail
        exact bodyPost_ret (v := .tuple #[.bool false, .int .i64 0]) (by simp [results, Tryz.results31, go_sem]) rfl ⟨0, rfl, hbt.out, .inr (.inr ⟨rfl, HDR.out⟩)⟩
  | true =>
    have hrl := HBG2.out rfl
    have hnr : n - 1 = rp.length := by omega
    have HNR := Lib.hid hnr
    clear hnr
    go_wp2_with fail
    rw [HNR.out]
    have HQ1 := Lib.hid (HQ.out.setRun 0 true).2
    have HBT1 := Lib.hid (show But [rb, tb] w (w.setCell ⟨rb, 7, none⟩ (.bool true)) from ((OnlyAt.refl [rb, tb] w).setCell (p := ⟨rb, 7, none⟩) (by simp) _).but)
    generalize w.setCell ⟨rb, 7, none⟩ (.bool true) = w1 at *
    go_loopw [5] (fun i wl => ∃ (rp' : List Int) (a' s' : Nat) (z : Int), i = .int .i64 z ∧ z < (n : Int) ∧ Hid (But [rb, tb] w wl) ∧ Hid ((z = (rp'.length : Int) ∧ RunQ lo hi wl t m rb cb fb tb tp n es ec tr (tabQ n rp' a') s' true ∧ ValR t rp' ∧ (a' : Int) ≤ t.1 ∧ (s ≤ s' ∧ s' ≤ 6000) ∧ UpSame t m n rp a s rp' a' s') ∨ (z = -1 ∧ ∀ kind, ∃ s1, upR kind (fitL t m) t.1.toNat n rp a s = .dry s1))) (fun i wl => if intOf i < 0 then 0 else (6001 - stepOf wl rb) * (n + 2) + (intOf i).toNat + 1)
    case atStart => exact ⟨rp, a, s, (rp.length : Int), rfl, (by omega), HBT1.out, .inl ⟨rfl, HQ1.out, hv, ha, ⟨Nat.le_refl _, hs6⟩, fun kind => rfl⟩⟩
    case round =>
      clear HQ1 HBT1 HQ
      obtain ⟨rp', a', s', z, rfl, hzn, hbt, hor⟩ := hrel
      by_cases hz : 0 ≤ z
      · obtain ⟨hz1, HQr, hvr, har, ⟨hss, hsr⟩, hup⟩ : z = (rp'.length : Int) ∧ RunQ lo hi wr t m rb cb fb tb tp n es ec tr (tabQ n rp' a') s' true ∧ ValR t rp' ∧ (a' : Int) ≤ t.1 ∧ (s ≤ s' ∧ s' ≤ 6000) ∧ UpSame t m n rp a s rp' a' s' := by
          rcases hor.out with h | h
          · exact h
          · omega
        subst hz1
        clear hor
        have hpn : rp'.length < n := by omega
        have hBT := hbt.out
        have HMS := Lib.hid HQr.stepEq
        have HR := Lib.hid HQr
        obtain ⟨sv2, hb2, hM2⟩ := HQr.qblk
        have d0 : wr.cell? ⟨rb, 0, none⟩ = some (.pointer (some ⟨tp, 0, none⟩)) := by rw [cell_at_block hb2]; rfl
        have d4 : wr.cell? ⟨rb, 4, none⟩ = some (.slice (some ⟨fb, 0, none⟩) n n) := by rw [cell_at_block hb2]; rfl
        have d5 : wr.cell? ⟨rb, 5, none⟩ = some (.slice (some ⟨tb, 0, none⟩) n n) := by rw [cell_at_block hb2]; rfl
        have d8 := (HQr.tabAt hpn).1
        rw [tabQ_at] at d8
        go_wp2_with fail
        refine (other_c t.1 ((a' : Int) - 1) rp'.length n rb fb tb tp _ hsz (by omega) hpn d0 d4 d5 HQr.qtc (HQr.fixAt hpn) d8).mono ?_
        rintro e w2 ⟨rfl, hbe⟩
        clear d0 d4 d5 d8 HQr hM2 hb2
        have HQ2 := Lib.hid (HR.out.mono hbe)
        have HBT2 := Lib.hid (hBT.trans (but_of hbe))
        clear hBT hbt HR hbe
        have hzI : (0 : Int) ≤ rp'.length := by omega
        obtain ⟨sv2, hb2, hM2⟩ := HQ2.out.qblk
        have d5 : w2.cell? ⟨rb, 5, none⟩ = some (.slice (some ⟨tb, 0, none⟩) n n) := by rw [cell_at_block hb2]; rfl
        have d6 : w2.cell? ⟨rb, 6, none⟩ = some (.int .i64 s') := by rw [cell_at_block hb2]; rfl
        have g6 : w2.frozen? ⟨rb, 6, none⟩ = false := free_at_block hb2
        have hpI : (rp'.length : Int) < n := by omega
        clear hb2 hM2
        by_cases ha2 : (a' : Int) < t.1
        · rw [show (if (a' : Int) - 1 + 1 < t.1 then (a' : Int) - 1 + 1 else -1) = (a' : Int) by rw [if_pos (by omega)]; omega]
          have hna : ¬ (a' : Int) < 0 := by omega
          have hw1 : IntKind.i64.wrap ((s' : Int) + 1) = (s' : Int) + 1 := i64_in _ (by omega)
          clear d5
          go_upto_region 12 with fail
          have HQ3 := Lib.hid (show RunQ lo hi (w2.setCell ⟨rb, 6, none⟩ (.int .i64 ((s' : Int) + 1))) t m rb cb fb tb tp n es ec tr (tabQ n rp' a') (s' + 1) true from (HQ2.out.setRun (s' + 1) true).1)
          have HBT3 := Lib.hid (HBT2.out.trans ((OnlyAt.refl [rb, tb] w2).setCell (p := ⟨rb, 6, none⟩) (by simp) (.int .i64 ((s' : Int) + 1))).but)
          clear d6 g6 HQ2 HBT2
          generalize w2.setCell ⟨rb, 6, none⟩ (.int .i64 ((s' : Int) + 1)) = w3 at *
          obtain ⟨sv3, hb3, hM3⟩ := HQ3.out.qblk
          have d5 : w3.cell? ⟨rb, 5, none⟩ = some (.slice (some ⟨tb, 0, none⟩) n n) := by rw [cell_at_block hb3]; rfl
          have d6 : w3.cell? ⟨rb, 6, none⟩ = some (.int .i64 ((s' : Int) + 1)) := by rw [cell_at_block hb3]; rfl
          obtain ⟨d8, d9, hst⟩ := HQ3.out.tabAt hpn
          have HST := Lib.hid hst
          clear hb3 hM3 hw1 hst
          have HUS := Lib.hid (fun kind => (hup kind).trans (upR_step kind (fitL t m) t.1.toNat (n := n) (rp := rp') (a := a') (s := s') (by omega) hpn))
          by_cases hs60 : s' = 6000
          · have hgt : (6000 : Int) < (s' : Int) + 1 := by omega
            have HRES := Lib.hid (show ∀ kind, upR kind (fitL t m) t.1.toNat n rp a s = .out from fun kind => by rw [HUS.out kind, if_pos hs60])
            clear hs60
            go_wp2_with fail
            exact bodyPost_ret (v := .tuple #[.bool false, .int .i64 7]) (by simp [results, Tryz.results31, go_sem]) rfl ⟨7, rfl, HBT3.out, .inr (.inl ⟨rfl, HRES.out⟩)⟩
          · have hgt : ¬ (6000 : Int) < (s' : Int) + 1 := by omega
            have hs59 : s' < 6000 := by omega
            go_upto_region 15 with fail
            have HQ4 := Lib.hid (HST.out ((a' : Int)) ⟨by omega, by omega⟩)
            have HBT4 := Lib.hid (HBT3.out.trans ((OnlyAt.refl [rb, tb] w3).setCell (p := ⟨tb, rp'.length, none⟩) (by simp) (.int .i64 (a' : Int))).but)
            rw [show (a' : Int) = ((a' + 1 : Nat) : Int) - 1 by omega, tabQ_set] at HQ4
            rw [show ((a' + 1 : Nat) : Int) - 1 = (a' : Int) by omega] at HQ4
            clear d5 d6 d8 d9 HQ3 HBT3 HST hgt hna
            generalize w3.setCell ⟨tb, rp'.length, none⟩ (.int .i64 (a' : Int)) = w4 at *
            obtain ⟨sv4, hb4, hM4⟩ := HQ4.out.qblk
            obtain ⟨aD, cD, e3, hD⟩ := hM4.at hpn
            have e0 : w4.cell? ⟨rb, 0, none⟩ = some (.pointer (some ⟨tp, 0, none⟩)) := by rw [cell_at_block hb4]; rfl
            have e2 : w4.cell? ⟨rb, 2, none⟩ = some sv4 := by rw [cell_at_block hb4]; rfl
            have e4 : w4.cell? ⟨rb, 3, none⟩ = some (.slice (some ⟨cb, 0, none⟩) n n) := by rw [cell_at_block hb4]; rfl
            have e5 : w4.cell? ⟨rb, 5, none⟩ = some (.slice (some ⟨tb, 0, none⟩) n n) := by rw [cell_at_block hb4]; rfl
            go_wp2_with fail
            refine (fits_c t m rp'.length n rb cb tb tp (rp'.reverse ++ [(a' : Int)]) (tabQ n rp' (a' + 1)) sv4 _ _ hok hpn (by simp) (tabQ_len hpn) tabQ_take (Val_snoc hvr ha2) hM4.rdS hD HQ4.out.rdTab e0 e2 e4 e5 HQ4.out.qtc e3).mono ?_
            rintro e w5 ⟨rfl, hbf⟩
            have HQ5 := Lib.hid (HQ4.out.mono hbf)
            have HBT5 := Lib.hid (HBT4.out.trans (but_of hbf))
            have HS5 := Lib.hid HQ5.out.stepEq
            clear e0 e2 e3 e4 e5 hD hM4 hb4 HQ4 HBT4 hbf
            cases hF : fitL t m (rp'.reverse ++ [(a' : Int)]) with
            | false =>
              have HNX := Lib.hid (show UpSame t m n rp a s rp' (a' + 1) (s' + 1) from fun kind => by rw [HUS.out kind, if_neg (by omega), hF]; rfl)
              clear HUS hF
              go_wp2_with fail
              go_roundw
              case rel => exact ⟨rp', a' + 1, s' + 1, rp'.length, rfl, by omega, HBT5.out, .inl ⟨rfl, HQ5.out, hvr, by omega, ⟨by omega, by omega⟩, HNX.out⟩⟩
              case measure =>
                have := meas_step (n := n) (q := rp'.length) (p := rp'.length) hs59 (by omega)
                simp only [intOf, HS5.out, HMS.out]
                rw [if_neg (by omega), if_neg (by omega)]
                simpa using this
            | true =>
              by_cases hl : rp'.length + 1 = n
              · have hlI : (rp'.length : Int) + 1 = n := by omega
                have HRS := Lib.hid (show NextR lo hi w5 t m rb cb fb tb tp n es ec tr rp a s 1 from .inl ⟨rfl, rp', a', s' + 1, hl, hvr, ha2, ⟨by omega, by omega⟩, HQ5.out, fun kind => by rw [HUS.out kind, if_neg (by omega), hF, if_pos rfl, if_pos hl]⟩)
                clear HUS hF hl
                go_wp2_with fail
                exact bodyPost_ret (v := .tuple #[.bool true, .int .i64 0]) (by simp [results, Tryz.results31, go_sem]) rfl ⟨1, rfl, HBT5.out, HRS.out⟩
              · have hlI : ¬ (rp'.length : Int) + 1 = n := by omega
                have HNX := Lib.hid (show UpSame t m n rp a s ((a' : Int) :: rp') 0 (s' + 1) from fun kind => by rw [HUS.out kind, if_neg (by omega), hF, if_pos rfl, if_neg hl])
                rw [tabQ_on (by omega)] at HQ5
                have hw2 : IntKind.i64.wrap ((rp'.length : Int) + 1) = (rp'.length : Int) + 1 := i64_in _ (by omega)
                clear HUS hF hl
                go_wp2_with fail
                go_roundw
                case rel =>
                  refine ⟨(a' : Int) :: rp', 0, s' + 1, (rp'.length : Int) + 1, rfl, by omega, HBT5.out, .inl ⟨by simp, HQ5.out, fun x hx => ?_, by omega, ⟨by omega, by omega⟩, HNX.out⟩⟩
                  rcases List.mem_cons.1 hx with hx | hx
                  · subst hx; omega
                  · exact hvr x hx
                case measure =>
                  have := meas_step (n := n) (q := rp'.length + 1) (p := rp'.length) hs59 (by omega)
                  simp only [intOf, HS5.out, HMS.out]
                  rw [if_neg (by omega), if_neg (by omega)]
                  rw [show ((rp'.length : Int) + 1).toNat = rp'.length + 1 by omega]
                  simpa using this
        · have hae : ¬ (a' : Int) < t.1 := ha2
          rw [show (if (a' : Int) - 1 + 1 < t.1 then (a' : Int) - 1 + 1 else -1) = -1 by rw [if_neg (by omega)]]
          have hlt0 : (-1 : Int) < 0 := by omega
          obtain ⟨d8, d9, hst⟩ := HQ2.out.tabAt hpn
          have HST := Lib.hid hst
          have hw2 : IntKind.i64.wrap ((rp'.length : Int) - 1) = (rp'.length : Int) - 1 := i64_in _ (by omega)
          have HUS := Lib.hid (fun kind => (hup kind).trans (upR_end kind (fitL t m) t.1.toNat (n := n) (rp := rp') (a := a') (s := s') (by omega)))
          clear d6 g6 hst
          go_upto_region 10 with fail
          have HQ3 := Lib.hid (HST.out (-1) ⟨by omega, by omega⟩)
          have HBT3 := Lib.hid (HBT2.out.trans ((OnlyAt.refl [rb, tb] w2).setCell (p := ⟨tb, rp'.length, none⟩) (by simp) (.int .i64 (-1))).but)
          clear d5 d8 d9 HQ2 HBT2 HST
          generalize w2.setCell ⟨tb, rp'.length, none⟩ (.int .i64 (-1)) = w3 at *
          have HS3 := Lib.hid HQ3.out.stepEq
          go_wp2_with fail
          go_roundw
          case rel =>
            cases rp' with
            | nil => exact ⟨[], 0, 0, _, rfl, by simp; omega, HBT3.out, .inr ⟨by simp, fun kind => ⟨s', HUS.out kind⟩⟩⟩
            | cons v rq =>
              have hv0 := hvr v (List.mem_cons_self ..)
              have hQ3 := HQ3.out
              simp only [List.length_cons] at hQ3 hpn
              rw [tabQ_back hv0.1 hpn] at hQ3
              exact ⟨rq, v.toNat + 1, s', _, rfl, by simp; omega, HBT3.out, .inl ⟨by simp, hQ3, fun x hx => hvr x (List.mem_cons_of_mem _ hx), by omega, ⟨hss, hsr⟩, HUS.out⟩⟩
          case measure =>
            simp only [intOf, HS3.out, HMS.out]
            rw [if_neg (show ¬ (rp'.length : Int) < 0 by omega)]
            split
            · omega
            · have e1 : ((rp'.length : Int) - 1).toNat < (rp'.length : Int).toNat := by omega
              omega
      · have hz1 : z = -1 := by
          rcases hor.out with h | h
          · omega
          · exact h.1
        subst hz1
        have HDR := Lib.hid (show ∀ kind, ∃ s1, upR kind (fitL t m) t.1.toNat n rp a s = .dry s1 from by
          rcases hor.out with h | h
          · omega
          · exact h.2)
        clear hor
        have hm1 : ¬ (0 : Int) ≤ -1 := by omega
        go_wp2_with fail
        exact bodyPost_ret (v := .tuple #[.bool false, .int .i64 0]) (by simp [results, Tryz.results31, go_sem]) rfl ⟨0, rfl, hbt.out, .inr (.inr ⟨rfl, HDR.out⟩)⟩

end Go.Proofs.YtllenfkbfeanmaaGreat

