/-
  CONTRACTS: values that are chosen one after the other; both sides.
-/
import Derived.Test.YtllenfkbfeanmaaGreatPairsFa
namespace Go.Proofs.YtllenfkbfeanmaaGreat
open Go.RowKit Go.Shelf Go.IntWalk
open Rep (Rd Own sz)
set_option linter.unusedSimpArgs false
set_option linter.unusedVariables false

/-- Whether a value comes, of the variable 0, in all its pair relations. -/
def firstP (size v : Nat) (ps : List RelT) (a : Int) : Bool := (List.range v).all (fun j => decide (j = 0) || (upL 0 size).any (fun b => leftP ps 0 j a b))
/-- Whether a value is left with the values before it. -/
def fitsP (size v : Nat) (ps : List RelT) (vals : List Int) (a : Int) : Bool :=
  if vals.length = 0 then firstP size v ps a else (List.range vals.length).all (fun j => leftP ps j vals.length (vals.getD j 0) a)
def greedyTo (size v : Nat) (ps : List RelT) : Nat → Option (List Int)
  | 0 => some []
  | k + 1 => match greedyTo size v ps k with
    | none => none
    | some vs => if firstI (fitsP size v ps vs) (upL 0 size) < 0 then none else some (vs ++ [firstI (fitsP size v ps vs) (upL 0 size)])
theorem greedyTo_none {size v : Nat} {ps : List RelT} {k : Nat} (h : greedyTo size v ps k = none) : ∀ d, greedyTo size v ps (k + d) = none
  | 0 => h
  | d + 1 => by
    show greedyTo size v ps (k + d + 1) = none
    rw [greedyTo, greedyTo_none h d]
def greedyF (size v : Nat) (ps : List RelT) : List Int × Bool := match greedyTo size v ps v with | some l => (l, true) | none => ([], false)
theorem greedyF_none {size v k : Nat} {ps : List RelT} (hk : k ≤ v) (h : greedyTo size v ps k = none) : greedyF size v ps = ([], false) := by
  have := greedyTo_none h (v - k)
  rw [show k + (v - k) = v by omega] at this
  unfold greedyF; rw [this]
theorem firstI_lt {α : Type} (q : α → Bool) (l : List α) : firstI q l < (l.length : Int) := by
  unfold firstI
  cases h : l.findIdx? q with
  | none => show (-1 : Int) < _; omega
  | some i =>
    have := (List.findIdx?_eq_some_iff_getElem.1 h).1
    show (i : Int) < _
    omega
theorem firstP_no {size v : Nat} {ps : List RelT} {a : Int} {j : Nat} (h0 : 0 < j) (hj : j < v) (h : (upL 0 size).any (fun b => leftP ps 0 j a b) = false) : firstP size v ps a = false := by
  unfold firstP
  rw [List.all_eq_false]
  exact ⟨j, List.mem_range.2 hj, by rw [h]; simp; omega⟩
theorem firstP_yes {size v : Nat} {ps : List RelT} {a : Int} (h : ∀ j, 0 < j → j < v → (upL 0 size).any (fun b => leftP ps 0 j a b) = true) : firstP size v ps a = true := by
  unfold firstP
  rw [List.all_eq_true]
  intro j hj
  have hj := List.mem_range.1 hj
  rcases Nat.eq_zero_or_pos j with h0 | h0
  · simp [h0]
  · rw [h j h0 hj]; simp
theorem fitsP_no {size v : Nat} {ps : List RelT} {vals : List Int} {a : Int} {j : Nat} (hj : j < vals.length) (h : leftP ps j vals.length (vals.getD j 0) a = false) : fitsP size v ps vals a = false := by
  unfold fitsP
  rw [if_neg (by omega), List.all_eq_false]
  exact ⟨j, List.mem_range.2 hj, by rw [h]; decide⟩
theorem fitsP_yes {size v : Nat} {ps : List RelT} {vals : List Int} {a : Int} (h0 : 0 < vals.length) (h : ∀ j, j < vals.length → leftP ps j vals.length (vals.getD j 0) a = true) : fitsP size v ps vals a = true := by
  unfold fitsP
  rw [if_neg (by omega), List.all_eq_true]
  exact fun j hj => h j (List.mem_range.1 hj)
theorem ip_int {C : Nat → Prop} {w : World} {n : Int} (h : I64 n) : Ip C w [.int .i64 n] n := ⟨[], ⟨rfl, rfl, h⟩, List.nodup_nil, fun k hk => by cases hk⟩
/-- The number in the cell at which a pointer points. -/
def ptrN (w : World) (v : Value) : Nat := match v with | .pointer (some p) => (match w.cell? p with | some x => (intOf x).toNat | none => 0) | _ => 0
theorem ptrN_at {w : World} {g : Nat} {n : Int} (h : w.cell? ⟨g, 0, none⟩ = some (.int .i64 n)) : ptrN w (.pointer (some ⟨g, 0, none⟩)) = n.toNat := by
  unfold ptrN; simp only; rw [h]; rfl
set_option maxRecDepth 100000 in
theorem isFirst1_by (size : Int) (v : Nat) (ps : List RelT) (j : Nat) (a : Int) (gp gj ga : Nat) (vp : Value) (w : World) (l : List Int) (c0 : w.cell? ⟨gp, 0, none⟩ = some vp) (c1 : w.cell? ⟨gj, 0, none⟩ = some (.int .i64 j)) (c2 : w.cell? ⟨ga, 0, none⟩ = some (.int .i64 a))
    (hp : Rd w [vp] ps) (hok : PairsOk size v ps) (hj0 : 0 < j) (hj : j < v) (ha : I64 a) :
    PredI 150 #[.pointer (some ⟨gp, 0, none⟩), .pointer (some ⟨gj, 0, none⟩), .pointer (some ⟨ga, 0, none⟩)] w l (fun b => leftP ps 0 j a b) := by
  intro W x u0 hb hx _
  obtain ⟨rfl, hI⟩ := rd_i1 hx
  have HP := Lib.hid (Rd.mono hp hb)
  have g0 := cellL hb c0
  have g1 := cellL hb c1
  have g2 := cellL hb c2
  obtain ⟨a0, n0, rfl, _⟩ := rd_list HP.out
  clear hp hb hx c0 c1 c2
  show Calls Tryz.prog 150 #[_, .pointer (some ⟨gp, 0, none⟩), .pointer (some ⟨gj, 0, none⟩), .pointer (some ⟨ga, 0, none⟩)] W _
  go_enter Tryz.func150, Tryz.ntmps150
  go_wp2_with fail
  refine (isLeft_c size v ps 0 j a x _ _ HP.out hok (by omega) (by omega) hj ha hI).mono ?_
  rintro e w1 ⟨rfl, hb1⟩
  generalize hH : leftP ps 0 j a x = H at *
  have HH := Lib.hid hH
  clear hH
  go_wp2_with fail
  go_ret
  exact ⟨ret_bool HH.out.symm, hb1⟩
set_option maxRecDepth 100000 in
set_option maxHeartbeats 4000000 in
theorem isFirst_c (size v : Nat) (ps : List RelT) (a : Int) (vp : Value) (w : World) (hp : Rd w [vp] ps) (hok : PairsOk size v ps) (hs : size ≤ 4) (ha : I64 a) :
    Calls Tryz.prog 108 #[.int .i64 size, .int .i64 v, vp, .int .i64 a] w fun e w' => e = .returned (.bool (firstP size v ps a)) ∧ Below w.heap.size w w' := by
  have HP := Lib.hid hp
  have HOK := Lib.hid hok
  have h10 := hok.v10
  obtain ⟨a0, c0, rfl, _⟩ := rd_list hp
  have HIA := Lib.hid ha
  clear hp hok ha
  have eg : ∀ args w, (callFunc 150 args).run Tryz.prog w = .ok (.enter 150 args) w := enters_of Tryz.func150 (by kernel_rfl) rfl
  have hs1 := (St.start w).alloc #[.slice a0 ps.length c0] 24 (n := w.heap.size) (by simp)
  have k0_0 := hs1.cellAt 0 rfl 0 rfl
  have hs2 := hs1.alloc #[.int .i64 a] 2 (n := w.heap.size + 1) (by simp)
  clear k0_0
  have k0_0 := hs2.cellAt 0 rfl 0 rfl
  have k1_0 := hs2.cellAt 1 rfl 0 rfl
  have hs3 := hs2.alloc #[.int .i64 1] 2 (n := w.heap.size + 1 + 1) (by simp)
  clear k0_0 k1_0
  have k0_0 := hs3.cellAt 0 rfl 0 rfl
  have k1_0 := hs3.cellAt 1 rfl 0 rfl
  have k2_0 := hs3.cellAt 2 rfl 0 rfl
  have HST := Lib.hid hs3
  go_enter Tryz.func108, Tryz.ntmps108
  go_wp2_with fail
  go_loopw [9] (fun pj wl => ∃ (j g B : Nat), 0 < j ∧ (j ≤ v ∨ j = 1) ∧ pj = .pointer (some ⟨g, 0, none⟩) ∧ Hid (St w B wl [(w.heap.size, #[.slice a0 ps.length c0], 24), (w.heap.size + 1, #[.int .i64 a], 2), (g, #[.int .i64 j], 2)]) ∧ Hid (w.heap.size + 1 < g) ∧ Hid (∀ i, 0 < i → i < j → (upL 0 size).any (fun b => leftP ps 0 i a b) = true)) (fun pj wl => v - ptrN wl pj)
  case atStart => exact ⟨1, w.heap.size + 1 + 1, _, by omega, .inr rfl, rfl, HST.out, (show w.heap.size + 1 < w.heap.size + 1 + 1 by omega), fun i h1 h2 => by omega⟩
  case round =>
    clear HST
    obtain ⟨j, g, B, hj0, hjv, rfl, hst, hg, hr⟩ := hrel
    have hg0 := hg.out
    have k0_0 := hst.out.cellAt 0 rfl 0 rfl
    have k1_0 := hst.out.cellAt 1 rfl 0 rfl
    have k2_0 := hst.out.cellAt 2 rfl 0 rfl
    have HPN := Lib.hid (ptrN_at (hst.out.cellAt 2 rfl 0 rfl))
    by_cases hlt : j < v
    · have hltI : (j : Int) < v := by omega
      go_wp2_with fail
      refine (upTo_c 0 size _ (by omega) (by omega) (by omega)).mono ?_
      rintro e w4 ⟨vu, rfl, accu, hbw4⟩
      have hz_w4 : wr.heap.size ≤ w4.heap.size := by have h9 := hbw4.size; (try simp at h9); omega
      have hs5 := hst.out.step hbw4
      clear k0_0 k1_0 k2_0
      have k0_0 := hs5.cellAt 0 rfl 0 rfl
      have k1_0 := hs5.cellAt 1 rfl 0 rfl
      have k2_0 := hs5.cellAt 2 rfl 0 rfl
      have HU := Lib.hid accu.rd
      obtain ⟨au, cu, rfl, _⟩ := rd_list HU.out
      clear accu
      go_wp2_with fail
      refine (containsInts_c (upL 0 size) _ 150 _ _ _ HU.out eg (isFirst1_by size v ps j a _ _ _ _ _ _ (hs5.cellAt 0 rfl 0 rfl) (hs5.cellAt 2 rfl 0 rfl) (hs5.cellAt 1 rfl 0 rfl) (Rd.mono HP.out hs5.bel) HOK.out hj0 hlt HIA.out)).mono ?_
      rintro e w6 ⟨rfl, hbw6⟩
      have hz_w6 : w4.heap.size ≤ w6.heap.size := by have h9 := hbw6.size; (try simp at h9); omega
      have hs7 := hs5.step hbw6
      have HU_8 := Lib.hid (Rd.mono HU.out hbw6)
      clear HU
      clear k0_0 k1_0 k2_0
      have k0_0 := hs7.cellAt 0 rfl 0 rfl
      have k1_0 := hs7.cellAt 1 rfl 0 rfl
      have k2_0 := hs7.cellAt 2 rfl 0 rfl
      cases hq : (upL 0 size).any (fun b => leftP ps 0 j a b) with
      | false =>
        have HQ := Lib.hid (firstP_no hj0 hlt hq)
        clear hq
        go_wp2_with fail
        go_ret
        exact ⟨ret_bool HQ.out.symm, hs7.bel⟩
      | true =>
        have HQ := Lib.hid hq
        clear hq
        have HN := Lib.hid ((hs7.sub (bx' := [(w.heap.size, #[.slice a0 ps.length c0], 24), (w.heap.size + 1, #[.int .i64 a], 2)]) (fun x hx => by simp at hx ⊢; rcases hx with rfl | rfl <;> simp)).alloc #[.int .i64 ((j : Int) + 1)] 2 (n := w6.heap.size) rfl)
        go_wp2_with fail
        go_roundw
        case rel =>
          refine ⟨j + 1, _, _, by omega, .inl (by omega), rfl, HN.out, ?_, fun i h1 h2 => ?_⟩
          · have := hs7.lo; have := hs7.hi; have := (hs7.box _ (List.mem_cons_of_mem _ (List.mem_cons_of_mem _ (List.mem_cons_self ..)))).2.1
            show w.heap.size + 1 < _
            simp at this ⊢
            omega
          · rcases Nat.lt_or_ge i j with h | h
            · exact hr.out i h1 h
            · obtain rfl : i = j := by omega
              exact HQ.out
        case measure =>
          rw [ptrN_at (by rw [cell_at_block (heap_alloc_new _ _)]; rfl), HPN.out]
          simp; omega
    · have HQ := Lib.hid (firstP_yes (size := size) (ps := ps) (a := a) (v := v) (fun i h1 h2 => hr.out i h1 (by omega)))
      go_wp2_with fail
      go_ret
      exact ⟨ret_bool HQ.out.symm, hst.out.bel⟩
set_option maxRecDepth 100000 in
set_option maxHeartbeats 4000000 in
theorem greedy1_by (size v : Nat) (ps : List RelT) (vals : List Int) (gj gs gv gp gr : Nat) (vp vo : Value) (w : World) (l : List Int) (c0 : w.cell? ⟨gj, 0, none⟩ = some (.int .i64 vals.length)) (c1 : w.cell? ⟨gs, 0, none⟩ = some (.int .i64 size)) (c2 : w.cell? ⟨gv, 0, none⟩ = some (.int .i64 v))
    (c3 : w.cell? ⟨gp, 0, none⟩ = some vp) (c4 : w.cell? ⟨gr, 0, none⟩ = some vo) (hp : Rd w [vp] ps) (hv : Rd w [vo] vals) (hok : PairsOk size v ps) (hs : size ≤ 4) (hk : vals.length < v) :
    PredI 107 #[.pointer (some ⟨gj, 0, none⟩), .pointer (some ⟨gs, 0, none⟩), .pointer (some ⟨gv, 0, none⟩), .pointer (some ⟨gp, 0, none⟩), .pointer (some ⟨gr, 0, none⟩)] w l (fitsP size v ps vals) := by
  intro W x u0 hb hx _
  obtain ⟨rfl, hI⟩ := rd_i1 hx
  have HP := Lib.hid (Rd.mono hp hb)
  have HV := Lib.hid (Rd.mono hv hb)
  have g0 := cellL hb c0
  have g1 := cellL hb c1
  have g2 := cellL hb c2
  have g3 := cellL hb c3
  have g4 := cellL hb c4
  have HOK := Lib.hid hok
  have HIX := Lib.hid hI
  have h10 := hok.v10
  obtain ⟨a0, n0, rfl, _⟩ := rd_list HP.out
  obtain ⟨a1, n1, rfl, _⟩ := rd_list HV.out
  clear hp hv hb hx c0 c1 c2 c3 c4 hok hI
  show Calls Tryz.prog 107 #[_, .pointer (some ⟨gj, 0, none⟩), .pointer (some ⟨gs, 0, none⟩), .pointer (some ⟨gv, 0, none⟩), .pointer (some ⟨gp, 0, none⟩), .pointer (some ⟨gr, 0, none⟩)] W _
  generalize hk0 : vals.length = k at *
  have HK := Lib.hid hk0
  clear hk0
  have g0_ := cellL (St.start W).bel g0
  clear g0_
  have g0_ := cellL (St.start W).bel g0
  have g1_ := cellL (St.start W).bel g1
  clear g0_ g1_
  have g0_ := cellL (St.start W).bel g0
  have g1_ := cellL (St.start W).bel g1
  have g2_ := cellL (St.start W).bel g2
  clear g0_ g1_ g2_
  have g0_ := cellL (St.start W).bel g0
  have g1_ := cellL (St.start W).bel g1
  have g2_ := cellL (St.start W).bel g2
  have g3_ := cellL (St.start W).bel g3
  clear g0_ g1_ g2_ g3_
  have g0_ := cellL (St.start W).bel g0
  have g1_ := cellL (St.start W).bel g1
  have g2_ := cellL (St.start W).bel g2
  have g3_ := cellL (St.start W).bel g3
  have g4_ := cellL (St.start W).bel g4
  go_enter Tryz.func107, Tryz.ntmps107
  by_cases hz : k = 0
  · have HF := Lib.hid (show fitsP size v ps vals x = firstP size v ps x by unfold fitsP; rw [if_pos (by rw [HK.out]; exact hz)])
    have hzb : ((k : Int) == 0) = true := by simp [hz]
    clear hz
    go_wp2_with fail
    refine (isFirst_c size v ps x _ _ (Rd.mono HP.out (St.start W).bel) HOK.out hs HIX.out).mono ?_
    rintro e w9 ⟨rfl, hbw9⟩
    have hz_w9 : W.heap.size ≤ w9.heap.size := by have h9 := hbw9.size; (try simp at h9); omega
    have hs10 := (St.start W).step hbw9
    clear g0_ g1_ g2_ g3_ g4_
    have g0_ := cellL hs10.bel g0
    have g1_ := cellL hs10.bel g1
    have g2_ := cellL hs10.bel g2
    have g3_ := cellL hs10.bel g3
    have g4_ := cellL hs10.bel g4
    generalize hH : firstP size v ps x = H at *
    have HH := Lib.hid hH
    clear hH
    go_wp2_with fail
    go_ret
    exact ⟨ret_bool HF.out.symm, hs10.bel⟩
  · have hzb : ((k : Int) == 0) = false := by simp [hz]
    have hk0 : 0 < k := by omega
    clear hz
    go_wp2_with fail
    go_loopw [17] (fun i wl => ∃ j : Nat, j ≤ k ∧ i = .int .i64 j ∧ Hid (Below W.heap.size W wl) ∧ Hid (∀ q, q < j → leftP ps q k (vals.getD q 0) x = true)) (fun i _ => k - (intOf i).toNat)
    case atStart => exact ⟨0, Nat.zero_le _, rfl, Below.refl _ _, fun q hq => absurd hq (Nat.not_lt_zero _)⟩
    case round =>
      obtain ⟨j, hj, rfl, hbl, hr⟩ := hrel
      have hsr := (St.start W).step hbl.out
      have g0_ := cellL hsr.bel g0
      have g1_ := cellL hsr.bel g1
      have g2_ := cellL hsr.bel g2
      have g3_ := cellL hsr.bel g3
      have g4_ := cellL hsr.bel g4
      clear hbl
      by_cases hlt : j < k
      · have hltI : (j : Int) < k := by omega
        obtain ⟨b, o, rfl, q0, hIy⟩ := rd_int_at HV.out j (by rw [HK.out]; exact hlt)
        have HG := Lib.hid (show vals.getD j 0 = vals[j]'(by rw [HK.out]; exact hlt) by simp [List.getD, show j < vals.length by rw [HK.out]; exact hlt])
        generalize vals[j]'(by rw [HK.out]; exact hlt) = Y at *
        have HIY := Lib.hid hIy
        clear hIy
        clear g0_ g1_ g2_ g3_ g4_
        have g0_ := cellL hsr.bel g0
        have g1_ := cellL hsr.bel g1
        have g2_ := cellL hsr.bel g2
        have g3_ := cellL hsr.bel g3
        have g4_ := cellL hsr.bel g4
        have q0_ := cellL hsr.bel q0
        clear g0_ g1_ g2_ g3_ g4_ q0_
        have g0_ := cellL hsr.bel g0
        have g1_ := cellL hsr.bel g1
        have g2_ := cellL hsr.bel g2
        have g3_ := cellL hsr.bel g3
        have g4_ := cellL hsr.bel g4
        have q0_ := cellL hsr.bel q0
        cases hq : leftP ps j k Y x with
        | false =>
          have HQ := Lib.hid (show fitsP size v ps vals x = false from fitsP_no (j := j) (by rw [HK.out]; exact hlt) (by rw [HK.out, HG.out]; exact hq))
          go_upto_region 6 with fail
          refine wp_region_noPanic (wp_region_tree4 (fun w' => w'.cell? ⟨gj, 0, none⟩ = some (.int .i64 k) ∧ w'.cell? ⟨gs, 0, none⟩ = some (.int .i64 size) ∧ w'.cell? ⟨gv, 0, none⟩ = some (.int .i64 v) ∧ w'.cell? ⟨gp, 0, none⟩ = some (.slice a0 ps.length n0) ∧ w'.cell? ⟨gr, 0, none⟩ = some (.slice (some ⟨b, o, none⟩) k n1) ∧ w'.cell? ⟨b, o + j, none⟩ = some (.int .i64 Y)) (.float 0 (.float 1 (.float 2 (.float 3 (.float 4 (.float 5 (.float 6 (.float 7 (.hard 8 (.float 9 .nil)))))))))) (by kernel_rfl) (by kernel_rfl) (by kernel_rfl) rfl ?_ (fun _ _ _ _ _ h => h) ?_)
          · exact ⟨cellL (hsr.drew).bel g0, cellL (hsr.drew).bel g1, cellL (hsr.drew).bel g2, cellL (hsr.drew).bel g3, cellL (hsr.drew).bel g4, cellL (hsr.drew).bel q0⟩
          have hs11 := hsr.drew
          clear g0_ g1_ g2_ g3_ g4_ q0_
          have hz_wd12 : wr.heap.size ≤ (wr.drew).heap.size := by simp
          generalize hgen_wd12 : wr.drew = wd12 at *
          have HG_wd12 := Lib.hid hgen_wd12
          clear hgen_wd12
          (repeat (first | (apply t4_skip rfl (by rfl); try simp only [Act.put, List.setIfInBounds_toArray, List.set_cons_zero, List.set_cons_succ]) | (apply t4_float rfl (by rfl); (· (intro w' hS; go_simp <;> with_reducible rfl)); (try simp only [Act.put, List.setIfInBounds_toArray, List.set_cons_zero, List.set_cons_succ]))))
          refine t4_hard rfl (by rfl) (fun K hK => ?_)
          go_wp2_with (go_at_call 109; refine (isLeft_c size v ps j k Y x _ _ (Rd.mono HP.out hs11.bel) HOK.out (by omega) (by omega) hk HIY.out HIX.out).mono ?_; rintro e w13 ⟨rfl, hbw13⟩)
          have hz_w13 : wd12.heap.size ≤ w13.heap.size := by have h9 := hbw13.size; (try simp at h9); omega
          have hs14 := hs11.step hbw13
          refine ⟨⟨cellL hs14.bel g0, cellL hs14.bel g1, cellL hs14.bel g2, cellL hs14.bel g3, cellL hs14.bel g4, cellL hs14.bel q0⟩, ?_⟩
          (repeat (first | (apply t4_skip rfl (by rfl); try simp only [Act.put, List.setIfInBounds_toArray, List.set_cons_zero, List.set_cons_succ]) | (apply t4_float rfl (by rfl); (· (intro w' hS; go_simp <;> with_reducible rfl)); (try simp only [Act.put, List.setIfInBounds_toArray, List.set_cons_zero, List.set_cons_succ]))))
          have g0_ := cellL hs14.bel g0
          have g1_ := cellL hs14.bel g1
          have g2_ := cellL hs14.bel g2
          have g3_ := cellL hs14.bel g3
          have g4_ := cellL hs14.bel g4
          have q0_ := cellL hs14.bel q0
          refine t4_nil (NoPanic.normal ?_)
          go_wp2_with fail
          go_ret
          exact ⟨ret_bool HQ.out.symm, hs14.bel⟩
        | true =>
          have HQ := Lib.hid hq
          go_upto_region 6 with fail
          refine wp_region_noPanic (wp_region_tree4 (fun w' => w'.cell? ⟨gj, 0, none⟩ = some (.int .i64 k) ∧ w'.cell? ⟨gs, 0, none⟩ = some (.int .i64 size) ∧ w'.cell? ⟨gv, 0, none⟩ = some (.int .i64 v) ∧ w'.cell? ⟨gp, 0, none⟩ = some (.slice a0 ps.length n0) ∧ w'.cell? ⟨gr, 0, none⟩ = some (.slice (some ⟨b, o, none⟩) k n1) ∧ w'.cell? ⟨b, o + j, none⟩ = some (.int .i64 Y)) (.float 0 (.float 1 (.float 2 (.float 3 (.float 4 (.float 5 (.float 6 (.float 7 (.hard 8 (.float 9 .nil)))))))))) (by kernel_rfl) (by kernel_rfl) (by kernel_rfl) rfl ?_ (fun _ _ _ _ _ h => h) ?_)
          · exact ⟨cellL (hsr.drew).bel g0, cellL (hsr.drew).bel g1, cellL (hsr.drew).bel g2, cellL (hsr.drew).bel g3, cellL (hsr.drew).bel g4, cellL (hsr.drew).bel q0⟩
          have hs15 := hsr.drew
          clear g0_ g1_ g2_ g3_ g4_ q0_
          have hz_wd16 : wr.heap.size ≤ (wr.drew).heap.size := by simp
          generalize hgen_wd16 : wr.drew = wd16 at *
          have HG_wd16 := Lib.hid hgen_wd16
          clear hgen_wd16
          (repeat (first | (apply t4_skip rfl (by rfl); try simp only [Act.put, List.setIfInBounds_toArray, List.set_cons_zero, List.set_cons_succ]) | (apply t4_float rfl (by rfl); (· (intro w' hS; go_simp <;> with_reducible rfl)); (try simp only [Act.put, List.setIfInBounds_toArray, List.set_cons_zero, List.set_cons_succ]))))
          refine t4_hard rfl (by rfl) (fun K hK => ?_)
          go_wp2_with (go_at_call 109; refine (isLeft_c size v ps j k Y x _ _ (Rd.mono HP.out hs15.bel) HOK.out (by omega) (by omega) hk HIY.out HIX.out).mono ?_; rintro e w17 ⟨rfl, hbw17⟩)
          have hz_w17 : wd16.heap.size ≤ w17.heap.size := by have h9 := hbw17.size; (try simp at h9); omega
          have hs18 := hs15.step hbw17
          refine ⟨⟨cellL hs18.bel g0, cellL hs18.bel g1, cellL hs18.bel g2, cellL hs18.bel g3, cellL hs18.bel g4, cellL hs18.bel q0⟩, ?_⟩
          (repeat (first | (apply t4_skip rfl (by rfl); try simp only [Act.put, List.setIfInBounds_toArray, List.set_cons_zero, List.set_cons_succ]) | (apply t4_float rfl (by rfl); (· (intro w' hS; go_simp <;> with_reducible rfl)); (try simp only [Act.put, List.setIfInBounds_toArray, List.set_cons_zero, List.set_cons_succ]))))
          have g0_ := cellL hs18.bel g0
          have g1_ := cellL hs18.bel g1
          have g2_ := cellL hs18.bel g2
          have g3_ := cellL hs18.bel g3
          have g4_ := cellL hs18.bel g4
          have q0_ := cellL hs18.bel q0
          refine t4_nil (NoPanic.normal ?_)
          go_wp2_with fail
          go_roundw
          case rel =>
            refine ⟨j + 1, by omega, by go_num, hs18.bel, fun q h1 => ?_⟩
            rcases Nat.lt_or_ge q j with h | h
            · exact hr.out q h
            · obtain rfl : q = j := by omega
              rw [HG.out]; exact HQ.out
          case measure => simp [intOf]; omega
      · have HQ := Lib.hid (show fitsP size v ps vals x = true from fitsP_yes (by rw [HK.out]; exact hk0) (fun q h1 => by rw [HK.out] at h1 ⊢; exact hr.out q (by omega)))
        have hnl : ¬ ((j : Int) < k) := by omega
        go_wp2_with fail
        go_ret
        exact ⟨ret_bool HQ.out.symm, hsr.bel⟩
set_option maxRecDepth 100000 in
set_option maxHeartbeats 8000000 in
theorem greedy_c (size v : Nat) (ps : List RelT) (vp : Value) (w : World) (hp : Rd w [vp] ps) (hok : PairsOk size v ps) (hs : size ≤ 4) :
    Calls Tryz.prog 48 #[.int .i64 size, .int .i64 v, vp] w fun e w' => ∃ vr, e = .returned (.tuple #[vr, .bool (greedyF size v ps).2]) ∧ Fresh w.heap.size w' [vr] (greedyF size v ps).1 ∧ Below w.heap.size w w' := by
  have HP := Lib.hid hp
  have HOK := Lib.hid hok
  have h10 := hok.v10
  obtain ⟨a0, c0, rfl, _⟩ := rd_list hp
  clear hp hok
  have eg : ∀ args w, (callFunc 107 args).run Tryz.prog w = .ok (.enter 107 args) w := enters_of Tryz.func107 (by kernel_rfl) rfl
  have hs19 := (St.start w).alloc #[.int .i64 size] 2 (n := w.heap.size) (by simp)
  have k0_0 := hs19.cellAt 0 rfl 0 rfl
  have hs20 := hs19.alloc #[.int .i64 v] 2 (n := w.heap.size + 1) (by simp)
  clear k0_0
  have k0_0 := hs20.cellAt 0 rfl 0 rfl
  have k1_0 := hs20.cellAt 1 rfl 0 rfl
  have hs21 := hs20.alloc #[.slice a0 ps.length c0] 24 (n := w.heap.size + 1 + 1) (by simp)
  clear k0_0 k1_0
  have k0_0 := hs21.cellAt 0 rfl 0 rfl
  have k1_0 := hs21.cellAt 1 rfl 0 rfl
  have k2_0 := hs21.cellAt 2 rfl 0 rfl
  have HS0 := Lib.hid ((hs21.step (belowA _ (.cells #[] 2))).alloc #[.slice (some ⟨w.heap.size + 1 + 1 + 1, 0, none⟩) 0 0] 32 (n := w.heap.size + 1 + 1 + 1 + 1) (by simp))
  have HA0 := Lib.hid ((accP_made (α := Int) (((w.alloc (.cells #[.int .i64 size] 2)).alloc (.cells #[.int .i64 v] 2)).alloc (.cells #[.slice a0 ps.length c0] 24)) 2).mono (belowA _ (.cells #[.slice (some ⟨w.heap.size + 1 + 1 + 1, 0, none⟩) 0 0] 32)))
  go_enter Tryz.func48, Tryz.ntmps48
  go_wp2_with fail
  go_loopw [13] (fun i wl => ∃ (k : Nat) (ao : Option Addr) (co : Nat) (vals : List Int), k ≤ v ∧ i = .int .i64 k ∧ Hid (vals.length = k ∧ greedyTo size v ps k = some vals) ∧
    Hid (St w (w.heap.size + 1 + 1 + 1 + 1 + 1) wl [(w.heap.size, #[.int .i64 size], 2), (w.heap.size + 1, #[.int .i64 v], 2), (w.heap.size + 1 + 1, #[.slice a0 ps.length c0], 24), (w.heap.size + 1 + 1 + 1 + 1, #[.slice ao k co], 32)]) ∧
    Hid (AccP (fun z => w.heap.size + 1 + 1 + 1 ≤ z ∧ z ≠ w.heap.size + 1 + 1 + 1 + 1 ∧ z < wl.heap.size) 2 wl (.slice ao k co) vals)) (fun i _ => v - (intOf i).toNat)
  case atStart =>
    refine ⟨0, _, _, [], Nat.zero_le _, rfl, ⟨rfl, rfl⟩, HS0.out, ?_⟩
    have h := HA0.out
    exact AccP.wk (by simpa using h) (fun k hk => by simp at hk ⊢; omega)
  case round =>
    clear HS0 HA0
    obtain ⟨k, ao, co, vals, hk, rfl, hg, hst, hac⟩ := hrel
    have hlen := hg.out.1
    have hszr : w.heap.size + 1 + 1 + 1 + 1 + 1 ≤ wr.heap.size := hst.out.hi
    have HACC := hac
    have k0_0 := hst.out.cellAt 0 rfl 0 rfl
    have k1_0 := hst.out.cellAt 1 rfl 0 rfl
    have k2_0 := hst.out.cellAt 2 rfl 0 rfl
    have k3_0 := hst.out.cellAt 3 rfl 0 rfl
    by_cases hlt : k < v
    · have HGS := Lib.hid (show greedyTo size v ps (k + 1) = if firstI (fitsP size v ps vals) (upL 0 size) < 0 then none else some (vals ++ [firstI (fitsP size v ps vals) (upL 0 size)]) by rw [greedyTo, hg.out.2])
      have hF := firstI_lt (fitsP size v ps vals) (upL 0 size)
      rw [upL_len] at hF
      have hF0 := firstI_lo (fitsP size v ps vals) (upL 0 size)
      have hs22 := hst.out.alloc #[.int .i64 k] 2 (n := wr.heap.size) (by simp)
      have HACC_23 := Lib.hid (AccP.mono HACC.out (belowA _ (.cells #[.int .i64 k] 2)))
      clear HACC
      clear k0_0 k1_0 k2_0 k3_0
      have k0_0 := hs22.cellAt 0 rfl 0 rfl
      have k1_0 := hs22.cellAt 1 rfl 0 rfl
      have k2_0 := hs22.cellAt 2 rfl 0 rfl
      have k3_0 := hs22.cellAt 3 rfl 0 rfl
      have k4_0 := hs22.cellAt 4 rfl 0 rfl
      go_wp2_with fail
      refine (upTo_c 0 size _ (by omega) (by omega) (by omega)).mono ?_
      rintro e w24 ⟨vu, rfl, accu, hbw24⟩
      have hz_w24 : wr.heap.size + 1 ≤ w24.heap.size := by have h9 := hbw24.size; (try simp at h9); omega
      have hs25 := hs22.step hbw24
      have HACC_26 := Lib.hid (AccP.mono HACC_23.out hbw24)
      clear HACC_23
      clear k0_0 k1_0 k2_0 k3_0 k4_0
      have k0_0 := hs25.cellAt 0 rfl 0 rfl
      have k1_0 := hs25.cellAt 1 rfl 0 rfl
      have k2_0 := hs25.cellAt 2 rfl 0 rfl
      have k3_0 := hs25.cellAt 3 rfl 0 rfl
      have k4_0 := hs25.cellAt 4 rfl 0 rfl
      have HU := Lib.hid accu.rd
      obtain ⟨au, cu, rfl, _⟩ := rd_list HU.out
      clear accu
      go_wp2_with fail
      refine (indexInts_c (upL 0 size) _ 107 _ _ _ HU.out eg (greedy1_by size v ps vals _ _ _ _ _ _ _ _ _ (by rw [hlen]; exact (hs25.cellAt 4 rfl 0 rfl)) (hs25.cellAt 0 rfl 0 rfl) (hs25.cellAt 1 rfl 0 rfl) (hs25.cellAt 2 rfl 0 rfl) (hs25.cellAt 3 rfl 0 rfl) (Rd.mono HP.out hs25.bel) HACC_26.out.rd HOK.out hs (by rw [hlen]; exact hlt))).mono ?_
      rintro e w27 ⟨rfl, hbw27⟩
      have hz_w27 : w24.heap.size ≤ w27.heap.size := by have h9 := hbw27.size; (try simp at h9); omega
      have hs28 := hs25.step hbw27
      have HACC_29 := Lib.hid (AccP.mono HACC_26.out hbw27)
      clear HACC_26
      have HU_30 := Lib.hid (Rd.mono HU.out hbw27)
      clear HU
      clear k0_0 k1_0 k2_0 k3_0 k4_0
      have k0_0 := hs28.cellAt 0 rfl 0 rfl
      have k1_0 := hs28.cellAt 1 rfl 0 rfl
      have k2_0 := hs28.cellAt 2 rfl 0 rfl
      have k3_0 := hs28.cellAt 3 rfl 0 rfl
      have k4_0 := hs28.cellAt 4 rfl 0 rfl
      generalize hFF : firstI (fitsP size v ps vals) (upL 0 size) = F at *
      clear hFF
      by_cases hneg : F < 0
      · have HQ := Lib.hid (greedyF_none (show k + 1 ≤ v by omega) (by rw [HGS.out, if_pos hneg]))
        go_wp2_with fail
        refine bodyPost_ret (v := .tuple #[.slice none 0 0, .bool false]) (by simp [results, Tryz.results48, go_sem]) rfl ⟨_, by rw [HQ.out], ?_, hs28.bel⟩
        rw [HQ.out]
        exact fresh_nil_list
      · have hFI : I64 F := ⟨by omega, by omega⟩
        have HG2 := Lib.hid (show greedyTo size v ps (k + 1) = some (vals ++ [F]) by rw [HGS.out, if_neg hneg])
        have hs31 := hs28.low (B' := w.heap.size + 1 + 1 + 1 + 1 + 1) (bx' := [(w.heap.size, #[.int .i64 size], 2), (w.heap.size + 1, #[.int .i64 v], 2), (w.heap.size + 1 + 1, #[.slice a0 ps.length c0], 24), (w.heap.size + 1 + 1 + 1 + 1, #[.slice ao k co], 32)]) (by omega) (by (try simp) <;> omega) (fun x hx => by simp only [List.mem_cons, List.not_mem_nil, or_false] at hx; rcases hx with rfl | rfl | rfl | rfl <;> (refine ⟨?_, ?_⟩ <;> (try simp) <;> (try omega)))
        clear HU_30
        go_wp2_with (at_builtin; refine wpList_append_accP _ rfl _ _ _ rfl E_ints rfl (AccP.mono HACC_29.out (belowA _ _)) (ip_int (C := fun _ => False) hFI) (fun z _ h => h) ⟨w27.heap.size, 0, none⟩ 1 rfl (news1 (cell_at_block (heap_alloc_new _ _))) (by omega) ?_; intro a7 c7 w7 hA7 hB7; have hb7 := hB7.size; have hst7 := (hs31.step (belowA w27 (.cells #[.int .i64 F] 2))).butP hB7 (fun z hz => by omega) (fun x hx hA => by have h1 := hA.1; have h2 := hA.2.1; simp at hx; rcases hx with rfl | rfl | rfl | rfl <;> (try simp only at h1 h2) <;> omega); have q7 := hst7.cellAt 3 rfl 0 rfl; have f7 := hst7.freeAt 3 rfl 0)
        have HA7 := Lib.hid (AccP.wk hA7.tight (C := fun z => w.heap.size + 1 + 1 + 1 ≤ z ∧ z ≠ w.heap.size + 1 + 1 + 1 + 1 ∧ z < w7.heap.size) (fun z hz => ⟨by
          rcases hz.1 with h | h | h
          · exact h.1
          · exact h.elim
          · simp at h; omega, by
          rcases hz.1 with h | h | h
          · exact h.2.1
          · exact h.elim
          · simp at h; omega, hz.2⟩))
        rw [hlen] at HA7
        clear hA7 hB7
        have HS8 := Lib.hid (hst7.set (p := [_, _, _]) (by simp <;> omega) 0 (.slice a7 (k + 1) c7))
        have HA8 := Lib.hid (HA7.out.setCell (b := w.heap.size + 1 + 1 + 1 + 1) (o := 0) (.slice a7 (k + 1) c7) (by simp))
        (try go_wp2_with fail)
        go_roundw
        case rel =>
          refine ⟨k + 1, a7, c7, vals ++ [F], hlt, by go_num, ⟨by simp [hlen], HG2.out⟩, HS8.out, ?_⟩
          exact HA8.out.wk (fun z hz => by simpa [World.setCell] using hz)
        case measure => simp [intOf]; omega
    · obtain rfl : k = v := by omega
      have HQ := Lib.hid (show greedyF size k ps = (vals, true) by unfold greedyF; rw [hg.out.2])
      go_wp2_with fail
      refine bodyPost_ret (v := .tuple #[.slice ao k co, .bool true]) (by simp [results, Tryz.results48, go_sem]) rfl ⟨_, by rw [HQ.out], ?_, hst.out.bel⟩
      rw [HQ.out]
      exact hac.out.ip.fresh (fun z hz => by omega)
theorem upL_any_succ (q : Int → Bool) (n : Nat) : (upL 0 (n + 1)).any q = ((upL 0 n).any q || q (n : Int)) := by
  rw [upL_succ, List.any_append]; simp
set_option maxRecDepth 100000 in
set_option maxHeartbeats 8000000 in
theorem l06Fits_c (size v : Nat) (ps : List RelT) (vals : List Int) (a : Int) (vp vv : Value) (w : World) (hp : Rd w [vp] ps) (hv : Rd w [vv] vals) (hok : PairsOk size v ps) (hs : size ≤ 4) (hk : vals.length < v) (ha : I64 a) :
    Calls Tryz.prog 113 #[.int .i64 size, .int .i64 v, vp, vv, .int .i64 a] w fun e w' => e = .returned (.bool (fitsP size v ps vals a)) ∧ Below w.heap.size w w' := by
  have HP := Lib.hid hp
  have HV := Lib.hid hv
  have HOK := Lib.hid hok
  have HIA := Lib.hid ha
  have h10 := hok.v10
  obtain ⟨a0, n0, rfl, _⟩ := rd_list hp
  obtain ⟨a1, n1, rfl, _⟩ := rd_list hv
  clear hp hv hok ha
  generalize hk0 : vals.length = k at *
  have HK := Lib.hid hk0
  clear hk0
  go_enter Tryz.func113, Tryz.ntmps113
  go_wp2_with fail
  go_loopw [12] (fun i wl => ∃ j : Nat, j ≤ k ∧ i = .int .i64 j ∧ Hid (Below w.heap.size w wl) ∧ Hid (∀ q, q < j → leftP ps q k (vals.getD q 0) a = true)) (fun i _ => k - (intOf i).toNat)
  case atStart => exact ⟨0, Nat.zero_le _, rfl, Below.refl _ _, fun q hq => absurd hq (Nat.not_lt_zero _)⟩
  case round =>
    obtain ⟨j, hj, rfl, hbl, hr⟩ := hrel
    have hsr := (St.start w).step hbl.out
    clear hbl
    by_cases hlt : j < k
    · have hltI : (j : Int) < k := by omega
      obtain ⟨b, o, rfl, q0, hIy⟩ := rd_int_at HV.out j (by rw [HK.out]; exact hlt)
      have HG := Lib.hid (show vals.getD j 0 = vals[j]'(by rw [HK.out]; exact hlt) by simp [List.getD, show j < vals.length by rw [HK.out]; exact hlt])
      generalize vals[j]'(by rw [HK.out]; exact hlt) = Y at *
      have HIY := Lib.hid hIy
      clear hIy
      have q0_ := cellL hsr.bel q0
      clear q0_
      have q0_ := cellL hsr.bel q0
      go_wp2_with fail
      refine (l05Left_c size v ps j k Y a _ _ (Rd.mono HP.out hsr.bel) HOK.out (by omega) (by omega) hk HIY.out HIA.out).mono ?_
      rintro e w32 ⟨rfl, hbw32⟩
      have hz_w32 : wr.heap.size ≤ w32.heap.size := by have h9 := hbw32.size; (try simp at h9); omega
      have hs33 := hsr.step hbw32
      clear q0_
      have q0_ := cellL hs33.bel q0
      cases hq : leftP ps j k Y a with
      | false =>
        have HQ := Lib.hid (show fitsP size v ps vals a = false from fitsP_no (j := j) (by rw [HK.out]; exact hlt) (by rw [HK.out, HG.out]; exact hq))
        clear hq
        go_wp2_with fail
        go_ret
        exact ⟨ret_bool HQ.out.symm, hs33.bel⟩
      | true =>
        have HQ := Lib.hid hq
        clear hq
        go_wp2_with fail
        go_roundw
        case rel =>
          refine ⟨j + 1, by omega, by go_num, hs33.bel, fun q h1 => ?_⟩
          rcases Nat.lt_or_ge q j with h | h
          · exact hr.out q h
          · obtain rfl : q = j := by omega
            rw [HG.out]; exact HQ.out
        case measure => simp [intOf]; omega
    · obtain rfl : j = k := by omega
      by_cases hz : j = 0
      · have HF := Lib.hid (show fitsP size v ps vals a = firstP size v ps a by unfold fitsP; rw [if_pos (by rw [HK.out]; exact hz)])
        have hzb : ((j : Int) == 0) = true := by simp [hz]
        clear hz
        go_wp2_with fail
        go_loopw [13] (fun i wl => ∃ m : Nat, 0 < m ∧ (m ≤ v ∨ m = 1) ∧ i = .int .i64 m ∧ Hid (Below w.heap.size w wl) ∧ Hid (∀ q, 0 < q → q < m → (upL 0 size).any (fun b => leftP ps 0 q a b) = true)) (fun i _ => v - (intOf i).toNat)
        case atStart => exact ⟨1, by omega, .inr rfl, rfl, hsr.bel, fun q h1 h2 => by omega⟩
        case round =>
          obtain ⟨m, hm0, hmv, rfl, hbl, hr2⟩ := hrel
          by_cases hmlt : m < v
          · have hmI : (m : Int) < v := by omega
            go_wp2_with fail
            go_loopw [14, 15] (fun s i wl => ∃ (b : Nat) (S : Bool), b ≤ size ∧ i = .int .i64 b ∧ s = .bool S ∧ Hid (Below w.heap.size w wl) ∧ Hid (S = (upL 0 b).any (fun b => leftP ps 0 m a b))) (fun _ i _ => size - (intOf i).toNat)
            case atStart => exact ⟨0, false, Nat.zero_le _, rfl, rfl, hbl, by simp [upL, Hid]⟩
            case round =>
              clear hbl
              obtain ⟨b, S, hb, rfl, rfl, hbl, hS⟩ := hrel
              have hsr := (St.start w).step hbl.out
              clear hbl
              by_cases hblt : b < size
              · have hbI : (b : Int) < size := by omega
                have HSN := Lib.hid (upL_any_succ (fun b => leftP ps 0 m a b) b)
                cases S with
                | true =>
                  have HS2 := Lib.hid (show true = (upL 0 (b + 1)).any (fun b => leftP ps 0 m a b) by rw [HSN.out, ← hS.out]; rfl)
                  go_wp2_with fail
                  go_roundw
                  case rel => exact ⟨b + 1, true, hblt, by go_num, rfl, hsr.bel, HS2.out⟩
                  case measure => simp [intOf]; omega
                | false =>
                  have HS2 := Lib.hid (show leftP ps 0 m a b = (upL 0 (b + 1)).any (fun b => leftP ps 0 m a b) by rw [HSN.out, ← hS.out]; simp)
                  go_wp2_with fail
                  refine (l05Left_c size v ps 0 m a b _ _ (Rd.mono HP.out hsr.bel) HOK.out (by omega) (by omega) hmlt HIA.out ⟨by omega, by omega⟩).mono ?_
                  rintro e w34 ⟨rfl, hbw34⟩
                  have hz_w34 : wr.heap.size ≤ w34.heap.size := by have h9 := hbw34.size; (try simp at h9); omega
                  have hs35 := hsr.step hbw34
                  generalize leftP ps 0 m a b = L at *
                  go_wp2_with fail
                  go_roundw
                  case rel => exact ⟨b + 1, L, hblt, by go_num, rfl, hs35.bel, HS2.out⟩
                  case measure => simp [intOf]; omega
              · obtain rfl : b = size := by omega
                cases S with
                | true =>
                  go_wp2_with fail
                  go_roundw
                  case rel =>
                    refine ⟨m + 1, by omega, .inl (by omega), by go_num, hsr.bel, fun q h1 h2 => ?_⟩
                    rcases Nat.lt_or_ge q m with h | h
                    · exact hr2.out q h1 h
                    · obtain rfl : q = m := by omega
                      exact hS.out.symm
                  case measure => simp [intOf]; omega
                | false =>
                  have HQ := Lib.hid (firstP_no (size := b) (v := v) (ps := ps) (a := a) hm0 hmlt hS.out.symm)
                  go_wp2_with fail
                  go_ret
                  exact ⟨ret_bool (by rw [HF.out, HQ.out]), hsr.bel⟩
          · have HQ := Lib.hid (firstP_yes (size := size) (ps := ps) (a := a) (v := v) (fun q h1 h2 => hr2.out q h1 (by omega)))
            have hbl2 := hbl.out
            go_wp2_with fail
            go_ret
            exact ⟨ret_bool (by rw [HF.out, HQ.out]), hbl2⟩
      · have hzb : ((j : Int) == 0) = false := by simp [hz]
        have HQ := Lib.hid (show fitsP size v ps vals a = true from fitsP_yes (by rw [HK.out]; omega) (fun q h1 => by rw [HK.out] at h1 ⊢; exact hr.out q h1))
        clear hz
        go_wp2_with fail
        go_loopw [13] (fun i wl => i = .int .i64 1 ∧ Hid (Below w.heap.size w wl)) (fun i _ => 0)
        case atStart => exact ⟨rfl, hsr.bel⟩
        case round =>
          obtain ⟨rfl, hbl⟩ := hrel
          have hbl2 := hbl.out
          by_cases h1v : 1 < v
          · have h1I : (1 : Int) < v := by omega
            go_wp2_with fail
            go_ret
            exact ⟨ret_bool HQ.out.symm, hbl2⟩
          · have h1I : ¬ ((1 : Int) < v) := by omega
            go_wp2_with fail
            go_ret
            exact ⟨ret_bool HQ.out.symm, hbl2⟩
theorem fit_at {size b : Nat} (q : Int → Bool) (hb : b < size) (h0 : ∀ i : Nat, i < b → q i = false) (h1 : q (b : Int) = true) : firstI q (upL 0 size) = b := by
  have hl := upL_len 0 size
  refine firstI_at (by rw [hl]; exact hb) (fun j hj hjb => ?_) ?_
  · rw [upL_get, Int.zero_add]; exact h0 j hjb
  · rw [upL_get, Int.zero_add]; exact h1
theorem fit_no {size : Nat} (q : Int → Bool) (h0 : ∀ i : Nat, i < size → q i = false) : firstI q (upL 0 size) = -1 := by
  have hl := upL_len 0 size
  refine firstI_no (fun j hj hjb => ?_)
  rw [upL_get, Int.zero_add]; exact h0 j (by omega)
set_option maxRecDepth 100000 in
set_option maxHeartbeats 8000000 in
theorem l06Greedy_c (size v : Nat) (ps : List RelT) (vp : Value) (w : World) (hp : Rd w [vp] ps) (hok : PairsOk size v ps) (hs : size ≤ 4) :
    Calls Tryz.prog 50 #[.int .i64 size, .int .i64 v, vp] w fun e w' => ∃ vr, e = .returned (.tuple #[vr, .bool (greedyF size v ps).2]) ∧ Fresh w.heap.size w' [vr] (greedyF size v ps).1 ∧ Below w.heap.size w w' := by
  have HP := Lib.hid hp
  have HOK := Lib.hid hok
  have h10 := hok.v10
  obtain ⟨a0, c0, rfl, _⟩ := rd_list hp
  clear hp hok
  have HM := Lib.hid (acc_made (α := Int) w 2)
  go_enter Tryz.func50, Tryz.ntmps50
  go_wp2_with fail
  go_loopw [8, 9] (fun o i wl => ∃ (k : Nat) (ao : Option Addr) (co : Nat) (vals : List Int), k ≤ v ∧ i = .int .i64 k ∧ o = .slice ao k co ∧ Hid (vals.length = k ∧ greedyTo size v ps k = some vals) ∧ Hid (Below w.heap.size w wl) ∧ Hid (Acc w.heap.size wl.heap.size 2 wl (.slice ao k co) vals)) (fun _ i _ => v - (intOf i).toNat)
  case atStart => exact ⟨0, _, _, [], Nat.zero_le _, rfl, rfl, ⟨rfl, rfl⟩, belowA _ _, by simpa [Hid] using HM.out⟩
  case round =>
    clear HM
    obtain ⟨k, ao, co, vals, hk, rfl, rfl, hg, hbl0, hac⟩ := hrel
    have hlen := hg.out.1
    have hb0 := hbl0.out.size
    by_cases hlt : k < v
    · have hltI : (k : Int) < v := by omega
      have HGS := Lib.hid (show greedyTo size v ps (k + 1) = if firstI (fitsP size v ps vals) (upL 0 size) < 0 then none else some (vals ++ [firstI (fitsP size v ps vals) (upL 0 size)]) by rw [greedyTo, hg.out.2])
      obtain ⟨w1, rfl⟩ : ∃ x, x = wr := ⟨_, rfl⟩
      go_wp2_with fail
      go_loopw [10] (fun i wl => ∃ b : Nat, b ≤ size ∧ i = .int .i64 b ∧ Hid (Below w1.heap.size w1 wl) ∧ Hid (∀ q : Nat, q < b → fitsP size v ps vals q = false)) (fun i _ => size - (intOf i).toNat)
      case atStart => exact ⟨0, Nat.zero_le _, rfl, Below.refl _ _, fun q hq => absurd hq (Nat.not_lt_zero _)⟩
      case round =>
        obtain ⟨b, hb, rfl, hbl, hr⟩ := hrel
        have HAC := Lib.hid (Acc.mono hac.out hbl.out)
        have hsr := (St.start w).step (hbl0.out.trans (hbl.out.mono hbl0.out.size))
        have hb1 := hbl.out.size
        have HBI := Lib.hid hbl.out
        clear hbl
        by_cases hblt : b < size
        · have hbI : (b : Int) < size := by omega
          go_wp2_with fail
          refine (l06Fits_c size v ps vals b _ _ _ (Rd.mono HP.out hsr.bel) HAC.out.rd HOK.out hs (by rw [hlen]; exact hlt) ⟨by omega, by omega⟩).mono ?_
          rintro e w36 ⟨rfl, hbw36⟩
          have hz_w36 : wr.heap.size ≤ w36.heap.size := by have h9 := hbw36.size; (try simp at h9); omega
          have hs37 := hsr.step hbw36
          have HAC_38 := Lib.hid (Acc.mono HAC.out hbw36)
          clear HAC
          cases hq : fitsP size v ps vals b with
          | false =>
            have HQ := Lib.hid hq
            have HB2 := Lib.hid (HBI.out.trans (hbw36.mono HBI.out.size))
            clear hq
            go_wp2_with fail
            go_roundw
            case rel =>
              refine ⟨b + 1, hblt, by go_num, HB2.out, fun q h1 => ?_⟩
              rcases Nat.lt_or_ge q b with h | h
              · exact hr.out q h
              · obtain rfl : q = b := by omega
                exact HQ.out
            case measure => simp [intOf]; omega
          | true =>
            have HF := Lib.hid (fit_at (fitsP size v ps vals) hblt hr.out hq)
            have HG2 := Lib.hid (show greedyTo size v ps (k + 1) = some (vals ++ [(b : Int)]) by rw [HGS.out, HF.out, if_neg (by omega)])
            have hne : ((b : Int) == size) = false := by simp; omega
            clear hq
            go_wp2_with (at_builtin; refine wpList_append_ints _ rfl _ _ _ rfl E_ints rfl (Acc.mono HAC_38.out (belowA _ (.cells #[.int .i64 b] 2))) (by omega) (by simp; omega) ⟨w36.heap.size, 0, none⟩ 1 rfl (ns := [(b : Int)]) (news1 (cell_at_block (heap_alloc_new _ _))) (fun y hy => by simp at hy; subst hy; exact ⟨by omega, by omega⟩) (by simp; omega) ?_; intro a9 c9 w9 hA9 hB9 hK9)
            rw [hlen] at hA9
            have HA9 := Lib.hid hA9
            have HB9 := Lib.hid (((hs37.bel).trans ((belowA w36 (.cells #[.int .i64 b] 2)).mono (hs37.bel).size)).trans hB9)
            clear hA9 hB9 hK9
            go_wp2_with fail
            go_roundw
            case rel => exact ⟨k + 1, a9, c9, vals ++ [(b : Int)], hlt, by go_num, rfl, ⟨by simp [hlen], HG2.out⟩, HB9.out, HA9.out⟩
            case measure => simp [intOf]; omega
        · obtain rfl : b = size := by omega
          have HF := Lib.hid (fit_no (fitsP b v ps vals) hr.out)
          have HQ := Lib.hid (greedyF_none (show k + 1 ≤ v by omega) (by rw [HGS.out, HF.out]; rfl))
          have HB2 := Lib.hid (hsr.bel.trans ((belowA wr (.cells #[] 2)).mono hsr.bel.size))
          go_wp2_with fail
          refine bodyPost_ret (v := .tuple #[.slice (some ⟨wr.heap.size, 0, none⟩) 0 0, .bool false]) (by simp [results, Tryz.results50, go_sem]) rfl ⟨_, by rw [HQ.out], ?_, HB2.out⟩
          rw [HQ.out]
          exact ⟨[], ⟨_, rfl, .inl ⟨rfl, rfl, _, _, rfl, Nat.zero_le _⟩⟩, List.nodup_nil, fun z hz => by cases hz⟩
    · obtain rfl : k = v := by omega
      have HQ := Lib.hid (show greedyF size k ps = (vals, true) by unfold greedyF; rw [hg.out.2])
      have hnl : ¬ ((k : Int) < k) := by omega
      have hbl1 := hbl0.out
      go_wp2_with fail
      refine bodyPost_ret (v := .tuple #[.slice ao k co, .bool true]) (by simp [results, Tryz.results50, go_sem]) rfl ⟨_, by rw [HQ.out], ?_, hbl1⟩
      rw [HQ.out]
      exact hac.out.fresh

end Go.Proofs.YtllenfkbfeanmaaGreat

