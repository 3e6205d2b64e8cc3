/-
  CONTRACT: the search for polymorphisms, the reference's side: its beginning.
-/
import Derived.Test.YtllenfkbfeanmaaGreatPolyASa
namespace Go.Proofs.YtllenfkbfeanmaaGreat
open Go.RowKit Go.Shelf Go.IntWalk
open Rep (Rd Own sz)
set_option linter.unusedSimpArgs false
set_option linter.unusedVariables false

theorem E_condss : ElemT Tryz.prog 112 168 (List OpT) (.slice none 0 0) 24 := ElemT.mk' Tryz.underlying112 (by kernel_rfl) rfl (by decide) (by decide)
theorem E_sets : ElemT Tryz.prog 113 116 PSet (.pointer none) 8 := ElemT.mk' Tryz.underlying113 (by kernel_rfl) rfl (by decide) (by decide)
/-- A block of empty slices. -/
def NilB (w : World) (g n : Nat) : Prop := ∃ (cur : Array Value) (ty : TypeId), w.heap[g]? = some (.cells cur ty (0, 0)) ∧ cur.size = n ∧ ∀ p, p < n → cur[p]? = some (.slice none 0 0)
theorem wp_make_nils {P : Program} (w : World) {o : Oper} {a : Act} {K : Act → World → Prop} {Q : Exit → Act → World → Prop} (l c : Operand) (t : TypeId) (hop : o.op = Op.makeSlice t l c)
    {e : TypeId} {α : Type} [Rep α] {bytes : Nat} (E : ElemT P t e α (.slice none 0 0) bytes) (n : Nat) (hn : n ≤ 1073741824)
    (hl : a.eval l = .int .i64 (n : Int)) (hc : a.eval c = .int .i64 (n : Int))
    (h : ∀ g w', w.heap.size ≤ g → g < w'.heap.size → NilB w' g n → Below w.heap.size w w' → K (a.put o.dst (.slice (some ⟨g, 0, none⟩) n n)) w') :
    o.wp P a w K Q := by
  obtain ⟨i, hi, hz, hs, hb⟩ := E.info
  have hbytes : (i.bytes : Int) * (n : Int) ≤ 281474976710656 := by
    have h1 := E.small
    rw [hb]
    have : bytes * n ≤ 1000 * 1073741824 := Nat.mul_le_mul h1 hn
    have h2 : ((bytes * n : Nat) : Int) ≤ ((1000 * 1073741824 : Nat) : Int) := by exact_mod_cast this
    rw [Int.natCast_mul] at h2
    omega
  have hr := run_make (P := P) w t e i _ E.und hi hz .i64 .i64 (n : Int) (n : Int) (by omega) (by omega) hbytes (by omega)
  simp only [Int.toNat_natCast] at hr
  unfold Oper.wp
  simp only [execOp, hop, hl, hc, hr, Result.andThen_ok, Sem.run_bind, Sem.run_pure]
  have hs1 : i.size = 1 := by rw [hs]; have := E.zs; simpa [Value.cells] using this.symm
  refine h w.heap.size _ (Nat.le_refl _) (by simp) ⟨_, e, heap_alloc_new w _, by simp [madeCells, hs1], fun p hp => ?_⟩ (belowA w _)
  simp [madeCells, hs1, hp, Value.cells, Nat.mod_one]
theorem wp_make_ints {P : Program} (w : World) {o : Oper} {a : Act} {K : Act → World → Prop} {Q : Exit → Act → World → Prop} (l c : Operand) (t : TypeId) (hop : o.op = Op.makeSlice t l c)
    {e : TypeId} {bytes : Nat} (E : ElemT P t e Int (.int .i64 0) bytes) (n : Nat) (hn : n ≤ 1073741824)
    (hl : a.eval l = .int .i64 (n : Int)) (hc : a.eval c = .int .i64 (n : Int))
    (h : ∀ g w', w.heap.size ≤ g → g < w'.heap.size → OwnSl [g] w' (.slice (some ⟨g, 0, none⟩) n n) (List.replicate n (0 : Int)) → Below w.heap.size w w' → K (a.put o.dst (.slice (some ⟨g, 0, none⟩) n n)) w') :
    o.wp P a w K Q := by
  obtain ⟨w', hrun, r1, r2, r3⟩ := run_make_rep (P := P) w t e E (0 : Int) own0_int n hn
  unfold Oper.wp
  simp [execOp, hop, hl, hc, hrun, Result.andThen]
  exact h w.heap.size w' (Nat.le_refl _) (by omega) r1 r2
theorem NilB.mono {w w' : World} {g n : Nat} (h : NilB w g n) (hb : Below w.heap.size w w') : NilB w' g n := by
  obtain ⟨cur, ty, h1, h2⟩ := h
  exact ⟨cur, ty, by rw [hb.block g (Array.getElem?_eq_some_iff.1 h1).1]; exact h1, h2⟩
theorem NilB.run {α β : Type} [Rep α] [Rep β] {lo hi : Nat} {w : World} {cb n : Nat} {es ec : TypeId} (h : NilB w cb n) (hlo : cb < lo) : RunM (α := α) (β := β) lo hi w cb n es ec (.slice none 0 0) [] (fun _ => []) := by
  obtain ⟨cur, ty, h1, h2, h3⟩ := h
  exact ⟨fun _ => 0, cur, ty, h1, h2, hlo, AccP.nil _ _ _, fun p hp => ⟨_, h3 p hp, AccP.nil _ _ _⟩⟩
theorem NilB.only {ps : List Nat} {w w' : World} {g n : Nat} (h : NilB w g n) (hb : OnlyAt ps w w') (hg : g ∉ ps) : NilB w' g n := by
  obtain ⟨cur, ty, h1, h2⟩ := h
  exact ⟨cur, ty, by rw [hb.block g hg]; exact h1, h2⟩
theorem many_le {t : Tmpl} (ht : tmplOk t = true) {m : Nat} (hm : m ≤ 3) : ∀ j, j ≤ t.2.length → manyTo t m j ≤ j * 16777216 ∧ ∀ k, k < t.2.length → (t.2.getD k (0, [])).2.length ^ m ≤ 16777216
  | 0, _ => ⟨by simp [manyTo], fun k hk => by
    have hm2 : t.2.getD k (0, []) ∈ t.2 := by simp [List.getD, hk]
    have h1 := (relOk_count ((tmplOk_get ht).2.2 _ hm2)).2
    calc (t.2.getD k (0, [])).2.length ^ m ≤ 256 ^ m := Nat.pow_le_pow_left h1 m
      _ ≤ 256 ^ 3 := Nat.pow_le_pow_right (by omega) hm
      _ ≤ _ := by decide⟩
  | j + 1, hj => by
    have ih := many_le ht hm j (by omega)
    refine ⟨?_, ih.2⟩
    rw [manyTo]
    have := ih.2 j (by omega)
    have := ih.1
    omega
theorem many_up (t : Tmpl) (m : Nat) : ∀ j k, j ≤ k → manyTo t m j ≤ manyTo t m k
  | j, 0, h => by
    obtain rfl : j = 0 := by omega
    exact Nat.le_refl _
  | j, k + 1, h => by
    by_cases hj : j = k + 1
    · rw [hj]; exact Nat.le_refl _
    · have := many_up t m j k (by omega)
      rw [manyTo]; omega
theorem fill_set {n q : Nat} (h : q < n) : (List.replicate q (-1 : Int) ++ List.replicate (n - q) 0).set q (-1) = List.replicate (q + 1) (-1) ++ List.replicate (n - (q + 1)) 0 := by
  obtain ⟨d, hd⟩ : ∃ d, n - q = d + 1 := ⟨n - q - 1, by omega⟩
  rw [hd, show n - (q + 1) = d by omega, List.replicate_succ, List.set_append_right _ _ (by simp)]
  simp only [List.length_replicate, Nat.sub_self, List.set_cons_zero]
  rw [List.replicate_succ']
  simp
theorem tabQ_init {n : Nat} (h : 1 ≤ n) : tabQ n [] 0 = List.replicate n (-1) := by
  obtain ⟨d, rfl⟩ : ∃ d, n = d + 1 := ⟨n - 1, by omega⟩
  simp [tabQ, List.replicate_succ]
theorem own_at0 {g n : Nat} {w : World} {l : List Int} (h : OwnSl [g] w (.slice (some ⟨g, 0, none⟩) n n) l) (hl : l.length = n) {p : Nat} (hp : p < n) : w.cell? ⟨g, p, none⟩ = some (.int .i64 (l.getD p 0)) ∧ w.frozen? ⟨g, p, none⟩ = false ∧ ∀ x, I64 x → OwnSl [g] (w.setCell ⟨g, p, none⟩ (.int .i64 x)) (.slice (some ⟨g, 0, none⟩) n n) (l.set p x) := by
  obtain ⟨g', o, c, e, hps, hc, hf, hset⟩ := ownSl_int h p (by rw [hl]; exact hp)
  simp only [Value.slice.injEq, Option.some.injEq, Addr.mk.injEq] at e
  obtain ⟨⟨rfl, rfl, _⟩, _, rfl⟩ := e
  rw [Nat.zero_add] at hc hf hset
  exact ⟨hc, hf, hset⟩
/-- What the search begins with. -/
structure Begun (w : World) (w0 : World) (rb cb fb tb tp n m : Nat) (tr : TypeId) : Prop where
  run : w.heap[rb]? = some (.cells #[.pointer (some ⟨tp, 0, none⟩), .int .i64 m, .slice none 0 0, .slice (some ⟨cb, 0, none⟩) n n, .slice (some ⟨fb, 0, none⟩) n n, .slice (some ⟨tb, 0, none⟩) n n, .int .i64 0, .bool false] tr (0, 0))
  nils : NilB w cb n
  fx : OwnSl [fb] w (.slice (some ⟨fb, 0, none⟩) n n) (List.replicate n (0 : Int))
  tx : OwnSl [tb] w (.slice (some ⟨tb, 0, none⟩) n n) (List.replicate n (0 : Int))
  dis : (rb ≠ cb ∧ rb ≠ fb ∧ rb ≠ tb ∧ cb ≠ fb ∧ cb ≠ tb ∧ fb ≠ tb) ∧ (w0.heap.size ≤ rb ∧ w0.heap.size ≤ cb ∧ w0.heap.size ≤ fb ∧ w0.heap.size ≤ tb) ∧ (rb < w.heap.size ∧ cb < w.heap.size ∧ fb < w.heap.size ∧ tb < w.heap.size)
  bel : Below w0.heap.size w0 w
set_option maxRecDepth 100000 in
set_option maxHeartbeats 16000000 in
theorem l04BeginN_c (t : Tmpl) (m tp n : Nat) (w : World) (hok : tmplOk t = true) (hm : 1 ≤ m ∧ m ≤ 3) (hn : t.1 ^ m = (n : Int)) (hn4 : n ≤ 64)
    (aT : Option Addr) (cT : Nat) (hT : Rd w [.int .i64 t.1, .slice aT t.2.length cT] t)
    (e0 : w.cell? ⟨tp, 0, none⟩ = some (.int .i64 t.1)) (e1 : w.cell? ⟨tp, 1, none⟩ = some (.slice aT t.2.length cT)) (hmany : 4000 < manyTo t m t.2.length) :
    Calls Tryz.prog 30 #[.pointer (some ⟨tp, 0, none⟩), .int .i64 m] w fun e w' => e = .returned (.tuple #[.pointer none, .int .i64 3]) ∧ w = w' := by
  have hsz := (tmplOk_get hok).1
  have hrl := (tmplOk_get hok).2.1
  have HML := Lib.hid (many_le hok hm.2)
  have HT := Lib.hid hT
  have HOK := Lib.hid hok
  have HN := Lib.hid hn
  have htpw : tp < w.heap.size := World.block_lt_of_cell? w _ e0
  obtain ⟨size, rs⟩ := t
  simp only at hsz hrl e0 e1 hmany
  clear hT hok hn
  go_enter Tryz.func30, Tryz.ntmps30
  go_wp2_with fail
  go_loopw [6, 7] (fun s i wl => ∃ (j S : Nat), j ≤ rs.length ∧ i = .int .i64 j ∧ s = .int .i64 S ∧ Hid (S = manyTo (size, rs) m j) ∧ w = wl) (fun _ i _ => rs.length - (intOf i).toNat)
  case atStart => exact ⟨0, 0, Nat.zero_le _, rfl, rfl, rfl, rfl⟩
  case round =>
    obtain ⟨j, S, hj, rfl, rfl, hS, rfl⟩ := hrel
    by_cases hlt : j < rs.length
    · have hltI : (j : Int) < rs.length := by omega
      obtain ⟨b1, o1, aS, cS, rfl, q0, q1, hTS⟩ := tmpl_at HT.out hlt
      have hmj := HML.out j (show j ≤ rs.length by omega)
      have h1 := hmj.1
      have h2 := hmj.2 j (show j < rs.length by omega)
      rw [← hS.out] at h1
      have h2 : (rs.getD j (0, [])).2.length ^ m ≤ 16777216 := h2
      have HPW := Lib.hid (show ((rs.getD j (0, [])).2.length : Int) ^ m = (((rs.getD j (0, [])).2.length ^ m : Nat) : Int) from (Int.natCast_pow _ _).symm)
      have HSS := Lib.hid (show S + (rs.getD j (0, [])).2.length ^ m = manyTo (size, rs) m (j + 1) by rw [manyTo, hS.out])
      clear hTS hmj
      generalize (rs.getD j (0, [])).2.length ^ m = PJ at *
      generalize (rs.getD j (0, [])).2.length = LJ at *
      generalize (rs.getD j (0, [])).1 = AJ at *
      have hww : IntKind.i64.wrap ((S : Int) + PJ) = (S : Int) + PJ := i64_in _ (by omega)
      go_wp2_with fail
      refine (l01Power_c LJ m _ (by omega) (by omega) (by omega) (by rw [Int.toNat_natCast, HPW.out]; omega)).mono ?_
      rintro e w2 ⟨rfl, rfl⟩
      rw [Int.toNat_natCast, HPW.out]
      go_wp2_with fail
      go_roundw
      case rel => exact ⟨j + 1, S + PJ, by omega, by go_num, rfl, HSS.out, trivial⟩
      case measure => simp [intOf]; omega
    · obtain rfl : j = rs.length := by omega
      have hnl : ¬ ((rs.length : Int) < rs.length) := by omega
      have hSv := hS.out
      have hgt : (4000 : Int) < S := by omega
      go_wp2_with fail
      exact bodyPost_ret (v := .tuple #[.pointer none, .int .i64 3]) (by simp [results, Tryz.results30, go_sem]) rfl ⟨rfl, rfl⟩
set_option maxRecDepth 100000 in
set_option maxHeartbeats 16000000 in
theorem l04Begin_c (t : Tmpl) (m tp n : Nat) (w : World) (hok : tmplOk t = true) (hm : 1 ≤ m ∧ m ≤ 3) (hn : t.1 ^ m = (n : Int)) (hn4 : n ≤ 64)
    (aT : Option Addr) (cT : Nat) (hT : Rd w [.int .i64 t.1, .slice aT t.2.length cT] t)
    (e0 : w.cell? ⟨tp, 0, none⟩ = some (.int .i64 t.1)) (e1 : w.cell? ⟨tp, 1, none⟩ = some (.slice aT t.2.length cT)) (hmany : manyTo t m t.2.length ≤ 4000) :
    Calls Tryz.prog 30 #[.pointer (some ⟨tp, 0, none⟩), .int .i64 m] w fun e w' => ∃ rb, e = .returned (.tuple #[.pointer (some ⟨rb, 0, none⟩), .int .i64 0]) ∧ Below w.heap.size w w' ∧
      ∃ cb fb tb, (w.heap.size ≤ rb ∧ w.heap.size ≤ tb) ∧ ∃ lo, RunQ lo w'.heap.size w' t m rb cb fb tb tp n 116 167 115 (tabQ n [] 0) 0 false := by
  have hsz := (tmplOk_get hok).1
  have hrl := (tmplOk_get hok).2.1
  have HML := Lib.hid (many_le hok hm.2)
  have HT := Lib.hid hT
  have HOK := Lib.hid hok
  have HN := Lib.hid hn
  have htpw : tp < w.heap.size := World.block_lt_of_cell? w _ e0
  obtain ⟨size, rs⟩ := t
  simp only at hsz hrl e0 e1 hmany
  clear hT hok hn
  go_enter Tryz.func30, Tryz.ntmps30
  go_wp2_with fail
  go_loopw [6, 7] (fun s i wl => ∃ (j S : Nat), j ≤ rs.length ∧ i = .int .i64 j ∧ s = .int .i64 S ∧ Hid (S = manyTo (size, rs) m j) ∧ w = wl) (fun _ i _ => rs.length - (intOf i).toNat)
  case atStart => exact ⟨0, 0, Nat.zero_le _, rfl, rfl, rfl, rfl⟩
  case round =>
    obtain ⟨j, S, hj, rfl, rfl, hS, rfl⟩ := hrel
    by_cases hlt : j < rs.length
    · have hltI : (j : Int) < rs.length := by omega
      obtain ⟨b1, o1, aS, cS, rfl, q0, q1, hTS⟩ := tmpl_at HT.out hlt
      have hmj := HML.out j (show j ≤ rs.length by omega)
      have h1 := hmj.1
      have h2 := hmj.2 j (show j < rs.length by omega)
      rw [← hS.out] at h1
      have h2 : (rs.getD j (0, [])).2.length ^ m ≤ 16777216 := h2
      have HPW := Lib.hid (show ((rs.getD j (0, [])).2.length : Int) ^ m = (((rs.getD j (0, [])).2.length ^ m : Nat) : Int) from (Int.natCast_pow _ _).symm)
      have HSS := Lib.hid (show S + (rs.getD j (0, [])).2.length ^ m = manyTo (size, rs) m (j + 1) by rw [manyTo, hS.out])
      clear hTS hmj
      generalize (rs.getD j (0, [])).2.length ^ m = PJ at *
      generalize (rs.getD j (0, [])).2.length = LJ at *
      generalize (rs.getD j (0, [])).1 = AJ at *
      have hww : IntKind.i64.wrap ((S : Int) + PJ) = (S : Int) + PJ := i64_in _ (by omega)
      go_wp2_with fail
      refine (l01Power_c LJ m _ (by omega) (by omega) (by omega) (by rw [Int.toNat_natCast, HPW.out]; omega)).mono ?_
      rintro e w2 ⟨rfl, rfl⟩
      rw [Int.toNat_natCast, HPW.out]
      go_wp2_with fail
      go_roundw
      case rel => exact ⟨j + 1, S + PJ, by omega, by go_num, rfl, HSS.out, trivial⟩
      case measure => simp [intOf]; omega
    · obtain rfl : j = rs.length := by omega
      have hnl : ¬ ((rs.length : Int) < rs.length) := by omega
      have hSv := hS.out
      have hgt : ¬ (4000 : Int) < S := by omega
      have HNN := Lib.hid (show size ^ m = (n : Int) from HN.out)
      have e0_ := cellL (St.start w).bel e0
      clear e0_
      have e0_ := cellL (St.start w).bel e0
      have e1_ := cellL (St.start w).bel e1
      clear e0_ e1_
      have e0_ := cellL (St.start w).bel e0
      have e1_ := cellL (St.start w).bel e1
      go_wp2_with fail
      refine (l01Power_c size m _ (by omega) (by omega) (by omega) (by rw [Int.toNat_natCast, HNN.out]; omega)).mono ?_
      rintro e w2 ⟨rfl, rfl⟩
      rw [Int.toNat_natCast, HNN.out]
      go_upto_region 9 with fail
      go_cut [9] from 42 to 51 (fun x9 wx => ∃ (rb cb fb tb : Nat), x9 = .pointer (some ⟨rb, 0, none⟩) ∧ Hid (Begun wx w rb cb fb tb tp n m 115))
      case first =>
        refine wp_region_noPanic (wp_region_tree4 (fun w' => w'.cell? ⟨tp, 0, none⟩ = some (.int .i64 size) ∧ w'.cell? ⟨tp, 1, none⟩ = some (.slice aT rs.length cT)) (.float 0 (.float 1 (.float 2 (.float 4 (.float 6 (.fork3 3 (.fork2 5 (.hard 7 (.float 8 (.hard 9 (.float 10 .nil)))) 7 (.hard 5 (.float 8 (.hard 9 (.float 10 .nil))))) 5 (.fork2 3 (.hard 7 (.float 8 (.hard 9 (.float 10 .nil)))) 7 (.hard 3 (.float 8 (.hard 9 (.float 10 .nil))))) 7 (.fork2 3 (.hard 5 (.float 8 (.hard 9 (.float 10 .nil)))) 5 (.hard 3 (.float 8 (.hard 9 (.float 10 .nil))))))))))) (by kernel_rfl) (by kernel_rfl) (by kernel_rfl) rfl ?_ (fun _ _ _ _ _ h => h) ?_)
        · exact ⟨cellL ((St.start w).drew).bel e0, cellL ((St.start w).drew).bel e1⟩
        have hs1 := (St.start w).drew
        clear e0_ e1_
        have hz_wd2 : w.heap.size ≤ (w.drew).heap.size := by simp
        generalize hgen_wd2 : w.drew = wd2 at *
        have HG_wd2 := Lib.hid hgen_wd2
        clear hgen_wd2
        (repeat (first | (apply t4_skip rfl (by rfl); try simp only [Act.put, List.setIfInBounds_toArray, List.set_cons_zero, List.set_cons_succ]) | (apply t4_float rfl (by rfl); (· (intro w' hS; go_simp <;> with_reducible rfl)); (try simp only [Act.put, List.setIfInBounds_toArray, List.set_cons_zero, List.set_cons_succ]))))
        refine t4_fork3 ?_ ?_ ?_
        · refine t4_hard rfl (by rfl) (fun K hK => ?_)
          refine wp_make_nils _ _ _ 112 rfl E_condss n (by omega) rfl rfl ?_
          intro gC wK hgC1 hgC2 hnil hbK
          have HNL := Lib.hid hnil
          have HBK := Lib.hid (Below.refl wK.heap.size wK)
          clear hnil
          have hz_wK : wd2.heap.size ≤ wK.heap.size := by have h9 := hbK.size; (try simp at h9); omega
          have hs3 := hs1.step hbK
          refine hK _ _ ⟨⟨cellL hs3.bel e0, cellL hs3.bel e1⟩, ?_⟩
          (repeat (first | (apply t4_skip rfl (by rfl); try simp only [Act.put, List.setIfInBounds_toArray, List.set_cons_zero, List.set_cons_succ]) | (apply t4_float rfl (by rfl); (· (intro w' hS; go_simp <;> with_reducible rfl)); (try simp only [Act.put, List.setIfInBounds_toArray, List.set_cons_zero, List.set_cons_succ]))))
          refine t4_fork2 ?_ ?_
          · refine t4_hard rfl (by rfl) (fun K hK => ?_)
            refine wp_make_ints _ _ _ 32 rfl E_ints n (by omega) rfl rfl ?_
            intro gF wF hgF1 hgF2 hoF hbF
            have HOF := Lib.hid hoF
            clear hoF
            have hz_wF : wK.heap.size ≤ wF.heap.size := by have h9 := hbF.size; (try simp at h9); omega
            have hs4 := hs3.step hbF
            have HBK_5 := Lib.hid (HBK.out.trans ((hbF).mono HBK.out.size))
            clear HBK
            refine hK _ _ ⟨⟨cellL hs4.bel e0, cellL hs4.bel e1⟩, ?_⟩
            (repeat (first | (apply t4_skip rfl (by rfl); try simp only [Act.put, List.setIfInBounds_toArray, List.set_cons_zero, List.set_cons_succ]) | (apply t4_float rfl (by rfl); (· (intro w' hS; go_simp <;> with_reducible rfl)); (try simp only [Act.put, List.setIfInBounds_toArray, List.set_cons_zero, List.set_cons_succ]))))
            refine t4_hard rfl (by rfl) (fun K hK => ?_)
            refine wp_make_ints _ _ _ 32 rfl E_ints n (by omega) rfl rfl ?_
            intro gT wT hgT1 hgT2 hoT hbT
            have HOT := Lib.hid hoT
            clear hoT
            have hz_wT : wF.heap.size ≤ wT.heap.size := by have h9 := hbT.size; (try simp at h9); omega
            have hs6 := hs4.step hbT
            have HBK_7 := Lib.hid (HBK_5.out.trans ((hbT).mono HBK_5.out.size))
            clear HBK_5
            have HOF_8 := Lib.hid (ownSl_mono HOF.out hbT)
            clear HOF
            refine hK _ _ ⟨⟨cellL hs6.bel e0, cellL hs6.bel e1⟩, ?_⟩
            (repeat (first | (apply t4_skip rfl (by rfl); try simp only [Act.put, List.setIfInBounds_toArray, List.set_cons_zero, List.set_cons_succ]) | (apply t4_float rfl (by rfl); (· (intro w' hS; go_simp <;> with_reducible rfl)); (try simp only [Act.put, List.setIfInBounds_toArray, List.set_cons_zero, List.set_cons_succ]))))
            refine t4_hard rfl (by rfl) (fun K hK => ?_)
            go_wp2_with fail
            have HNZ := Lib.hid (HNL.out.mono HBK_7.out)
            have hs9 := hs6.alloc #[.pointer (some ⟨tp, 0, none⟩), .int .i64 m, .slice none 0 0, .slice (some ⟨gC, 0, none⟩) n n, .slice (some ⟨gF, 0, none⟩) n n, .slice (some ⟨gT, 0, none⟩) n n, .int .i64 0, .bool false] 115 (n := wT.heap.size) (by simp)
            have HBK_10 := Lib.hid (HBK_7.out.trans (((belowA _ (.cells #[.pointer (some ⟨tp, 0, none⟩), .int .i64 m, .slice none 0 0, .slice (some ⟨gC, 0, none⟩) n n, .slice (some ⟨gF, 0, none⟩) n n, .slice (some ⟨gT, 0, none⟩) n n, .int .i64 0, .bool false] 115))).mono HBK_7.out.size))
            clear HBK_7
            have HOF_11 := Lib.hid (ownSl_mono HOF_8.out (belowA _ (.cells #[.pointer (some ⟨tp, 0, none⟩), .int .i64 m, .slice none 0 0, .slice (some ⟨gC, 0, none⟩) n n, .slice (some ⟨gF, 0, none⟩) n n, .slice (some ⟨gT, 0, none⟩) n n, .int .i64 0, .bool false] 115)))
            clear HOF_8
            have HOT_12 := Lib.hid (ownSl_mono HOT.out (belowA _ (.cells #[.pointer (some ⟨tp, 0, none⟩), .int .i64 m, .slice none 0 0, .slice (some ⟨gC, 0, none⟩) n n, .slice (some ⟨gF, 0, none⟩) n n, .slice (some ⟨gT, 0, none⟩) n n, .int .i64 0, .bool false] 115)))
            clear HOT
            have hszR : (wT.alloc (.cells #[.pointer (some ⟨tp, 0, none⟩), .int .i64 m, .slice none 0 0, .slice (some ⟨gC, 0, none⟩) n n, .slice (some ⟨gF, 0, none⟩) n n, .slice (some ⟨gT, 0, none⟩) n n, .int .i64 0, .bool false] 115)).heap.size = wT.heap.size + 1 := by simp
            refine ⟨⟨cellL hs9.bel e0, cellL hs9.bel e1⟩, ?_⟩
            (repeat (first | (apply t4_skip rfl (by rfl); try simp only [Act.put, List.setIfInBounds_toArray, List.set_cons_zero, List.set_cons_succ]) | (apply t4_float rfl (by rfl); (· (intro w' hS; go_simp <;> with_reducible rfl)); (try simp only [Act.put, List.setIfInBounds_toArray, List.set_cons_zero, List.set_cons_succ]))))
            have k0_0 := hs9.cellAt 0 rfl 0 rfl
            have k0_1 := hs9.cellAt 0 rfl 1 rfl
            have k0_2 := hs9.cellAt 0 rfl 2 rfl
            have k0_3 := hs9.cellAt 0 rfl 3 rfl
            have k0_4 := hs9.cellAt 0 rfl 4 rfl
            have k0_5 := hs9.cellAt 0 rfl 5 rfl
            have k0_6 := hs9.cellAt 0 rfl 6 rfl
            have k0_7 := hs9.cellAt 0 rfl 7 rfl
            have e0_ := cellL hs9.bel e0
            have e1_ := cellL hs9.bel e1
            refine t4_nil (NoPanic.normal ?_)
            go_wp2_with fail
            go_meet
            case rel =>
              exact ⟨wT.heap.size, gC, gF, gT, rfl, ⟨(hs9.box (wT.heap.size, #[.pointer (some ⟨tp, 0, none⟩), .int .i64 m, .slice none 0 0, .slice (some ⟨gC, 0, none⟩) n n, .slice (some ⟨gF, 0, none⟩) n n, .slice (some ⟨gT, 0, none⟩) n n, .int .i64 0, .bool false], 115) (by simp)).2.2, HNZ.out.mono (belowA _ _), HOF_11.out, HOT_12.out, by omega, hs9.bel⟩⟩
          · refine t4_hard rfl (by rfl) (fun K hK => ?_)
            refine wp_make_ints _ _ _ 32 rfl E_ints n (by omega) rfl rfl ?_
            intro gT wT hgT1 hgT2 hoT hbT
            have HOT := Lib.hid hoT
            clear hoT
            have hz_wT : wK.heap.size ≤ wT.heap.size := by have h9 := hbT.size; (try simp at h9); omega
            have hs13 := hs3.step hbT
            have HBK_14 := Lib.hid (HBK.out.trans ((hbT).mono HBK.out.size))
            clear HBK
            refine hK _ _ ⟨⟨cellL hs13.bel e0, cellL hs13.bel e1⟩, ?_⟩
            (repeat (first | (apply t4_skip rfl (by rfl); try simp only [Act.put, List.setIfInBounds_toArray, List.set_cons_zero, List.set_cons_succ]) | (apply t4_float rfl (by rfl); (· (intro w' hS; go_simp <;> with_reducible rfl)); (try simp only [Act.put, List.setIfInBounds_toArray, List.set_cons_zero, List.set_cons_succ]))))
            refine t4_hard rfl (by rfl) (fun K hK => ?_)
            refine wp_make_ints _ _ _ 32 rfl E_ints n (by omega) rfl rfl ?_
            intro gF wF hgF1 hgF2 hoF hbF
            have HOF := Lib.hid hoF
            clear hoF
            have hz_wF : wT.heap.size ≤ wF.heap.size := by have h9 := hbF.size; (try simp at h9); omega
            have hs15 := hs13.step hbF
            have HBK_16 := Lib.hid (HBK_14.out.trans ((hbF).mono HBK_14.out.size))
            clear HBK_14
            have HOT_17 := Lib.hid (ownSl_mono HOT.out hbF)
            clear HOT
            refine hK _ _ ⟨⟨cellL hs15.bel e0, cellL hs15.bel e1⟩, ?_⟩
            (repeat (first | (apply t4_skip rfl (by rfl); try simp only [Act.put, List.setIfInBounds_toArray, List.set_cons_zero, List.set_cons_succ]) | (apply t4_float rfl (by rfl); (· (intro w' hS; go_simp <;> with_reducible rfl)); (try simp only [Act.put, List.setIfInBounds_toArray, List.set_cons_zero, List.set_cons_succ]))))
            refine t4_hard rfl (by rfl) (fun K hK => ?_)
            go_wp2_with fail
            have HNZ := Lib.hid (HNL.out.mono HBK_16.out)
            have hs18 := hs15.alloc #[.pointer (some ⟨tp, 0, none⟩), .int .i64 m, .slice none 0 0, .slice (some ⟨gC, 0, none⟩) n n, .slice (some ⟨gF, 0, none⟩) n n, .slice (some ⟨gT, 0, none⟩) n n, .int .i64 0, .bool false] 115 (n := wF.heap.size) (by simp)
            have HBK_19 := Lib.hid (HBK_16.out.trans (((belowA _ (.cells #[.pointer (some ⟨tp, 0, none⟩), .int .i64 m, .slice none 0 0, .slice (some ⟨gC, 0, none⟩) n n, .slice (some ⟨gF, 0, none⟩) n n, .slice (some ⟨gT, 0, none⟩) n n, .int .i64 0, .bool false] 115))).mono HBK_16.out.size))
            clear HBK_16
            have HOT_20 := Lib.hid (ownSl_mono HOT_17.out (belowA _ (.cells #[.pointer (some ⟨tp, 0, none⟩), .int .i64 m, .slice none 0 0, .slice (some ⟨gC, 0, none⟩) n n, .slice (some ⟨gF, 0, none⟩) n n, .slice (some ⟨gT, 0, none⟩) n n, .int .i64 0, .bool false] 115)))
            clear HOT_17
            have HOF_21 := Lib.hid (ownSl_mono HOF.out (belowA _ (.cells #[.pointer (some ⟨tp, 0, none⟩), .int .i64 m, .slice none 0 0, .slice (some ⟨gC, 0, none⟩) n n, .slice (some ⟨gF, 0, none⟩) n n, .slice (some ⟨gT, 0, none⟩) n n, .int .i64 0, .bool false] 115)))
            clear HOF
            have hszR : (wF.alloc (.cells #[.pointer (some ⟨tp, 0, none⟩), .int .i64 m, .slice none 0 0, .slice (some ⟨gC, 0, none⟩) n n, .slice (some ⟨gF, 0, none⟩) n n, .slice (some ⟨gT, 0, none⟩) n n, .int .i64 0, .bool false] 115)).heap.size = wF.heap.size + 1 := by simp
            refine ⟨⟨cellL hs18.bel e0, cellL hs18.bel e1⟩, ?_⟩
            (repeat (first | (apply t4_skip rfl (by rfl); try simp only [Act.put, List.setIfInBounds_toArray, List.set_cons_zero, List.set_cons_succ]) | (apply t4_float rfl (by rfl); (· (intro w' hS; go_simp <;> with_reducible rfl)); (try simp only [Act.put, List.setIfInBounds_toArray, List.set_cons_zero, List.set_cons_succ]))))
            have k0_0 := hs18.cellAt 0 rfl 0 rfl
            have k0_1 := hs18.cellAt 0 rfl 1 rfl
            have k0_2 := hs18.cellAt 0 rfl 2 rfl
            have k0_3 := hs18.cellAt 0 rfl 3 rfl
            have k0_4 := hs18.cellAt 0 rfl 4 rfl
            have k0_5 := hs18.cellAt 0 rfl 5 rfl
            have k0_6 := hs18.cellAt 0 rfl 6 rfl
            have k0_7 := hs18.cellAt 0 rfl 7 rfl
            have e0_ := cellL hs18.bel e0
            have e1_ := cellL hs18.bel e1
            refine t4_nil (NoPanic.normal ?_)
            go_wp2_with fail
            go_meet
            case rel =>
              exact ⟨wF.heap.size, gC, gF, gT, rfl, ⟨(hs18.box (wF.heap.size, #[.pointer (some ⟨tp, 0, none⟩), .int .i64 m, .slice none 0 0, .slice (some ⟨gC, 0, none⟩) n n, .slice (some ⟨gF, 0, none⟩) n n, .slice (some ⟨gT, 0, none⟩) n n, .int .i64 0, .bool false], 115) (by simp)).2.2, HNZ.out.mono (belowA _ _), HOF_21.out, HOT_20.out, by omega, hs18.bel⟩⟩
        · refine t4_hard rfl (by rfl) (fun K hK => ?_)
          refine wp_make_ints _ _ _ 32 rfl E_ints n (by omega) rfl rfl ?_
          intro gF wF hgF1 hgF2 hoF hbF
          have HOF := Lib.hid hoF
          clear hoF
          have hz_wF : wd2.heap.size ≤ wF.heap.size := by have h9 := hbF.size; (try simp at h9); omega
          have hs22 := hs1.step hbF
          refine hK _ _ ⟨⟨cellL hs22.bel e0, cellL hs22.bel e1⟩, ?_⟩
          (repeat (first | (apply t4_skip rfl (by rfl); try simp only [Act.put, List.setIfInBounds_toArray, List.set_cons_zero, List.set_cons_succ]) | (apply t4_float rfl (by rfl); (· (intro w' hS; go_simp <;> with_reducible rfl)); (try simp only [Act.put, List.setIfInBounds_toArray, List.set_cons_zero, List.set_cons_succ]))))
          refine t4_fork2 ?_ ?_
          · refine t4_hard rfl (by rfl) (fun K hK => ?_)
            refine wp_make_nils _ _ _ 112 rfl E_condss n (by omega) rfl rfl ?_
            intro gC wK hgC1 hgC2 hnil hbK
            have HNL := Lib.hid hnil
            have HBK := Lib.hid (Below.refl wK.heap.size wK)
            clear hnil
            have hz_wK : wF.heap.size ≤ wK.heap.size := by have h9 := hbK.size; (try simp at h9); omega
            have hs23 := hs22.step hbK
            have HOF_24 := Lib.hid (ownSl_mono HOF.out hbK)
            clear HOF
            refine hK _ _ ⟨⟨cellL hs23.bel e0, cellL hs23.bel e1⟩, ?_⟩
            (repeat (first | (apply t4_skip rfl (by rfl); try simp only [Act.put, List.setIfInBounds_toArray, List.set_cons_zero, List.set_cons_succ]) | (apply t4_float rfl (by rfl); (· (intro w' hS; go_simp <;> with_reducible rfl)); (try simp only [Act.put, List.setIfInBounds_toArray, List.set_cons_zero, List.set_cons_succ]))))
            refine t4_hard rfl (by rfl) (fun K hK => ?_)
            refine wp_make_ints _ _ _ 32 rfl E_ints n (by omega) rfl rfl ?_
            intro gT wT hgT1 hgT2 hoT hbT
            have HOT := Lib.hid hoT
            clear hoT
            have hz_wT : wK.heap.size ≤ wT.heap.size := by have h9 := hbT.size; (try simp at h9); omega
            have hs25 := hs23.step hbT
            have HOF_26 := Lib.hid (ownSl_mono HOF_24.out hbT)
            clear HOF_24
            have HBK_27 := Lib.hid (HBK.out.trans ((hbT).mono HBK.out.size))
            clear HBK
            refine hK _ _ ⟨⟨cellL hs25.bel e0, cellL hs25.bel e1⟩, ?_⟩
            (repeat (first | (apply t4_skip rfl (by rfl); try simp only [Act.put, List.setIfInBounds_toArray, List.set_cons_zero, List.set_cons_succ]) | (apply t4_float rfl (by rfl); (· (intro w' hS; go_simp <;> with_reducible rfl)); (try simp only [Act.put, List.setIfInBounds_toArray, List.set_cons_zero, List.set_cons_succ]))))
            refine t4_hard rfl (by rfl) (fun K hK => ?_)
            go_wp2_with fail
            have HNZ := Lib.hid (HNL.out.mono HBK_27.out)
            have hs28 := hs25.alloc #[.pointer (some ⟨tp, 0, none⟩), .int .i64 m, .slice none 0 0, .slice (some ⟨gC, 0, none⟩) n n, .slice (some ⟨gF, 0, none⟩) n n, .slice (some ⟨gT, 0, none⟩) n n, .int .i64 0, .bool false] 115 (n := wT.heap.size) (by simp)
            have HOF_29 := Lib.hid (ownSl_mono HOF_26.out (belowA _ (.cells #[.pointer (some ⟨tp, 0, none⟩), .int .i64 m, .slice none 0 0, .slice (some ⟨gC, 0, none⟩) n n, .slice (some ⟨gF, 0, none⟩) n n, .slice (some ⟨gT, 0, none⟩) n n, .int .i64 0, .bool false] 115)))
            clear HOF_26
            have HBK_30 := Lib.hid (HBK_27.out.trans (((belowA _ (.cells #[.pointer (some ⟨tp, 0, none⟩), .int .i64 m, .slice none 0 0, .slice (some ⟨gC, 0, none⟩) n n, .slice (some ⟨gF, 0, none⟩) n n, .slice (some ⟨gT, 0, none⟩) n n, .int .i64 0, .bool false] 115))).mono HBK_27.out.size))
            clear HBK_27
            have HOT_31 := Lib.hid (ownSl_mono HOT.out (belowA _ (.cells #[.pointer (some ⟨tp, 0, none⟩), .int .i64 m, .slice none 0 0, .slice (some ⟨gC, 0, none⟩) n n, .slice (some ⟨gF, 0, none⟩) n n, .slice (some ⟨gT, 0, none⟩) n n, .int .i64 0, .bool false] 115)))
            clear HOT
            have hszR : (wT.alloc (.cells #[.pointer (some ⟨tp, 0, none⟩), .int .i64 m, .slice none 0 0, .slice (some ⟨gC, 0, none⟩) n n, .slice (some ⟨gF, 0, none⟩) n n, .slice (some ⟨gT, 0, none⟩) n n, .int .i64 0, .bool false] 115)).heap.size = wT.heap.size + 1 := by simp
            refine ⟨⟨cellL hs28.bel e0, cellL hs28.bel e1⟩, ?_⟩
            (repeat (first | (apply t4_skip rfl (by rfl); try simp only [Act.put, List.setIfInBounds_toArray, List.set_cons_zero, List.set_cons_succ]) | (apply t4_float rfl (by rfl); (· (intro w' hS; go_simp <;> with_reducible rfl)); (try simp only [Act.put, List.setIfInBounds_toArray, List.set_cons_zero, List.set_cons_succ]))))
            have k0_0 := hs28.cellAt 0 rfl 0 rfl
            have k0_1 := hs28.cellAt 0 rfl 1 rfl
            have k0_2 := hs28.cellAt 0 rfl 2 rfl
            have k0_3 := hs28.cellAt 0 rfl 3 rfl
            have k0_4 := hs28.cellAt 0 rfl 4 rfl
            have k0_5 := hs28.cellAt 0 rfl 5 rfl
            have k0_6 := hs28.cellAt 0 rfl 6 rfl
            have k0_7 := hs28.cellAt 0 rfl 7 rfl
            have e0_ := cellL hs28.bel e0
            have e1_ := cellL hs28.bel e1
            refine t4_nil (NoPanic.normal ?_)
            go_wp2_with fail
            go_meet
            case rel =>
              exact ⟨wT.heap.size, gC, gF, gT, rfl, ⟨(hs28.box (wT.heap.size, #[.pointer (some ⟨tp, 0, none⟩), .int .i64 m, .slice none 0 0, .slice (some ⟨gC, 0, none⟩) n n, .slice (some ⟨gF, 0, none⟩) n n, .slice (some ⟨gT, 0, none⟩) n n, .int .i64 0, .bool false], 115) (by simp)).2.2, HNZ.out.mono (belowA _ _), HOF_29.out, HOT_31.out, by omega, hs28.bel⟩⟩
          · refine t4_hard rfl (by rfl) (fun K hK => ?_)
            refine wp_make_ints _ _ _ 32 rfl E_ints n (by omega) rfl rfl ?_
            intro gT wT hgT1 hgT2 hoT hbT
            have HOT := Lib.hid hoT
            clear hoT
            have hz_wT : wF.heap.size ≤ wT.heap.size := by have h9 := hbT.size; (try simp at h9); omega
            have hs32 := hs22.step hbT
            have HOF_33 := Lib.hid (ownSl_mono HOF.out hbT)
            clear HOF
            refine hK _ _ ⟨⟨cellL hs32.bel e0, cellL hs32.bel e1⟩, ?_⟩
            (repeat (first | (apply t4_skip rfl (by rfl); try simp only [Act.put, List.setIfInBounds_toArray, List.set_cons_zero, List.set_cons_succ]) | (apply t4_float rfl (by rfl); (· (intro w' hS; go_simp <;> with_reducible rfl)); (try simp only [Act.put, List.setIfInBounds_toArray, List.set_cons_zero, List.set_cons_succ]))))
            refine t4_hard rfl (by rfl) (fun K hK => ?_)
            refine wp_make_nils _ _ _ 112 rfl E_condss n (by omega) rfl rfl ?_
            intro gC wK hgC1 hgC2 hnil hbK
            have HNL := Lib.hid hnil
            have HBK := Lib.hid (Below.refl wK.heap.size wK)
            clear hnil
            have hz_wK : wT.heap.size ≤ wK.heap.size := by have h9 := hbK.size; (try simp at h9); omega
            have hs34 := hs32.step hbK
            have HOF_35 := Lib.hid (ownSl_mono HOF_33.out hbK)
            clear HOF_33
            have HOT_36 := Lib.hid (ownSl_mono HOT.out hbK)
            clear HOT
            refine hK _ _ ⟨⟨cellL hs34.bel e0, cellL hs34.bel e1⟩, ?_⟩
            (repeat (first | (apply t4_skip rfl (by rfl); try simp only [Act.put, List.setIfInBounds_toArray, List.set_cons_zero, List.set_cons_succ]) | (apply t4_float rfl (by rfl); (· (intro w' hS; go_simp <;> with_reducible rfl)); (try simp only [Act.put, List.setIfInBounds_toArray, List.set_cons_zero, List.set_cons_succ]))))
            refine t4_hard rfl (by rfl) (fun K hK => ?_)
            go_wp2_with fail
            have HNZ := Lib.hid (HNL.out.mono HBK.out)
            have hs37 := hs34.alloc #[.pointer (some ⟨tp, 0, none⟩), .int .i64 m, .slice none 0 0, .slice (some ⟨gC, 0, none⟩) n n, .slice (some ⟨gF, 0, none⟩) n n, .slice (some ⟨gT, 0, none⟩) n n, .int .i64 0, .bool false] 115 (n := wK.heap.size) (by simp)
            have HOF_38 := Lib.hid (ownSl_mono HOF_35.out (belowA _ (.cells #[.pointer (some ⟨tp, 0, none⟩), .int .i64 m, .slice none 0 0, .slice (some ⟨gC, 0, none⟩) n n, .slice (some ⟨gF, 0, none⟩) n n, .slice (some ⟨gT, 0, none⟩) n n, .int .i64 0, .bool false] 115)))
            clear HOF_35
            have HOT_39 := Lib.hid (ownSl_mono HOT_36.out (belowA _ (.cells #[.pointer (some ⟨tp, 0, none⟩), .int .i64 m, .slice none 0 0, .slice (some ⟨gC, 0, none⟩) n n, .slice (some ⟨gF, 0, none⟩) n n, .slice (some ⟨gT, 0, none⟩) n n, .int .i64 0, .bool false] 115)))
            clear HOT_36
            have HBK_40 := Lib.hid (HBK.out.trans (((belowA _ (.cells #[.pointer (some ⟨tp, 0, none⟩), .int .i64 m, .slice none 0 0, .slice (some ⟨gC, 0, none⟩) n n, .slice (some ⟨gF, 0, none⟩) n n, .slice (some ⟨gT, 0, none⟩) n n, .int .i64 0, .bool false] 115))).mono HBK.out.size))
            clear HBK
            have hszR : (wK.alloc (.cells #[.pointer (some ⟨tp, 0, none⟩), .int .i64 m, .slice none 0 0, .slice (some ⟨gC, 0, none⟩) n n, .slice (some ⟨gF, 0, none⟩) n n, .slice (some ⟨gT, 0, none⟩) n n, .int .i64 0, .bool false] 115)).heap.size = wK.heap.size + 1 := by simp
            refine ⟨⟨cellL hs37.bel e0, cellL hs37.bel e1⟩, ?_⟩
            (repeat (first | (apply t4_skip rfl (by rfl); try simp only [Act.put, List.setIfInBounds_toArray, List.set_cons_zero, List.set_cons_succ]) | (apply t4_float rfl (by rfl); (· (intro w' hS; go_simp <;> with_reducible rfl)); (try simp only [Act.put, List.setIfInBounds_toArray, List.set_cons_zero, List.set_cons_succ]))))
            have k0_0 := hs37.cellAt 0 rfl 0 rfl
            have k0_1 := hs37.cellAt 0 rfl 1 rfl
            have k0_2 := hs37.cellAt 0 rfl 2 rfl
            have k0_3 := hs37.cellAt 0 rfl 3 rfl
            have k0_4 := hs37.cellAt 0 rfl 4 rfl
            have k0_5 := hs37.cellAt 0 rfl 5 rfl
            have k0_6 := hs37.cellAt 0 rfl 6 rfl
            have k0_7 := hs37.cellAt 0 rfl 7 rfl
            have e0_ := cellL hs37.bel e0
            have e1_ := cellL hs37.bel e1
            refine t4_nil (NoPanic.normal ?_)
            go_wp2_with fail
            go_meet
            case rel =>
              exact ⟨wK.heap.size, gC, gF, gT, rfl, ⟨(hs37.box (wK.heap.size, #[.pointer (some ⟨tp, 0, none⟩), .int .i64 m, .slice none 0 0, .slice (some ⟨gC, 0, none⟩) n n, .slice (some ⟨gF, 0, none⟩) n n, .slice (some ⟨gT, 0, none⟩) n n, .int .i64 0, .bool false], 115) (by simp)).2.2, HNZ.out.mono (belowA _ _), HOF_38.out, HOT_39.out, by omega, hs37.bel⟩⟩
        · refine t4_hard rfl (by rfl) (fun K hK => ?_)
          refine wp_make_ints _ _ _ 32 rfl E_ints n (by omega) rfl rfl ?_
          intro gT wT hgT1 hgT2 hoT hbT
          have HOT := Lib.hid hoT
          clear hoT
          have hz_wT : wd2.heap.size ≤ wT.heap.size := by have h9 := hbT.size; (try simp at h9); omega
          have hs41 := hs1.step hbT
          refine hK _ _ ⟨⟨cellL hs41.bel e0, cellL hs41.bel e1⟩, ?_⟩
          (repeat (first | (apply t4_skip rfl (by rfl); try simp only [Act.put, List.setIfInBounds_toArray, List.set_cons_zero, List.set_cons_succ]) | (apply t4_float rfl (by rfl); (· (intro w' hS; go_simp <;> with_reducible rfl)); (try simp only [Act.put, List.setIfInBounds_toArray, List.set_cons_zero, List.set_cons_succ]))))
          refine t4_fork2 ?_ ?_
          · refine t4_hard rfl (by rfl) (fun K hK => ?_)
            refine wp_make_nils _ _ _ 112 rfl E_condss n (by omega) rfl rfl ?_
            intro gC wK hgC1 hgC2 hnil hbK
            have HNL := Lib.hid hnil
            have HBK := Lib.hid (Below.refl wK.heap.size wK)
            clear hnil
            have hz_wK : wT.heap.size ≤ wK.heap.size := by have h9 := hbK.size; (try simp at h9); omega
            have hs42 := hs41.step hbK
            have HOT_43 := Lib.hid (ownSl_mono HOT.out hbK)
            clear HOT
            refine hK _ _ ⟨⟨cellL hs42.bel e0, cellL hs42.bel e1⟩, ?_⟩
            (repeat (first | (apply t4_skip rfl (by rfl); try simp only [Act.put, List.setIfInBounds_toArray, List.set_cons_zero, List.set_cons_succ]) | (apply t4_float rfl (by rfl); (· (intro w' hS; go_simp <;> with_reducible rfl)); (try simp only [Act.put, List.setIfInBounds_toArray, List.set_cons_zero, List.set_cons_succ]))))
            refine t4_hard rfl (by rfl) (fun K hK => ?_)
            refine wp_make_ints _ _ _ 32 rfl E_ints n (by omega) rfl rfl ?_
            intro gF wF hgF1 hgF2 hoF hbF
            have HOF := Lib.hid hoF
            clear hoF
            have hz_wF : wK.heap.size ≤ wF.heap.size := by have h9 := hbF.size; (try simp at h9); omega
            have hs44 := hs42.step hbF
            have HOT_45 := Lib.hid (ownSl_mono HOT_43.out hbF)
            clear HOT_43
            have HBK_46 := Lib.hid (HBK.out.trans ((hbF).mono HBK.out.size))
            clear HBK
            refine hK _ _ ⟨⟨cellL hs44.bel e0, cellL hs44.bel e1⟩, ?_⟩
            (repeat (first | (apply t4_skip rfl (by rfl); try simp only [Act.put, List.setIfInBounds_toArray, List.set_cons_zero, List.set_cons_succ]) | (apply t4_float rfl (by rfl); (· (intro w' hS; go_simp <;> with_reducible rfl)); (try simp only [Act.put, List.setIfInBounds_toArray, List.set_cons_zero, List.set_cons_succ]))))
            refine t4_hard rfl (by rfl) (fun K hK => ?_)
            go_wp2_with fail
            have HNZ := Lib.hid (HNL.out.mono HBK_46.out)
            have hs47 := hs44.alloc #[.pointer (some ⟨tp, 0, none⟩), .int .i64 m, .slice none 0 0, .slice (some ⟨gC, 0, none⟩) n n, .slice (some ⟨gF, 0, none⟩) n n, .slice (some ⟨gT, 0, none⟩) n n, .int .i64 0, .bool false] 115 (n := wF.heap.size) (by simp)
            have HOT_48 := Lib.hid (ownSl_mono HOT_45.out (belowA _ (.cells #[.pointer (some ⟨tp, 0, none⟩), .int .i64 m, .slice none 0 0, .slice (some ⟨gC, 0, none⟩) n n, .slice (some ⟨gF, 0, none⟩) n n, .slice (some ⟨gT, 0, none⟩) n n, .int .i64 0, .bool false] 115)))
            clear HOT_45
            have HBK_49 := Lib.hid (HBK_46.out.trans (((belowA _ (.cells #[.pointer (some ⟨tp, 0, none⟩), .int .i64 m, .slice none 0 0, .slice (some ⟨gC, 0, none⟩) n n, .slice (some ⟨gF, 0, none⟩) n n, .slice (some ⟨gT, 0, none⟩) n n, .int .i64 0, .bool false] 115))).mono HBK_46.out.size))
            clear HBK_46
            have HOF_50 := Lib.hid (ownSl_mono HOF.out (belowA _ (.cells #[.pointer (some ⟨tp, 0, none⟩), .int .i64 m, .slice none 0 0, .slice (some ⟨gC, 0, none⟩) n n, .slice (some ⟨gF, 0, none⟩) n n, .slice (some ⟨gT, 0, none⟩) n n, .int .i64 0, .bool false] 115)))
            clear HOF
            have hszR : (wF.alloc (.cells #[.pointer (some ⟨tp, 0, none⟩), .int .i64 m, .slice none 0 0, .slice (some ⟨gC, 0, none⟩) n n, .slice (some ⟨gF, 0, none⟩) n n, .slice (some ⟨gT, 0, none⟩) n n, .int .i64 0, .bool false] 115)).heap.size = wF.heap.size + 1 := by simp
            refine ⟨⟨cellL hs47.bel e0, cellL hs47.bel e1⟩, ?_⟩
            (repeat (first | (apply t4_skip rfl (by rfl); try simp only [Act.put, List.setIfInBounds_toArray, List.set_cons_zero, List.set_cons_succ]) | (apply t4_float rfl (by rfl); (· (intro w' hS; go_simp <;> with_reducible rfl)); (try simp only [Act.put, List.setIfInBounds_toArray, List.set_cons_zero, List.set_cons_succ]))))
            have k0_0 := hs47.cellAt 0 rfl 0 rfl
            have k0_1 := hs47.cellAt 0 rfl 1 rfl
            have k0_2 := hs47.cellAt 0 rfl 2 rfl
            have k0_3 := hs47.cellAt 0 rfl 3 rfl
            have k0_4 := hs47.cellAt 0 rfl 4 rfl
            have k0_5 := hs47.cellAt 0 rfl 5 rfl
            have k0_6 := hs47.cellAt 0 rfl 6 rfl
            have k0_7 := hs47.cellAt 0 rfl 7 rfl
            have e0_ := cellL hs47.bel e0
            have e1_ := cellL hs47.bel e1
            refine t4_nil (NoPanic.normal ?_)
            go_wp2_with fail
            go_meet
            case rel =>
              exact ⟨wF.heap.size, gC, gF, gT, rfl, ⟨(hs47.box (wF.heap.size, #[.pointer (some ⟨tp, 0, none⟩), .int .i64 m, .slice none 0 0, .slice (some ⟨gC, 0, none⟩) n n, .slice (some ⟨gF, 0, none⟩) n n, .slice (some ⟨gT, 0, none⟩) n n, .int .i64 0, .bool false], 115) (by simp)).2.2, HNZ.out.mono (belowA _ _), HOF_50.out, HOT_48.out, by omega, hs47.bel⟩⟩
          · refine t4_hard rfl (by rfl) (fun K hK => ?_)
            refine wp_make_ints _ _ _ 32 rfl E_ints n (by omega) rfl rfl ?_
            intro gF wF hgF1 hgF2 hoF hbF
            have HOF := Lib.hid hoF
            clear hoF
            have hz_wF : wT.heap.size ≤ wF.heap.size := by have h9 := hbF.size; (try simp at h9); omega
            have hs51 := hs41.step hbF
            have HOT_52 := Lib.hid (ownSl_mono HOT.out hbF)
            clear HOT
            refine hK _ _ ⟨⟨cellL hs51.bel e0, cellL hs51.bel e1⟩, ?_⟩
            (repeat (first | (apply t4_skip rfl (by rfl); try simp only [Act.put, List.setIfInBounds_toArray, List.set_cons_zero, List.set_cons_succ]) | (apply t4_float rfl (by rfl); (· (intro w' hS; go_simp <;> with_reducible rfl)); (try simp only [Act.put, List.setIfInBounds_toArray, List.set_cons_zero, List.set_cons_succ]))))
            refine t4_hard rfl (by rfl) (fun K hK => ?_)
            refine wp_make_nils _ _ _ 112 rfl E_condss n (by omega) rfl rfl ?_
            intro gC wK hgC1 hgC2 hnil hbK
            have HNL := Lib.hid hnil
            have HBK := Lib.hid (Below.refl wK.heap.size wK)
            clear hnil
            have hz_wK : wF.heap.size ≤ wK.heap.size := by have h9 := hbK.size; (try simp at h9); omega
            have hs53 := hs51.step hbK
            have HOT_54 := Lib.hid (ownSl_mono HOT_52.out hbK)
            clear HOT_52
            have HOF_55 := Lib.hid (ownSl_mono HOF.out hbK)
            clear HOF
            refine hK _ _ ⟨⟨cellL hs53.bel e0, cellL hs53.bel e1⟩, ?_⟩
            (repeat (first | (apply t4_skip rfl (by rfl); try simp only [Act.put, List.setIfInBounds_toArray, List.set_cons_zero, List.set_cons_succ]) | (apply t4_float rfl (by rfl); (· (intro w' hS; go_simp <;> with_reducible rfl)); (try simp only [Act.put, List.setIfInBounds_toArray, List.set_cons_zero, List.set_cons_succ]))))
            refine t4_hard rfl (by rfl) (fun K hK => ?_)
            go_wp2_with fail
            have HNZ := Lib.hid (HNL.out.mono HBK.out)
            have hs56 := hs53.alloc #[.pointer (some ⟨tp, 0, none⟩), .int .i64 m, .slice none 0 0, .slice (some ⟨gC, 0, none⟩) n n, .slice (some ⟨gF, 0, none⟩) n n, .slice (some ⟨gT, 0, none⟩) n n, .int .i64 0, .bool false] 115 (n := wK.heap.size) (by simp)
            have HOT_57 := Lib.hid (ownSl_mono HOT_54.out (belowA _ (.cells #[.pointer (some ⟨tp, 0, none⟩), .int .i64 m, .slice none 0 0, .slice (some ⟨gC, 0, none⟩) n n, .slice (some ⟨gF, 0, none⟩) n n, .slice (some ⟨gT, 0, none⟩) n n, .int .i64 0, .bool false] 115)))
            clear HOT_54
            have HOF_58 := Lib.hid (ownSl_mono HOF_55.out (belowA _ (.cells #[.pointer (some ⟨tp, 0, none⟩), .int .i64 m, .slice none 0 0, .slice (some ⟨gC, 0, none⟩) n n, .slice (some ⟨gF, 0, none⟩) n n, .slice (some ⟨gT, 0, none⟩) n n, .int .i64 0, .bool false] 115)))
            clear HOF_55
            have HBK_59 := Lib.hid (HBK.out.trans (((belowA _ (.cells #[.pointer (some ⟨tp, 0, none⟩), .int .i64 m, .slice none 0 0, .slice (some ⟨gC, 0, none⟩) n n, .slice (some ⟨gF, 0, none⟩) n n, .slice (some ⟨gT, 0, none⟩) n n, .int .i64 0, .bool false] 115))).mono HBK.out.size))
            clear HBK
            have hszR : (wK.alloc (.cells #[.pointer (some ⟨tp, 0, none⟩), .int .i64 m, .slice none 0 0, .slice (some ⟨gC, 0, none⟩) n n, .slice (some ⟨gF, 0, none⟩) n n, .slice (some ⟨gT, 0, none⟩) n n, .int .i64 0, .bool false] 115)).heap.size = wK.heap.size + 1 := by simp
            refine ⟨⟨cellL hs56.bel e0, cellL hs56.bel e1⟩, ?_⟩
            (repeat (first | (apply t4_skip rfl (by rfl); try simp only [Act.put, List.setIfInBounds_toArray, List.set_cons_zero, List.set_cons_succ]) | (apply t4_float rfl (by rfl); (· (intro w' hS; go_simp <;> with_reducible rfl)); (try simp only [Act.put, List.setIfInBounds_toArray, List.set_cons_zero, List.set_cons_succ]))))
            have k0_0 := hs56.cellAt 0 rfl 0 rfl
            have k0_1 := hs56.cellAt 0 rfl 1 rfl
            have k0_2 := hs56.cellAt 0 rfl 2 rfl
            have k0_3 := hs56.cellAt 0 rfl 3 rfl
            have k0_4 := hs56.cellAt 0 rfl 4 rfl
            have k0_5 := hs56.cellAt 0 rfl 5 rfl
            have k0_6 := hs56.cellAt 0 rfl 6 rfl
            have k0_7 := hs56.cellAt 0 rfl 7 rfl
            have e0_ := cellL hs56.bel e0
            have e1_ := cellL hs56.bel e1
            refine t4_nil (NoPanic.normal ?_)
            go_wp2_with fail
            go_meet
            case rel =>
              exact ⟨wK.heap.size, gC, gF, gT, rfl, ⟨(hs56.box (wK.heap.size, #[.pointer (some ⟨tp, 0, none⟩), .int .i64 m, .slice none 0 0, .slice (some ⟨gC, 0, none⟩) n n, .slice (some ⟨gF, 0, none⟩) n n, .slice (some ⟨gT, 0, none⟩) n n, .int .i64 0, .bool false], 115) (by simp)).2.2, HNZ.out.mono (belowA _ _), HOF_58.out, HOT_57.out, by omega, hs56.bel⟩⟩
      case rest =>
        obtain ⟨rb, cb, fb, tb, rfl, hbg⟩ := hcut
        have HBG := hbg
        have hd1 := hbg.out.dis.1
        have hd2 := hbg.out.dis.2.1
        have hd3 := hbg.out.dis.2.2
        have hn1 : 1 ≤ n := by have h9 := pow_ge1 hsz.1 m; rw [HNN.out] at h9; omega
        clear hbg
        go_wp2_with fail
        go_loopw [10] (fun i wl => ∃ q : Nat, q ≤ n ∧ i = .int .i64 q ∧ Hid (OnlyAt [fb, tb] wc wl) ∧ Hid (OwnSl [fb] wl (.slice (some ⟨fb, 0, none⟩) n n) (List.replicate q (-1) ++ List.replicate (n - q) 0)) ∧ Hid (OwnSl [tb] wl (.slice (some ⟨tb, 0, none⟩) n n) (List.replicate q (-1) ++ List.replicate (n - q) 0))) (fun i _ => n - (intOf i).toNat)
        case atStart => exact ⟨0, Nat.zero_le _, rfl, OnlyAt.refl _ _, by simpa [Hid] using HBG.out.fx, by simpa [Hid] using HBG.out.tx⟩
        case round =>
          obtain ⟨q, hq, rfl, hon, hof, hot⟩ := hrel
          have c4 : wr.cell? ⟨rb, 4, none⟩ = some (.slice (some ⟨fb, 0, none⟩) n n) := by rw [cell_at_block (by rw [hon.out.block rb (by simp; omega)]; exact HBG.out.run)]; rfl
          have c5 : wr.cell? ⟨rb, 5, none⟩ = some (.slice (some ⟨tb, 0, none⟩) n n) := by rw [cell_at_block (by rw [hon.out.block rb (by simp; omega)]; exact HBG.out.run)]; rfl
          by_cases hlq : q < n
          · have hlqI : (q : Int) < n := by omega
            obtain ⟨x0, x1, x2⟩ := own_at0 hof.out (by simp; omega) hlq
            have HX := Lib.hid (x2 (-1) ⟨by omega, by omega⟩)
            rw [fill_set hlq] at HX
            have HONA := Lib.hid (hon.out.setCell (p := ⟨fb, q, none⟩) (by simp) (.int .i64 (-1)))
            have HTA := Lib.hid (ownSl_but hot.out ((OnlyAt.refl [fb] wr).setCell (p := ⟨fb, q, none⟩) (by simp) (.int .i64 (-1))).but (fun k hk => by simp at hk ⊢; omega))
            have c5' := cell_put (b' := fb) (o' := q) (u := .int .i64 (-1)) c5 (by omega)
            clear x2 hon hof hot
            go_upto_region 14 with fail
            generalize wr.setCell ⟨fb, q, none⟩ (.int .i64 (-1)) = w3 at *
            clear x0 x1 c4 c5
            obtain ⟨x0, x1, x2⟩ := own_at0 HTA.out (by simp; omega) hlq
            have HY := Lib.hid (x2 (-1) ⟨by omega, by omega⟩)
            rw [fill_set hlq] at HY
            have HONB := Lib.hid (HONA.out.setCell (p := ⟨tb, q, none⟩) (by simp) (.int .i64 (-1)))
            have HXB := Lib.hid (ownSl_but HX.out ((OnlyAt.refl [tb] w3).setCell (p := ⟨tb, q, none⟩) (by simp) (.int .i64 (-1))).but (fun k hk => by simp at hk ⊢; omega))
            clear x2 HONA HTA HX
            go_wp2_with fail
            go_roundw
            case rel => exact ⟨q + 1, hlq, by go_num, HONB.out, HXB.out, HY.out⟩
            case measure => simp [intOf]; omega
          · obtain rfl : q = n := by omega
            have hnq : ¬ ((q : Int) < q) := by omega
            rw [Nat.sub_self, List.replicate_zero, List.append_nil] at hof hot
            obtain ⟨wz, rfl⟩ : ∃ x, x = wr := ⟨_, rfl⟩
            have hzc : wz.heap.size = wc.heap.size := hon.out.size
            have hzc1 : wz.heap.size ≤ wc.heap.size := by omega
            have hzc2 : wc.heap.size ≤ wz.heap.size := by omega
            have hR0 := HBG.out.run
            rw [← hon.out.block rb (by simp; omega)] at hR0
            have HR0 := Lib.hid hR0
            have HNB := Lib.hid (HBG.out.nils.only hon.out (by simp; omega))
            have HBW := Lib.hid (HBG.out.bel.trans (hon.out.below (fun k hk => by simp at hk; omega)))
            have HOF := hof
            have HOT := hot
            clear hR0 hzc hon hof hot c4 c5 HBG
            go_wp2_with fail
            go_loopw [11] (fun i wl => ∃ (j : Nat) (sv : Value), j ≤ rs.length ∧ i = .int .i64 j ∧ Hid (wz.heap.size ≤ wl.heap.size) ∧ Hid (Below w.heap.size w wl) ∧ Hid (wl.heap[rb]? = some (.cells #[.pointer (some ⟨tp, 0, none⟩), .int .i64 m, sv, .slice (some ⟨cb, 0, none⟩) q q, .slice (some ⟨fb, 0, none⟩) q q, .slice (some ⟨tb, 0, none⟩) q q, .int .i64 0, .bool false] 115 (0, 0))) ∧ Hid (RunM wz.heap.size wl.heap.size wl cb q 116 167 sv (setsP (size, rs) j) (dueL (looksTo (size, rs) m j))) ∧ Hid (ButP (fun z => z = rb ∨ z = cb ∨ wz.heap.size ≤ z) wz wl)) (fun i _ => rs.length - (intOf i).toNat)
            case atStart => exact ⟨0, _, Nat.zero_le _, rfl, Nat.le_refl _, HBW.out, HR0.out, HNB.out.run (by omega), ButP.refl _ _⟩
            case round =>
              clear HR0 HNB HBW
              obtain ⟨j, sv, hj, rfl, hsz9, hbw, hrb, hrm, hbp⟩ := hrel
              obtain ⟨wo, rfl⟩ : ∃ x, x = wr := ⟨_, rfl⟩
              have hszo := hsz9.out
              have hww := hbw.out.size
              have HBW := hbw
              have HRB := hrb
              have HRM := hrm
              have HBP := hbp
              have y0 := cellL hbw.out e0
              have y1 := cellL hbw.out e1
              have y2 : wo.cell? ⟨rb, 2, none⟩ = some sv := by rw [cell_at_block hrb.out]; rfl
              clear hbw hrb hrm hbp hsz9
              by_cases hlj : j < rs.length
              · have hljI : (j : Int) < rs.length := by omega
                obtain ⟨b1, o1, aS, cS, rfl, q0w, q1w, hTS⟩ := tmpl_at HT.out hlj
                have hb1 := World.block_lt_of_cell? w _ q0w
                simp only at hb1
                have y3 := cellL HBW.out q0w
                have y4 := cellL HBW.out q1w
                have HTS := Lib.hid (Rd.mono hTS HBW.out)
                have hrm2 : rs.getD j (0, []) ∈ rs := by simp [List.getD, hlj]
                have hrok := (tmplOk_get HOK.out).2.2 _ hrm2
                simp only at hrok
                have har := (relOk_get hrok).2.1
                have HROK := Lib.hid hrok
                obtain ⟨PN, hPN⟩ : ∃ PN : Nat, size ^ (rs.getD j (0, [])).1.toNat = (PN : Int) := ⟨(size ^ (rs.getD j (0, [])).1.toNat).toNat, by have := pow256 hsz har; omega⟩
                have HPN := Lib.hid hPN
                have HSP := Lib.hid (show setsP (size, rs) (j + 1) = setsP (size, rs) j ++ [⟨size, (rs.getD j (0, [])).1, setTo size PN (rs.getD j (0, [])).2 (rs.getD j (0, [])).2.length⟩] by
                  rw [setsP_snoc (size, rs) hlj]
                  unfold setP
                  simp only [hPN, Int.toNat_natCast])
                have HRR := Lib.hid (show Rd wo [.int .i64 (rs.getD j (0, [])).1, .slice aS (rs.getD j (0, [])).2.length cS] (rs.getD j (0, [])) from ⟨[_], [_], rfl, ⟨rfl, i64_of _ (by omega) (by omega)⟩, HTS.out⟩)
                have HSL := Lib.hid (setsP_len (size, rs) (show j ≤ ((size, rs) : Tmpl).2.length from hj))
                obtain ⟨aV, cV, rfl⟩ := HRM.out.lenS
                rw [HSL.out] at HRM HRB y2
                obtain ⟨A, hAS, hAl, hfin⟩ := HRM.out.pushS hszo
                have HAS := Lib.hid hAS
                have HAL := Lib.hid hAl
                have HFIN := Lib.hid hfin
                clear hTS q0w q1w hrm2 hrok hPN hAS hAl hfin
                generalize rs.getD j (0, []) = RJ at *
                obtain ⟨aj, tj⟩ := RJ
                simp only at har y3 y4
                have hsN := St.start wo
                have HBN := Lib.hid (Below.refl wo.heap.size wo)
                go_upto_region 18 with fail
                refine wp_region_noPanic (wp_region_tree4 (fun w' => w'.cell? ⟨tp, 0, none⟩ = some (.int .i64 size) ∧ w'.cell? ⟨tp, 1, none⟩ = some (.slice (some ⟨b1, o1, none⟩) rs.length cT) ∧ w'.cell? ⟨rb, 2, none⟩ = some (.slice aV j cV) ∧ w'.cell? ⟨b1, o1 + j * 2, none⟩ = some (.int .i64 aj) ∧ w'.cell? ⟨b1, o1 + j * 2 + 1, none⟩ = some (.slice aS tj.length cS)) (.float 0 (.float 1 (.float 2 (.float 3 (.float 4 (.float 5 (.float 6 (.float 7 (.float 8 (.float 9 (.float 10 (.float 11 (.float 12 (.float 13 (.float 14 (.hard 15 (.hard 16 (.hard 17 (.float 18 (.float 19 (.last 20 .nil))))))))))))))))))))) (by kernel_rfl) (by kernel_rfl) (by kernel_rfl) rfl ?_ (fun _ _ _ _ _ h => h) ?_)
                · exact ⟨cellL (belowD _) y0, cellL (belowD _) y1, cellL (belowD _) y2, cellL (belowD _) y3, cellL (belowD _) y4⟩
                have hs60 := (St.start wo).drew
                have y0_61 := cellL (belowD _) y0
                clear y0
                have y1_62 := cellL (belowD _) y1
                clear y1
                have y2_63 := cellL (belowD _) y2
                clear y2
                have y3_64 := cellL (belowD _) y3
                clear y3
                have y4_65 := cellL (belowD _) y4
                clear y4
                have HBN_66 := Lib.hid (HBN.out.trans (((belowD _)).mono HBN.out.size))
                clear HBN
                have hz_wd67 : wo.heap.size ≤ (wo.drew).heap.size := by simp
                generalize hgen_wd67 : wo.drew = wd67 at *
                have HG_wd67 := Lib.hid hgen_wd67
                clear hgen_wd67
                (repeat (first | (apply t4_skip rfl (by rfl); try simp only [Act.put, List.setIfInBounds_toArray, List.set_cons_zero, List.set_cons_succ]) | (apply t4_float rfl (by rfl); (· (intro w' hS; go_simp <;> with_reducible rfl)); (try simp only [Act.put, List.setIfInBounds_toArray, List.set_cons_zero, List.set_cons_succ]))))
                refine t4_hard rfl (by rfl) (fun K hK => ?_)
                have HRR2 := Lib.hid (Rd.mono HRR.out HBN_66.out)
                go_wp2_with (go_at_call 76; refine (l01SetOf_c size (aj, tj) b1 (o1 + j * 2) _ _ PN _ HRR2.out y3_64 y4_65 HROK.out HPN.out).mono ?_; rintro e w5 ⟨rfl, hp1, hp2, hp3, hp4⟩)
                have HP1 := Lib.hid hp1
                have HP2 := Lib.hid hp2
                clear hp1 hp2
                have hsB := HBN_66.out.size
                have hz_w5 : wd67.heap.size ≤ w5.heap.size := by have h9 := hp4.size; (try simp at h9); omega
                have hs68 := hs60.step hp4
                have y0_69 := cellL hp4 y0_61
                clear y0_61
                have y1_70 := cellL hp4 y1_62
                clear y1_62
                have y2_71 := cellL hp4 y2_63
                clear y2_63
                have y3_72 := cellL hp4 y3_64
                clear y3_64
                have y4_73 := cellL hp4 y4_65
                clear y4_65
                have HBN_74 := Lib.hid (HBN_66.out.trans ((hp4).mono HBN_66.out.size))
                clear HBN_66
                refine ⟨⟨y0_69, y1_70, y2_71, y3_72, y4_73⟩, ?_⟩
                (repeat (first | (apply t4_skip rfl (by rfl); try simp only [Act.put, List.setIfInBounds_toArray, List.set_cons_zero, List.set_cons_succ]) | (apply t4_float rfl (by rfl); (· (intro w' hS; go_simp <;> with_reducible rfl)); (try simp only [Act.put, List.setIfInBounds_toArray, List.set_cons_zero, List.set_cons_succ]))))
                refine t4_hard rfl (by rfl) (fun K hK => ?_)
                go_wp2_with fail
                have hs75 := hs68.alloc #[.pointer (some ⟨wd67.heap.size + 1, 0, none⟩)] 116 (n := w5.heap.size) (by simp)
                have y0_76 := cellL (belowA _ (.cells #[.pointer (some ⟨wd67.heap.size + 1, 0, none⟩)] 116)) y0_69
                clear y0_69
                have y1_77 := cellL (belowA _ (.cells #[.pointer (some ⟨wd67.heap.size + 1, 0, none⟩)] 116)) y1_70
                clear y1_70
                have y2_78 := cellL (belowA _ (.cells #[.pointer (some ⟨wd67.heap.size + 1, 0, none⟩)] 116)) y2_71
                clear y2_71
                have y3_79 := cellL (belowA _ (.cells #[.pointer (some ⟨wd67.heap.size + 1, 0, none⟩)] 116)) y3_72
                clear y3_72
                have y4_80 := cellL (belowA _ (.cells #[.pointer (some ⟨wd67.heap.size + 1, 0, none⟩)] 116)) y4_73
                clear y4_73
                have HBN_81 := Lib.hid (HBN_74.out.trans (((belowA _ (.cells #[.pointer (some ⟨wd67.heap.size + 1, 0, none⟩)] 116))).mono HBN_74.out.size))
                clear HBN_74
                refine ⟨⟨y0_76, y1_77, y2_78, y3_79, y4_80⟩, ?_⟩
                (repeat (first | (apply t4_skip rfl (by rfl); try simp only [Act.put, List.setIfInBounds_toArray, List.set_cons_zero, List.set_cons_succ]) | (apply t4_float rfl (by rfl); (· (intro w' hS; go_simp <;> with_reducible rfl)); (try simp only [Act.put, List.setIfInBounds_toArray, List.set_cons_zero, List.set_cons_succ]))))
                refine t4_hard rfl (by rfl) (fun K hK => ?_)
                have hsC := HBN_81.out.size
                have hsl := HSL.out
                have HB1 := Lib.hid (belowA w5 (.cells #[.pointer (some ⟨wd67.heap.size + 1, 0, none⟩)] 116))
                have HIP := Lib.hid (pset_ip (A := fun z => wd67.heap.size ≤ z ∧ z ≤ wd67.heap.size + 1) HP1.out HP2.out (by omega) (by omega) (by omega))
                have hw51 : (w5.alloc (.cells #[.pointer (some ⟨wd67.heap.size + 1, 0, none⟩)] 116)).heap.size = w5.heap.size + 1 := by simp
                refine wp_append_accP _ _ _ _ rfl E_sets rfl (AccP.mono HAS.out HBN_81.out) (Ip.mono HIP.out HB1.out) (fun z h1 h2 => by have h3 := HAL.out z h1; (try simp only at h2); omega) ⟨w5.heap.size, 0, none⟩ 1 rfl (news1 (hs75.cellAt 0 rfl 0 rfl)) (by rw [hsl]; omega) ?_
                rw [hsl]
                intro a8 c8 w8 hA8 hB8
                have hz8 := hB8.size
                have hbi := hB8.wk (C := fun z => wz.heap.size ≤ z ∧ z < wo.heap.size) (fun z hz => HAL.out z hz)
                have HF8 := Lib.hid (HFIN.out _ w8 _ (.slice a8 (j + 1) c8) _ HBN_81.out (Nat.le_refl _) (fun z hz => by (try simp only at hz); omega) hA8 hB8)
                have HBX := Lib.hid (show ButP (fun z => z = rb ∨ z = cb ∨ wz.heap.size ≤ z) wz w8 from (HBP.out.trans ((ButP.of HBN_81.out) : ButP (fun z => z = rb ∨ z = cb ∨ wz.heap.size ≤ z) _ _) (fun z hz => .inl hz)).trans (hbi.wk (C := fun z => z = rb ∨ z = cb ∨ wz.heap.size ≤ z) (fun z hz => .inr (.inr hz.1))) (fun z hz => .inl hz))
                have HBW8 := Lib.hid ((HBW.out.trans (HBN_81.out.mono (by omega))).trans (hbi.below (fun z hz => by have := hz.1; omega) (by omega)))
                have HRB8 := Lib.hid (show w8.heap[rb]? = some (.cells #[.pointer (some ⟨tp, 0, none⟩), .int .i64 m, .slice aV j cV, .slice (some ⟨cb, 0, none⟩) q q, .slice (some ⟨fb, 0, none⟩) q q, .slice (some ⟨tb, 0, none⟩) q q, .int .i64 0, .bool false] 115 (0, 0)) from by
                  rw [hB8.block rb (by omega) (fun hA9 => by have := HAL.out _ hA9; omega), HBN_81.out.block rb (by omega)]
                  exact HRB.out)
                have hs8 := St.start w8
                clear hA8
                clear HBN_81
                have y0_82 := cellB hbi y0_76 (by intro hA9; (try simp only at hA9); omega)
                clear y0_76
                have y1_83 := cellB hbi y1_77 (by intro hA9; (try simp only at hA9); omega)
                clear y1_77
                have y2_84 := cellB hbi y2_78 (by intro hA9; (try simp only at hA9); omega)
                clear y2_78
                have y3_85 := cellB hbi y3_79 (by intro hA9; (try simp only at hA9); omega)
                clear y3_79
                have y4_86 := cellB hbi y4_80 (by intro hA9; (try simp only at hA9); omega)
                clear y4_80
                refine hK _ _ ⟨⟨y0_82, y1_83, y2_84, y3_85, y4_86⟩, ?_⟩
                (repeat (first | (apply t4_skip rfl (by rfl); try simp only [Act.put, List.setIfInBounds_toArray, List.set_cons_zero, List.set_cons_succ]) | (apply t4_float rfl (by rfl); (· (intro w' hS; go_simp <;> with_reducible rfl)); (try simp only [Act.put, List.setIfInBounds_toArray, List.set_cons_zero, List.set_cons_succ]))))
                refine t4_last rfl (by rfl) (fun K hK => ?_)
                have hfr : w8.frozen? ⟨rb, 2, none⟩ = false := free_at_block HRB8.out
                go_wp2_with fail
                refine t4_nil (NoPanic.normal ?_)
                have HRB9 := Lib.hid (show (w8.setCell ⟨rb, 2, none⟩ (.slice a8 (j + 1) c8)).heap[rb]? = some (.cells #[.pointer (some ⟨tp, 0, none⟩), .int .i64 m, .slice a8 (j + 1) c8, .slice (some ⟨cb, 0, none⟩) q q, .slice (some ⟨fb, 0, none⟩) q q, .slice (some ⟨tb, 0, none⟩) q q, .int .i64 0, .bool false] 115 (0, 0)) by rw [heap_setCell_at w8 rb 2 _ _ _ _ HRB8.out]; rfl)
                have HRM9 := Lib.hid (HF8.out.setCell (b := rb) (o := 2) (.slice a8 (j + 1) c8) (by omega) (.inl (by omega)))
                have HBP9 := Lib.hid (butp_set (b := rb) (o := 2) HBX.out (.slice a8 (j + 1) c8) (.inl rfl))
                have HBW9 := Lib.hid (HBW8.out.setCell (p := ⟨rb, 2, none⟩) (by (try simp only); omega) (.slice a8 (j + 1) c8))
                have hsz8 : w8.heap.size ≤ (w8.setCell ⟨rb, 2, none⟩ (.slice a8 (j + 1) c8)).heap.size := by simp [World.setCell]
                have hzA : wz.heap.size ≤ w8.heap.size := by omega
                have HPWJ := Lib.hid (show ((((size, rs) : Tmpl).2.getD j (0, [])).2.length ^ m) = manyTo (size, rs) m (j + 1) - manyTo (size, rs) m j by rw [manyTo]; omega)
                have HMU := Lib.hid (many_up (size, rs) m (j + 1) rs.length (by omega))
                have HMU2 := Lib.hid (many_up (size, rs) m j (j + 1) (by omega))
                clear HBX HBW8 HF8 HRB8 hfr hz8 hB8
                clear HP1 HP2 HIP HB1
                clear y0_82
                clear y1_83
                clear y2_84
                clear y3_85
                clear y4_86
                generalize w8.setCell ⟨rb, 2, none⟩ (.slice a8 (j + 1) c8) = w9 at *
                go_wp2_with fail
                refine (add_c (size, rs) m j wz.heap.size w8.heap.size q rb cb tp 0 _ 116 _ _ w9 HOK.out hm hlj HPWJ.out (by have h1 := HMU.out; have h2 := HMU2.out; omega) HNN.out hn4 HRM9.out hsz8 hzA _ _ (fun w' h => Rd.mono HT.out (HBW9.out.trans (h.below (fun z hz => by rcases hz with h | h <;> omega) (by omega)))) (by omega) (by omega) (by rw [cell_at_block HRB9.out]; rfl) (by rw [cell_at_block HRB9.out]; rfl) (by rw [cell_at_block HRB9.out]; rfl) (cellL HBW9.out e0) (cellL HBW9.out e1)).mono ?_
                rintro e wA ⟨rfl, hrmA, hbpA⟩
                have hsA := hbpA.size
                have HRBA := Lib.hid (show wA.heap[rb]? = some (.cells #[.pointer (some ⟨tp, 0, none⟩), .int .i64 m, .slice a8 (j + 1) c8, .slice (some ⟨cb, 0, none⟩) q q, .slice (some ⟨fb, 0, none⟩) q q, .slice (some ⟨tb, 0, none⟩) q q, .int .i64 0, .bool false] 115 (0, 0)) by rw [hbpA.block rb (by omega) (by simp only [not_or]; omega)]; exact HRB9.out)
                have HRMA := Lib.hid (show RunM wz.heap.size wA.heap.size wA cb q 116 167 (.slice a8 (j + 1) c8) (setsP (size, rs) (j + 1)) (dueL (looksTo (size, rs) m (j + 1))) by rw [HSP.out]; exact hrmA)
                have HBPA := Lib.hid (HBP9.out.trans hbpA (fun z hz => .inl (by rcases hz with h | h; exact .inr (.inl h); exact .inr (.inr h))))
                have HBWA := Lib.hid (HBW9.out.trans (hbpA.below (fun z hz => by rcases hz with h | h <;> omega) (by omega)))
                have hzF : wz.heap.size ≤ wA.heap.size := by omega
                clear hrmA hbpA
                go_wp2_with fail
                go_roundw
                case rel => exact ⟨j + 1, _, by omega, by go_num, hzF, HBWA.out, HRBA.out, HRMA.out, HBPA.out⟩
                case measure => simp [intOf]; omega
              · obtain rfl : j = rs.length := by omega
                have hnj : ¬ ((rs.length : Int) < rs.length) := by omega
                have HOFW := Lib.hid (show OwnSl [fb] wo (.slice (some ⟨fb, 0, none⟩) q q) (List.replicate q (-1)) from own_list (Own.butP (vs := [_]) ⟨_, rfl, HOF.out⟩ HBP.out (fun k hk => by simp at hk; subst hk; simp only [not_or]; omega)))
                have HOTW := Lib.hid (show OwnSl [tb] wo (.slice (some ⟨tb, 0, none⟩) q q) (tabQ q [] 0) by rw [tabQ_init hn1]; exact own_list (Own.butP (vs := [_]) ⟨_, rfl, HOT.out⟩ HBP.out (fun k hk => by simp at hk; subst hk; simp only [not_or]; omega)))
                have HRES := Lib.hid (show RunQ wz.heap.size wo.heap.size wo (size, rs) m rb cb fb tb tp q 116 167 115 (tabQ q [] 0) 0 false from ⟨⟨_, HRB.out, HRM.out⟩, HOFW.out, HOTW.out, tabQ_len (by simp; omega), y0, ⟨hd1, by omega, by omega, by omega, by omega⟩⟩)
                go_wp2_with fail
                exact bodyPost_ret (v := .tuple #[.pointer (some ⟨rb, 0, none⟩), .int .i64 0]) (by simp [results, Tryz.results30, go_sem]) rfl ⟨rb, rfl, HBW.out, cb, fb, tb, ⟨by omega, by omega⟩, wz.heap.size, HRES.out⟩

end Go.Proofs.YtllenfkbfeanmaaGreat

