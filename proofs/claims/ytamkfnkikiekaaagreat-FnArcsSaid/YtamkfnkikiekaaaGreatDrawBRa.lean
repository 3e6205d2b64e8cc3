/-
  CONTRACTS of drawing (the reference's side): what is bent: relations, templates, instances.
-/
import Derived.Test.YtamkfnkikiekaaaGreatDrawTRa
namespace Go.Proofs.YtamkfnkikiekaaaGreat
open Go.RowKit Go.Shelf Go.IntWalk
open Rep (Rd Own sz)
set_option linter.unusedSimpArgs false
set_option linter.unusedVariables false

theorem eqb_no {a b : Int} (h : a ≠ b) : (a == b) = false := by simpa using h
theorem butp_setB {A : Nat → Prop} {w w' : World} {b o : Nat} (h : ButP A w w') (u : Value) (hA : A b) : ButP A w (w'.setCell ⟨b, o, none⟩ u) :=
  ⟨h.os, h.tape, h.output, by simpa [World.setCell] using h.size, fun k hk hn => by rw [Below.heap_setCell _ _ _ _ (fun e => by (try simp only at e); subst e; exact hn hA)]; exact h.block k hk hn⟩
theorem own_i1v {ps : List Nat} {w : World} {vs : List Value} {n : Int} (h : Own ps w vs n) : ps = [] ∧ vs = [.int .i64 n] ∧ I64 n := ⟨h.1, h.2.1, h.2.2⟩
/-- Number 0 of element 0 is written anew. -/
theorem ip_set00 {A : Nat → Prop} {w : World} {g o n c : Nat} {l : List (List Int)} (h : Ip A w [.slice (some ⟨g, o, none⟩) n c] l) (hj : 0 < l.length) (h2 : 0 < (l[0]).length) :
    ∃ g1 o1 c1 cur1 e1, w.cell? ⟨g, o, none⟩ = some (.slice (some ⟨g1, o1, none⟩) (l[0]).length c1) ∧ A g1 ∧ w.heap[g1]? = some (.cells cur1 e1 (0, 0)) ∧ o1 < cur1.size ∧
      ∀ (w1 : World) (x : Int), Below w.heap.size w w1 → I64 x → Ip A (w1.setCell ⟨g1, o1, none⟩ (.int .i64 x)) [.slice (some ⟨g, o, none⟩) n c] (l.set 0 ((l[0]).set 0 x)) := by
  obtain ⟨ps, hown, hn, hA⟩ := h
  have hlt := fun k hk => Rep.own_lt hown k hk
  obtain ⟨v', e', ho⟩ := hown
  obtain rfl : Value.slice (some ⟨g, o, none⟩) n c = v' := by simpa using e'
  obtain ⟨g', o', c', cur, e, p, vs, hv, hcur, hO, hc, hgp, hgnp, hpn, hpp, hput⟩ := own_elem ho hn 0 hj
  simp only [Value.slice.injEq, Option.some.injEq, Addr.mk.injEq, and_true] at hv
  obtain ⟨⟨rfl, rfl⟩, rfl, rfl⟩ := hv
  obtain ⟨v1, rfl, ho1⟩ := hO
  obtain ⟨g1, o1, c1, cur1, e1, p1, vs1, rfl, hcur1, hO1, hc1, hg1p, hg1np, _, _, hput1⟩ := own_elem ho1 hpn 0 h2
  obtain ⟨rfl, rfl, hI⟩ := own_i1v hO1
  have hc0 := hc 0 (by simp)
  have hc10 := hc1 0 (by simp)
  simp only [Nat.zero_mul, Nat.add_zero] at hc0 hc10
  have ho1 : o1 < cur1.size := by
    rw [show ([Value.int .i64 _] : List Value)[0]? = some _ from rfl] at hc10
    exact (Array.getElem?_eq_some_iff.1 hc10).1
  refine ⟨g1, o1, c1, cur1, e1, by rw [cell_at_block hcur, hc0]; rfl, hA g1 (hpp g1 hg1p), hcur1, ho1, fun w1 x hb hx => ?_⟩
  have hne : g1 ≠ g := fun h => hgnp (h ▸ hg1p)
  have hkeep : ∀ k, k ∈ ps → k ≠ g1 → (w1.setCell ⟨g1, o1, none⟩ (.int .i64 x)).heap[k]? = w.heap[k]? := fun k hk hkg => (Below.heap_setCell _ _ _ _ (fun h => hkg (by simp only at h; exact h))).trans (hb.block k (hlt k hk))
  refine ⟨ps, ⟨_, rfl, ?_⟩, hn, hA⟩
  refine hput _ [.slice (some ⟨g1, o1, none⟩) (l[0]).length c1] ((l[0]).set 0 x) ?_ ⟨_, rfl, ?_⟩ (fun k hk hkp hkg => hkeep k hk (fun h => hkp (h ▸ hg1p)))
  · rw [hkeep g hgp hne.symm, hcur]
    congr 2
    refine Array.ext_getElem? (fun i => ?_)
    by_cases hi : i = o
    · subst hi
      simp only [Nat.zero_mul, Nat.add_zero]
      rw [hc0]
      have := putArr_in [.slice (some ⟨g1, o1, none⟩) (l[0]).length c1] i 0 cur (by simp) (by
        have h3 := hc0
        rw [show ([Value.slice (some ⟨g1, o1, none⟩) (l[0]).length c1] : List Value)[0]? = some _ from rfl] at h3
        exact (Array.getElem?_eq_some_iff.1 h3).1)
      simpa using this.symm
    · rw [putArr_out _ _ _ _ (by simp; omega)]
  · refine hput1 _ [.int .i64 x] x ?_ ⟨rfl, rfl, hx⟩ (fun k hk _ hkg => hkeep k (hpp k hk) hkg)
    have h3 : w1.heap[g1]? = some (.cells cur1 e1 (0, 0)) := (hb.block g1 (hlt g1 (hpp g1 hg1p))).trans hcur1
    simpa [putCells, putArr] using putCells_heap g1 e1 (0, 0) [.int .i64 x] o1 w1 cur1 h3
set_option maxRecDepth 100000 in
set_option maxHeartbeats 16000000 in
theorem l01Bent_c (L B b k : Nat) (w : World) (h : Src L B w b k) (hB : B ≤ w.heap.size) (hk : k ≤ 600000000) :
    Calls Tryz.prog 91 #[.pointer (some ⟨b, 0, none⟩)] w fun e w' => ∃ (s a : Int) (v : Value), e = .returned (.tuple #[.int .i64 s, .agg #[.int .i64 a, v]]) ∧ I64 s ∧ ∃ l : List (List Int), Fresh w.heap.size w' [.int .i64 a, v] ((a, l) : RelT) ∧ l.length ≤ 300 ∧ Src L B w' b (k + 1100) ∧ But [b] w w' := by
  have hbw := h.lt
  have HSR := Lib.hid h
  have HBT := Lib.hid (But.refl [b] w)
  clear h
  have hs1 := (St.start w).alloc #[.int .i64 0, .slice none 0 0] 57 (n := w.heap.size) (by simp)
  have HSR_2 := Lib.hid (Src.mono HSR.out (belowA _ (.cells #[.int .i64 0, .slice none 0 0] 57)))
  clear HSR
  have k0_0 := hs1.cellAt 0 rfl 0 rfl
  have k0_1 := hs1.cellAt 0 rfl 1 rfl
  go_enter Tryz.func91, Tryz.ntmps91
  go_wp2_with fail
  refine (l01SizeDrawn_c L B b k _ HSR_2.out (by (try simp); omega) (by omega)).mono ?_
  rintro e w3 ⟨SZ, rfl, hs4, hrw3, hbw3⟩
  obtain ⟨wz4, hs5, hz_wz4, hy_wz4, hc_wz4⟩ := hs1.cut hbw3 (by intro k hk; simp only [List.mem_singleton] at hk; omega)
  have hz_w3 : w.heap.size + 1 ≤ w3.heap.size := by have h9 := hbw3.size; (try simp at h9); omega
  have HSR_6 := Lib.hid hrw3
  clear HSR_2
  have HBT_7 := Lib.hid (HBT.out.trans hc_wz4)
  clear HBT
  clear hrw3 hc_wz4
  clear k0_0 k0_1
  have k0_0 := hs5.cellAt 0 rfl 0 rfl
  have k0_1 := hs5.cellAt 0 rfl 1 rfl
  go_wp2_with fail
  refine (l01Any_c SZ L B b (k + 1) _ HSR_6.out (by (try simp); omega) (by omega) hs4).mono ?_
  rintro e w8 ⟨M, v9, rfl, l9, fr9, ok9, hrw8, hbw8⟩
  obtain ⟨wz9, hs10, hz_wz9, hy_wz9, hc_wz9⟩ := hs5.cut hbw8 (by intro k hk; simp only [List.mem_singleton] at hk; omega)
  have hz_w8 : w3.heap.size ≤ w8.heap.size := by have h9 := hbw8.size; (try simp at h9); omega
  have HSR_11 := Lib.hid hrw8
  clear HSR_6
  have HBT_12 := Lib.hid (HBT_7.out.trans hc_wz9)
  clear HBT_7
  clear hrw8 hc_wz9
  clear k0_0 k0_1
  have k0_0 := hs10.cellAt 0 rfl 0 rfl
  have k0_1 := hs10.cellAt 0 rfl 1 rfl
  obtain ⟨a9, c9, rfl, _⟩ := fr9.len
  have hcn := (relOk_count ok9).2
  simp only at hcn
  have HOK := Lib.hid ok9
  clear ok9
  have HAC := Lib.hid ((fr9.tight).wk (C := fun z => w.heap.size + 1 ≤ z ∧ z < w8.heap.size) (fun z hz => ⟨by have := hz.1; omega, hz.2⟩))
  have hM4 : 1 ≤ M ∧ M ≤ 4 := by have := (relOk_get HOK.out).2.1; simp only at this; omega
  clear fr9
  have hs13 := hs10.alloc #[.int .i64 M, .slice a9 l9.length c9] 57 (n := w8.heap.size) (by simp)
  have HSR_14 := Lib.hid (Src.mono HSR_11.out (belowA _ (.cells #[.int .i64 M, .slice a9 l9.length c9] 57)))
  clear HSR_11
  have HAC_15 := Lib.hid (AccP.mono HAC.out (belowA _ (.cells #[.int .i64 M, .slice a9 l9.length c9] 57)))
  clear HAC
  clear k0_0 k0_1
  have k0_0 := hs13.cellAt 0 rfl 0 rfl
  have k0_1 := hs13.cellAt 0 rfl 1 rfl
  have k1_0 := hs13.cellAt 1 rfl 0 rfl
  have k1_1 := hs13.cellAt 1 rfl 1 rfl
  go_wp2_with fail
  refine (pick_c 24 L B b (k + 1002) _ HSR_14.out (by omega) (by omega) (by omega)).mono ?_
  rintro e w16 ⟨PK, rfl, hp0, hp1, hrw16, hbw16⟩
  obtain ⟨wz17, hs18, hz_wz17, hy_wz17, hc_wz17⟩ := hs13.cut hbw16 (by intro k hk; simp only [List.mem_singleton] at hk; omega)
  have hz_w16 : w8.heap.size + 1 ≤ w16.heap.size := by have h9 := hbw16.size; (try simp at h9); omega
  have HSR_19 := Lib.hid hrw16
  clear HSR_14
  have HBT_20 := Lib.hid (HBT_12.out.trans hc_wz17)
  clear HBT_12
  have HAC_21 := Lib.hid (AccP.butL HAC_15.out hbw16 (by intro k hk; simp only [List.mem_singleton] at hk; omega))
  clear HAC_15
  clear hrw16 hc_wz17
  clear k0_0 k0_1 k1_0 k1_1
  have k0_0 := hs18.cellAt 0 rfl 0 rfl
  have k0_1 := hs18.cellAt 0 rfl 1 rfl
  have k1_0 := hs18.cellAt 1 rfl 0 rfl
  have k1_1 := hs18.cellAt 1 rfl 1 rfl
  by_cases e0 : PK = 0
  · subst e0
    go_wp2_with fail
    have hs22 := hs18.alloc #[.int .i64 0, .int .i64 5, .int .i64 (-1), .int .i64 1] 2 (n := w16.heap.size) (by simp)
    have HSR_23 := Lib.hid (Src.mono HSR_19.out (belowA _ (.cells #[.int .i64 0, .int .i64 5, .int .i64 (-1), .int .i64 1] 2)))
    clear HSR_19
    have HAC_24 := Lib.hid (AccP.mono HAC_21.out (belowA _ (.cells #[.int .i64 0, .int .i64 5, .int .i64 (-1), .int .i64 1] 2)))
    clear HAC_21
    clear k0_0 k0_1 k1_0 k1_1
    have k0_0 := hs22.cellAt 0 rfl 0 rfl
    have k0_1 := hs22.cellAt 0 rfl 1 rfl
    have k1_0 := hs22.cellAt 1 rfl 0 rfl
    have k1_1 := hs22.cellAt 1 rfl 1 rfl
    have k2_0 := hs22.cellAt 2 rfl 0 rfl
    have k2_1 := hs22.cellAt 2 rfl 1 rfl
    have k2_2 := hs22.cellAt 2 rfl 2 rfl
    have k2_3 := hs22.cellAt 2 rfl 3 rfl
    have HLI := Lib.hid (fresh_ilits [0, 5, -1, 1] (lo := w.heap.size) (hs22.box (w16.heap.size, #[.int .i64 0, .int .i64 5, .int .i64 (-1), .int .i64 1], 2) (by simp)).2.2 (by (try simp); omega) (small_i64 (by decide)) (by simp))
    go_wp2_with fail
    refine (among_c [0, 5, -1, 1] _ w.heap.size L B b (k + 1003) _ HSR_23.out (by omega) HLI.out (by omega) (by simp) (by simp)).mono ?_
    rintro e w25 ⟨X0, rfl, hX0, hrw25, hbw25⟩
    obtain ⟨wz26, hs27, hz_wz26, hy_wz26, hc_wz26⟩ := hs22.cut hbw25 (by intro k hk; simp only [List.mem_singleton] at hk; omega)
    have hz_w25 : w16.heap.size + 1 ≤ w25.heap.size := by have h9 := hbw25.size; (try simp at h9); omega
    have HSR_28 := Lib.hid hrw25
    clear HSR_23
    have HBT_29 := Lib.hid (HBT_20.out.trans hc_wz26)
    clear HBT_20
    have HAC_30 := Lib.hid (AccP.butL HAC_24.out hbw25 (by intro k hk; simp only [List.mem_singleton] at hk; omega))
    clear HAC_24
    clear hrw25 hc_wz26
    clear k0_0 k0_1 k1_0 k1_1 k2_0 k2_1 k2_2 k2_3
    have k0_0 := hs27.cellAt 0 rfl 0 rfl
    have k0_1 := hs27.cellAt 0 rfl 1 rfl
    have k1_0 := hs27.cellAt 1 rfl 0 rfl
    have k1_1 := hs27.cellAt 1 rfl 1 rfl
    have k2_0 := hs27.cellAt 2 rfl 0 rfl
    have k2_1 := hs27.cellAt 2 rfl 1 rfl
    have k2_2 := hs27.cellAt 2 rfl 2 rfl
    have k2_3 := hs27.cellAt 2 rfl 3 rfl
    have hx4 : -1 ≤ X0 ∧ X0 ≤ 5 := by simp at hX0; omega
    clear hX0
    go_upto_region 13 with fail
    refine wp_region_noPanic (wp_region_tree4 (fun w' => w'.cell? ⟨w.heap.size, 0, none⟩ = some (.int .i64 0) ∧ w'.cell? ⟨w.heap.size, 1, none⟩ = some (.slice none 0 0) ∧ w'.cell? ⟨w8.heap.size, 0, none⟩ = some (.int .i64 M) ∧ w'.cell? ⟨w8.heap.size, 1, none⟩ = some (.slice a9 l9.length c9) ∧ w'.cell? ⟨w16.heap.size, 0, none⟩ = some (.int .i64 0) ∧ w'.cell? ⟨w16.heap.size, 1, none⟩ = some (.int .i64 5) ∧ w'.cell? ⟨w16.heap.size, 2, none⟩ = some (.int .i64 (-1)) ∧ w'.cell? ⟨w16.heap.size, 3, none⟩ = some (.int .i64 1)) (.float 0 (.float 1 (.float 2 (.last 3 .nil)))) (by kernel_rfl) (by kernel_rfl) (by kernel_rfl) rfl ?_ (fun _ _ _ _ _ h => h) ?_)
    · exact ⟨(hs27.drew).cellAt 0 rfl 0 rfl, (hs27.drew).cellAt 0 rfl 1 rfl, (hs27.drew).cellAt 1 rfl 0 rfl, (hs27.drew).cellAt 1 rfl 1 rfl, (hs27.drew).cellAt 2 rfl 0 rfl, (hs27.drew).cellAt 2 rfl 1 rfl, (hs27.drew).cellAt 2 rfl 2 rfl, (hs27.drew).cellAt 2 rfl 3 rfl⟩
    have hs31 := hs27.drew
    have HSR_32 := Lib.hid (Src.mono HSR_28.out (belowD _))
    clear HSR_28
    have HAC_33 := Lib.hid (AccP.mono HAC_30.out (belowD _))
    clear HAC_30
    clear k0_0 k0_1 k1_0 k1_1 k2_0 k2_1 k2_2 k2_3
    have hz_wd34 : w25.heap.size ≤ (w25.drew).heap.size := by simp
    generalize hgen_wd34 : w25.drew = wd34 at *
    have HG_wd34 := Lib.hid hgen_wd34
    clear hgen_wd34
    (repeat (first | (apply t4_skip rfl (by rfl); try simp only [Act.put, List.setIfInBounds_toArray, List.set_cons_zero, List.set_cons_succ]) | (apply t4_float rfl (by rfl); (· (intro w' hS; go_simp <;> with_reducible rfl)); (try simp only [Act.put, List.setIfInBounds_toArray, List.set_cons_zero, List.set_cons_succ]))))
    refine t4_last rfl (by rfl) (fun K hK => ?_)
    have k0_0 := hs31.cellAt 0 rfl 0 rfl
    have k0_1 := hs31.cellAt 0 rfl 1 rfl
    have k1_0 := hs31.cellAt 1 rfl 0 rfl
    have k1_1 := hs31.cellAt 1 rfl 1 rfl
    have k2_0 := hs31.cellAt 2 rfl 0 rfl
    have k2_1 := hs31.cellAt 2 rfl 1 rfl
    have k2_2 := hs31.cellAt 2 rfl 2 rfl
    have k2_3 := hs31.cellAt 2 rfl 3 rfl
    clear k0_0 k0_1 k1_0 k1_1 k2_0 k2_1 k2_2 k2_3
    have k0_0 := hs31.cellAt 0 rfl 0 rfl
    have k0_1 := hs31.cellAt 0 rfl 1 rfl
    have k1_0 := hs31.cellAt 1 rfl 0 rfl
    have k1_1 := hs31.cellAt 1 rfl 1 rfl
    have k2_0 := hs31.cellAt 2 rfl 0 rfl
    have k2_1 := hs31.cellAt 2 rfl 1 rfl
    have k2_2 := hs31.cellAt 2 rfl 2 rfl
    have k2_3 := hs31.cellAt 2 rfl 3 rfl
    have f0_0 := hs31.freeAt 0 rfl 0
    have f0_1 := hs31.freeAt 0 rfl 1
    go_wp2_with fail
    refine t4_nil (NoPanic.normal ?_)
    have hs35 := hs31.set (p := []) (by simp <;> omega) 0 (.int .i64 (M : Int))
    have hs36 := hs35.set (p := []) (by simp <;> omega) 1 ((.slice a9 l9.length c9))
    have HSR_37 := Lib.hid (Src.below (B := B) (Src.below (B := B) HSR_32.out ((Below.refl B _).setCell (p := ⟨w.heap.size, 0, none⟩) (by (try simp) <;> omega) (.int .i64 (M : Int)))) ((Below.refl B _).setCell (p := ⟨w.heap.size, 1, none⟩) (by (try simp) <;> omega) ((.slice a9 l9.length c9))))
    clear HSR_32
    have HAC_38 := Lib.hid (AccP.setCell (b := w.heap.size) (o := 1) (AccP.setCell (b := w.heap.size) (o := 0) HAC_33.out (.int .i64 (M : Int)) (by intro hA9; (try simp only at hA9); omega)) ((.slice a9 l9.length c9)) (by intro hA9; (try simp only at hA9); omega))
    clear HAC_33
    clear k0_0 k0_1 k1_0 k1_1 k2_0 k2_1 k2_2 k2_3
    have hz_wQ : wd34.heap.size ≤ (((wd34.setCell ⟨w.heap.size, 0, none⟩ (.int .i64 (M : Int))).setCell ⟨w.heap.size, 1, none⟩ ((.slice a9 l9.length c9)))).heap.size := by simp [World.setCell]
    generalize hgen_wQ : ((wd34.setCell ⟨w.heap.size, 0, none⟩ (.int .i64 (M : Int))).setCell ⟨w.heap.size, 1, none⟩ ((.slice a9 l9.length c9))) = wQ at *
    clear hgen_wQ
    have k0_0 := hs36.cellAt 0 rfl 0 rfl
    have k0_1 := hs36.cellAt 0 rfl 1 rfl
    have k1_0 := hs36.cellAt 1 rfl 0 rfl
    have k1_1 := hs36.cellAt 1 rfl 1 rfl
    have k2_0 := hs36.cellAt 2 rfl 0 rfl
    have k2_1 := hs36.cellAt 2 rfl 1 rfl
    have k2_2 := hs36.cellAt 2 rfl 2 rfl
    have k2_3 := hs36.cellAt 2 rfl 3 rfl
    go_wp2_with fail
    have x0 := (hs36.cellAt 0 rfl 0 rfl)
    have x1 := (hs36.cellAt 0 rfl 1 rfl)
    exact bodyPost_ret (v := .tuple #[.int .i64 X0, .agg #[.int .i64 (M : Int), (.slice a9 l9.length c9)]]) (by simp [results, Tryz.results91, go_sem, x0, x1]) rfl ⟨X0, (M : Int), (.slice a9 l9.length c9), rfl, ⟨by omega, by omega⟩, l9, fresh_icD ⟨by omega, by omega⟩ ((HAC_38.out.ip).fresh (lo := w.heap.size) (fun z hz => by have := hz.1; omega)), by omega, HSR_37.out.more (by omega), HBT_29.out.trans (but_of hs36.bel)⟩
  have n0 := eqb_no e0
  by_cases e1 : PK = 1
  · subst e1
    have hw1 : IntKind.i64.wrap ((M : Int) + 1) = (M : Int) + 1 := i64_in _ (by omega)
    go_wp2_with fail
    have hs39 := hs18.alloc #[.int .i64 0, .int .i64 5, .int .i64 ((M : Int) + 1)] 2 (n := w16.heap.size) (by simp)
    have HSR_40 := Lib.hid (Src.mono HSR_19.out (belowA _ (.cells #[.int .i64 0, .int .i64 5, .int .i64 ((M : Int) + 1)] 2)))
    clear HSR_19
    have HAC_41 := Lib.hid (AccP.mono HAC_21.out (belowA _ (.cells #[.int .i64 0, .int .i64 5, .int .i64 ((M : Int) + 1)] 2)))
    clear HAC_21
    clear k0_0 k0_1 k1_0 k1_1
    have k0_0 := hs39.cellAt 0 rfl 0 rfl
    have k0_1 := hs39.cellAt 0 rfl 1 rfl
    have k1_0 := hs39.cellAt 1 rfl 0 rfl
    have k1_1 := hs39.cellAt 1 rfl 1 rfl
    have k2_0 := hs39.cellAt 2 rfl 0 rfl
    have k2_1 := hs39.cellAt 2 rfl 1 rfl
    have k2_2 := hs39.cellAt 2 rfl 2 rfl
    have HLI := Lib.hid (fresh_ilits [0, 5, (M : Int) + 1] (lo := w.heap.size) (hs39.box (w16.heap.size, #[.int .i64 0, .int .i64 5, .int .i64 ((M : Int) + 1)], 2) (by simp)).2.2 (by (try simp); omega) (fun a ha => by simp at ha; constructor <;> omega) (by simp))
    go_wp2_with fail
    refine (among_c [0, 5, (M : Int) + 1] _ w.heap.size L B b (k + 1003) _ HSR_40.out (by omega) HLI.out (by omega) (by simp) (by simp)).mono ?_
    rintro e w42 ⟨X0, rfl, hX0, hrw42, hbw42⟩
    obtain ⟨wz43, hs44, hz_wz43, hy_wz43, hc_wz43⟩ := hs39.cut hbw42 (by intro k hk; simp only [List.mem_singleton] at hk; omega)
    have hz_w42 : w16.heap.size + 1 ≤ w42.heap.size := by have h9 := hbw42.size; (try simp at h9); omega
    have HSR_45 := Lib.hid hrw42
    clear HSR_40
    have HBT_46 := Lib.hid (HBT_20.out.trans hc_wz43)
    clear HBT_20
    have HAC_47 := Lib.hid (AccP.butL HAC_41.out hbw42 (by intro k hk; simp only [List.mem_singleton] at hk; omega))
    clear HAC_41
    clear hrw42 hc_wz43
    clear k0_0 k0_1 k1_0 k1_1 k2_0 k2_1 k2_2
    have k0_0 := hs44.cellAt 0 rfl 0 rfl
    have k0_1 := hs44.cellAt 0 rfl 1 rfl
    have k1_0 := hs44.cellAt 1 rfl 0 rfl
    have k1_1 := hs44.cellAt 1 rfl 1 rfl
    have k2_0 := hs44.cellAt 2 rfl 0 rfl
    have k2_1 := hs44.cellAt 2 rfl 1 rfl
    have k2_2 := hs44.cellAt 2 rfl 2 rfl
    have hx4 : 0 ≤ X0 ∧ X0 ≤ 5 := by simp at hX0; omega
    clear hX0
    have f1_0 := hs44.freeAt 1 rfl 0
    have f1_1 := hs44.freeAt 1 rfl 1
    go_upto_region 13 with fail
    have hs48 := hs44.set (p := [_]) (by simp <;> omega) 0 (.int .i64 X0)
    have HSR_49 := Lib.hid (Src.below (B := B) HSR_45.out ((Below.refl B _).setCell (p := ⟨w8.heap.size, 0, none⟩) (by (try simp) <;> omega) (.int .i64 X0)))
    clear HSR_45
    have HAC_50 := Lib.hid (AccP.setCell (b := w8.heap.size) (o := 0) HAC_47.out (.int .i64 X0) (by intro hA9; (try simp only at hA9); omega))
    clear HAC_47
    clear k0_0 k0_1 k1_0 k1_1 k2_0 k2_1 k2_2
    have hz_wE : w42.heap.size ≤ ((w42.setCell ⟨w8.heap.size, 0, none⟩ (.int .i64 X0))).heap.size := by simp [World.setCell]
    generalize hgen_wE : (w42.setCell ⟨w8.heap.size, 0, none⟩ (.int .i64 X0)) = wE at *
    clear hgen_wE
    have k0_0 := hs48.cellAt 0 rfl 0 rfl
    have k0_1 := hs48.cellAt 0 rfl 1 rfl
    have k1_0 := hs48.cellAt 1 rfl 0 rfl
    have k1_1 := hs48.cellAt 1 rfl 1 rfl
    have k2_0 := hs48.cellAt 2 rfl 0 rfl
    have k2_1 := hs48.cellAt 2 rfl 1 rfl
    have k2_2 := hs48.cellAt 2 rfl 2 rfl
    refine wp_region_noPanic (wp_region_tree4 (fun w' => w'.cell? ⟨w.heap.size, 0, none⟩ = some (.int .i64 0) ∧ w'.cell? ⟨w.heap.size, 1, none⟩ = some (.slice none 0 0) ∧ w'.cell? ⟨w8.heap.size, 0, none⟩ = some (.int .i64 X0) ∧ w'.cell? ⟨w8.heap.size, 1, none⟩ = some (.slice a9 l9.length c9) ∧ w'.cell? ⟨w16.heap.size, 0, none⟩ = some (.int .i64 0) ∧ w'.cell? ⟨w16.heap.size, 1, none⟩ = some (.int .i64 5) ∧ w'.cell? ⟨w16.heap.size, 2, none⟩ = some (.int .i64 ((M : Int) + 1))) (.float 0 (.float 1 (.float 2 (.last 3 .nil)))) (by kernel_rfl) (by kernel_rfl) (by kernel_rfl) rfl ?_ (fun _ _ _ _ _ h => h) ?_)
    · exact ⟨(hs48.drew).cellAt 0 rfl 0 rfl, (hs48.drew).cellAt 0 rfl 1 rfl, (hs48.drew).cellAt 1 rfl 0 rfl, (hs48.drew).cellAt 1 rfl 1 rfl, (hs48.drew).cellAt 2 rfl 0 rfl, (hs48.drew).cellAt 2 rfl 1 rfl, (hs48.drew).cellAt 2 rfl 2 rfl⟩
    have hs51 := hs48.drew
    have HSR_52 := Lib.hid (Src.mono HSR_49.out (belowD _))
    clear HSR_49
    have HAC_53 := Lib.hid (AccP.mono HAC_50.out (belowD _))
    clear HAC_50
    clear k0_0 k0_1 k1_0 k1_1 k2_0 k2_1 k2_2
    have hz_wd54 : wE.heap.size ≤ (wE.drew).heap.size := by simp
    generalize hgen_wd54 : wE.drew = wd54 at *
    have HG_wd54 := Lib.hid hgen_wd54
    clear hgen_wd54
    (repeat (first | (apply t4_skip rfl (by rfl); try simp only [Act.put, List.setIfInBounds_toArray, List.set_cons_zero, List.set_cons_succ]) | (apply t4_float rfl (by rfl); (· (intro w' hS; go_simp <;> with_reducible rfl)); (try simp only [Act.put, List.setIfInBounds_toArray, List.set_cons_zero, List.set_cons_succ]))))
    refine t4_last rfl (by rfl) (fun K hK => ?_)
    have k0_0 := hs51.cellAt 0 rfl 0 rfl
    have k0_1 := hs51.cellAt 0 rfl 1 rfl
    have k1_0 := hs51.cellAt 1 rfl 0 rfl
    have k1_1 := hs51.cellAt 1 rfl 1 rfl
    have k2_0 := hs51.cellAt 2 rfl 0 rfl
    have k2_1 := hs51.cellAt 2 rfl 1 rfl
    have k2_2 := hs51.cellAt 2 rfl 2 rfl
    clear k0_0 k0_1 k1_0 k1_1 k2_0 k2_1 k2_2
    have k0_0 := hs51.cellAt 0 rfl 0 rfl
    have k0_1 := hs51.cellAt 0 rfl 1 rfl
    have k1_0 := hs51.cellAt 1 rfl 0 rfl
    have k1_1 := hs51.cellAt 1 rfl 1 rfl
    have k2_0 := hs51.cellAt 2 rfl 0 rfl
    have k2_1 := hs51.cellAt 2 rfl 1 rfl
    have k2_2 := hs51.cellAt 2 rfl 2 rfl
    have f0_0 := hs51.freeAt 0 rfl 0
    have f0_1 := hs51.freeAt 0 rfl 1
    go_wp2_with fail
    refine t4_nil (NoPanic.normal ?_)
    have hs55 := hs51.set (p := []) (by simp <;> omega) 0 (.int .i64 X0)
    have hs56 := hs55.set (p := []) (by simp <;> omega) 1 ((.slice a9 l9.length c9))
    have HSR_57 := Lib.hid (Src.below (B := B) (Src.below (B := B) HSR_52.out ((Below.refl B _).setCell (p := ⟨w.heap.size, 0, none⟩) (by (try simp) <;> omega) (.int .i64 X0))) ((Below.refl B _).setCell (p := ⟨w.heap.size, 1, none⟩) (by (try simp) <;> omega) ((.slice a9 l9.length c9))))
    clear HSR_52
    have HAC_58 := Lib.hid (AccP.setCell (b := w.heap.size) (o := 1) (AccP.setCell (b := w.heap.size) (o := 0) HAC_53.out (.int .i64 X0) (by intro hA9; (try simp only at hA9); omega)) ((.slice a9 l9.length c9)) (by intro hA9; (try simp only at hA9); omega))
    clear HAC_53
    clear k0_0 k0_1 k1_0 k1_1 k2_0 k2_1 k2_2
    have hz_wQ : wd54.heap.size ≤ (((wd54.setCell ⟨w.heap.size, 0, none⟩ (.int .i64 X0)).setCell ⟨w.heap.size, 1, none⟩ ((.slice a9 l9.length c9)))).heap.size := by simp [World.setCell]
    generalize hgen_wQ : ((wd54.setCell ⟨w.heap.size, 0, none⟩ (.int .i64 X0)).setCell ⟨w.heap.size, 1, none⟩ ((.slice a9 l9.length c9))) = wQ at *
    clear hgen_wQ
    have k0_0 := hs56.cellAt 0 rfl 0 rfl
    have k0_1 := hs56.cellAt 0 rfl 1 rfl
    have k1_0 := hs56.cellAt 1 rfl 0 rfl
    have k1_1 := hs56.cellAt 1 rfl 1 rfl
    have k2_0 := hs56.cellAt 2 rfl 0 rfl
    have k2_1 := hs56.cellAt 2 rfl 1 rfl
    have k2_2 := hs56.cellAt 2 rfl 2 rfl
    go_wp2_with fail
    have x0 := (hs56.cellAt 0 rfl 0 rfl)
    have x1 := (hs56.cellAt 0 rfl 1 rfl)
    exact bodyPost_ret (v := .tuple #[.int .i64 SZ, .agg #[.int .i64 X0, (.slice a9 l9.length c9)]]) (by simp [results, Tryz.results91, go_sem, x0, x1]) rfl ⟨SZ, X0, (.slice a9 l9.length c9), rfl, ⟨by omega, by omega⟩, l9, fresh_icD ⟨by omega, by omega⟩ ((HAC_58.out.ip).fresh (lo := w.heap.size) (fun z hz => by have := hz.1; omega)), by omega, HSR_57.out.more (by omega), HBT_46.out.trans (but_of hs56.bel)⟩
  have n1 := eqb_no e1
  by_cases e2 : PK = 2
  · subst e2
    have q9 := (hs18.cellAt 1 rfl 1 rfl)
    have hs59 := hs18.alloc #[.int .i64 0, .int .i64 0] 2 (n := w16.heap.size) (by simp)
    have HSR_60 := Lib.hid (Src.mono HSR_19.out (belowA _ (.cells #[.int .i64 0, .int .i64 0] 2)))
    clear HSR_19
    have HAC_61 := Lib.hid (AccP.mono HAC_21.out (belowA _ (.cells #[.int .i64 0, .int .i64 0] 2)))
    clear HAC_21
    clear k0_0 k0_1 k1_0 k1_1
    have k0_0 := hs59.cellAt 0 rfl 0 rfl
    have k0_1 := hs59.cellAt 0 rfl 1 rfl
    have k1_0 := hs59.cellAt 1 rfl 0 rfl
    have k1_1 := hs59.cellAt 1 rfl 1 rfl
    have k2_0 := hs59.cellAt 2 rfl 0 rfl
    have k2_1 := hs59.cellAt 2 rfl 1 rfl
    have HL2 := Lib.hid (fresh_ilits [0, 0] (lo := w16.heap.size) (hs59.box (w16.heap.size, #[.int .i64 0, .int .i64 0], 2) (by simp)).2.2 (Nat.le_refl _) (small_i64 (by decide)) (by simp))
    have HIP2 := Lib.hid (HL2.out.ip.wk (B := fun z => w16.heap.size ≤ z) (fun z hz => hz.1))
    have hb9 := belowA (w16.alloc (.cells #[.int .i64 0, .int .i64 0] 2)) (.cells #[.slice (some ⟨w16.heap.size, 0, none⟩) 2 2] 47)
    have HS9 := Lib.hid (hs59.step hb9)
    have HR9 := Lib.hid (HSR_60.out.below (hb9.mono (by (try simp); omega)))
    have HNB := Lib.hid (show ((w16.alloc (.cells #[.int .i64 0, .int .i64 0] 2)).alloc (.cells #[.slice (some ⟨w16.heap.size, 0, none⟩) 2 2] 47)).heap[w16.heap.size + 1]? = some (.cells #[.slice (some ⟨w16.heap.size, 0, none⟩) 2 2] 47 (0, 0)) from by simpa using heap_alloc_new (w16.alloc (.cells #[.int .i64 0, .int .i64 0] 2)) (.cells #[.slice (some ⟨w16.heap.size, 0, none⟩) 2 2] 47))
    have HSZ9 := Lib.hid (show ((w16.alloc (.cells #[.int .i64 0, .int .i64 0] 2)).alloc (.cells #[.slice (some ⟨w16.heap.size, 0, none⟩) 2 2] 47)).heap.size = w16.heap.size + 2 by simp)
    go_wp2_with (at_builtin; go_loud (refine wpList_append_accP _ rfl _ _ _ rfl E_lists rfl (AccP.mono HAC_61.out (belowA _ _)) (Ip.mono HIP2.out (belowA _ _)) (fun z h1 h2 => by (try simp only at h1 h2); omega) ⟨w16.heap.size + 1, 0, none⟩ 1 rfl (news1 (cell_at_block HNB.out)) (by omega) ?_); intro a8 c8 w8a hA8 hB8; have hs8 := HS9.out.butP hB8 (fun z hz => by have := hz.1; omega) (fun x hx hA => by have h1 := hA.1; have h2 := hA.2; simp at hx; rcases hx with rfl | rfl | rfl <;> (try simp only at h1 h2) <;> omega); have q2 := hs8.cellAt 1 rfl 1 rfl; have f2 := hs8.freeAt 1 rfl 1)
    have hz8 := hB8.size
    have HSZ := Lib.hid (show (w8a.setCell ⟨w8.heap.size, 1, none⟩ (.slice a8 (l9.length + 1) c8)).heap.size = w8a.heap.size by simp [World.setCell])
    have hs7 := hs8.low (B' := w8.heap.size + 1) (bx' := [(w.heap.size, #[.int .i64 0, .slice none 0 0], 57), (w8.heap.size, #[.int .i64 M, .slice a9 l9.length c9], 57)]) (by omega) (by omega) (fun x hx => ⟨by simp at hx ⊢; rcases hx with rfl | rfl <;> simp, by simp at hx; rcases hx with rfl | rfl <;> (try simp only) <;> omega⟩)
    have HQ8 := hs7.set (p := [_]) (by simp <;> omega) 1 (.slice a8 (l9.length + 1) c8)
    have HAC := Lib.hid ((AccP.setCell (b := w8.heap.size) (o := 1) hA8.tight (.slice a8 (l9.length + 1) c8) (by intro hA9; have h1 := hA9.1; (try simp at h1); omega)).wk (C := fun z => w.heap.size + 1 ≤ z ∧ z < w8a.heap.size) (fun z hz => by
      have h2 := hz.2
      have h3 := HSZ9.out
      rcases hz.1 with h | h | h
      · (try simp only at h); omega
      · (try simp only at h); omega
      · rw [h] at h2 ⊢; omega))
    have HSR := Lib.hid ((HR9.out.below (hB8.below (fun z hz => by have := hz.1; omega) (by have := HSZ9.out; omega))).below ((Below.refl B w8a).setCell (p := ⟨w8.heap.size, 1, none⟩) (by (try simp); omega) (.slice a8 (l9.length + 1) c8)))
    have HBT := Lib.hid HBT_20.out
    generalize hwY : w8a.setCell ⟨w8.heap.size, 1, none⟩ (.slice a8 (l9.length + 1) c8) = wY at *
    have k0_0 := HQ8.cellAt 0 rfl 0 rfl
    have k0_1 := HQ8.cellAt 0 rfl 1 rfl
    have k1_0 := HQ8.cellAt 1 rfl 0 rfl
    have k1_1 := HQ8.cellAt 1 rfl 1 rfl
    go_upto_region 13 with fail
    refine wp_region_noPanic (wp_region_tree4 (fun w' => w'.cell? ⟨w.heap.size, 0, none⟩ = some (.int .i64 0) ∧ w'.cell? ⟨w.heap.size, 1, none⟩ = some (.slice none 0 0) ∧ w'.cell? ⟨w8.heap.size, 0, none⟩ = some (.int .i64 M) ∧ w'.cell? ⟨w8.heap.size, 1, none⟩ = some (.slice a8 (l9.length + 1) c8)) (.float 0 (.float 1 (.float 2 (.last 3 .nil)))) (by kernel_rfl) (by kernel_rfl) (by kernel_rfl) rfl ?_ (fun _ _ _ _ _ h => h) ?_)
    · exact ⟨(HQ8.drew).cellAt 0 rfl 0 rfl, (HQ8.drew).cellAt 0 rfl 1 rfl, (HQ8.drew).cellAt 1 rfl 0 rfl, (HQ8.drew).cellAt 1 rfl 1 rfl⟩
    have hs62 := HQ8.drew
    have HAC_63 := Lib.hid (AccP.mono HAC.out (belowD _))
    clear HAC
    have HSR_64 := Lib.hid (Src.mono HSR.out (belowD _))
    clear HSR
    clear k0_0 k0_1 k1_0 k1_1
    have hz_wd65 : wY.heap.size ≤ (wY.drew).heap.size := by simp
    generalize hgen_wd65 : wY.drew = wd65 at *
    have HG_wd65 := Lib.hid hgen_wd65
    clear hgen_wd65
    (repeat (first | (apply t4_skip rfl (by rfl); try simp only [Act.put, List.setIfInBounds_toArray, List.set_cons_zero, List.set_cons_succ]) | (apply t4_float rfl (by rfl); (· (intro w' hS; go_simp <;> with_reducible rfl)); (try simp only [Act.put, List.setIfInBounds_toArray, List.set_cons_zero, List.set_cons_succ]))))
    refine t4_last rfl (by rfl) (fun K hK => ?_)
    have k0_0 := hs62.cellAt 0 rfl 0 rfl
    have k0_1 := hs62.cellAt 0 rfl 1 rfl
    have k1_0 := hs62.cellAt 1 rfl 0 rfl
    have k1_1 := hs62.cellAt 1 rfl 1 rfl
    clear k0_0 k0_1 k1_0 k1_1
    have k0_0 := hs62.cellAt 0 rfl 0 rfl
    have k0_1 := hs62.cellAt 0 rfl 1 rfl
    have k1_0 := hs62.cellAt 1 rfl 0 rfl
    have k1_1 := hs62.cellAt 1 rfl 1 rfl
    have f0_0 := hs62.freeAt 0 rfl 0
    have f0_1 := hs62.freeAt 0 rfl 1
    go_wp2_with fail
    refine t4_nil (NoPanic.normal ?_)
    have hs66 := hs62.set (p := []) (by simp <;> omega) 0 (.int .i64 (M : Int))
    have hs67 := hs66.set (p := []) (by simp <;> omega) 1 ((.slice a8 (l9.length + 1) c8))
    have HAC_68 := Lib.hid (AccP.setCell (b := w.heap.size) (o := 1) (AccP.setCell (b := w.heap.size) (o := 0) HAC_63.out (.int .i64 (M : Int)) (by intro hA9; (try simp only at hA9); omega)) ((.slice a8 (l9.length + 1) c8)) (by intro hA9; (try simp only at hA9); omega))
    clear HAC_63
    have HSR_69 := Lib.hid (Src.below (B := B) (Src.below (B := B) HSR_64.out ((Below.refl B _).setCell (p := ⟨w.heap.size, 0, none⟩) (by (try simp) <;> omega) (.int .i64 (M : Int)))) ((Below.refl B _).setCell (p := ⟨w.heap.size, 1, none⟩) (by (try simp) <;> omega) ((.slice a8 (l9.length + 1) c8))))
    clear HSR_64
    clear k0_0 k0_1 k1_0 k1_1
    have hz_wQ : wd65.heap.size ≤ (((wd65.setCell ⟨w.heap.size, 0, none⟩ (.int .i64 (M : Int))).setCell ⟨w.heap.size, 1, none⟩ ((.slice a8 (l9.length + 1) c8)))).heap.size := by simp [World.setCell]
    generalize hgen_wQ : ((wd65.setCell ⟨w.heap.size, 0, none⟩ (.int .i64 (M : Int))).setCell ⟨w.heap.size, 1, none⟩ ((.slice a8 (l9.length + 1) c8))) = wQ at *
    clear hgen_wQ
    have k0_0 := hs67.cellAt 0 rfl 0 rfl
    have k0_1 := hs67.cellAt 0 rfl 1 rfl
    have k1_0 := hs67.cellAt 1 rfl 0 rfl
    have k1_1 := hs67.cellAt 1 rfl 1 rfl
    go_wp2_with fail
    have x0 := (hs67.cellAt 0 rfl 0 rfl)
    have x1 := (hs67.cellAt 0 rfl 1 rfl)
    exact bodyPost_ret (v := .tuple #[.int .i64 SZ, .agg #[.int .i64 (M : Int), (.slice a8 (l9.length + 1) c8)]]) (by simp [results, Tryz.results91, go_sem, x0, x1]) rfl ⟨SZ, (M : Int), (.slice a8 (l9.length + 1) c8), rfl, ⟨by omega, by omega⟩, l9 ++ [[0, 0]], fresh_icD ⟨by omega, by omega⟩ ((HAC_68.out.ip).fresh (lo := w.heap.size) (fun z hz => by have := hz.1; omega)), by (try simp); omega, HSR_69.out.more (by omega), HBT.out.trans (but_of hs67.bel)⟩
  have n2 := eqb_no e2
  by_cases e3 : PK = 3
  · subst e3
    by_cases h0 : 0 < l9.length
    · have h0I : (0 : Int) < l9.length := by omega
      obtain ⟨gt, ct, _, _, hv9, _, _, _⟩ := AccS.at (AccP.accS HAC_21.out) h0
      simp only [Value.slice.injEq] at hv9
      obtain ⟨rfl, -, rfl⟩ := hv9
      have hgt : w.heap.size + 1 ≤ gt := by
        obtain ⟨xs, ps, _, h2a, _, _⟩ := AccP.accS HAC_21.out
        exact (h2a gt (by simp [Value.ownBlock])).1.1
      have ht0 := (relOk_val HOK.out l9[0] (List.getElem_mem h0)).1
      simp only [Int.toNat_natCast] at ht0
      have h00 : 0 < (l9[0]).length := by omega
      have h00I : (0 : Int) < ((l9[0]).length : Int) := by omega
      obtain ⟨g1, o1, c1, cur1, e1', hcl, hA1, hbk, hos, hset⟩ := ip_set00 (HAC_21.out).ip h0 h00
      rw [ht0] at hcl
      have hM0 : 0 < M := by omega
      have Q1 := hcl
      clear hcl hbk hos hset h00I
      go_upto_region 12 with fail
      refine wp_region_noPanic (wp_region_tree4 (fun w' => w'.cell? ⟨w.heap.size, 0, none⟩ = some (.int .i64 0) ∧ w'.cell? ⟨w.heap.size, 1, none⟩ = some (.slice none 0 0) ∧ w'.cell? ⟨w8.heap.size, 0, none⟩ = some (.int .i64 M) ∧ w'.cell? ⟨w8.heap.size, 1, none⟩ = some (.slice (some ⟨gt, 0, none⟩) l9.length c9) ∧ w'.cell? ⟨gt, 0, none⟩ = some (.slice (some ⟨g1, o1, none⟩) M c1)) (.float 0 (.float 1 (.float 2 (.float 3 (.float 4 (.float 5 (.hard 6 (.hard 7 (.float 8 (.last 9 .nil)))))))))) (by kernel_rfl) (by kernel_rfl) (by kernel_rfl) rfl ?_ (fun _ _ _ _ _ h => h) ?_)
      · exact ⟨(hs18.drew).cellAt 0 rfl 0 rfl, (hs18.drew).cellAt 0 rfl 1 rfl, (hs18.drew).cellAt 1 rfl 0 rfl, (hs18.drew).cellAt 1 rfl 1 rfl, cellL (belowD _) Q1⟩
      have hs70 := hs18.drew
      have Q1_71 := cellL (belowD _) Q1
      clear Q1
      have HSR_72 := Lib.hid (Src.mono HSR_19.out (belowD _))
      clear HSR_19
      have HAC_73 := Lib.hid (AccP.mono HAC_21.out (belowD _))
      clear HAC_21
      clear k0_0 k0_1 k1_0 k1_1
      have hz_wd74 : w16.heap.size ≤ (w16.drew).heap.size := by simp
      generalize hgen_wd74 : w16.drew = wd74 at *
      have HG_wd74 := Lib.hid hgen_wd74
      clear hgen_wd74
      (repeat (first | (apply t4_skip rfl (by rfl); try simp only [Act.put, List.setIfInBounds_toArray, List.set_cons_zero, List.set_cons_succ]) | (apply t4_float rfl (by rfl); (· (intro w' hS; go_simp <;> with_reducible rfl)); (try simp only [Act.put, List.setIfInBounds_toArray, List.set_cons_zero, List.set_cons_succ]))))
      refine t4_hard rfl (by rfl) (fun K hK => ?_)
      go_wp2_with fail
      have hs75 := hs70.alloc #[.int .i64 (-1), .int .i64 SZ] 2 (n := wd74.heap.size) (by simp)
      have Q1_76 := cellL (belowA _ (.cells #[.int .i64 (-1), .int .i64 SZ] 2)) Q1_71
      clear Q1_71
      have HSR_77 := Lib.hid (Src.mono HSR_72.out (belowA _ (.cells #[.int .i64 (-1), .int .i64 SZ] 2)))
      clear HSR_72
      have HAC_78 := Lib.hid (AccP.mono HAC_73.out (belowA _ (.cells #[.int .i64 (-1), .int .i64 SZ] 2)))
      clear HAC_73
      have HLI := Lib.hid (fresh_ilits [-1, SZ] (lo := w.heap.size) (hs75.box (wd74.heap.size, #[.int .i64 (-1), .int .i64 SZ], 2) (by simp)).2.2 (by (try simp); omega) (fun a ha => by simp at ha; constructor <;> omega) (by simp))
      refine ⟨⟨hs75.cellAt 0 rfl 0 rfl, hs75.cellAt 0 rfl 1 rfl, hs75.cellAt 1 rfl 0 rfl, hs75.cellAt 1 rfl 1 rfl, Q1_76⟩, ?_⟩
      (repeat (first | (apply t4_skip rfl (by rfl); try simp only [Act.put, List.setIfInBounds_toArray, List.set_cons_zero, List.set_cons_succ]) | (apply t4_float rfl (by rfl); (· (intro w' hS; go_simp <;> with_reducible rfl)); (try simp only [Act.put, List.setIfInBounds_toArray, List.set_cons_zero, List.set_cons_succ]))))
      refine t4_hard rfl (by rfl) (fun K hK => ?_)
      go_wp2_with (go_at_call 68; refine (among_c [-1, SZ] _ w.heap.size L B b (k + 1003) _ HSR_77.out (by omega) HLI.out (by omega) (by simp) (by simp)).mono ?_; rintro e w79 ⟨X0, rfl, hX0, hrw79, hbw79⟩)
      obtain ⟨wz80, hs81, hz_wz80, hy_wz80, hc_wz80⟩ := hs75.cut hbw79 (by intro k hk; simp only [List.mem_singleton] at hk; omega)
      have hz_w79 : wd74.heap.size + 1 ≤ w79.heap.size := by have h9 := hbw79.size; (try simp at h9); omega
      have HSR_82 := Lib.hid hrw79
      clear HSR_77
      have HBT_83 := Lib.hid (HBT_20.out.trans hc_wz80)
      clear HBT_20
      have HAC_84 := Lib.hid (AccP.butL HAC_78.out hbw79 (by intro k hk; simp only [List.mem_singleton] at hk; omega))
      clear HAC_78
      have Q1_85 := cell_but hbw79 Q1_76 (by simp only [List.mem_singleton]; omega)
      clear Q1_76
      clear hrw79 hc_wz80
      have hx4 : -1 ≤ X0 ∧ X0 ≤ 4 := by simp at hX0; omega
      clear hX0 HLI
      refine ⟨⟨hs81.cellAt 0 rfl 0 rfl, hs81.cellAt 0 rfl 1 rfl, hs81.cellAt 1 rfl 0 rfl, hs81.cellAt 1 rfl 1 rfl, Q1_85⟩, ?_⟩
      (repeat (first | (apply t4_skip rfl (by rfl); try simp only [Act.put, List.setIfInBounds_toArray, List.set_cons_zero, List.set_cons_succ]) | (apply t4_float rfl (by rfl); (· (intro w' hS; go_simp <;> with_reducible rfl)); (try simp only [Act.put, List.setIfInBounds_toArray, List.set_cons_zero, List.set_cons_succ]))))
      refine t4_last rfl (by rfl) (fun K hK => ?_)
      have k0_0 := hs81.cellAt 0 rfl 0 rfl
      have k0_1 := hs81.cellAt 0 rfl 1 rfl
      have k1_0 := hs81.cellAt 1 rfl 0 rfl
      have k1_1 := hs81.cellAt 1 rfl 1 rfl
      have k2_0 := hs81.cellAt 2 rfl 0 rfl
      have k2_1 := hs81.cellAt 2 rfl 1 rfl
      obtain ⟨g2, o2, c2, cur2, e2', hcl, hA2, hbk, hos, hset⟩ := ip_set00 (HAC_84.out).ip h0 h00
      have hq1 := Q1_85
      rw [hcl, ht0] at hq1
      simp only [Option.some.injEq, Value.slice.injEq, Addr.mk.injEq, and_true, true_and] at hq1
      obtain ⟨⟨rfl, rfl⟩, rfl⟩ := hq1
      have f9 := free_at_block (o := o2) hbk
      have q9 := cell_of_heap hbk hos
      have HI9 := Lib.hid (hset _ X0 (Below.refl _ _) ⟨by omega, by omega⟩)
      have hbp := butp_setB (A := fun z => z = g2) (ButP.refl _ w79) (b := g2) (o := o2) (.int .i64 X0) rfl
      have hs9 := hs81.butP hbp (fun z hz => by subst hz; (try simp only at hA2); omega) (fun x hx hA => by simp at hx; rcases hx with rfl | rfl | rfl <;> (try simp only at hA hA2) <;> omega)
      go_wp2_with fail
      refine t4_nil (NoPanic.normal ?_)
      obtain ⟨wY, hwY⟩ : ∃ x, x = w79.setCell ⟨g2, o2, none⟩ (.int .i64 X0) := ⟨_, rfl⟩
      rw [← hwY] at hbp HI9 hs9 ⊢
      clear HAC_84
      clear k0_0 k0_1 k1_0 k1_1 k2_0 k2_1
      clear Q1_85
      have HSR_86 := Lib.hid (Src.below (B := B) HSR_82.out (hbp.below (fun z hz => by (try simp only at hz); omega) (by (try simp); omega)))
      clear HSR_82
      have k0_0 := hs9.cellAt 0 rfl 0 rfl
      have k0_1 := hs9.cellAt 0 rfl 1 rfl
      have k1_0 := hs9.cellAt 1 rfl 0 rfl
      have k1_1 := hs9.cellAt 1 rfl 1 rfl
      have k2_0 := hs9.cellAt 2 rfl 0 rfl
      have k2_1 := hs9.cellAt 2 rfl 1 rfl
      have HIQ := HI9
      clear HI9
      go_upto_region 13 with fail
      refine wp_region_noPanic (wp_region_tree4 (fun w' => w'.cell? ⟨w.heap.size, 0, none⟩ = some (.int .i64 0) ∧ w'.cell? ⟨w.heap.size, 1, none⟩ = some (.slice none 0 0) ∧ w'.cell? ⟨w8.heap.size, 0, none⟩ = some (.int .i64 M) ∧ w'.cell? ⟨w8.heap.size, 1, none⟩ = some (.slice (some ⟨gt, 0, none⟩) l9.length c9) ∧ w'.cell? ⟨wd74.heap.size, 0, none⟩ = some (.int .i64 (-1)) ∧ w'.cell? ⟨wd74.heap.size, 1, none⟩ = some (.int .i64 SZ)) (.float 0 (.float 1 (.float 2 (.last 3 .nil)))) (by kernel_rfl) (by kernel_rfl) (by kernel_rfl) rfl ?_ (fun _ _ _ _ _ h => h) ?_)
      · exact ⟨(hs9.drew).cellAt 0 rfl 0 rfl, (hs9.drew).cellAt 0 rfl 1 rfl, (hs9.drew).cellAt 1 rfl 0 rfl, (hs9.drew).cellAt 1 rfl 1 rfl, (hs9.drew).cellAt 2 rfl 0 rfl, (hs9.drew).cellAt 2 rfl 1 rfl⟩
      have hs87 := hs9.drew
      have HSR_88 := Lib.hid (Src.mono HSR_86.out (belowD _))
      clear HSR_86
      have HIQ_89 := Lib.hid (Ip.mono HIQ.out (belowD _))
      clear HIQ
      clear k0_0 k0_1 k1_0 k1_1 k2_0 k2_1
      have hz_wd90 : wY.heap.size ≤ (wY.drew).heap.size := by simp
      generalize hgen_wd90 : wY.drew = wd90 at *
      have HG_wd90 := Lib.hid hgen_wd90
      clear hgen_wd90
      (repeat (first | (apply t4_skip rfl (by rfl); try simp only [Act.put, List.setIfInBounds_toArray, List.set_cons_zero, List.set_cons_succ]) | (apply t4_float rfl (by rfl); (· (intro w' hS; go_simp <;> with_reducible rfl)); (try simp only [Act.put, List.setIfInBounds_toArray, List.set_cons_zero, List.set_cons_succ]))))
      refine t4_last rfl (by rfl) (fun K hK => ?_)
      have k0_0 := hs87.cellAt 0 rfl 0 rfl
      have k0_1 := hs87.cellAt 0 rfl 1 rfl
      have k1_0 := hs87.cellAt 1 rfl 0 rfl
      have k1_1 := hs87.cellAt 1 rfl 1 rfl
      have k2_0 := hs87.cellAt 2 rfl 0 rfl
      have k2_1 := hs87.cellAt 2 rfl 1 rfl
      clear k0_0 k0_1 k1_0 k1_1 k2_0 k2_1
      have k0_0 := hs87.cellAt 0 rfl 0 rfl
      have k0_1 := hs87.cellAt 0 rfl 1 rfl
      have k1_0 := hs87.cellAt 1 rfl 0 rfl
      have k1_1 := hs87.cellAt 1 rfl 1 rfl
      have k2_0 := hs87.cellAt 2 rfl 0 rfl
      have k2_1 := hs87.cellAt 2 rfl 1 rfl
      have f0_0 := hs87.freeAt 0 rfl 0
      have f0_1 := hs87.freeAt 0 rfl 1
      go_wp2_with fail
      refine t4_nil (NoPanic.normal ?_)
      have hs91 := hs87.set (p := []) (by simp <;> omega) 0 (.int .i64 (M : Int))
      have hs92 := hs91.set (p := []) (by simp <;> omega) 1 ((.slice (some ⟨gt, 0, none⟩) l9.length c9))
      have HSR_93 := Lib.hid (Src.below (B := B) (Src.below (B := B) HSR_88.out ((Below.refl B _).setCell (p := ⟨w.heap.size, 0, none⟩) (by (try simp) <;> omega) (.int .i64 (M : Int)))) ((Below.refl B _).setCell (p := ⟨w.heap.size, 1, none⟩) (by (try simp) <;> omega) ((.slice (some ⟨gt, 0, none⟩) l9.length c9))))
      clear HSR_88
      have HIQ_94 := Lib.hid (Ip.setCell (b := w.heap.size) (o := 1) (Ip.setCell (b := w.heap.size) (o := 0) HIQ_89.out (.int .i64 (M : Int)) (by intro hA9; (try simp only at hA9); omega)) ((.slice (some ⟨gt, 0, none⟩) l9.length c9)) (by intro hA9; (try simp only at hA9); omega))
      clear HIQ_89
      clear k0_0 k0_1 k1_0 k1_1 k2_0 k2_1
      have hz_wQ : wd90.heap.size ≤ (((wd90.setCell ⟨w.heap.size, 0, none⟩ (.int .i64 (M : Int))).setCell ⟨w.heap.size, 1, none⟩ ((.slice (some ⟨gt, 0, none⟩) l9.length c9)))).heap.size := by simp [World.setCell]
      generalize hgen_wQ : ((wd90.setCell ⟨w.heap.size, 0, none⟩ (.int .i64 (M : Int))).setCell ⟨w.heap.size, 1, none⟩ ((.slice (some ⟨gt, 0, none⟩) l9.length c9))) = wQ at *
      clear hgen_wQ
      have k0_0 := hs92.cellAt 0 rfl 0 rfl
      have k0_1 := hs92.cellAt 0 rfl 1 rfl
      have k1_0 := hs92.cellAt 1 rfl 0 rfl
      have k1_1 := hs92.cellAt 1 rfl 1 rfl
      have k2_0 := hs92.cellAt 2 rfl 0 rfl
      have k2_1 := hs92.cellAt 2 rfl 1 rfl
      go_wp2_with fail
      have x0 := (hs92.cellAt 0 rfl 0 rfl)
      have x1 := (hs92.cellAt 0 rfl 1 rfl)
      exact bodyPost_ret (v := .tuple #[.int .i64 SZ, .agg #[.int .i64 (M : Int), (.slice (some ⟨gt, 0, none⟩) l9.length c9)]]) (by simp [results, Tryz.results91, go_sem, x0, x1]) rfl ⟨SZ, (M : Int), (.slice (some ⟨gt, 0, none⟩) l9.length c9), rfl, ⟨by omega, by omega⟩, l9.set 0 ((l9[0]).set 0 X0), fresh_icD ⟨by omega, by omega⟩ ((HIQ_94.out).fresh (lo := w.heap.size) (fun z hz => by have := hz.1; omega)), by (try simp); omega, HSR_93.out.more (by omega), HBT_83.out.trans (but_of hs92.bel)⟩
    · have h0I : ¬ (0 : Int) < l9.length := by omega
      go_upto_region 13 with fail
      refine wp_region_noPanic (wp_region_tree4 (fun w' => w'.cell? ⟨w.heap.size, 0, none⟩ = some (.int .i64 0) ∧ w'.cell? ⟨w.heap.size, 1, none⟩ = some (.slice none 0 0) ∧ w'.cell? ⟨w8.heap.size, 0, none⟩ = some (.int .i64 M) ∧ w'.cell? ⟨w8.heap.size, 1, none⟩ = some (.slice a9 l9.length c9)) (.float 0 (.float 1 (.float 2 (.last 3 .nil)))) (by kernel_rfl) (by kernel_rfl) (by kernel_rfl) rfl ?_ (fun _ _ _ _ _ h => h) ?_)
      · exact ⟨(hs18.drew).cellAt 0 rfl 0 rfl, (hs18.drew).cellAt 0 rfl 1 rfl, (hs18.drew).cellAt 1 rfl 0 rfl, (hs18.drew).cellAt 1 rfl 1 rfl⟩
      have hs95 := hs18.drew
      have HSR_96 := Lib.hid (Src.mono HSR_19.out (belowD _))
      clear HSR_19
      have HAC_97 := Lib.hid (AccP.mono HAC_21.out (belowD _))
      clear HAC_21
      clear k0_0 k0_1 k1_0 k1_1
      have hz_wd98 : w16.heap.size ≤ (w16.drew).heap.size := by simp
      generalize hgen_wd98 : w16.drew = wd98 at *
      have HG_wd98 := Lib.hid hgen_wd98
      clear hgen_wd98
      (repeat (first | (apply t4_skip rfl (by rfl); try simp only [Act.put, List.setIfInBounds_toArray, List.set_cons_zero, List.set_cons_succ]) | (apply t4_float rfl (by rfl); (· (intro w' hS; go_simp <;> with_reducible rfl)); (try simp only [Act.put, List.setIfInBounds_toArray, List.set_cons_zero, List.set_cons_succ]))))
      refine t4_last rfl (by rfl) (fun K hK => ?_)
      have k0_0 := hs95.cellAt 0 rfl 0 rfl
      have k0_1 := hs95.cellAt 0 rfl 1 rfl
      have k1_0 := hs95.cellAt 1 rfl 0 rfl
      have k1_1 := hs95.cellAt 1 rfl 1 rfl
      clear k0_0 k0_1 k1_0 k1_1
      have k0_0 := hs95.cellAt 0 rfl 0 rfl
      have k0_1 := hs95.cellAt 0 rfl 1 rfl
      have k1_0 := hs95.cellAt 1 rfl 0 rfl
      have k1_1 := hs95.cellAt 1 rfl 1 rfl
      have f0_0 := hs95.freeAt 0 rfl 0
      have f0_1 := hs95.freeAt 0 rfl 1
      go_wp2_with fail
      refine t4_nil (NoPanic.normal ?_)
      have hs99 := hs95.set (p := []) (by simp <;> omega) 0 (.int .i64 (M : Int))
      have hs100 := hs99.set (p := []) (by simp <;> omega) 1 ((.slice a9 l9.length c9))
      have HSR_101 := Lib.hid (Src.below (B := B) (Src.below (B := B) HSR_96.out ((Below.refl B _).setCell (p := ⟨w.heap.size, 0, none⟩) (by (try simp) <;> omega) (.int .i64 (M : Int)))) ((Below.refl B _).setCell (p := ⟨w.heap.size, 1, none⟩) (by (try simp) <;> omega) ((.slice a9 l9.length c9))))
      clear HSR_96
      have HAC_102 := Lib.hid (AccP.setCell (b := w.heap.size) (o := 1) (AccP.setCell (b := w.heap.size) (o := 0) HAC_97.out (.int .i64 (M : Int)) (by intro hA9; (try simp only at hA9); omega)) ((.slice a9 l9.length c9)) (by intro hA9; (try simp only at hA9); omega))
      clear HAC_97
      clear k0_0 k0_1 k1_0 k1_1
      have hz_wQ : wd98.heap.size ≤ (((wd98.setCell ⟨w.heap.size, 0, none⟩ (.int .i64 (M : Int))).setCell ⟨w.heap.size, 1, none⟩ ((.slice a9 l9.length c9)))).heap.size := by simp [World.setCell]
      generalize hgen_wQ : ((wd98.setCell ⟨w.heap.size, 0, none⟩ (.int .i64 (M : Int))).setCell ⟨w.heap.size, 1, none⟩ ((.slice a9 l9.length c9))) = wQ at *
      clear hgen_wQ
      have k0_0 := hs100.cellAt 0 rfl 0 rfl
      have k0_1 := hs100.cellAt 0 rfl 1 rfl
      have k1_0 := hs100.cellAt 1 rfl 0 rfl
      have k1_1 := hs100.cellAt 1 rfl 1 rfl
      go_wp2_with fail
      have x0 := (hs100.cellAt 0 rfl 0 rfl)
      have x1 := (hs100.cellAt 0 rfl 1 rfl)
      exact bodyPost_ret (v := .tuple #[.int .i64 SZ, .agg #[.int .i64 (M : Int), (.slice a9 l9.length c9)]]) (by simp [results, Tryz.results91, go_sem, x0, x1]) rfl ⟨SZ, (M : Int), (.slice a9 l9.length c9), rfl, ⟨by omega, by omega⟩, l9, fresh_icD ⟨by omega, by omega⟩ ((HAC_102.out.ip).fresh (lo := w.heap.size) (fun z hz => by have := hz.1; omega)), by omega, HSR_101.out.more (by omega), HBT_20.out.trans (but_of hs100.bel)⟩
  have n3 := eqb_no e3
  go_upto_region 13 with fail
  refine wp_region_noPanic (wp_region_tree4 (fun w' => w'.cell? ⟨w.heap.size, 0, none⟩ = some (.int .i64 0) ∧ w'.cell? ⟨w.heap.size, 1, none⟩ = some (.slice none 0 0) ∧ w'.cell? ⟨w8.heap.size, 0, none⟩ = some (.int .i64 M) ∧ w'.cell? ⟨w8.heap.size, 1, none⟩ = some (.slice a9 l9.length c9)) (.float 0 (.float 1 (.float 2 (.last 3 .nil)))) (by kernel_rfl) (by kernel_rfl) (by kernel_rfl) rfl ?_ (fun _ _ _ _ _ h => h) ?_)
  · exact ⟨(hs18.drew).cellAt 0 rfl 0 rfl, (hs18.drew).cellAt 0 rfl 1 rfl, (hs18.drew).cellAt 1 rfl 0 rfl, (hs18.drew).cellAt 1 rfl 1 rfl⟩
  have hs103 := hs18.drew
  have HSR_104 := Lib.hid (Src.mono HSR_19.out (belowD _))
  clear HSR_19
  have HAC_105 := Lib.hid (AccP.mono HAC_21.out (belowD _))
  clear HAC_21
  clear k0_0 k0_1 k1_0 k1_1
  have hz_wd106 : w16.heap.size ≤ (w16.drew).heap.size := by simp
  generalize hgen_wd106 : w16.drew = wd106 at *
  have HG_wd106 := Lib.hid hgen_wd106
  clear hgen_wd106
  (repeat (first | (apply t4_skip rfl (by rfl); try simp only [Act.put, List.setIfInBounds_toArray, List.set_cons_zero, List.set_cons_succ]) | (apply t4_float rfl (by rfl); (· (intro w' hS; go_simp <;> with_reducible rfl)); (try simp only [Act.put, List.setIfInBounds_toArray, List.set_cons_zero, List.set_cons_succ]))))
  refine t4_last rfl (by rfl) (fun K hK => ?_)
  have k0_0 := hs103.cellAt 0 rfl 0 rfl
  have k0_1 := hs103.cellAt 0 rfl 1 rfl
  have k1_0 := hs103.cellAt 1 rfl 0 rfl
  have k1_1 := hs103.cellAt 1 rfl 1 rfl
  clear k0_0 k0_1 k1_0 k1_1
  have k0_0 := hs103.cellAt 0 rfl 0 rfl
  have k0_1 := hs103.cellAt 0 rfl 1 rfl
  have k1_0 := hs103.cellAt 1 rfl 0 rfl
  have k1_1 := hs103.cellAt 1 rfl 1 rfl
  have f0_0 := hs103.freeAt 0 rfl 0
  have f0_1 := hs103.freeAt 0 rfl 1
  go_wp2_with fail
  refine t4_nil (NoPanic.normal ?_)
  have hs107 := hs103.set (p := []) (by simp <;> omega) 0 (.int .i64 (M : Int))
  have hs108 := hs107.set (p := []) (by simp <;> omega) 1 ((.slice a9 l9.length c9))
  have HSR_109 := Lib.hid (Src.below (B := B) (Src.below (B := B) HSR_104.out ((Below.refl B _).setCell (p := ⟨w.heap.size, 0, none⟩) (by (try simp) <;> omega) (.int .i64 (M : Int)))) ((Below.refl B _).setCell (p := ⟨w.heap.size, 1, none⟩) (by (try simp) <;> omega) ((.slice a9 l9.length c9))))
  clear HSR_104
  have HAC_110 := Lib.hid (AccP.setCell (b := w.heap.size) (o := 1) (AccP.setCell (b := w.heap.size) (o := 0) HAC_105.out (.int .i64 (M : Int)) (by intro hA9; (try simp only at hA9); omega)) ((.slice a9 l9.length c9)) (by intro hA9; (try simp only at hA9); omega))
  clear HAC_105
  clear k0_0 k0_1 k1_0 k1_1
  have hz_wQ : wd106.heap.size ≤ (((wd106.setCell ⟨w.heap.size, 0, none⟩ (.int .i64 (M : Int))).setCell ⟨w.heap.size, 1, none⟩ ((.slice a9 l9.length c9)))).heap.size := by simp [World.setCell]
  generalize hgen_wQ : ((wd106.setCell ⟨w.heap.size, 0, none⟩ (.int .i64 (M : Int))).setCell ⟨w.heap.size, 1, none⟩ ((.slice a9 l9.length c9))) = wQ at *
  clear hgen_wQ
  have k0_0 := hs108.cellAt 0 rfl 0 rfl
  have k0_1 := hs108.cellAt 0 rfl 1 rfl
  have k1_0 := hs108.cellAt 1 rfl 0 rfl
  have k1_1 := hs108.cellAt 1 rfl 1 rfl
  go_wp2_with fail
  have x0 := (hs108.cellAt 0 rfl 0 rfl)
  have x1 := (hs108.cellAt 0 rfl 1 rfl)
  exact bodyPost_ret (v := .tuple #[.int .i64 SZ, .agg #[.int .i64 (M : Int), (.slice a9 l9.length c9)]]) (by simp [results, Tryz.results91, go_sem, x0, x1]) rfl ⟨SZ, (M : Int), (.slice a9 l9.length c9), rfl, ⟨by omega, by omega⟩, l9, fresh_icD ⟨by omega, by omega⟩ ((HAC_110.out.ip).fresh (lo := w.heap.size) (fun z hz => by have := hz.1; omega)), by omega, HSR_109.out.more (by omega), HBT_20.out.trans (but_of hs108.bel)⟩
/-- How many the slice in cell 1 of a block holds. -/
def lenOf (w : World) (b : Nat) : Nat := match w.cell? ⟨b, 1, none⟩ with | some (.slice _ n _) => n | _ => 0
theorem lenOf_at {w : World} {b n c : Nat} {a : Option Addr} (h : w.cell? ⟨b, 1, none⟩ = some (.slice a n c)) : lenOf w b = n := by unfold lenOf; rw [h]
set_option maxRecDepth 100000 in
set_option maxHeartbeats 16000000 in
theorem l01TemplateBent_c (L B b k : Nat) (w : World) (h : Src L B w b k) (hB : B ≤ w.heap.size) (hk : k ≤ 500000000) :
    Calls Tryz.prog 70 #[.pointer (some ⟨b, 0, none⟩)] w fun e w' => ∃ (s : Int) (v : Value), e = .returned (.agg #[.int .i64 s, v]) ∧ ∃ l : List RelT, Fresh w.heap.size w' [.int .i64 s, v] ((s, l) : Tmpl) ∧ Src L B w' b (k + 20000) ∧ But [b] w w' := by
  have hbw := h.lt
  have HSR := Lib.hid h
  have HBT := Lib.hid (But.refl [b] w)
  clear h
  have hs111 := (St.start w).alloc #[.int .i64 0, .slice none 0 0] 26 (n := w.heap.size) (by simp)
  have HSR_112 := Lib.hid (Src.mono HSR.out (belowA _ (.cells #[.int .i64 0, .slice none 0 0] 26)))
  clear HSR
  have k0_0 := hs111.cellAt 0 rfl 0 rfl
  have k0_1 := hs111.cellAt 0 rfl 1 rfl
  go_enter Tryz.func70, Tryz.ntmps70
  go_wp2_with fail
  refine (l01SizeDrawn_c L B b k _ HSR_112.out (by (try simp); omega) (by omega)).mono ?_
  rintro e w113 ⟨SZ, rfl, hs4, hrw113, hbw113⟩
  obtain ⟨wz114, hs115, hz_wz114, hy_wz114, hc_wz114⟩ := hs111.cut hbw113 (by intro k hk; simp only [List.mem_singleton] at hk; omega)
  have hz_w113 : w.heap.size + 1 ≤ w113.heap.size := by have h9 := hbw113.size; (try simp at h9); omega
  have HSR_116 := Lib.hid hrw113
  clear HSR_112
  have HBT_117 := Lib.hid (HBT.out.trans hc_wz114)
  clear HBT
  clear hrw113 hc_wz114
  clear k0_0 k0_1
  have k0_0 := hs115.cellAt 0 rfl 0 rfl
  have k0_1 := hs115.cellAt 0 rfl 1 rfl
  go_wp2_with fail
  refine (l01TemplateDrawn_c SZ L B b (k + 1) _ HSR_116.out (by (try simp); omega) (by omega) hs4).mono ?_
  rintro e w118 ⟨v9, rfl, l9, fr9, ok9, hl3, hrw118, hbw118⟩
  obtain ⟨wz119, hs120, hz_wz119, hy_wz119, hc_wz119⟩ := hs115.cut hbw118 (by intro k hk; simp only [List.mem_singleton] at hk; omega)
  have hz_w118 : w113.heap.size ≤ w118.heap.size := by have h9 := hbw118.size; (try simp at h9); omega
  have HSR_121 := Lib.hid hrw118
  clear HSR_116
  have HBT_122 := Lib.hid (HBT_117.out.trans hc_wz119)
  clear HBT_117
  clear hrw118 hc_wz119
  clear k0_0 k0_1
  have k0_0 := hs120.cellAt 0 rfl 0 rfl
  have k0_1 := hs120.cellAt 0 rfl 1 rfl
  obtain ⟨a9, c9, rfl, _⟩ := fr9.len
  have HAC := Lib.hid ((fr9.tight).wk (C := fun z => w.heap.size + 1 ≤ z ∧ z < w118.heap.size) (fun z hz => ⟨by have := hz.1; omega, hz.2⟩))
  clear fr9 ok9
  have hs123 := hs120.alloc #[.int .i64 SZ, .slice a9 l9.length c9] 26 (n := w118.heap.size) (by simp)
  have HSR_124 := Lib.hid (Src.mono HSR_121.out (belowA _ (.cells #[.int .i64 SZ, .slice a9 l9.length c9] 26)))
  clear HSR_121
  have HAC_125 := Lib.hid (AccP.mono HAC.out (belowA _ (.cells #[.int .i64 SZ, .slice a9 l9.length c9] 26)))
  clear HAC
  clear k0_0 k0_1
  have k0_0 := hs123.cellAt 0 rfl 0 rfl
  have k0_1 := hs123.cellAt 0 rfl 1 rfl
  have k1_0 := hs123.cellAt 1 rfl 0 rfl
  have k1_1 := hs123.cellAt 1 rfl 1 rfl
  go_wp2_with fail
  refine (pick_c 20 L B b (k + 1 + 10000) _ HSR_124.out (by omega) (by omega) (by omega)).mono ?_
  rintro e w126 ⟨PK, rfl, hp0, hp1, hrw126, hbw126⟩
  obtain ⟨wz127, hs128, hz_wz127, hy_wz127, hc_wz127⟩ := hs123.cut hbw126 (by intro k hk; simp only [List.mem_singleton] at hk; omega)
  have hz_w126 : w118.heap.size + 1 ≤ w126.heap.size := by have h9 := hbw126.size; (try simp at h9); omega
  have HSR_129 := Lib.hid hrw126
  clear HSR_124
  have HBT_130 := Lib.hid (HBT_122.out.trans hc_wz127)
  clear HBT_122
  have HAC_131 := Lib.hid (AccP.butL HAC_125.out hbw126 (by intro k hk; simp only [List.mem_singleton] at hk; omega))
  clear HAC_125
  clear hrw126 hc_wz127
  clear k0_0 k0_1 k1_0 k1_1
  have k0_0 := hs128.cellAt 0 rfl 0 rfl
  have k0_1 := hs128.cellAt 0 rfl 1 rfl
  have k1_0 := hs128.cellAt 1 rfl 0 rfl
  have k1_1 := hs128.cellAt 1 rfl 1 rfl
  by_cases e0 : PK = 0
  · subst e0
    go_wp2_with fail
    have hs132 := hs128.alloc #[.int .i64 0, .int .i64 5, .int .i64 1] 2 (n := w126.heap.size) (by simp)
    have HSR_133 := Lib.hid (Src.mono HSR_129.out (belowA _ (.cells #[.int .i64 0, .int .i64 5, .int .i64 1] 2)))
    clear HSR_129
    have HAC_134 := Lib.hid (AccP.mono HAC_131.out (belowA _ (.cells #[.int .i64 0, .int .i64 5, .int .i64 1] 2)))
    clear HAC_131
    clear k0_0 k0_1 k1_0 k1_1
    have k0_0 := hs132.cellAt 0 rfl 0 rfl
    have k0_1 := hs132.cellAt 0 rfl 1 rfl
    have k1_0 := hs132.cellAt 1 rfl 0 rfl
    have k1_1 := hs132.cellAt 1 rfl 1 rfl
    have k2_0 := hs132.cellAt 2 rfl 0 rfl
    have k2_1 := hs132.cellAt 2 rfl 1 rfl
    have k2_2 := hs132.cellAt 2 rfl 2 rfl
    have HLI := Lib.hid (fresh_ilits [0, 5, 1] (lo := w.heap.size) (hs132.box (w126.heap.size, #[.int .i64 0, .int .i64 5, .int .i64 1], 2) (by simp)).2.2 (by (try simp); omega) (small_i64 (by decide)) (by simp))
    go_wp2_with fail
    refine (among_c [0, 5, 1] _ w.heap.size L B b (k + 1 + 10000 + 1) _ HSR_133.out (by omega) HLI.out (by omega) (by simp) (by simp)).mono ?_
    rintro e w135 ⟨X0, rfl, hX0, hrw135, hbw135⟩
    obtain ⟨wz136, hs137, hz_wz136, hy_wz136, hc_wz136⟩ := hs132.cut hbw135 (by intro k hk; simp only [List.mem_singleton] at hk; omega)
    have hz_w135 : w126.heap.size + 1 ≤ w135.heap.size := by have h9 := hbw135.size; (try simp at h9); omega
    have HSR_138 := Lib.hid hrw135
    clear HSR_133
    have HBT_139 := Lib.hid (HBT_130.out.trans hc_wz136)
    clear HBT_130
    have HAC_140 := Lib.hid (AccP.butL HAC_134.out hbw135 (by intro k hk; simp only [List.mem_singleton] at hk; omega))
    clear HAC_134
    clear hrw135 hc_wz136
    clear k0_0 k0_1 k1_0 k1_1 k2_0 k2_1 k2_2
    have k0_0 := hs137.cellAt 0 rfl 0 rfl
    have k0_1 := hs137.cellAt 0 rfl 1 rfl
    have k1_0 := hs137.cellAt 1 rfl 0 rfl
    have k1_1 := hs137.cellAt 1 rfl 1 rfl
    have k2_0 := hs137.cellAt 2 rfl 0 rfl
    have k2_1 := hs137.cellAt 2 rfl 1 rfl
    have k2_2 := hs137.cellAt 2 rfl 2 rfl
    have hx4 : 0 ≤ X0 ∧ X0 ≤ 5 := by simp at hX0; omega
    clear hX0
    have f1_0 := hs137.freeAt 1 rfl 0
    have f1_1 := hs137.freeAt 1 rfl 1
    go_upto_region 11 with fail
    have hs141 := hs137.set (p := [_]) (by simp <;> omega) 0 (.int .i64 X0)
    have HSR_142 := Lib.hid (Src.below (B := B) HSR_138.out ((Below.refl B _).setCell (p := ⟨w118.heap.size, 0, none⟩) (by (try simp) <;> omega) (.int .i64 X0)))
    clear HSR_138
    have HAC_143 := Lib.hid (AccP.setCell (b := w118.heap.size) (o := 0) HAC_140.out (.int .i64 X0) (by intro hA9; (try simp only at hA9); omega))
    clear HAC_140
    clear k0_0 k0_1 k1_0 k1_1 k2_0 k2_1 k2_2
    have hz_wE : w135.heap.size ≤ ((w135.setCell ⟨w118.heap.size, 0, none⟩ (.int .i64 X0))).heap.size := by simp [World.setCell]
    generalize hgen_wE : (w135.setCell ⟨w118.heap.size, 0, none⟩ (.int .i64 X0)) = wE at *
    clear hgen_wE
    have k0_0 := hs141.cellAt 0 rfl 0 rfl
    have k0_1 := hs141.cellAt 0 rfl 1 rfl
    have k1_0 := hs141.cellAt 1 rfl 0 rfl
    have k1_1 := hs141.cellAt 1 rfl 1 rfl
    have k2_0 := hs141.cellAt 2 rfl 0 rfl
    have k2_1 := hs141.cellAt 2 rfl 1 rfl
    have k2_2 := hs141.cellAt 2 rfl 2 rfl
    have f0_0 := hs141.freeAt 0 rfl 0
    have f0_1 := hs141.freeAt 0 rfl 1
    go_wp2_with fail
    have hs144 := hs141.set (p := []) (by simp <;> omega) 0 (.int .i64 X0)
    have hs145 := hs144.set (p := []) (by simp <;> omega) 1 ((.slice a9 l9.length c9))
    have HSR_146 := Lib.hid (Src.below (B := B) (Src.below (B := B) HSR_142.out ((Below.refl B _).setCell (p := ⟨w.heap.size, 0, none⟩) (by (try simp) <;> omega) (.int .i64 X0))) ((Below.refl B _).setCell (p := ⟨w.heap.size, 1, none⟩) (by (try simp) <;> omega) ((.slice a9 l9.length c9))))
    clear HSR_142
    have HAC_147 := Lib.hid (AccP.setCell (b := w.heap.size) (o := 1) (AccP.setCell (b := w.heap.size) (o := 0) HAC_143.out (.int .i64 X0) (by intro hA9; (try simp only at hA9); omega)) ((.slice a9 l9.length c9)) (by intro hA9; (try simp only at hA9); omega))
    clear HAC_143
    clear k0_0 k0_1 k1_0 k1_1 k2_0 k2_1 k2_2
    have hz_wQ : wE.heap.size ≤ (((wE.setCell ⟨w.heap.size, 0, none⟩ (.int .i64 X0)).setCell ⟨w.heap.size, 1, none⟩ ((.slice a9 l9.length c9)))).heap.size := by simp [World.setCell]
    generalize hgen_wQ : ((wE.setCell ⟨w.heap.size, 0, none⟩ (.int .i64 X0)).setCell ⟨w.heap.size, 1, none⟩ ((.slice a9 l9.length c9))) = wQ at *
    clear hgen_wQ
    have k0_0 := hs145.cellAt 0 rfl 0 rfl
    have k0_1 := hs145.cellAt 0 rfl 1 rfl
    have k1_0 := hs145.cellAt 1 rfl 0 rfl
    have k1_1 := hs145.cellAt 1 rfl 1 rfl
    have k2_0 := hs145.cellAt 2 rfl 0 rfl
    have k2_1 := hs145.cellAt 2 rfl 1 rfl
    have k2_2 := hs145.cellAt 2 rfl 2 rfl
    have x0 := (hs145.cellAt 0 rfl 0 rfl)
    have x1 := (hs145.cellAt 0 rfl 1 rfl)
    have hsf := fresh_icD (p := X0) ⟨by omega, by omega⟩ ((HAC_147.out.ip).fresh (lo := w.heap.size) (fun z hz => by have := hz.1; omega))
    refine bodyPost_ret (v := .agg #[.int .i64 X0, (.slice a9 l9.length c9)]) (by simp [results, Tryz.results70, go_sem, x0, x1]) rfl ?_
    first
      | exact ⟨X0, (.slice a9 l9.length c9), rfl, l9, hsf, HSR_146.out.more (by omega), HBT_139.out.trans (but_of hs145.bel)⟩
      | exact ⟨X0, (.slice a9 l9.length c9), rfl, ⟨l9, hsf⟩, HSR_146.out.more (by omega), HBT_139.out.trans (but_of hs145.bel)⟩
  have n0 := eqb_no e0
  by_cases e1 : PK = 1
  · subst e1
    go_wp2_with fail
    refine (l01Bent_c L B b (k + 1 + 10000 + 1) _ HSR_129.out (by (try simp); omega) (by omega)).mono ?_
    rintro e w148 ⟨S2, A2, V2, rfl, hS2, L2, fr2, hl2, hrw148, hbw148⟩
    obtain ⟨wz149, hs150, hz_wz149, hy_wz149, hc_wz149⟩ := hs128.cut hbw148 (by intro k hk; simp only [List.mem_singleton] at hk; omega)
    have hz_w148 : w126.heap.size ≤ w148.heap.size := by have h9 := hbw148.size; (try simp at h9); omega
    have HSR_151 := Lib.hid hrw148
    clear HSR_129
    have HBT_152 := Lib.hid (HBT_130.out.trans hc_wz149)
    clear HBT_130
    have HAC_153 := Lib.hid (AccP.butL HAC_131.out hbw148 (by intro k hk; simp only [List.mem_singleton] at hk; omega))
    clear HAC_131
    clear hrw148 hc_wz149
    clear k0_0 k0_1 k1_0 k1_1
    have k0_0 := hs150.cellAt 0 rfl 0 rfl
    have k0_1 := hs150.cellAt 0 rfl 1 rfl
    have k1_0 := hs150.cellAt 1 rfl 0 rfl
    have k1_1 := hs150.cellAt 1 rfl 1 rfl
    have HI2 := Lib.hid ((fr2.ip).wk (B := fun z => w118.heap.size + 1 ≤ z ∧ z < w148.heap.size) (fun z hz => by (try simp at hz); omega))
    have z2 := rd_cons rfl fr2.rd
    obtain ⟨a2, c2, rfl, _⟩ := rd_list z2.2
    clear fr2 z2
    have hs154 := hs150.alloc #[.int .i64 A2, .slice a2 L2.length c2] 57 (n := w148.heap.size) (by simp)
    have HSR_155 := Lib.hid (Src.mono HSR_151.out (belowA _ (.cells #[.int .i64 A2, .slice a2 L2.length c2] 57)))
    clear HSR_151
    have HAC_156 := Lib.hid (AccP.mono HAC_153.out (belowA _ (.cells #[.int .i64 A2, .slice a2 L2.length c2] 57)))
    clear HAC_153
    have HI2_157 := Lib.hid (Ip.mono HI2.out (belowA _ (.cells #[.int .i64 A2, .slice a2 L2.length c2] 57)))
    clear HI2
    clear k0_0 k0_1 k1_0 k1_1
    have k0_0 := hs154.cellAt 0 rfl 0 rfl
    have k0_1 := hs154.cellAt 0 rfl 1 rfl
    have k1_0 := hs154.cellAt 1 rfl 0 rfl
    have k1_1 := hs154.cellAt 1 rfl 1 rfl
    have k2_0 := hs154.cellAt 2 rfl 0 rfl
    have k2_1 := hs154.cellAt 2 rfl 1 rfl
    go_upto_region 7 with fail
    have hz_wA : w148.heap.size + 1 ≤ ((w148.alloc (.cells #[.int .i64 A2, .slice a2 L2.length c2] 57))).heap.size := by simp
    generalize hgen_wA : (w148.alloc (.cells #[.int .i64 A2, .slice a2 L2.length c2] 57)) = wA at *
    clear hgen_wA
    have q9 := (hs154.cellAt 1 rfl 1 rfl)
    have hb9 := belowA wA (.cells #[.int .i64 A2, (.slice a2 L2.length c2)] 57)
    have HS9 := Lib.hid (hs154.step hb9)
    have HR9 := Lib.hid (HSR_155.out.below (hb9.mono (by omega)))
    have HSZ9 := Lib.hid (show (wA.alloc (.cells #[.int .i64 A2, (.slice a2 L2.length c2)] 57)).heap.size = wA.heap.size + 1 by simp)
    go_upto_region 11 with (at_builtin; go_loud (refine wpList_append_accP _ rfl _ _ _ rfl E_rels rfl (AccP.mono HAC_156.out (belowA _ _)) (Ip.mono HI2_157.out (belowA _ _)) (fun z h1 h2 => by first | exact (h2 : False).elim | ((try simp only at h1 h2); omega)) ⟨wA.heap.size, 0, none⟩ 1 rfl (news2 (cell_at_block (heap_alloc_new _ _)) (cell_at_block (heap_alloc_new _ _))) (by omega) ?_); (try simp only [HLN.out]); intro a8 c8 w8a hA8 hB8; go_loud (have hs8 := HS9.out.butP hB8 (fun z hz => by have := hz.1; omega) (fun x hx hA => by have h1 := hA.1; have h2 := hA.2; simp at hx; rcases hx with rfl | rfl | rfl <;> (try simp only at h1 h2) <;> omega)); have q2 := hs8.cellAt 1 rfl 1 rfl; have f2 := hs8.freeAt 1 rfl 1)
    have hz8 := hB8.size
    have hs7 := hs8.low (B' := w118.heap.size + 1) (bx' := [(w.heap.size, #[.int .i64 0, .slice none 0 0], 26), (w118.heap.size, #[.int .i64 SZ, .slice a9 l9.length c9], 26)]) (by omega) (by omega) (fun x hx => ⟨by simp at hx ⊢; rcases hx with rfl | rfl <;> simp, by simp at hx; rcases hx with rfl | rfl <;> (try simp only) <;> omega⟩)
    have HQ8 := hs7.set (p := [_]) (by simp <;> omega) 1 (.slice a8 (l9.length + 1) c8)
    have HA9 := Lib.hid ((AccP.setCell (b := w118.heap.size) (o := 1) hA8.tight (.slice a8 (l9.length + 1) c8) (by intro hA9; have h1 := hA9.1; (try simp at h1); omega)).wk (C := fun z => (w.heap.size + 1 ≤ z ∧ z ≠ w118.heap.size) ∧ z < w8a.heap.size) (fun z hz => by
      have h2 := hz.2
      have h3 := HSZ9.out
      rcases hz.1 with h | h | h
      · (try simp only at h); omega
      · first | exact (h : False).elim | ((try simp only at h); omega)
      · rw [h] at h2 ⊢; omega))
    have HR8 := Lib.hid ((HR9.out.below (hB8.below (fun z hz => by have := hz.1; omega) (by have := HSZ9.out; omega))).below ((Below.refl B w8a).setCell (p := ⟨w118.heap.size, 1, none⟩) (by (try simp); omega) (.slice a8 (l9.length + 1) c8)))
    have HSZ := Lib.hid (show (w8a.setCell ⟨w118.heap.size, 1, none⟩ (.slice a8 (l9.length + 1) c8)).heap.size = w8a.heap.size by simp [World.setCell])
    have HBT8 := Lib.hid HBT_152.out
    have HAC := HA9
    have HSR := HR8
    have HBT := HBT8
    clear HA9 HR8 HBT8
    generalize hwY : w8a.setCell ⟨w118.heap.size, 1, none⟩ (.slice a8 (l9.length + 1) c8) = wY at *
    have k0_0 := HQ8.cellAt 0 rfl 0 rfl
    have k0_1 := HQ8.cellAt 0 rfl 1 rfl
    have k1_0 := HQ8.cellAt 1 rfl 0 rfl
    have k1_1 := HQ8.cellAt 1 rfl 1 rfl
    have f0_0 := HQ8.freeAt 0 rfl 0
    have f0_1 := HQ8.freeAt 0 rfl 1
    go_wp2_with fail
    have hs158 := HQ8.set (p := []) (by simp <;> omega) 0 (.int .i64 SZ)
    have hs159 := hs158.set (p := []) (by simp <;> omega) 1 ((.slice a8 (l9.length + 1) c8))
    have HAC_160 := Lib.hid (AccP.setCell (b := w.heap.size) (o := 1) (AccP.setCell (b := w.heap.size) (o := 0) HAC.out (.int .i64 SZ) (by intro hA9; (try simp only at hA9); omega)) ((.slice a8 (l9.length + 1) c8)) (by intro hA9; (try simp only at hA9); omega))
    clear HAC
    have HSR_161 := Lib.hid (Src.below (B := B) (Src.below (B := B) HSR.out ((Below.refl B _).setCell (p := ⟨w.heap.size, 0, none⟩) (by (try simp) <;> omega) (.int .i64 SZ))) ((Below.refl B _).setCell (p := ⟨w.heap.size, 1, none⟩) (by (try simp) <;> omega) ((.slice a8 (l9.length + 1) c8))))
    clear HSR
    clear k0_0 k0_1 k1_0 k1_1
    have hz_wQ : wY.heap.size ≤ (((wY.setCell ⟨w.heap.size, 0, none⟩ (.int .i64 SZ)).setCell ⟨w.heap.size, 1, none⟩ ((.slice a8 (l9.length + 1) c8)))).heap.size := by simp [World.setCell]
    generalize hgen_wQ : ((wY.setCell ⟨w.heap.size, 0, none⟩ (.int .i64 SZ)).setCell ⟨w.heap.size, 1, none⟩ ((.slice a8 (l9.length + 1) c8))) = wQ at *
    clear hgen_wQ
    have k0_0 := hs159.cellAt 0 rfl 0 rfl
    have k0_1 := hs159.cellAt 0 rfl 1 rfl
    have k1_0 := hs159.cellAt 1 rfl 0 rfl
    have k1_1 := hs159.cellAt 1 rfl 1 rfl
    have x0 := (hs159.cellAt 0 rfl 0 rfl)
    have x1 := (hs159.cellAt 0 rfl 1 rfl)
    have hsf := fresh_icD (p := SZ) ⟨by omega, by omega⟩ ((HAC_160.out.ip).fresh (lo := w.heap.size) (fun z hz => by have := hz.1; omega))
    refine bodyPost_ret (v := .agg #[.int .i64 SZ, (.slice a8 (l9.length + 1) c8)]) (by simp [results, Tryz.results70, go_sem, x0, x1]) rfl ?_
    first
      | exact ⟨SZ, (.slice a8 (l9.length + 1) c8), rfl, l9 ++ [(A2, L2)], hsf, HSR_161.out.more (by omega), HBT.out.trans (but_of hs159.bel)⟩
      | exact ⟨SZ, (.slice a8 (l9.length + 1) c8), rfl, ⟨l9 ++ [(A2, L2)], hsf⟩, HSR_161.out.more (by omega), HBT.out.trans (but_of hs159.bel)⟩
  have n1 := eqb_no e1
  by_cases e2 : PK = 2
  · subst e2
    go_wp2_with fail
    have HST := Lib.hid hs128
    have HSR9 := Lib.hid HSR_129.out
    have HBT9 := Lib.hid HBT_130.out
    have HAC9 := Lib.hid (HAC_131.out.wk (C := fun z => (w.heap.size + 1 ≤ z ∧ z ≠ w118.heap.size) ∧ z < w126.heap.size) (fun z hz => ⟨⟨hz.1, by have := hz.2; omega⟩, by have := hz.2; omega⟩))
    obtain ⟨OA, hOA⟩ : ∃ z, z = w118.heap.size := ⟨_, rfl⟩
    have hzz : w.heap.size + 1 ≤ OA := by omega
    rw [← hOA] at HST HAC9 ⊢
    clear hOA
    go_loopw [] (fun wl => ∃ (n : Nat) (wz : World) (a : Option Addr) (c : Nat) (l : List RelT), Hid (l.length = n ∧ n ≤ 7) ∧ Hid (wz.heap.size = w.heap.size ∧ But [b] w wz) ∧ Hid (St wz (OA + 1) wl [(w.heap.size, #[.int .i64 0, .slice none 0 0], 26), (OA, #[.int .i64 SZ, .slice a n c], 26)]) ∧ Hid (AccP (fun z => (w.heap.size + 1 ≤ z ∧ z ≠ OA) ∧ z < wl.heap.size) 57 wl (.slice a n c) l) ∧ Hid (Src L B wl b (k + 10010 + n))) (fun wl => 8 - lenOf wl OA)
    case atStart => exact ⟨l9.length, wz127, a9, c9, l9, ⟨rfl, by omega⟩, ⟨by omega, HBT9.out⟩, HST.out, HAC9.out, HSR9.out.more (by omega)⟩
    case round =>
      clear HST HSR9 HBT9 HAC9
      obtain ⟨n, wz, a, c, l, hl, hwz, hst, hac, hsr⟩ := hrel
      have HLN := Lib.hid hl.out.1
      have hn7 := hl.out.2
      have HAC := hac
      have HSR := hsr
      have hwz1 := hwz.out.1
      have HBT := Lib.hid hwz.out.2
      have hs0 := hst.out
      have hszr := hst.out.hi
      have hlo0 := hst.out.lo
      have HM0 := Lib.hid (lenOf_at (hs0.cellAt 1 rfl 1 rfl))
      clear hac hsr
      have k0_0 := hs0.cellAt 0 rfl 0 rfl
      have k0_1 := hs0.cellAt 0 rfl 1 rfl
      have k1_0 := hs0.cellAt 1 rfl 0 rfl
      have k1_1 := hs0.cellAt 1 rfl 1 rfl
      go_upto_region 9 with fail
      refine wp_region_noPanic (wp_region_tree4 (fun w' => w'.cell? ⟨w.heap.size, 0, none⟩ = some (.int .i64 0) ∧ w'.cell? ⟨w.heap.size, 1, none⟩ = some (.slice none 0 0) ∧ w'.cell? ⟨OA, 0, none⟩ = some (.int .i64 SZ) ∧ w'.cell? ⟨OA, 1, none⟩ = some (.slice a n c)) (.float 0 (.float 1 (.float 2 (.float 3 (.hard 4 (.float 5 (.float 6 .nil))))))) (by kernel_rfl) (by kernel_rfl) (by kernel_rfl) rfl ?_ (fun _ _ _ _ _ h => h) ?_)
      · exact ⟨(hs0.drew).cellAt 0 rfl 0 rfl, (hs0.drew).cellAt 0 rfl 1 rfl, (hs0.drew).cellAt 1 rfl 0 rfl, (hs0.drew).cellAt 1 rfl 1 rfl⟩
      have hs162 := hs0.drew
      have HAC_163 := Lib.hid (AccP.mono HAC.out (belowD _))
      clear HAC
      have HSR_164 := Lib.hid (Src.mono HSR.out (belowD _))
      clear HSR
      clear k0_0 k0_1 k1_0 k1_1
      have hz_wd165 : wr.heap.size ≤ (wr.drew).heap.size := by simp
      generalize hgen_wd165 : wr.drew = wd165 at *
      have HG_wd165 := Lib.hid hgen_wd165
      clear hgen_wd165
      (repeat (first | (apply t4_skip rfl (by rfl); try simp only [Act.put, List.setIfInBounds_toArray, List.set_cons_zero, List.set_cons_succ]) | (apply t4_float rfl (by rfl); (· (intro w' hS; go_simp <;> with_reducible rfl)); (try simp only [Act.put, List.setIfInBounds_toArray, List.set_cons_zero, List.set_cons_succ]))))
      refine t4_hard rfl (by rfl) (fun K hK => ?_)
      go_wp2_with (go_at_call 38; refine (pick_c 2 L B b (k + 10010 + n) _ HSR_164.out (by omega) (by omega) (by omega)).mono ?_; rintro e w166 ⟨r1, rfl, hr0, hr1, hrw166, hbw166⟩)
      obtain ⟨wz167, hs168, hz_wz167, hy_wz167, hc_wz167⟩ := hs162.cut hbw166 (by intro k hk; simp only [List.mem_singleton] at hk; omega)
      have hz_w166 : wd165.heap.size ≤ w166.heap.size := by have h9 := hbw166.size; (try simp at h9); omega
      have HAC_169 := Lib.hid (AccP.butL HAC_163.out hbw166 (by intro k hk; simp only [List.mem_singleton] at hk; omega))
      clear HAC_163
      have HSR_170 := Lib.hid hrw166
      clear HSR_164
      have HBT_171 := Lib.hid (HBT.out.trans hc_wz167)
      clear HBT
      clear hrw166 hc_wz167
      have hw6 : IntKind.i64.wrap (6 + r1) = 6 + r1 := i64_in _ (by omega)
      refine ⟨⟨hs168.cellAt 0 rfl 0 rfl, hs168.cellAt 0 rfl 1 rfl, hs168.cellAt 1 rfl 0 rfl, hs168.cellAt 1 rfl 1 rfl⟩, ?_⟩
      (repeat (first | (apply t4_skip rfl (by rfl); try simp only [Act.put, List.setIfInBounds_toArray, List.set_cons_zero, List.set_cons_succ]) | (apply t4_float rfl (by rfl); (· (intro w' hS; go_simp <;> with_reducible rfl)); (try simp only [Act.put, List.setIfInBounds_toArray, List.set_cons_zero, List.set_cons_succ]))))
      have k0_0 := hs168.cellAt 0 rfl 0 rfl
      have k0_1 := hs168.cellAt 0 rfl 1 rfl
      have k1_0 := hs168.cellAt 1 rfl 0 rfl
      have k1_1 := hs168.cellAt 1 rfl 1 rfl
      refine t4_nil (NoPanic.normal ?_)
      by_cases hlt : (n : Int) < 6 + r1
      · have hlnw := HLN.out
        have HN1 := Lib.hid (ip_relD (k := 1) ⟨by omega, by omega⟩ (AccP.nil (α := List Int) (fun _ => False) 47 w166).ip)
        have q9 := (hs168.cellAt 1 rfl 1 rfl)
        have hb9 := belowA w166 (.cells #[.int .i64 1, (.slice none 0 0)] 57)
        have HS9 := Lib.hid (hs168.step hb9)
        have HR9 := Lib.hid (HSR_170.out.below (hb9.mono (by omega)))
        have HSZ9 := Lib.hid (show (w166.alloc (.cells #[.int .i64 1, (.slice none 0 0)] 57)).heap.size = w166.heap.size + 1 by simp)
        go_wp2_with (at_builtin; go_loud (refine wpList_append_accP _ rfl _ _ _ rfl E_rels rfl (AccP.mono HAC_169.out (belowA _ _)) (Ip.mono HN1.out (belowA _ _)) (fun z h1 h2 => by first | exact (h2 : False).elim | ((try simp only at h1 h2); omega)) ⟨w166.heap.size, 0, none⟩ 1 rfl (news2 (cell_at_block (heap_alloc_new _ _)) (cell_at_block (heap_alloc_new _ _))) (by omega) ?_); (try simp only [HLN.out]); intro a8 c8 w8a hA8 hB8; go_loud (have hs8 := HS9.out.butP hB8 (fun z hz => by have := hz.1; omega) (fun x hx hA => by have h1 := hA.1; have h2 := hA.2; simp at hx; rcases hx with rfl | rfl <;> (try simp only at h1 h2) <;> omega)); have q2 := hs8.cellAt 1 rfl 1 rfl; have f2 := hs8.freeAt 1 rfl 1)
        have hz8 := hB8.size
        have hs7 := hs8.low (B' := OA + 1) (bx' := [(w.heap.size, #[.int .i64 0, .slice none 0 0], 26), (OA, #[.int .i64 SZ, .slice a n c], 26)]) (by omega) (by omega) (fun x hx => ⟨by simp at hx ⊢; rcases hx with rfl | rfl <;> simp, by simp at hx; rcases hx with rfl | rfl <;> (try simp only) <;> omega⟩)
        have HQ8 := hs7.set (p := [_]) (by simp <;> omega) 1 (.slice a8 (n + 1) c8)
        have HA9 := Lib.hid ((AccP.setCell (b := OA) (o := 1) hA8.tight (.slice a8 (n + 1) c8) (by intro hA9; have h1 := hA9.1; (try simp at h1); omega)).wk (C := fun z => (w.heap.size + 1 ≤ z ∧ z ≠ OA) ∧ z < w8a.heap.size) (fun z hz => by
          have h2 := hz.2
          have h3 := HSZ9.out
          rcases hz.1 with h | h | h
          · (try simp only at h); omega
          · first | exact (h : False).elim | ((try simp only at h); omega)
          · rw [h] at h2 ⊢; omega))
        have HR8 := Lib.hid ((HR9.out.below (hB8.below (fun z hz => by have := hz.1; omega) (by have := HSZ9.out; omega))).below ((Below.refl B w8a).setCell (p := ⟨OA, 1, none⟩) (by (try simp); omega) (.slice a8 (n + 1) c8)))
        have HSZ := Lib.hid (show (w8a.setCell ⟨OA, 1, none⟩ (.slice a8 (n + 1) c8)).heap.size = w8a.heap.size by simp [World.setCell])
        have HBT8 := Lib.hid HBT_171.out
        have HM9 := Lib.hid (lenOf_at (HQ8.cellAt 1 rfl 1 rfl))
        go_wp2_with fail
        go_roundw
        case measure => have h1 := HM0.out; have h2 := HM9.out; (try simp only at h1 h2 ⊢); omega
        exact ⟨n + 1, wz167, a8, c8, l ++ [((1 : Int), [])], ⟨by simp [hlnw], by omega⟩, ⟨by omega, HBT8.out⟩, HQ8, HA9.out.wk (fun z hz => by rw [HSZ.out]; exact hz), HR8.out.more (by omega)⟩
      · skip
        have f0_0 := hs168.freeAt 0 rfl 0
        have f0_1 := hs168.freeAt 0 rfl 1
        go_wp2_with fail
        have hs172 := hs168.set (p := []) (by simp <;> omega) 0 (.int .i64 SZ)
        have hs173 := hs172.set (p := []) (by simp <;> omega) 1 ((.slice a n c))
        have HAC_174 := Lib.hid (AccP.setCell (b := w.heap.size) (o := 1) (AccP.setCell (b := w.heap.size) (o := 0) HAC_169.out (.int .i64 SZ) (by intro hA9; (try simp only at hA9); omega)) ((.slice a n c)) (by intro hA9; (try simp only at hA9); omega))
        clear HAC_169
        have HSR_175 := Lib.hid (Src.below (B := B) (Src.below (B := B) HSR_170.out ((Below.refl B _).setCell (p := ⟨w.heap.size, 0, none⟩) (by (try simp) <;> omega) (.int .i64 SZ))) ((Below.refl B _).setCell (p := ⟨w.heap.size, 1, none⟩) (by (try simp) <;> omega) ((.slice a n c))))
        clear HSR_170
        clear k0_0 k0_1 k1_0 k1_1
        have hz_wQ : w166.heap.size ≤ (((w166.setCell ⟨w.heap.size, 0, none⟩ (.int .i64 SZ)).setCell ⟨w.heap.size, 1, none⟩ ((.slice a n c)))).heap.size := by simp [World.setCell]
        generalize hgen_wQ : ((w166.setCell ⟨w.heap.size, 0, none⟩ (.int .i64 SZ)).setCell ⟨w.heap.size, 1, none⟩ ((.slice a n c))) = wQ at *
        clear hgen_wQ
        have k0_0 := hs173.cellAt 0 rfl 0 rfl
        have k0_1 := hs173.cellAt 0 rfl 1 rfl
        have k1_0 := hs173.cellAt 1 rfl 0 rfl
        have k1_1 := hs173.cellAt 1 rfl 1 rfl
        have x0 := (hs173.cellAt 0 rfl 0 rfl)
        have x1 := (hs173.cellAt 0 rfl 1 rfl)
        have hsf := fresh_icD (p := SZ) ⟨by omega, by omega⟩ ((HAC_174.out.ip).fresh (lo := w.heap.size) (fun z hz => by have := hz.1; omega))
        refine bodyPost_ret (v := .agg #[.int .i64 SZ, (.slice a n c)]) (by simp [results, Tryz.results70, go_sem, x0, x1]) rfl ?_
        first
          | exact ⟨SZ, (.slice a n c), rfl, l, hsf, HSR_175.out.more (by omega), HBT_171.out.trans (but_of hs173.bel)⟩
          | exact ⟨SZ, (.slice a n c), rfl, ⟨l, hsf⟩, HSR_175.out.more (by omega), HBT_171.out.trans (but_of hs173.bel)⟩
  have n2 := eqb_no e2
  go_upto_region 11 with fail
  have f0_0 := hs128.freeAt 0 rfl 0
  have f0_1 := hs128.freeAt 0 rfl 1
  go_wp2_with fail
  have hs176 := hs128.set (p := []) (by simp <;> omega) 0 (.int .i64 SZ)
  have hs177 := hs176.set (p := []) (by simp <;> omega) 1 ((.slice a9 l9.length c9))
  have HSR_178 := Lib.hid (Src.below (B := B) (Src.below (B := B) HSR_129.out ((Below.refl B _).setCell (p := ⟨w.heap.size, 0, none⟩) (by (try simp) <;> omega) (.int .i64 SZ))) ((Below.refl B _).setCell (p := ⟨w.heap.size, 1, none⟩) (by (try simp) <;> omega) ((.slice a9 l9.length c9))))
  clear HSR_129
  have HAC_179 := Lib.hid (AccP.setCell (b := w.heap.size) (o := 1) (AccP.setCell (b := w.heap.size) (o := 0) HAC_131.out (.int .i64 SZ) (by intro hA9; (try simp only at hA9); omega)) ((.slice a9 l9.length c9)) (by intro hA9; (try simp only at hA9); omega))
  clear HAC_131
  clear k0_0 k0_1 k1_0 k1_1
  have hz_wQ : w126.heap.size ≤ (((w126.setCell ⟨w.heap.size, 0, none⟩ (.int .i64 SZ)).setCell ⟨w.heap.size, 1, none⟩ ((.slice a9 l9.length c9)))).heap.size := by simp [World.setCell]
  generalize hgen_wQ : ((w126.setCell ⟨w.heap.size, 0, none⟩ (.int .i64 SZ)).setCell ⟨w.heap.size, 1, none⟩ ((.slice a9 l9.length c9))) = wQ at *
  clear hgen_wQ
  have k0_0 := hs177.cellAt 0 rfl 0 rfl
  have k0_1 := hs177.cellAt 0 rfl 1 rfl
  have k1_0 := hs177.cellAt 1 rfl 0 rfl
  have k1_1 := hs177.cellAt 1 rfl 1 rfl
  have x0 := (hs177.cellAt 0 rfl 0 rfl)
  have x1 := (hs177.cellAt 0 rfl 1 rfl)
  have hsf := fresh_icD (p := SZ) ⟨by omega, by omega⟩ ((HAC_179.out.ip).fresh (lo := w.heap.size) (fun z hz => by have := hz.1; omega))
  refine bodyPost_ret (v := .agg #[.int .i64 SZ, (.slice a9 l9.length c9)]) (by simp [results, Tryz.results70, go_sem, x0, x1]) rfl ?_
  first
    | exact ⟨SZ, (.slice a9 l9.length c9), rfl, l9, hsf, HSR_178.out.more (by omega), HBT_130.out.trans (but_of hs177.bel)⟩
    | exact ⟨SZ, (.slice a9 l9.length c9), rfl, ⟨l9, hsf⟩, HSR_178.out.more (by omega), HBT_130.out.trans (but_of hs177.bel)⟩
/-- What is read stays readable as long as the blocks from lo on stay as they are. -/
def Firm {α : Type} [Rep α] (lo : Nat) (w : World) (vs : List Value) (x : α) : Prop := ∀ w2 : World, w.heap.size ≤ w2.heap.size → (∀ k, lo ≤ k → k < w.heap.size → w2.heap[k]? = w.heap[k]?) → Rd w2 vs x
theorem Firm.rd {α : Type} [Rep α] {lo : Nat} {w : World} {vs : List Value} {x : α} (h : Firm lo w vs x) : Rd w vs x := h w (Nat.le_refl _) (fun _ _ _ => rfl)
theorem Firm.go {α : Type} [Rep α] {lo : Nat} {w w2 : World} {vs : List Value} {x : α} (h : Firm lo w vs x) (hs : w.heap.size ≤ w2.heap.size) (hb : ∀ k, lo ≤ k → k < w.heap.size → w2.heap[k]? = w.heap[k]?) : Firm lo w2 vs x :=
  fun w3 h1 h2 => h w3 (by omega) (fun k hk hk2 => (h2 k hk (by omega)).trans (hb k hk hk2))
theorem Firm.low {α : Type} [Rep α] {lo lo' : Nat} {w : World} {vs : List Value} {x : α} (h : Firm lo w vs x) (hl : lo' ≤ lo) : Firm lo' w vs x := fun w2 h1 h2 => h w2 h1 (fun k hk => h2 k (by omega))
theorem Fresh.firm {α : Type} [Rep α] {lo : Nat} {w : World} {vs : List Value} {x : α} (h : Fresh lo w vs x) : Firm lo w vs x := fun w2 h1 h2 => by
  obtain ⟨ps, ho, hn, hA⟩ := h
  exact Rep.own_rd (Rep.own_frame (fun k hk => h2 k (hA k hk) (Rep.own_lt ho k hk)) ho)
theorem AccS.firm {α : Type} [Rep α] {A : Nat → Prop} {e : TypeId} {w : World} {v : Value} {l : List α} (h : AccS A e w v l) {lo : Nat} (hA : ∀ k, A k → lo ≤ k) : Firm lo w [v] l := fun w2 h1 h2 => (h.frame h1 (fun k hk hk2 => h2 k (hA k hk) hk2)).rd
theorem Firm.ic {β : Type} [Rep β] {lo : Nat} {w : World} {v : Value} {k : Int} {y : β} (hk : I64 k) (h : Firm lo w [v] y) : Firm lo w [.int .i64 k, v] (k, y) := fun w2 h1 h2 => ⟨[.int .i64 k], [v], rfl, ⟨rfl, hk⟩, h w2 h1 h2⟩

end Go.Proofs.YtamkfnkikiekaaaGreat

