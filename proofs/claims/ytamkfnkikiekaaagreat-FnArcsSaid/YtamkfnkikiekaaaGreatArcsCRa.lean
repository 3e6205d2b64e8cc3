/-
  CONTRACTS of what the law of arcs calls besides.
-/
import Derived.Test.YtamkfnkikiekaaaGreatDrawHRa
import Derived.Test.YtamkfnkikiekaaaGreatSemiBRa
import Derived.Test.YtamkfnkikiekaaaGreatA2Ra
namespace Go.Proofs.YtamkfnkikiekaaaGreat
open Go.RowKit Go.Shelf Go.IntWalk
open Rep (Rd Own sz)
set_option linter.unusedSimpArgs false
set_option linter.unusedVariables false

theorem rd_lit1 {α : Type} [Rep α] {w : World} {g : Nat} {vs : List Value} {x : α} {ty : TypeId} (h : w.heap[g]? = some (.cells vs.toArray ty (0, 0))) (hx : Rd w vs x) : Rd w [.slice (some ⟨g, 0, none⟩) 1 1] [x] := by
  refine ⟨_, _, rfl, Nat.le_refl _, by decide, fun i hi => ?_⟩
  obtain rfl : i = 0 := by simp at hi; omega
  refine ⟨g, 0, vs, rfl, hx, fun k hk => ?_⟩
  rw [cell_at_block h]
  simp
theorem rd_ic {β : Type} [Rep β] {w : World} {v : Value} {k : Int} {y : β} (hk : I64 k) (h : Rd w [v] y) : Rd w [.int .i64 k, v] (k, y) := ⟨[.int .i64 k], [v], rfl, ⟨rfl, hk⟩, h⟩
theorem f6big_c (a : Option Addr) (n c : Nat) (w : World) (h : n ≤ maxLen) :
    Calls Tryz.prog 4 #[.slice a n c] w fun e w' => e = .returned (.bool (decide (4096 < n))) ∧ w = w' := by
  unfold maxLen at h
  go_enter Tryz.func4, Tryz.ntmps4
  by_cases h1 : 4096 < n
  · have h2 : (4096 : Int) < n := by omega
    go_wp2_with fail
    go_ret
    exact ⟨ret_bool (by simp [h1]), rfl⟩
  · have h2 : ¬ (4096 : Int) < n := by omega
    go_wp2_with fail
    go_ret
    exact ⟨ret_bool (by simp [h1]), rfl⟩
theorem HasNumber_c (l : List Int) (v : Value) (a : Int) (w : World) (r : Rd w [v] l) :
    Calls Tryz.prog 14 #[v, .int .i64 a] w fun e w' => e = .returned (.bool (hasI l a)) ∧ Below w.heap.size w w' := by
  have R1 := Lib.hid r
  clear r
  go_enter Tryz.func14, Tryz.ntmps14
  go_wp2_with fail
  refine (l00Has_c l v a _ R1.out).mono ?_
  rintro e w1 ⟨rfl, hb⟩
  go_wp2_with fail
  go_ret
  exact ⟨rfl, hb⟩
set_option maxRecDepth 100000 in
set_option maxHeartbeats 2000000 in
theorem P6Pick_c (a : Option Addr) (n c : Nat) (l : List Byte) (m : Int) (w : World) (h : Rd w [.slice a n c] l) (h1 : m ≤ 200) :
    Calls Tryz.prog 15 #[.slice a n c, .int .i64 m] w fun e w' => ∃ v : Int, e = .returned (.int .i64 v) ∧ 0 ≤ v ∧ (1 ≤ m → v < m) ∧ Below w.heap.size w w' := by
  have HCo := Lib.hid h
  clear h
  go_enter Tryz.func15, Tryz.ntmps15
  go_wp2_with fail
  refine (l00From_c a n c l _ (Rd.mono HCo.out (St.start w).bel)).mono ?_
  rintro e w1 ⟨rfl, hsr, hb1⟩
  have HSR := Lib.hid hsr
  clear hsr
  have hz_w1 : w.heap.size ≤ w1.heap.size := by have h9 := hb1.size; (try simp at h9); omega
  have hs1 := (St.start w).step hb1
  have hlt1 := HSR.out.lt
  go_wp2_with fail
  refine (pickG_c m _ _ _ 0 _ HSR.out (by omega) h1).mono ?_
  rintro e w2 ⟨v, rfl, hv0, hv1, hsr2, hbut⟩
  have hs9 := hs1.butIv hbut (fun k hk => by simp only [List.mem_singleton] at hk; omega) (fun x hx => by cases hx)
  go_wp2_with fail
  go_ret
  exact ⟨v, rfl, hv0, hv1, hs9.bel⟩
set_option maxRecDepth 100000 in
set_option maxHeartbeats 2000000 in
theorem FullDomains_c (t : Tmpl) (x : Inst) (t0 t1 x0 x1 : Value) (w : World) (ht : Rd w [t0, t1] t) (hx : Rd w [x0, x1] x) (hok : instOk t x = true) :
    Calls Tryz.prog 6 #[.agg #[t0, t1], .agg #[x0, x1]] w fun e w' => ∃ v, e = .returned (.tuple #[v, .int .i64 0]) ∧ Fresh w.heap.size w' [v] (fullD t.1.toNat x.1.toNat) ∧ Below w.heap.size w w' := by
  have HT := Lib.hid ht
  have HX := Lib.hid hx
  have HOK := Lib.hid hok
  have hs := (tmplOk_get (instOk_get hok).1).1
  have hv := (instOk_get hok).2.1
  obtain ⟨size, rs⟩ := t
  obtain ⟨vars, cs⟩ := x
  simp only at hs hv
  obtain ⟨SZ, rfl⟩ : ∃ SZ : Nat, size = (SZ : Int) := ⟨size.toNat, by omega⟩
  obtain ⟨U, rfl⟩ : ∃ U : Nat, vars = (U : Int) := ⟨vars.toNat, by omega⟩
  simp only [Int.toNat_natCast]
  have zt := rd_cons rfl ht
  obtain ⟨rfl, _⟩ := rd_i1 zt.1
  obtain ⟨at0, ct0, rfl, _⟩ := rd_list zt.2
  have zx := rd_cons rfl hx
  obtain ⟨rfl, _⟩ := rd_i1 zx.1
  obtain ⟨ax, cx, rfl, _⟩ := rd_list zx.2
  have HRS := Lib.hid zt.2
  have HCS := Lib.hid zx.2
  clear ht hx zt zx hok
  have hs2 := (St.start w).alloc #[.int .i64 SZ, .slice at0 rs.length ct0] 26 (n := w.heap.size) (by simp)
  have k0_0 := hs2.cellAt 0 rfl 0 rfl
  have k0_1 := hs2.cellAt 0 rfl 1 rfl
  have hs3 := hs2.alloc #[.int .i64 U, .slice ax cs.length cx] 29 (n := w.heap.size + 1) (by simp)
  clear k0_0 k0_1
  have k0_0 := hs3.cellAt 0 rfl 0 rfl
  have k0_1 := hs3.cellAt 0 rfl 1 rfl
  have k1_0 := hs3.cellAt 1 rfl 0 rfl
  have k1_1 := hs3.cellAt 1 rfl 1 rfl
  go_enter Tryz.func6, Tryz.ntmps6
  go_wp2_with fail
  refine (ValidInstance_c ((SZ : Int), rs) ((U : Int), cs) _ _ _ _ _ (Rd.mono HT.out hs3.bel) (Rd.mono HX.out hs3.bel)).mono ?_
  rintro e w4 ⟨rfl, hbw4⟩
  have hz_w4 : w.heap.size + 1 + 1 ≤ w4.heap.size := by have h9 := hbw4.size; (try simp at h9); omega
  have hs5 := hs3.step hbw4
  clear k0_0 k0_1 k1_0 k1_1
  have k0_0 := hs5.cellAt 0 rfl 0 rfl
  have k0_1 := hs5.cellAt 0 rfl 1 rfl
  have k1_0 := hs5.cellAt 1 rfl 0 rfl
  have k1_1 := hs5.cellAt 1 rfl 1 rfl
  rw [HOK.out]
  go_wp2_with fail
  refine (fullDomains_c SZ U rs cs _ _ _ (Rd.mono HRS.out hs5.bel) (Rd.mono HCS.out hs5.bel) (by omega) (by omega)).mono ?_
  rintro e w6 ⟨v9, rfl, fr9, hbw6⟩
  have hz_w6 : w4.heap.size ≤ w6.heap.size := by have h9 := hbw6.size; (try simp at h9); omega
  have hs7 := hs5.step hbw6
  clear k0_0 k0_1 k1_0 k1_1
  have k0_0 := hs7.cellAt 0 rfl 0 rfl
  have k0_1 := hs7.cellAt 0 rfl 1 rfl
  have k1_0 := hs7.cellAt 1 rfl 0 rfl
  have k1_1 := hs7.cellAt 1 rfl 1 rfl
  have HFR := Lib.hid (fr9.ip.fresh (lo := w.heap.size) (fun z hz => by (try simp only at hz); omega))
  clear fr9
  go_wp2_with fail
  exact bodyPost_ret (v := .tuple #[v9, .int .i64 0]) (by simp [results, Tryz.results6, go_sem]) rfl ⟨v9, rfl, HFR.out, hs7.bel⟩
set_option maxRecDepth 100000 in
set_option maxHeartbeats 4000000 in
theorem P6Hard_c (a : Option Addr) (n c : Nat) (l : List Byte) (w : World) (h : Rd w [.slice a n c] l) :
    Calls Tryz.prog 5 #[.slice a n c] w fun e w' => ∃ (s U : Int) (v v2 : Value), e = .returned (.tuple #[.agg #[.int .i64 s, v], .agg #[.int .i64 U, v2]]) ∧ ∃ (rs : List RelT) (l : List OpT), Rd w' [.int .i64 s, v] ((s, rs) : Tmpl) ∧ Rd w' [.int .i64 U, v2] ((U, l) : Inst) ∧ instOk (s, rs) (U, l) = true ∧ Below w.heap.size w w' := by
  have HCo := Lib.hid h
  clear h
  have hs8 := (St.start w).alloc #[.int .i64 0, .slice none 0 0] 26 (n := w.heap.size) (by simp)
  have k0_0 := hs8.cellAt 0 rfl 0 rfl
  have k0_1 := hs8.cellAt 0 rfl 1 rfl
  have hs9 := hs8.alloc #[.int .i64 0, .slice none 0 0] 29 (n := w.heap.size + 1) (by simp)
  clear k0_0 k0_1
  have k0_0 := hs9.cellAt 0 rfl 0 rfl
  have k0_1 := hs9.cellAt 0 rfl 1 rfl
  have k1_0 := hs9.cellAt 1 rfl 0 rfl
  have k1_1 := hs9.cellAt 1 rfl 1 rfl
  go_enter Tryz.func5, Tryz.ntmps5
  have hsz9 : ((w.alloc (.cells #[.int .i64 0, .slice none 0 0] 26)).alloc (.cells #[.int .i64 0, .slice none 0 0] 29)).heap.size = w.heap.size + 1 + 1 := by simp
  go_wp2_with fail
  refine (l00From_c a n c l _ (Rd.mono HCo.out hs9.bel)).mono ?_
  rintro e w1 ⟨rfl, hsr, hb1⟩
  rw [hsz9] at hsr ⊢
  clear hsz9
  have HSR := Lib.hid hsr
  clear hsr
  have hz_w1 : w.heap.size + 1 + 1 ≤ w1.heap.size := by have h9 := hb1.size; (try simp at h9); omega
  have hs10 := hs9.step hb1
  clear k0_0 k0_1 k1_0 k1_1
  have k0_0 := hs10.cellAt 0 rfl 0 rfl
  have k0_1 := hs10.cellAt 0 rfl 1 rfl
  have k1_0 := hs10.cellAt 1 rfl 0 rfl
  have k1_1 := hs10.cellAt 1 rfl 1 rfl
  have hlt1 := HSR.out.lt
  go_wp2_with fail
  refine (l08Hard_c _ _ _ 0 _ HSR.out (by omega) (by omega)).mono ?_
  rintro e w2 ⟨S3, U3, V3, V4, rfl, LT, LI, fi1, fi2, hsr2, hbut⟩
  have hs9 := hs10.butIv hbut (fun k hk => by simp only [List.mem_singleton] at hk; omega) (fun x hx => by simp only [List.mem_singleton]; simp at hx; rcases hx with rfl | rfl <;> (try simp) <;> omega)
  have hz2 : w.heap.size + 1 + 1 ≤ w2.heap.size := by have := hbut.size; omega
  have HF1 := Lib.hid (fi1.low (lo' := w.heap.size + 1 + 1) (by omega))
  have HF2 := Lib.hid (fi2.low (lo' := w.heap.size + 1 + 1) (by omega))
  obtain ⟨a3, c3, rfl, _⟩ := rd_list (rd_cons rfl fi1.rd).2
  obtain ⟨a4, c4, rfl, _⟩ := rd_list (rd_cons rfl fi2.rd).2
  clear fi1 fi2 hsr2 hbut
  clear k0_0 k0_1 k1_0 k1_1
  have k0_0 := hs9.cellAt 0 rfl 0 rfl
  have k0_1 := hs9.cellAt 0 rfl 1 rfl
  have k1_0 := hs9.cellAt 1 rfl 0 rfl
  have k1_1 := hs9.cellAt 1 rfl 1 rfl
  clear k0_0 k0_1 k1_0 k1_1
  have k0_0 := hs9.cellAt 0 rfl 0 rfl
  have k0_1 := hs9.cellAt 0 rfl 1 rfl
  have k1_0 := hs9.cellAt 1 rfl 0 rfl
  have k1_1 := hs9.cellAt 1 rfl 1 rfl
  go_upto_region 2 with fail
  have hs11 := hs9.alloc #[.int .i64 S3, (.slice a3 LT.length c3)] 26 (n := w2.heap.size) (by simp)
  have HF1_12 := Lib.hid (Firm.mono HF1.out (belowA _ (.cells #[.int .i64 S3, (.slice a3 LT.length c3)] 26)))
  clear HF1
  have HF2_13 := Lib.hid (Firm.mono HF2.out (belowA _ (.cells #[.int .i64 S3, (.slice a3 LT.length c3)] 26)))
  clear HF2
  clear k0_0 k0_1 k1_0 k1_1
  have k0_0 := hs11.cellAt 0 rfl 0 rfl
  have k0_1 := hs11.cellAt 0 rfl 1 rfl
  have k1_0 := hs11.cellAt 1 rfl 0 rfl
  have k1_1 := hs11.cellAt 1 rfl 1 rfl
  have k2_0 := hs11.cellAt 2 rfl 0 rfl
  have k2_1 := hs11.cellAt 2 rfl 1 rfl
  have hs14 := hs11.alloc #[.int .i64 U3, (.slice a4 LI.length c4)] 29 (n := w2.heap.size + 1) (by simp)
  have HF1_15 := Lib.hid (Firm.mono HF1_12.out (belowA _ (.cells #[.int .i64 U3, (.slice a4 LI.length c4)] 29)))
  clear HF1_12
  have HF2_16 := Lib.hid (Firm.mono HF2_13.out (belowA _ (.cells #[.int .i64 U3, (.slice a4 LI.length c4)] 29)))
  clear HF2_13
  clear k0_0 k0_1 k1_0 k1_1 k2_0 k2_1
  have k0_0 := hs14.cellAt 0 rfl 0 rfl
  have k0_1 := hs14.cellAt 0 rfl 1 rfl
  have k1_0 := hs14.cellAt 1 rfl 0 rfl
  have k1_1 := hs14.cellAt 1 rfl 1 rfl
  have k2_0 := hs14.cellAt 2 rfl 0 rfl
  have k2_1 := hs14.cellAt 2 rfl 1 rfl
  have k3_0 := hs14.cellAt 3 rfl 0 rfl
  have k3_1 := hs14.cellAt 3 rfl 1 rfl
  have hz_wA : w2.heap.size + 1 + 1 ≤ (((w2.alloc (.cells #[.int .i64 S3, (.slice a3 LT.length c3)] 26)).alloc (.cells #[.int .i64 U3, (.slice a4 LI.length c4)] 29))).heap.size := by simp
  generalize hgen_wA : ((w2.alloc (.cells #[.int .i64 S3, (.slice a3 LT.length c3)] 26)).alloc (.cells #[.int .i64 U3, (.slice a4 LI.length c4)] 29)) = wA at *
  clear hgen_wA
  go_wp2_with fail
  refine (l05Ok_c (S3, LT) (U3, LI) (w2.heap.size) (w2.heap.size + 1) _ _ _ _ _ HF1_15.out.rd HF2_16.out.rd (hs14.cellAt 2 rfl 0 rfl) (hs14.cellAt 2 rfl 1 rfl) (hs14.cellAt 3 rfl 0 rfl) (hs14.cellAt 3 rfl 1 rfl)).mono ?_
  rintro e w17 ⟨rfl, hbw17⟩
  have hz_w17 : wA.heap.size ≤ w17.heap.size := by have h9 := hbw17.size; (try simp at h9); omega
  have hs18 := hs14.step hbw17
  have HF1_19 := Lib.hid (Firm.mono HF1_15.out hbw17)
  clear HF1_15
  have HF2_20 := Lib.hid (Firm.mono HF2_16.out hbw17)
  clear HF2_16
  clear k0_0 k0_1 k1_0 k1_1 k2_0 k2_1 k3_0 k3_1
  have k0_0 := hs18.cellAt 0 rfl 0 rfl
  have k0_1 := hs18.cellAt 0 rfl 1 rfl
  have k1_0 := hs18.cellAt 1 rfl 0 rfl
  have k1_1 := hs18.cellAt 1 rfl 1 rfl
  have k2_0 := hs18.cellAt 2 rfl 0 rfl
  have k2_1 := hs18.cellAt 2 rfl 1 rfl
  have k3_0 := hs18.cellAt 3 rfl 0 rfl
  have k3_1 := hs18.cellAt 3 rfl 1 rfl
  cases hok : instOk (S3, LT) (U3, LI) with
  | true =>
    have HOK := Lib.hid hok
    clear hok
    go_upto_region 5 with fail
    refine wp_region_noPanic (wp_region_tree4 (fun w' => w'.cell? ⟨w.heap.size + 1, 0, none⟩ = some (.int .i64 0) ∧ w'.cell? ⟨w.heap.size + 1, 1, none⟩ = some (.slice none 0 0) ∧ w'.cell? ⟨w2.heap.size, 0, none⟩ = some (.int .i64 S3) ∧ w'.cell? ⟨w2.heap.size, 1, none⟩ = some ((.slice a3 LT.length c3)) ∧ w'.cell? ⟨w2.heap.size + 1, 0, none⟩ = some (.int .i64 U3) ∧ w'.cell? ⟨w2.heap.size + 1, 1, none⟩ = some ((.slice a4 LI.length c4))) (.float 0 (.float 1 (.hard 2 (.last 3 .nil)))) (by kernel_rfl) (by kernel_rfl) (by kernel_rfl) rfl ?_ (fun _ _ _ _ _ h => h) ?_)
    · exact ⟨(hs18.drew).cellAt 1 rfl 0 rfl, (hs18.drew).cellAt 1 rfl 1 rfl, (hs18.drew).cellAt 2 rfl 0 rfl, (hs18.drew).cellAt 2 rfl 1 rfl, (hs18.drew).cellAt 3 rfl 0 rfl, (hs18.drew).cellAt 3 rfl 1 rfl⟩
    have hs21 := hs18.drew
    have HF1_22 := Lib.hid (Firm.mono HF1_19.out (belowD _))
    clear HF1_19
    have HF2_23 := Lib.hid (Firm.mono HF2_20.out (belowD _))
    clear HF2_20
    clear k0_0 k0_1 k1_0 k1_1 k2_0 k2_1 k3_0 k3_1
    have hz_wd24 : w17.heap.size ≤ (w17.drew).heap.size := by simp
    generalize hgen_wd24 : w17.drew = wd24 at *
    have HG_wd24 := Lib.hid hgen_wd24
    clear hgen_wd24
    (repeat (first | (apply t4_skip rfl (by rfl); try simp only [Act.put, List.setIfInBounds_toArray, List.set_cons_zero, List.set_cons_succ]) | (apply t4_float rfl (by rfl); (· (intro w' hS; go_simp <;> with_reducible rfl)); (try simp only [Act.put, List.setIfInBounds_toArray, List.set_cons_zero, List.set_cons_succ]))))
    refine t4_hard rfl (by rfl) (fun K hK => ?_)
    have k0_0 := hs21.cellAt 0 rfl 0 rfl
    have k0_1 := hs21.cellAt 0 rfl 1 rfl
    have k1_0 := hs21.cellAt 1 rfl 0 rfl
    have k1_1 := hs21.cellAt 1 rfl 1 rfl
    have k2_0 := hs21.cellAt 2 rfl 0 rfl
    have k2_1 := hs21.cellAt 2 rfl 1 rfl
    have k3_0 := hs21.cellAt 3 rfl 0 rfl
    have k3_1 := hs21.cellAt 3 rfl 1 rfl
    have f0_0 := hs21.freeAt 0 rfl 0
    have f0_1 := hs21.freeAt 0 rfl 1
    go_wp2_with fail
    have hs25 := hs21.set (p := []) (by simp <;> omega) 0 (.int .i64 S3)
    have hs26 := hs25.set (p := []) (by simp <;> omega) 1 ((.slice a3 LT.length c3))
    have HF1_27 := Lib.hid (Firm.setCell (b := w.heap.size) (o := 1) (Firm.setCell (b := w.heap.size) (o := 0) HF1_22.out (.int .i64 S3) (by (try simp) <;> omega)) ((.slice a3 LT.length c3)) (by (try simp) <;> omega))
    clear HF1_22
    have HF2_28 := Lib.hid (Firm.setCell (b := w.heap.size) (o := 1) (Firm.setCell (b := w.heap.size) (o := 0) HF2_23.out (.int .i64 S3) (by (try simp) <;> omega)) ((.slice a3 LT.length c3)) (by (try simp) <;> omega))
    clear HF2_23
    clear k0_0 k0_1 k1_0 k1_1 k2_0 k2_1 k3_0 k3_1
    have hz_wP : wd24.heap.size ≤ (((wd24.setCell ⟨w.heap.size, 0, none⟩ (.int .i64 S3)).setCell ⟨w.heap.size, 1, none⟩ ((.slice a3 LT.length c3)))).heap.size := by simp [World.setCell]
    generalize hgen_wP : ((wd24.setCell ⟨w.heap.size, 0, none⟩ (.int .i64 S3)).setCell ⟨w.heap.size, 1, none⟩ ((.slice a3 LT.length c3))) = wP at *
    clear hgen_wP
    have k0_0 := hs26.cellAt 0 rfl 0 rfl
    have k0_1 := hs26.cellAt 0 rfl 1 rfl
    have k1_0 := hs26.cellAt 1 rfl 0 rfl
    have k1_1 := hs26.cellAt 1 rfl 1 rfl
    have k2_0 := hs26.cellAt 2 rfl 0 rfl
    have k2_1 := hs26.cellAt 2 rfl 1 rfl
    have k3_0 := hs26.cellAt 3 rfl 0 rfl
    have k3_1 := hs26.cellAt 3 rfl 1 rfl
    refine ⟨⟨hs26.cellAt 1 rfl 0 rfl, hs26.cellAt 1 rfl 1 rfl, hs26.cellAt 2 rfl 0 rfl, hs26.cellAt 2 rfl 1 rfl, hs26.cellAt 3 rfl 0 rfl, hs26.cellAt 3 rfl 1 rfl⟩, ?_⟩
    (repeat (first | (apply t4_skip rfl (by rfl); try simp only [Act.put, List.setIfInBounds_toArray, List.set_cons_zero, List.set_cons_succ]) | (apply t4_float rfl (by rfl); (· (intro w' hS; go_simp <;> with_reducible rfl)); (try simp only [Act.put, List.setIfInBounds_toArray, List.set_cons_zero, List.set_cons_succ]))))
    refine t4_last rfl (by rfl) (fun K hK => ?_)
    clear k0_0 k0_1 k1_0 k1_1 k2_0 k2_1 k3_0 k3_1
    have k0_0 := hs26.cellAt 0 rfl 0 rfl
    have k0_1 := hs26.cellAt 0 rfl 1 rfl
    have k1_0 := hs26.cellAt 1 rfl 0 rfl
    have k1_1 := hs26.cellAt 1 rfl 1 rfl
    have k2_0 := hs26.cellAt 2 rfl 0 rfl
    have k2_1 := hs26.cellAt 2 rfl 1 rfl
    have k3_0 := hs26.cellAt 3 rfl 0 rfl
    have k3_1 := hs26.cellAt 3 rfl 1 rfl
    clear k0_0 k0_1 k1_0 k1_1 k2_0 k2_1 k3_0 k3_1
    have k0_0 := hs26.cellAt 0 rfl 0 rfl
    have k0_1 := hs26.cellAt 0 rfl 1 rfl
    have k1_0 := hs26.cellAt 1 rfl 0 rfl
    have k1_1 := hs26.cellAt 1 rfl 1 rfl
    have k2_0 := hs26.cellAt 2 rfl 0 rfl
    have k2_1 := hs26.cellAt 2 rfl 1 rfl
    have k3_0 := hs26.cellAt 3 rfl 0 rfl
    have k3_1 := hs26.cellAt 3 rfl 1 rfl
    have f1_0 := hs26.freeAt 1 rfl 0
    have f1_1 := hs26.freeAt 1 rfl 1
    go_wp2_with fail
    refine t4_nil (NoPanic.normal ?_)
    have hs29 := hs26.set (p := [_]) (by simp <;> omega) 0 (.int .i64 U3)
    have hs30 := hs29.set (p := [_]) (by simp <;> omega) 1 ((.slice a4 LI.length c4))
    have HF1_31 := Lib.hid (Firm.setCell (b := w.heap.size + 1) (o := 1) (Firm.setCell (b := w.heap.size + 1) (o := 0) HF1_27.out (.int .i64 U3) (by (try simp) <;> omega)) ((.slice a4 LI.length c4)) (by (try simp) <;> omega))
    clear HF1_27
    have HF2_32 := Lib.hid (Firm.setCell (b := w.heap.size + 1) (o := 1) (Firm.setCell (b := w.heap.size + 1) (o := 0) HF2_28.out (.int .i64 U3) (by (try simp) <;> omega)) ((.slice a4 LI.length c4)) (by (try simp) <;> omega))
    clear HF2_28
    clear k0_0 k0_1 k1_0 k1_1 k2_0 k2_1 k3_0 k3_1
    have hz_wQ : wP.heap.size ≤ (((wP.setCell ⟨w.heap.size + 1, 0, none⟩ (.int .i64 U3)).setCell ⟨w.heap.size + 1, 1, none⟩ ((.slice a4 LI.length c4)))).heap.size := by simp [World.setCell]
    generalize hgen_wQ : ((wP.setCell ⟨w.heap.size + 1, 0, none⟩ (.int .i64 U3)).setCell ⟨w.heap.size + 1, 1, none⟩ ((.slice a4 LI.length c4))) = wQ at *
    clear hgen_wQ
    have k0_0 := hs30.cellAt 0 rfl 0 rfl
    have k0_1 := hs30.cellAt 0 rfl 1 rfl
    have k1_0 := hs30.cellAt 1 rfl 0 rfl
    have k1_1 := hs30.cellAt 1 rfl 1 rfl
    have k2_0 := hs30.cellAt 2 rfl 0 rfl
    have k2_1 := hs30.cellAt 2 rfl 1 rfl
    have k3_0 := hs30.cellAt 3 rfl 0 rfl
    have k3_1 := hs30.cellAt 3 rfl 1 rfl
    go_wp2_with fail
    have x0 := (hs30.cellAt 0 rfl 0 rfl)
    have x1 := (hs30.cellAt 0 rfl 1 rfl)
    have x2 := (hs30.cellAt 1 rfl 0 rfl)
    have x3 := (hs30.cellAt 1 rfl 1 rfl)
    exact bodyPost_ret (v := .tuple #[.agg #[.int .i64 S3, (.slice a3 LT.length c3)], .agg #[.int .i64 U3, (.slice a4 LI.length c4)]]) (by simp [results, Tryz.results5, go_sem, x0, x1, x2, x3]) rfl ⟨S3, U3, _, _, rfl, LT, LI, HF1_31.out.rd, HF2_32.out.rd, HOK.out, hs30.bel⟩
  | false =>
    clear hok
    clear HF1_19
    clear HF2_20
    have HIN := Lib.hid (show instOk ((2 : Int), [((2 : Int), eqPairs 2)]) ((2 : Int), [((0 : Int), [(0 : Int), 1])]) = true by decide)
    go_wp2_with fail
    refine (l01Equal_c 2 _ (by omega)).mono ?_
    rintro e w33 ⟨v9, rfl, fr9, hbw33⟩
    have hz_w33 : w17.heap.size ≤ w33.heap.size := by have h9 := hbw33.size; (try simp at h9); omega
    have hs34 := hs18.step hbw33
    clear k0_0 k0_1 k1_0 k1_1 k2_0 k2_1 k3_0 k3_1
    have k0_0 := hs34.cellAt 0 rfl 0 rfl
    have k0_1 := hs34.cellAt 0 rfl 1 rfl
    have k1_0 := hs34.cellAt 1 rfl 0 rfl
    have k1_1 := hs34.cellAt 1 rfl 1 rfl
    have k2_0 := hs34.cellAt 2 rfl 0 rfl
    have k2_1 := hs34.cellAt 2 rfl 1 rfl
    have k3_0 := hs34.cellAt 3 rfl 0 rfl
    have k3_1 := hs34.cellAt 3 rfl 1 rfl
    generalize eqPairs 2 = EP at *
    obtain ⟨a9, c9, rfl, _⟩ := rd_list (fresh_snd rfl fr9).rd
    have HE9 := Lib.hid (fr9.ip.wk (B := fun z => w.heap.size + 1 + 1 ≤ z) (fun z hz => by (try simp only at hz); omega))
    clear fr9
    have hs35 := hs34.alloc #[.int .i64 2, .slice a9 EP.length c9] 57 (n := w33.heap.size) (by simp)
    have HE9_36 := Lib.hid (Ip.mono HE9.out (belowA _ (.cells #[.int .i64 2, .slice a9 EP.length c9] 57)))
    clear HE9
    clear k0_0 k0_1 k1_0 k1_1 k2_0 k2_1 k3_0 k3_1
    have k0_0 := hs35.cellAt 0 rfl 0 rfl
    have k0_1 := hs35.cellAt 0 rfl 1 rfl
    have k1_0 := hs35.cellAt 1 rfl 0 rfl
    have k1_1 := hs35.cellAt 1 rfl 1 rfl
    have k2_0 := hs35.cellAt 2 rfl 0 rfl
    have k2_1 := hs35.cellAt 2 rfl 1 rfl
    have k3_0 := hs35.cellAt 3 rfl 0 rfl
    have k3_1 := hs35.cellAt 3 rfl 1 rfl
    have k4_0 := hs35.cellAt 4 rfl 0 rfl
    have k4_1 := hs35.cellAt 4 rfl 1 rfl
    have hs37 := hs35.alloc #[.int .i64 2, .slice (some ⟨w33.heap.size, 0, none⟩) 1 1] 26 (n := w33.heap.size + 1) (by simp)
    have HE9_38 := Lib.hid (Ip.mono HE9_36.out (belowA _ (.cells #[.int .i64 2, .slice (some ⟨w33.heap.size, 0, none⟩) 1 1] 26)))
    clear HE9_36
    clear k0_0 k0_1 k1_0 k1_1 k2_0 k2_1 k3_0 k3_1 k4_0 k4_1
    have k0_0 := hs37.cellAt 0 rfl 0 rfl
    have k0_1 := hs37.cellAt 0 rfl 1 rfl
    have k1_0 := hs37.cellAt 1 rfl 0 rfl
    have k1_1 := hs37.cellAt 1 rfl 1 rfl
    have k2_0 := hs37.cellAt 2 rfl 0 rfl
    have k2_1 := hs37.cellAt 2 rfl 1 rfl
    have k3_0 := hs37.cellAt 3 rfl 0 rfl
    have k3_1 := hs37.cellAt 3 rfl 1 rfl
    have k4_0 := hs37.cellAt 4 rfl 0 rfl
    have k4_1 := hs37.cellAt 4 rfl 1 rfl
    have k5_0 := hs37.cellAt 5 rfl 0 rfl
    have k5_1 := hs37.cellAt 5 rfl 1 rfl
    have hs39 := hs37.alloc #[.int .i64 0, .int .i64 1] 2 (n := w33.heap.size + 1 + 1) (by simp)
    have HE9_40 := Lib.hid (Ip.mono HE9_38.out (belowA _ (.cells #[.int .i64 0, .int .i64 1] 2)))
    clear HE9_38
    clear k0_0 k0_1 k1_0 k1_1 k2_0 k2_1 k3_0 k3_1 k4_0 k4_1 k5_0 k5_1
    have k0_0 := hs39.cellAt 0 rfl 0 rfl
    have k0_1 := hs39.cellAt 0 rfl 1 rfl
    have k1_0 := hs39.cellAt 1 rfl 0 rfl
    have k1_1 := hs39.cellAt 1 rfl 1 rfl
    have k2_0 := hs39.cellAt 2 rfl 0 rfl
    have k2_1 := hs39.cellAt 2 rfl 1 rfl
    have k3_0 := hs39.cellAt 3 rfl 0 rfl
    have k3_1 := hs39.cellAt 3 rfl 1 rfl
    have k4_0 := hs39.cellAt 4 rfl 0 rfl
    have k4_1 := hs39.cellAt 4 rfl 1 rfl
    have k5_0 := hs39.cellAt 5 rfl 0 rfl
    have k5_1 := hs39.cellAt 5 rfl 1 rfl
    have k6_0 := hs39.cellAt 6 rfl 0 rfl
    have k6_1 := hs39.cellAt 6 rfl 1 rfl
    have hs41 := hs39.alloc #[.int .i64 0, .slice (some ⟨w33.heap.size + 1 + 1, 0, none⟩) 2 2] 60 (n := w33.heap.size + 1 + 1 + 1) (by simp)
    have HE9_42 := Lib.hid (Ip.mono HE9_40.out (belowA _ (.cells #[.int .i64 0, .slice (some ⟨w33.heap.size + 1 + 1, 0, none⟩) 2 2] 60)))
    clear HE9_40
    clear k0_0 k0_1 k1_0 k1_1 k2_0 k2_1 k3_0 k3_1 k4_0 k4_1 k5_0 k5_1 k6_0 k6_1
    have k0_0 := hs41.cellAt 0 rfl 0 rfl
    have k0_1 := hs41.cellAt 0 rfl 1 rfl
    have k1_0 := hs41.cellAt 1 rfl 0 rfl
    have k1_1 := hs41.cellAt 1 rfl 1 rfl
    have k2_0 := hs41.cellAt 2 rfl 0 rfl
    have k2_1 := hs41.cellAt 2 rfl 1 rfl
    have k3_0 := hs41.cellAt 3 rfl 0 rfl
    have k3_1 := hs41.cellAt 3 rfl 1 rfl
    have k4_0 := hs41.cellAt 4 rfl 0 rfl
    have k4_1 := hs41.cellAt 4 rfl 1 rfl
    have k5_0 := hs41.cellAt 5 rfl 0 rfl
    have k5_1 := hs41.cellAt 5 rfl 1 rfl
    have k6_0 := hs41.cellAt 6 rfl 0 rfl
    have k6_1 := hs41.cellAt 6 rfl 1 rfl
    have k7_0 := hs41.cellAt 7 rfl 0 rfl
    have k7_1 := hs41.cellAt 7 rfl 1 rfl
    have f0_0 := hs41.freeAt 0 rfl 0
    have f0_1 := hs41.freeAt 0 rfl 1
    have f1_0 := hs41.freeAt 1 rfl 0
    have f1_1 := hs41.freeAt 1 rfl 1
    go_wp2_with fail
    have hs43 := hs41.set (p := []) (by simp <;> omega) 0 (.int .i64 2)
    have hs44 := hs43.set (p := []) (by simp <;> omega) 1 (.slice (some ⟨w33.heap.size, 0, none⟩) 1 1)
    have HE9_45 := Lib.hid (Ip.setCell (b := w.heap.size) (o := 1) (Ip.setCell (b := w.heap.size) (o := 0) HE9_42.out (.int .i64 2) (by intro hA9; (try simp only at hA9); omega)) (.slice (some ⟨w33.heap.size, 0, none⟩) 1 1) (by intro hA9; (try simp only at hA9); omega))
    clear HE9_42
    clear k0_0 k0_1 k1_0 k1_1 k2_0 k2_1 k3_0 k3_1 k4_0 k4_1 k5_0 k5_1 k6_0 k6_1 k7_0 k7_1
    have hz_wP : w33.heap.size + 1 + 1 + 1 + 1 ≤ (((((((w33.alloc (.cells #[.int .i64 2, .slice a9 EP.length c9] 57)).alloc (.cells #[.int .i64 2, .slice (some ⟨w33.heap.size, 0, none⟩) 1 1] 26)).alloc (.cells #[.int .i64 0, .int .i64 1] 2)).alloc (.cells #[.int .i64 0, .slice (some ⟨w33.heap.size + 1 + 1, 0, none⟩) 2 2] 60)).setCell ⟨w.heap.size, 0, none⟩ (.int .i64 2)).setCell ⟨w.heap.size, 1, none⟩ (.slice (some ⟨w33.heap.size, 0, none⟩) 1 1))).heap.size := by simp [World.setCell]
    generalize hgen_wP : ((((((w33.alloc (.cells #[.int .i64 2, .slice a9 EP.length c9] 57)).alloc (.cells #[.int .i64 2, .slice (some ⟨w33.heap.size, 0, none⟩) 1 1] 26)).alloc (.cells #[.int .i64 0, .int .i64 1] 2)).alloc (.cells #[.int .i64 0, .slice (some ⟨w33.heap.size + 1 + 1, 0, none⟩) 2 2] 60)).setCell ⟨w.heap.size, 0, none⟩ (.int .i64 2)).setCell ⟨w.heap.size, 1, none⟩ (.slice (some ⟨w33.heap.size, 0, none⟩) 1 1)) = wP at *
    clear hgen_wP
    have k0_0 := hs44.cellAt 0 rfl 0 rfl
    have k0_1 := hs44.cellAt 0 rfl 1 rfl
    have k1_0 := hs44.cellAt 1 rfl 0 rfl
    have k1_1 := hs44.cellAt 1 rfl 1 rfl
    have k2_0 := hs44.cellAt 2 rfl 0 rfl
    have k2_1 := hs44.cellAt 2 rfl 1 rfl
    have k3_0 := hs44.cellAt 3 rfl 0 rfl
    have k3_1 := hs44.cellAt 3 rfl 1 rfl
    have k4_0 := hs44.cellAt 4 rfl 0 rfl
    have k4_1 := hs44.cellAt 4 rfl 1 rfl
    have k5_0 := hs44.cellAt 5 rfl 0 rfl
    have k5_1 := hs44.cellAt 5 rfl 1 rfl
    have k6_0 := hs44.cellAt 6 rfl 0 rfl
    have k6_1 := hs44.cellAt 6 rfl 1 rfl
    have k7_0 := hs44.cellAt 7 rfl 0 rfl
    have k7_1 := hs44.cellAt 7 rfl 1 rfl
    have hs46 := hs44.set (p := [_]) (by simp <;> omega) 0 (.int .i64 2)
    have hs47 := hs46.set (p := [_]) (by simp <;> omega) 1 (.slice (some ⟨w33.heap.size + 1 + 1 + 1, 0, none⟩) 1 1)
    have HE9_48 := Lib.hid (Ip.setCell (b := w.heap.size + 1) (o := 1) (Ip.setCell (b := w.heap.size + 1) (o := 0) HE9_45.out (.int .i64 2) (by intro hA9; (try simp only at hA9); omega)) (.slice (some ⟨w33.heap.size + 1 + 1 + 1, 0, none⟩) 1 1) (by intro hA9; (try simp only at hA9); omega))
    clear HE9_45
    clear k0_0 k0_1 k1_0 k1_1 k2_0 k2_1 k3_0 k3_1 k4_0 k4_1 k5_0 k5_1 k6_0 k6_1 k7_0 k7_1
    have hz_wQ : wP.heap.size ≤ (((wP.setCell ⟨w.heap.size + 1, 0, none⟩ (.int .i64 2)).setCell ⟨w.heap.size + 1, 1, none⟩ (.slice (some ⟨w33.heap.size + 1 + 1 + 1, 0, none⟩) 1 1))).heap.size := by simp [World.setCell]
    generalize hgen_wQ : ((wP.setCell ⟨w.heap.size + 1, 0, none⟩ (.int .i64 2)).setCell ⟨w.heap.size + 1, 1, none⟩ (.slice (some ⟨w33.heap.size + 1 + 1 + 1, 0, none⟩) 1 1)) = wQ at *
    clear hgen_wQ
    have k0_0 := hs47.cellAt 0 rfl 0 rfl
    have k0_1 := hs47.cellAt 0 rfl 1 rfl
    have k1_0 := hs47.cellAt 1 rfl 0 rfl
    have k1_1 := hs47.cellAt 1 rfl 1 rfl
    have k2_0 := hs47.cellAt 2 rfl 0 rfl
    have k2_1 := hs47.cellAt 2 rfl 1 rfl
    have k3_0 := hs47.cellAt 3 rfl 0 rfl
    have k3_1 := hs47.cellAt 3 rfl 1 rfl
    have k4_0 := hs47.cellAt 4 rfl 0 rfl
    have k4_1 := hs47.cellAt 4 rfl 1 rfl
    have k5_0 := hs47.cellAt 5 rfl 0 rfl
    have k5_1 := hs47.cellAt 5 rfl 1 rfl
    have k6_0 := hs47.cellAt 6 rfl 0 rfl
    have k6_1 := hs47.cellAt 6 rfl 1 rfl
    have k7_0 := hs47.cellAt 7 rfl 0 rfl
    have k7_1 := hs47.cellAt 7 rfl 1 rfl
    have x0 := (hs47.cellAt 0 rfl 0 rfl)
    have x1 := (hs47.cellAt 0 rfl 1 rfl)
    have x2 := (hs47.cellAt 1 rfl 0 rfl)
    have x3 := (hs47.cellAt 1 rfl 1 rfl)
    have hr1 := rd_lit1 (hs47.box (w33.heap.size, #[.int .i64 2, .slice a9 EP.length c9], 57) (by simp)).2.2 HE9_48.out.rd
    have hr2 := (fresh_ilits [(0 : Int), 1] (lo := 0) (hs47.box (w33.heap.size + 1 + 1, #[.int .i64 0, .int .i64 1], 2) (by simp)).2.2 (Nat.zero_le _) (small_i64 (by decide)) (by simp)).rd
    have hr3 := rd_lit1 (hs47.box (w33.heap.size + 1 + 1 + 1, #[.int .i64 0, .slice (some ⟨w33.heap.size + 1 + 1, 0, none⟩) 2 2], 60) (by simp)).2.2 (rd_ic (k := 0) ⟨by omega, by omega⟩ hr2)
    exact bodyPost_ret (v := .tuple #[.agg #[.int .i64 2, .slice (some ⟨w33.heap.size, 0, none⟩) 1 1], .agg #[.int .i64 2, .slice (some ⟨w33.heap.size + 1 + 1 + 1, 0, none⟩) 1 1]]) (by simp [results, Tryz.results5, go_sem, x0, x1, x2, x3]) rfl ⟨2, 2, _, _, rfl, [((2 : Int), EP)], [((0 : Int), [(0 : Int), 1])], rd_ic ⟨by omega, by omega⟩ hr1, rd_ic ⟨by omega, by omega⟩ hr3, HIN.out, hs47.bel⟩

end Go.Proofs.YtamkfnkikiekaaaGreat

