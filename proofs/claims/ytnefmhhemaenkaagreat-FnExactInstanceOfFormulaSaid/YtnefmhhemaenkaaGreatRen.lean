/-
  CONTRACTS: formulas made anew with other variables; both sides.
-/
import Derived.Test.YtnefmhhemaenkaaGreatForm
import Derived.Test.YtnefmhhemaenkaaGreatRowsB
namespace Go.Proofs.YtnefmhhemaenkaaGreat
open Go.RowKit Go.Shelf Go.IntWalk
open Rep (Rd Own sz)
set_option linter.unusedSimpArgs false
set_option linter.unusedVariables false

/-- A function of numbers that is handed over, at the numbers that fulfil D. -/
def ByV (g : Nat) (cb : Array Value) (w : World) (D : Int → Prop) (G : Int → Int) : Prop :=
  ∀ (W : World) (v : Int), Below w.heap.size w W → D v → Calls Tryz.prog g (#[.int .i64 v] ++ cb) W fun e w' => e = .returned (.int .i64 (G v)) ∧ Below W.heap.size W w'
theorem movL_take (G : Int → Int) (l : List OpT) {k : Nat} (h : k < l.length) : movL G (l.take k) ++ [(l[k].1, l[k].2.map G)] = movL G (l.take (k + 1)) := by
  unfold movL
  rw [List.take_succ_eq_append_getElem h, List.map_append]; rfl
theorem movL_len (G : Int → Int) (l : List OpT) : (movL G l).length = l.length := by unfold movL; rw [List.length_map]
theorem map_take (G : Int → Int) (l : List Int) {k : Nat} (h : k < l.length) : (l.take k).map G ++ [G l[k]] = (l.take (k + 1)).map G := by
  rw [List.take_succ_eq_append_getElem h, List.map_append]; rfl
set_option maxRecDepth 100000 in
set_option maxHeartbeats 8000000 in
theorem renamed_c (l : List OpT) (v : Value) (g : Nat) (cb : Array Value) (G : Int → Int) (w : World) (r : Rd w [v] l) (hn : l.length ≤ 1000000) (hz : ∀ a, a ∈ l → a.2.length ≤ 1000000) (hG : ∀ a, a ∈ l → ∀ x, x ∈ a.2 → I64 (G x))
    (eg : ∀ args w, (callFunc g args).run Tryz.prog w = .ok (.enter g args) w) (hby : ByV g cb w (fun x => ∃ a, a ∈ l ∧ x ∈ a.2) G) :
    Calls Tryz.prog 54 #[v, .func (.func g) #[] cb] w fun e w' => ∃ v', e = .returned v' ∧ Fresh w.heap.size w' [v'] (movL G l) ∧ Below w.heap.size w w' := by
  obtain ⟨a, c, rfl, hr⟩ := rd_list r
  have HLR := Lib.hid hr
  have HZ := Lib.hid hz
  have HG := Lib.hid hG
  have HBY := Lib.hid hby
  clear hr hz hG hby r
  have HS0 := Lib.hid ((St.start w).step (belowA _ (.cells #[] 58)))
  have HA0 := Lib.hid ((accP_made (α := OpT) w 58))
  go_enter Tryz.func54, Tryz.ntmps54
  go_wp2_with fail
  go_loopw [5, 14] (fun oo iv wl => ∃ (k : Nat) (ao : Option Addr) (co : Nat), k ≤ l.length ∧ oo = .slice ao k co ∧ iv = .int .i64 k ∧ Hid (St w w.heap.size wl []) ∧ Hid (AccP (fun z => w.heap.size ≤ z ∧ z < wl.heap.size) 58 wl (.slice ao k co) (movL G (l.take k)))) (fun _ i _ => l.length - (intOf i).toNat)
  case atStart =>
    refine ⟨0, _, _, Nat.zero_le _, rfl, rfl, HS0.out, ?_⟩
    exact AccP.wk HA0.out (fun k hk => by simp at hk ⊢; omega)
  case round =>
    clear HS0 HA0
    obtain ⟨k, ao, co, hk, rfl, rfl, hst, hac⟩ := hrel
    have hszr : w.heap.size ≤ wr.heap.size := hst.out.hi
    have HAC := Lib.hid (AccP.wk hac.out.tight (C := fun z => w.heap.size ≤ z ∧ z < wr.heap.size) (fun z h => h.1))
    clear hac
    obtain ⟨wB, hwB⟩ : ∃ x, x = wr := ⟨_, rfl⟩
    subst hwB
    by_cases hlt : k < l.length
    · have hkl : (k : Int) < l.length := by omega
      obtain ⟨b, o, u0, u1, rfl, q0, q1, hy⟩ := rdSl_two rfl HLR.out k hlt
      have hyz := rd_cons rfl hy
      obtain ⟨rfl, hIc⟩ := rd_i1 hyz.1
      obtain ⟨a1, c1, rfl, _⟩ := rd_list hyz.2
      have HSC := Lib.hid hyz.2
      have HLS := Lib.hid (HZ.out _ (List.getElem_mem hlt))
      have HGS := Lib.hid (HG.out _ (List.getElem_mem hlt))
      have HDS := Lib.hid (show ∀ x, x ∈ l[k].2 → ∃ a, a ∈ l ∧ x ∈ a.2 from fun x hx => ⟨_, List.getElem_mem hlt, hx⟩)
      have HTK := Lib.hid (movL_take G l hlt)
      have HLK := Lib.hid (show (movL G (l.take k)).length = k by rw [movL_len, List.length_take]; omega)
      clear hy hyz
      generalize hC : l[k] = C at *
      obtain ⟨ci, sc⟩ := C
      clear hC
      simp only at q0 q1 HSC HLS HGS HDS HTK hIc
      have hls : sc.length ≤ 1000000 := HLS.out
      have p0 := cellL hst.out.bel q0
      have p1 := cellL hst.out.bel q1
      clear q0 q1
      have hs1 := hst.out.alloc #[.int .i64 ci, .slice a1 sc.length c1] 58 (n := wB.heap.size) (by simp)
      have HAC_2 := Lib.hid (AccP.mono HAC.out (belowA _ (.cells #[.int .i64 ci, .slice a1 sc.length c1] 58)))
      clear HAC
      have k0_0 := hs1.cellAt 0 rfl 0 rfl
      have k0_1 := hs1.cellAt 0 rfl 1 rfl
      have hs3 := hs1.alloc #[.int .i64 ci, .slice none 0 0] 58 (n := wB.heap.size + 1) (by simp)
      have HAC_4 := Lib.hid (AccP.mono HAC_2.out (belowA _ (.cells #[.int .i64 ci, .slice none 0 0] 58)))
      clear HAC_2
      clear k0_0 k0_1
      have k0_0 := hs3.cellAt 0 rfl 0 rfl
      have k0_1 := hs3.cellAt 0 rfl 1 rfl
      have k1_0 := hs3.cellAt 1 rfl 0 rfl
      have k1_1 := hs3.cellAt 1 rfl 1 rfl
      clear k0_0 k0_1 k1_0 k1_1
      have k0_0 := hs3.cellAt 0 rfl 0 rfl
      have k0_1 := hs3.cellAt 0 rfl 1 rfl
      have k1_0 := hs3.cellAt 1 rfl 0 rfl
      have k1_1 := hs3.cellAt 1 rfl 1 rfl
      have HS1 := Lib.hid hs3
      have HAC1 := Lib.hid HAC_4.out
      go_wp2_with fail
      go_loopw [24] (fun jv wl => ∃ (j : Nat) (va : Option Addr) (vc : Nat), j ≤ sc.length ∧ jv = .int .i64 j ∧ Hid (St w (wB.heap.size + 1 + 1) wl [(wB.heap.size, #[.int .i64 ci, .slice a1 sc.length c1], 58), (wB.heap.size + 1, #[.int .i64 ci, .slice va j vc], 58)]) ∧
        Hid (AccP (fun z => w.heap.size ≤ z ∧ z < wB.heap.size) 58 wl (.slice ao k co) (movL G (l.take k))) ∧ Hid (AccP (fun z => wB.heap.size + 1 + 1 ≤ z ∧ z < wl.heap.size) 2 wl (.slice va j vc) ((sc.take j).map G))) (fun j _ => sc.length - (intOf j).toNat)
      case atStart => exact ⟨0, none, 0, Nat.zero_le _, rfl, HS1.out, HAC1.out, AccP.nil _ _ _⟩
      case round =>
        clear HS1 HAC1
        obtain ⟨j, va, vc, hj, rfl, hst2, hac2, hav⟩ := hrel
        have hszj : wB.heap.size + 1 + 1 ≤ wr.heap.size := hst2.out.hi
        have HAO := hac2
        have HAV := hav
        clear hac2 hav
        by_cases hjl : j < sc.length
        · obtain ⟨b2, o2, rfl, s0, hIs⟩ := rd_int_at HSC.out j hjl
          have HX := Lib.hid (HDS.out _ (List.getElem_mem hjl))
          have HGI := Lib.hid (HGS.out _ (List.getElem_mem hjl))
          have HMT := Lib.hid (map_take G sc hjl)
          have HML := Lib.hid (show ((sc.take j).map G).length = j by rw [List.length_map, List.length_take]; omega)
          generalize sc[j] = X at *
          have hjl2 : (j : Int) < sc.length := by omega
          have k0_0 := hst2.out.cellAt 0 rfl 0 rfl
          have k0_1 := hst2.out.cellAt 0 rfl 1 rfl
          have k1_0 := hst2.out.cellAt 1 rfl 0 rfl
          have k1_1 := hst2.out.cellAt 1 rfl 1 rfl
          have s0_ := cellL hst2.out.bel s0
          clear k0_0 k0_1 k1_0 k1_1 s0_
          have k0_0 := hst2.out.cellAt 0 rfl 0 rfl
          have k0_1 := hst2.out.cellAt 0 rfl 1 rfl
          have k1_0 := hst2.out.cellAt 1 rfl 0 rfl
          have k1_1 := hst2.out.cellAt 1 rfl 1 rfl
          have s0_ := cellL hst2.out.bel s0
          go_upto_region 9 with fail
          refine wp_region_noPanic (wp_region_tree4 (fun w' => w'.cell? ⟨wB.heap.size, 0, none⟩ = some (.int .i64 ci) ∧ w'.cell? ⟨wB.heap.size, 1, none⟩ = some (.slice (some ⟨b2, o2, none⟩) sc.length c1) ∧ w'.cell? ⟨wB.heap.size + 1, 0, none⟩ = some (.int .i64 ci) ∧ w'.cell? ⟨wB.heap.size + 1, 1, none⟩ = some (.slice va j vc) ∧ w'.cell? ⟨b2, o2 + j, none⟩ = some (.int .i64 X)) (.float 0 (.float 1 (.float 2 (.float 3 (.hard 4 (.hard 5 (.hard 6 (.float 7 (.last 8 .nil))))))))) (by kernel_rfl) (by kernel_rfl) (by kernel_rfl) rfl ?_ (fun _ _ _ _ _ h => h) ?_)
          · exact ⟨(hst2.out.drew).cellAt 0 rfl 0 rfl, (hst2.out.drew).cellAt 0 rfl 1 rfl, (hst2.out.drew).cellAt 1 rfl 0 rfl, (hst2.out.drew).cellAt 1 rfl 1 rfl, cellL (hst2.out.drew).bel s0⟩
          have hs5 := hst2.out.drew
          have HAO_6 := Lib.hid (AccP.mono HAO.out (belowD _))
          clear HAO
          have HAV_7 := Lib.hid (AccP.mono HAV.out (belowD _))
          clear HAV
          clear k0_0 k0_1 k1_0 k1_1 s0_
          have hz_wd8 : wr.heap.size ≤ (wr.drew).heap.size := by simp
          generalize hgen_wd8 : wr.drew = wd8 at *
          have HG_wd8 := Lib.hid hgen_wd8
          clear hgen_wd8
          (repeat (first | (apply t4_skip rfl (by rfl); try simp only [Act.put, List.setIfInBounds_toArray, List.set_cons_zero, List.set_cons_succ]) | (apply t4_float rfl (by rfl); (· (intro w' hS; go_simp <;> with_reducible rfl)); (try simp only [Act.put, List.setIfInBounds_toArray, List.set_cons_zero, List.set_cons_succ]))))
          refine t4_hard rfl (by rfl) (fun K hK => ?_)
          go_wp2_with (go_at_fn g; refine (HBY.out _ X hs5.bel HX.out).mono ?_; rintro e w9 ⟨rfl, hbw9⟩)
          have hz_w9 : wd8.heap.size ≤ w9.heap.size := by have h9 := hbw9.size; (try simp at h9); omega
          have hs10 := hs5.step hbw9
          have HAO_11 := Lib.hid (AccP.mono HAO_6.out hbw9)
          clear HAO_6
          have HAV_12 := Lib.hid (AccP.mono HAV_7.out hbw9)
          clear HAV_7
          refine ⟨⟨hs10.cellAt 0 rfl 0 rfl, hs10.cellAt 0 rfl 1 rfl, hs10.cellAt 1 rfl 0 rfl, hs10.cellAt 1 rfl 1 rfl, cellL hs10.bel s0⟩, ?_⟩
          (repeat (first | (apply t4_skip rfl (by rfl); try simp only [Act.put, List.setIfInBounds_toArray, List.set_cons_zero, List.set_cons_succ]) | (apply t4_float rfl (by rfl); (· (intro w' hS; go_simp <;> with_reducible rfl)); (try simp only [Act.put, List.setIfInBounds_toArray, List.set_cons_zero, List.set_cons_succ]))))
          refine t4_hard rfl (by rfl) (fun K hK => ?_)
          go_wp2_with fail
          have hs13 := hs10.alloc #[.int .i64 (G X)] 2 (n := w9.heap.size) (by simp)
          have HAO_14 := Lib.hid (AccP.mono HAO_11.out (belowA _ (.cells #[.int .i64 (G X)] 2)))
          clear HAO_11
          have HAV_15 := Lib.hid (AccP.mono HAV_12.out (belowA _ (.cells #[.int .i64 (G X)] 2)))
          clear HAV_12
          refine ⟨⟨hs13.cellAt 0 rfl 0 rfl, hs13.cellAt 0 rfl 1 rfl, hs13.cellAt 1 rfl 0 rfl, hs13.cellAt 1 rfl 1 rfl, cellL hs13.bel s0⟩, ?_⟩
          (repeat (first | (apply t4_skip rfl (by rfl); try simp only [Act.put, List.setIfInBounds_toArray, List.set_cons_zero, List.set_cons_succ]) | (apply t4_float rfl (by rfl); (· (intro w' hS; go_simp <;> with_reducible rfl)); (try simp only [Act.put, List.setIfInBounds_toArray, List.set_cons_zero, List.set_cons_succ]))))
          refine t4_hard rfl (by rfl) (fun K hK => ?_)
          have hsW := hs13.hi
          refine wp_append_accP _ _ _ _ rfl E_ints rfl HAV_15.out (ip_int1 (C := fun _ => False) HGI.out) (fun z _ h => h) ⟨w9.heap.size, 0, none⟩ 1 rfl (news1 (hs13.cellAt 2 rfl 0 rfl)) (by have := HLS.out; rw [HML.out]; omega) ?_
          simp only [HML.out, HMT.out]
          intro a8 c8 w8 hA8 hB8
          have hz8 := hB8.size
          have hs8 := hs13.butP hB8 (fun z hz => by have := hz.1; omega) (fun x hx hA => by have h1 := hA.1; have h2 := hA.2; simp at hx; rcases hx with rfl | rfl | rfl <;> (try simp only at h1 h2) <;> omega)
          have HA8 := Lib.hid (AccP.wk hA8.tight (C := fun z => wB.heap.size + 1 + 1 ≤ z ∧ z < w8.heap.size) (fun z hz => ⟨by
            rcases hz.1 with h | h | h
            · exact h.1
            · exact h.elim
            · rw [h]; (try simp); omega, hz.2⟩))
          have HO8 := Lib.hid (AccP.butP HAO_14.out hB8 (fun z h1 h2 => by have h3 := h1.2; have h4 := h2.1; omega))
          clear hA8
          clear HAO_14
          clear HAV_15
          refine hK _ _ ⟨⟨hs8.cellAt 0 rfl 0 rfl, hs8.cellAt 0 rfl 1 rfl, hs8.cellAt 1 rfl 0 rfl, hs8.cellAt 1 rfl 1 rfl, cellL hs8.bel s0⟩, ?_⟩
          (repeat (first | (apply t4_skip rfl (by rfl); try simp only [Act.put, List.setIfInBounds_toArray, List.set_cons_zero, List.set_cons_succ]) | (apply t4_float rfl (by rfl); (· (intro w' hS; go_simp <;> with_reducible rfl)); (try simp only [Act.put, List.setIfInBounds_toArray, List.set_cons_zero, List.set_cons_succ]))))
          refine t4_last rfl (by rfl) (fun K hK => ?_)
          have k0_0 := hs8.cellAt 0 rfl 0 rfl
          have k0_1 := hs8.cellAt 0 rfl 1 rfl
          have k1_0 := hs8.cellAt 1 rfl 0 rfl
          have k1_1 := hs8.cellAt 1 rfl 1 rfl
          have k2_0 := hs8.cellAt 2 rfl 0 rfl
          have s0_ := cellL hs8.bel s0
          have hs16 := hs8.low (B' := wB.heap.size + 1 + 1) (bx' := [(wB.heap.size, #[.int .i64 ci, .slice (some ⟨b2, o2, none⟩) sc.length c1], 58), (wB.heap.size + 1, #[.int .i64 ci, .slice va j vc], 58)]) (by omega) (by (try simp) <;> omega) (fun x hx => by simp only [List.mem_cons, List.not_mem_nil, or_false] at hx; rcases hx with rfl | rfl <;> (refine ⟨?_, ?_⟩ <;> (try simp) <;> (try omega)))
          have f2 := (hs16.freeAt 1 rfl 1)
          have hq := hs16.set (p := [_]) (by simp <;> omega) 1 (.slice a8 (j + 1) c8)
          have HQ := Lib.hid hq
          have HA9 := Lib.hid (AccP.wk (AccP.setCell HA8.out (b := wB.heap.size + 1) (o := 1) (.slice a8 (j + 1) c8) (by simp <;> omega)) (C := fun z => wB.heap.size + 1 + 1 ≤ z ∧ z < (w8.setCell ⟨wB.heap.size + 1, 1, none⟩ (.slice a8 (j + 1) c8)).heap.size) (fun z hz => by simpa [World.setCell] using hz))
          have HO9 := Lib.hid (AccP.setCell HO8.out (b := wB.heap.size + 1) (o := 1) (.slice a8 (j + 1) c8) (by simp <;> omega))
          clear hq
          go_wp2_with fail
          refine t4_nil (NoPanic.normal ?_)
          go_wp2_with fail
          go_roundw
          case rel => exact ⟨j + 1, a8, c8, hjl, by go_num, HQ.out, HO9.out, HA9.out⟩
          case measure => simp [intOf]; omega
        · obtain rfl : j = sc.length := by omega
          have hnl : ¬ ((sc.length : Int) < sc.length) := by omega
          have HIV := Lib.hid (show AccP (fun z => wB.heap.size + 1 + 1 ≤ z ∧ z < wr.heap.size) 2 wr (.slice va sc.length vc) (sc.map G) by have h := HAV.out; rwa [List.take_length] at h)
          have k0_0 := hst2.out.cellAt 0 rfl 0 rfl
          have k0_1 := hst2.out.cellAt 0 rfl 1 rfl
          have k1_0 := hst2.out.cellAt 1 rfl 0 rfl
          have k1_1 := hst2.out.cellAt 1 rfl 1 rfl
          clear HAV
          have HIY := Lib.hid (ip_cons (C := fun z => wB.heap.size + 1 + 1 ≤ z ∧ z < wr.heap.size) (ip_int1 (C := fun _ => False) hIc) (HIV.out.ip) (fun z h _ => h) (fun z h => h.elim) (fun z h => h))
          have HS8 := Lib.hid (hst2.out.step (belowA wr (.cells #[.int .i64 ci, .slice va sc.length vc] 58)))
          go_wp2_with (at_builtin; refine wpList_append_accP _ rfl _ _ _ rfl E_atoms rfl (AccP.mono HAO.out (belowA _ _)) (Ip.mono HIY.out (belowA _ _)) (fun z h1 h2 => by have h3 := h1.2; have h4 := h2.1; omega) ⟨wr.heap.size, 0, none⟩ 1 rfl (news2 (cell_at_block (heap_alloc_new _ _)) (cell_at_block (heap_alloc_new _ _))) (by rw [HLK.out]; omega) ?_; simp only [HLK.out, HTK.out]; intro a7 c7 w7 hA7 hB7)
          have hz7 := hB7.size
          have HB7 := Lib.hid ((HS8.out.bel).trans ((hB7.below (B := w.heap.size) (fun z hz => hz.1) (by (try simp) <;> omega)).mono (Nat.le_refl _)))
          have HA7 := Lib.hid (AccP.wk hA7.tight (C := fun z => w.heap.size ≤ z ∧ z < w7.heap.size) (fun z hz => ⟨by
            rcases hz.1 with h | h | h
            · exact h.1
            · have := h.1; omega
            · simp at h; omega, hz.2⟩))
          clear hA7
          (try go_wp2_with fail)
          go_roundw
          case rel =>
            refine ⟨k + 1, a7, c7, hlt, rfl, by go_num, ?_, HA7.out⟩
            exact (St.start w).stepB HB7.out
          case measure => simp [intOf]; omega
    · obtain rfl : k = l.length := by omega
      have hnl : ¬ ((l.length : Int) < l.length) := by omega
      have HF := Lib.hid (show Fresh w.heap.size wB [.slice ao l.length co] (movL G l) from by
        have h := HAC.out
        rw [List.take_length] at h
        exact h.ip.fresh (fun k hk => hk.1))
      have HB9 := Lib.hid hst.out.bel
      go_wp2_with fail
      go_ret
      exact ⟨_, rfl, HF.out, HB9.out⟩

theorem rd_ints2 {w : World} {a : Option Addr} {n c : Nat} {x y : Int} (h : Rd w [.slice a n c] [x, y]) :
    ∃ b o, a = some ⟨b, o, none⟩ ∧ w.cell? ⟨b, o, none⟩ = some (.int .i64 x) ∧ w.cell? ⟨b, o + 1, none⟩ = some (.int .i64 y) ∧ n = 2 ∧ I64 x ∧ I64 y := by
  obtain ⟨b, o, rfl, q0, i0⟩ := rd_int_at h 0 (by simp)
  obtain ⟨b1, o1, he, q1, i1⟩ := rd_int_at h 1 (by simp)
  simp only [Option.some.injEq, Addr.mk.injEq] at he
  obtain ⟨rfl, rfl, -⟩ := he
  obtain ⟨a', c', e, _⟩ := rd_list h
  simp only [Value.slice.injEq] at e
  exact ⟨b, o, rfl, by simpa using q0, by simpa using q1, by have := e.2.1; simpa using this, by simpa using i0, by simpa using i1⟩
set_option maxRecDepth 100000 in
set_option maxHeartbeats 1000000 in
theorem minTwo_c (x y : Int) (v : Value) (w : World) (r : Rd w [v] [x, y]) :
    Calls Tryz.prog 58 #[v] w fun e w' => e = .returned (.int .i64 (min x y)) ∧ w = w' := by
  obtain ⟨a, c, rfl, _⟩ := rd_list r
  obtain ⟨b, o, rfl, q0, q1, _, _, _⟩ := rd_ints2 r
  clear r
  go_enter Tryz.func58, Tryz.ntmps58
  go_wp2_with fail
  go_loopw [3, 4] (fun mv iv wr => ∃ k : Nat, iv = .int .i64 k ∧ Hid (w = wr) ∧ Hid ((k = 1 ∧ mv = .int .i64 x) ∨ (k = 2 ∧ mv = .int .i64 (min x y)))) (fun _ i _ => 3 - (intOf i).toNat)
  case atStart => exact ⟨1, rfl, rfl, .inl ⟨rfl, rfl⟩⟩
  case round =>
    obtain ⟨k, rfl, hw, hk⟩ := hrel
    obtain rfl : w = wr := hw.out
    rcases hk.out with ⟨rfl, rfl⟩ | ⟨rfl, rfl⟩
    · go_wp2_with fail
      go_roundw
      case rel =>
        exact ⟨2, by go_num, trivial, .inr ⟨rfl, by first | rfl | exact congrArg (Value.int .i64) (by split <;> omega)⟩⟩
      case measure => simp [intOf]
    · go_wp2_with fail
      go_ret
      exact ⟨rfl, rfl⟩
set_option maxRecDepth 100000 in
set_option maxHeartbeats 1000000 in
theorem maxTwo_c (x y : Int) (v : Value) (w : World) (r : Rd w [v] [x, y]) :
    Calls Tryz.prog 59 #[v] w fun e w' => e = .returned (.int .i64 (max x y)) ∧ w = w' := by
  obtain ⟨a, c, rfl, _⟩ := rd_list r
  obtain ⟨b, o, rfl, q0, q1, _, _, _⟩ := rd_ints2 r
  clear r
  go_enter Tryz.func59, Tryz.ntmps59
  go_wp2_with fail
  go_loopw [3, 4] (fun mv iv wr => ∃ k : Nat, iv = .int .i64 k ∧ Hid (w = wr) ∧ Hid ((k = 1 ∧ mv = .int .i64 x) ∨ (k = 2 ∧ mv = .int .i64 (max x y)))) (fun _ i _ => 3 - (intOf i).toNat)
  case atStart => exact ⟨1, rfl, rfl, .inl ⟨rfl, rfl⟩⟩
  case round =>
    obtain ⟨k, rfl, hw, hk⟩ := hrel
    obtain rfl : w = wr := hw.out
    rcases hk.out with ⟨rfl, rfl⟩ | ⟨rfl, rfl⟩
    · go_wp2_with fail
      go_roundw
      case rel =>
        exact ⟨2, by go_num, trivial, .inr ⟨rfl, by first | rfl | exact congrArg (Value.int .i64) (by split <;> omega)⟩⟩
      case measure => simp [intOf]
    · go_wp2_with fail
      go_ret
      exact ⟨rfl, rfl⟩
theorem l00Min_c (a b : Int) (w : World) :
    Calls Tryz.prog 41 #[.int .i64 a, .int .i64 b] w fun e w' => e = .returned (.int .i64 (min a b)) ∧ w = w' := by
  by_cases h : a < b
  · go_enter Tryz.func41, Tryz.ntmps41
    go_wp2
    go_ret
    exact ⟨ret_int (by omega), rfl⟩
  · go_enter Tryz.func41, Tryz.ntmps41
    go_wp2
    go_ret
    exact ⟨ret_int (by omega), rfl⟩

end Go.Proofs.YtnefmhhemaenkaaGreat
