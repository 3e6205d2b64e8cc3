/-
  CONTRACTS: simplified; the program's side.
-/
import Derived.Test.YtnefmhhemaenkaaGreatSimp
namespace Go.Proofs.YtnefmhhemaenkaaGreat
open Go.RowKit Go.Shelf Go.IntWalk
open Rep (Rd Own sz)
set_option linter.unusedSimpArgs false
set_option linter.unusedVariables false

theorem rd_uniqI {w : World} {v : Value} {l m : List Int} (h : Rd w [v] l) (k : Rd w [v] m) : l = m := by
  obtain ⟨a, c, rfl, _⟩ := rd_list h
  obtain ⟨a', c', e, _⟩ := rd_list k
  simp only [Value.slice.injEq] at e
  obtain ⟨rfl, hl, rfl⟩ := e
  refine List.ext_getElem hl (fun i hi hj => ?_)
  obtain ⟨b, o, rfl, q, _⟩ := rd_int_at h i hi
  obtain ⟨b', o', he, q', _⟩ := rd_int_at k i hj
  simp only [Option.some.injEq, Addr.mk.injEq] at he
  obtain ⟨rfl, rfl, -⟩ := he
  rw [q] at q'
  simpa using q'
theorem rd_uniqA {w : World} {v : Value} {l m : List OpT} (h : Rd w [v] l) (k : Rd w [v] m) : l = m := by
  obtain ⟨a, c, rfl, _⟩ := rd_list h
  obtain ⟨a', c', e, _⟩ := rd_list k
  simp only [Value.slice.injEq] at e
  obtain ⟨rfl, hl, rfl⟩ := e
  refine List.ext_getElem hl (fun i hi hj => ?_)
  obtain ⟨b, o, u0, u1, rfl, q0, q1, hy⟩ := rd_two_at rfl h i hi
  obtain ⟨b', o', z0, z1, he, r0, r1, hz⟩ := rd_two_at rfl k i hj
  simp only [Option.some.injEq, Addr.mk.injEq] at he
  obtain ⟨rfl, rfl, -⟩ := he
  rw [q0] at r0
  rw [q1] at r1
  simp only [Option.some.injEq] at r0 r1
  subst r0 r1
  have y := rd_cons rfl hy
  have z := rd_cons rfl hz
  have e1 := (rd_i1 y.1).1.symm.trans (rd_i1 z.1).1
  have e2 := rd_uniqI y.2 z.2
  refine Prod.ext ?_ e2
  simpa using e1
open Classical in
/-- How many variables the atoms at v have: the measure of the merges. -/
noncomputable def usedW (vars : Nat) (w : World) (v : Value) : Nat := if h : ∃ A : List OpT, Rd w [v] A then usedN vars (Classical.choose h) else 0
theorem usedW_eq {vars : Nat} {w : World} {v : Value} {A : List OpT} (h : Rd w [v] A) : usedW vars w v = usedN vars A := by
  have hx : ∃ A : List OpT, Rd w [v] A := ⟨A, h⟩
  unfold usedW
  rw [dif_pos hx, rd_uniqA (Classical.choose_spec hx) h]
theorem mrg_two {free : Int} {vars : Nat} {l : List OpT} {i : Nat} (hv : AtomsV vars l) (hf : firstI (isMrg free) l = i) : ∃ (hi : i < l.length) (x y : Int), l[i] = (-1, [x, y]) ∧ isMrg free l[i] = true := by
  obtain ⟨_, hi, hq⟩ := find_of_firstI hf
  obtain ⟨_, _, he⟩ := mergeV_ne hq
  obtain ⟨x, y, hxy⟩ := len_2 ((hv _ (List.getElem_mem hi)).2 he)
  exact ⟨hi, x, y, Prod.ext he hxy, hq⟩
theorem movL_id (l : List OpT) : movL (fun v => v) l = l := by
  unfold movL
  conv => rhs; rw [← List.map_id l]
  exact List.map_congr_left (fun a _ => by simp)
theorem atomsV_i64 {vars : Nat} {l : List OpT} (hv : AtomsV vars l) (h8 : vars ≤ 8) : ∀ a, a ∈ l → ∀ x, x ∈ a.2 → I64 x := fun a ha x hx => by
  have := (hv a ha).1 x hx
  exact ⟨by omega, by omega⟩
theorem merge_i64 {vars : Nat} {l : List OpT} {a : OpT} (hv : AtomsV vars l) (h8 : vars ≤ 8) (ha : a ∈ l) (h2 : a.2.length = 2) : ∀ b, b ∈ l → ∀ x, x ∈ b.2 → I64 (mergeV a x) := fun b hb x hx => by
  have h1 := (hv b hb).1 x hx
  have h3 := (hv a ha).1 _ (mergeV_mem h2).2
  unfold mergeV
  split
  · exact ⟨by omega, by omega⟩
  · exact ⟨by omega, by omega⟩
theorem mrgF_len (free : Int) : ∀ n l, (mrgF free n l).length = l.length
  | 0, l => rfl
  | n + 1, l => by
    rw [mrgF]
    split
    · rfl
    · rw [mrgF_len free n]; unfold stepM; rw [movL_len]
/-- No atom has more than so many places. -/
def ShortA (l : List OpT) : Prop := ∀ a, a ∈ l → a.2.length ≤ 1000000
theorem ShortA.movL {l : List OpT} (h : ShortA l) (G : Int → Int) : ShortA (movL G l) := fun a ha => by
  unfold Go.Proofs.YtnefmhhemaenkaaGreat.movL at ha
  obtain ⟨b, hb, rfl⟩ := List.mem_map.1 ha
  simpa using h b hb
theorem idxV_i64 {vs : List Int} (h : vs.length ≤ 1000000) (v : Int) : I64 (idxV vs v) := by
  have h1 := firstI_lo (fun x => v == x) vs
  have h2 : firstI (fun x => v == x) vs ≤ vs.length := by
    unfold firstI
    cases hf : vs.findIdx? (fun x => v == x) with
    | none => simp only; omega
    | some i =>
      have := find_lt hf
      simp only; omega
  unfold idxV
  exact ⟨by omega, by omega⟩
/-- The number that a pointer points to. -/
def cellInt (w : World) (v : Value) : Int := match v with | .pointer (some a) => (match w.cell? a with | some (.int _ n) => n | _ => 0) | _ => 0
set_option maxRecDepth 100000 in
set_option maxHeartbeats 16000000 in
theorem simplified_c (f : Fml) (v0 v1 v2 : Value) (w : World) (hx : Rd w [v0, v1, v2] f) (hv : AtomsV f.2.1.toNat f.2.2) (hfr : frameOk f = true) (hsh : ShortA f.2.2) :
    Calls Tryz.prog 24 #[.agg #[v0, v1, v2]] w fun e w' => ∃ v, e = .returned (.agg #[.int .i64 (simpF f).1, .int .i64 (simpF f).2.1, v]) ∧ Fresh w.heap.size w' [v] (simpF f).2.2 ∧ Below w.heap.size w w' := by
  obtain ⟨fr, vars, l⟩ := f
  have z := rd_cons rfl hx
  obtain ⟨rfl, _⟩ := rd_i1 z.1
  have z2 := rd_cons rfl z.2
  obtain ⟨rfl, _⟩ := rd_i1 z2.1
  obtain ⟨a, c, rfl, _⟩ := rd_list z2.2
  have HL := Lib.hid z2.2
  clear hx z z2
  have hfg := frameOk_get hfr
  simp only at hfg hv hsh
  have hl16 := hfg.2.2
  have HSH := Lib.hid hsh
  have HV := Lib.hid hv
  have hfr1 := hfg.1
  have hvr := hfg.2.1
  clear hv hfr hfg hsh
  have eg0 : ∀ args w, (callFunc 55 args).run Tryz.prog w = .ok (.enter 55 args) w := enters_of Tryz.func55 (by kernel_rfl) rfl
  have eg1 : ∀ args w, (callFunc 56 args).run Tryz.prog w = .ok (.enter 56 args) w := enters_of Tryz.func56 (by kernel_rfl) rfl
  have eg2 : ∀ args w, (callFunc 60 args).run Tryz.prog w = .ok (.enter 60 args) w := enters_of Tryz.func60 (by kernel_rfl) rfl
  have eg3 : ∀ args w, (callFunc 61 args).run Tryz.prog w = .ok (.enter 61 args) w := enters_of Tryz.func61 (by kernel_rfl) rfl
  have eg4 : ∀ args w, (callFunc 64 args).run Tryz.prog w = .ok (.enter 64 args) w := enters_of Tryz.func64 (by kernel_rfl) rfl
  have eg5 : ∀ args w, (callFunc 66 args).run Tryz.prog w = .ok (.enter 66 args) w := enters_of Tryz.func66 (by kernel_rfl) rfl
  have hs1 := (St.start w).alloc #[.int .i64 fr, .int .i64 vars, .slice a l.length c] 41 (n := w.heap.size) (by simp)
  have k0_0 := hs1.cellAt 0 rfl 0 rfl
  have k0_1 := hs1.cellAt 0 rfl 1 rfl
  have k0_2 := hs1.cellAt 0 rfl 2 rfl
  have hs2 := hs1.alloc #[.int .i64 0, .int .i64 0, .slice none 0 0] 41 (n := w.heap.size + 1) (by simp)
  clear k0_0 k0_1 k0_2
  have k0_0 := hs2.cellAt 0 rfl 0 rfl
  have k0_1 := hs2.cellAt 0 rfl 1 rfl
  have k0_2 := hs2.cellAt 0 rfl 2 rfl
  have k1_0 := hs2.cellAt 1 rfl 0 rfl
  have k1_1 := hs2.cellAt 1 rfl 1 rfl
  have k1_2 := hs2.cellAt 1 rfl 2 rfl
  clear k0_0 k0_1 k0_2 k1_0 k1_1 k1_2
  have k0_0 := hs2.cellAt 0 rfl 0 rfl
  have k0_1 := hs2.cellAt 0 rfl 1 rfl
  have k0_2 := hs2.cellAt 0 rfl 2 rfl
  have k1_0 := hs2.cellAt 1 rfl 0 rfl
  have k1_1 := hs2.cellAt 1 rfl 1 rfl
  have k1_2 := hs2.cellAt 1 rfl 2 rfl
  go_enter Tryz.func24, Tryz.ntmps24
  go_wp2_with fail
  refine (renamed_c l _ 55 #[] (fun v => v) _ (Rd.mono HL.out hs2.bel) (by omega) HSH.out (atomsV_i64 HV.out (by omega)) eg0 (same_by _ _)).mono ?_
  rintro e w3 ⟨v1, rfl, hF1, hbw3⟩
  have hz_w3 : w.heap.size + 1 + 1 ≤ w3.heap.size := by have h9 := hbw3.size; (try simp at h9); omega
  have hs4 := hs2.step hbw3
  clear k0_0 k0_1 k0_2 k1_0 k1_1 k1_2
  have k0_0 := hs4.cellAt 0 rfl 0 rfl
  have k0_1 := hs4.cellAt 0 rfl 1 rfl
  have k0_2 := hs4.cellAt 0 rfl 2 rfl
  have k1_0 := hs4.cellAt 1 rfl 0 rfl
  have k1_1 := hs4.cellAt 1 rfl 1 rfl
  have k1_2 := hs4.cellAt 1 rfl 2 rfl
  rw [movL_id] at hF1
  have HA1 := Lib.hid hF1.rd
  obtain ⟨a1, c1, rfl, _⟩ := rd_list HA1.out
  clear hF1
  go_wp2_with fail
  refine (indexAtoms_c l _ 56 _ _ _ HA1.out eg1 (simplified1_by _ fr _ l (hs4.cellAt 0 rfl 0 rfl) (fun a ha => (HV.out a ha).2))).mono ?_
  rintro e w5 ⟨rfl, hbw5⟩
  have hz_w5 : w3.heap.size ≤ w5.heap.size := by have h9 := hbw5.size; (try simp at h9); omega
  have hs6 := hs4.step hbw5
  have HA1_7 := Lib.hid (Rd.mono HA1.out hbw5)
  clear HA1
  clear k0_0 k0_1 k0_2 k1_0 k1_1 k1_2
  have k0_0 := hs6.cellAt 0 rfl 0 rfl
  have k0_1 := hs6.cellAt 0 rfl 1 rfl
  have k0_2 := hs6.cellAt 0 rfl 2 rfl
  have k1_0 := hs6.cellAt 1 rfl 0 rfl
  have k1_1 := hs6.cellAt 1 rfl 1 rfl
  have k1_2 := hs6.cellAt 1 rfl 2 rfl
  have HS1 := Lib.hid hs6
  have HR1 := Lib.hid HA1_7.out
  go_wp2_with fail
  go_loopw [3, 5] (fun av iv wl => ∃ (A : List OpT) (ao : Option Addr) (co : Nat), av = .slice ao A.length co ∧ iv = .int .i64 (firstI (isMrg fr) A) ∧ Hid (MrgR fr vars.toNat l A) ∧ Hid (ShortA A ∧ A.length = l.length) ∧ Hid (Rd wl [.slice ao A.length co] A) ∧
    Hid (St w (w.heap.size + 1 + 1) wl [(w.heap.size, #[.int .i64 fr, .int .i64 vars, .slice a l.length c], 41), (w.heap.size + 1, #[.int .i64 0, .int .i64 0, .slice none 0 0], 41)])) (fun av _ wl => usedW vars.toNat wl av)
  case atStart => exact ⟨l, a1, c1, rfl, rfl, mrgR_start fr HV.out, ⟨HSH.out, rfl⟩, HR1.out, HS1.out⟩
  case round =>
    clear HS1 HR1
    obtain ⟨A, ao, co, rfl, rfl, hmr, hsa, hra, hst⟩ := hrel
    have k0_0 := hst.out.cellAt 0 rfl 0 rfl
    have k0_1 := hst.out.cellAt 0 rfl 1 rfl
    have k0_2 := hst.out.cellAt 0 rfl 2 rfl
    have k1_0 := hst.out.cellAt 1 rfl 0 rfl
    have k1_1 := hst.out.cellAt 1 rfl 1 rfl
    have k1_2 := hst.out.cellAt 1 rfl 2 rfl
    have HRA := hra
    generalize hFF : firstI (isMrg fr) A = F at *
    by_cases hge : 0 ≤ F
    · obtain ⟨i, rfl⟩ : ∃ i : Nat, F = i := ⟨F.toNat, by omega⟩
      obtain ⟨hiA, x, y, hAi, hq⟩ := mrg_two hmr.out.1 hFF
      have HST := Lib.hid (mrgR_step hmr.out hFF)
      have HMI := Lib.hid (merge_i64 (a := A[i]) hmr.out.1 (by omega) (List.getElem_mem hiA) (by rw [hAi]; rfl))
      have HGD := Lib.hid (show A.getD i (0, []) = (-1, [x, y]) by simp [List.getD, hiA, hAi])
      obtain ⟨b, o, u0, u1, he, q0, q1, hy⟩ := rd_two_at rfl HRA.out i hiA
      rw [hAi] at hy HMI
      have hyz := rd_cons rfl hy
      obtain ⟨rfl, _⟩ := rd_i1 hyz.1
      have HSC := Lib.hid hyz.2
      obtain ⟨a2, c2, rfl, _⟩ := rd_list hyz.2
      subst he
      have hAl : A.length ≤ 1000000 := by have := hsa.out.2; omega
      have hiI : (i : Int) < A.length := by omega
      clear hy hyz hAi hq hFF
      have hbX : b < wr.heap.size := World.block_lt_of_cell? wr _ q0
      have HBA := Lib.hid (Below.refl wr.heap.size wr)
      go_upto_region 6 with fail
      go_cut [6, 7] from 25 to 36 (fun x6 x7 wx => ∃ gl gh : Nat, x6 = .pointer (some ⟨gl, 0, none⟩) ∧ x7 = .pointer (some ⟨gh, 0, none⟩) ∧ Hid (Below wr.heap.size wr wx) ∧ Hid (wx.cell? ⟨gl, 0, none⟩ = some (.int .i64 (lowA (-1, [x, y])))) ∧ Hid (wx.cell? ⟨gh, 0, none⟩ = some (.int .i64 (highA (-1, [x, y])))))
      case first =>
        clear k0_0 k0_1 k0_2 k1_0 k1_1 k1_2
        clear HSH HV hmr hsa HST HMI HGD HRA eg0 eg1 eg2 eg3 eg4 eg5 q0
        have HSR := Lib.hid ((St.start w).step hst.out.bel)
        clear hst
        refine wp_region_noPanic (wp_region_tree4 (fun w' => w'.cell? ⟨b, o + i * 2 + 1, none⟩ = some (.slice a2 2 c2)) (.float 0 (.float 1 (.float 2 (.float 3 (.float 4 (.float 6 (.float 7 (.float 8 (.float 9 (.float 10 (.fork3 5 (.fork3 11 (.fork2 12 (.hard 13 (.hard 14 (.last 15 .nil))) 13 (.hard 12 (.hard 14 (.last 15 .nil)))) 12 (.fork2 11 (.hard 13 (.hard 14 (.last 15 .nil))) 13 (.hard 11 (.hard 14 (.last 15 .nil)))) 13 (.fork2 11 (.hard 12 (.hard 14 (.last 15 .nil))) 12 (.hard 11 (.hard 14 (.last 15 .nil))))) 12 (.fork2 5 (.fork2 11 (.hard 13 (.hard 14 (.last 15 .nil))) 13 (.hard 11 (.hard 14 (.last 15 .nil)))) 13 (.hard 5 (.hard 11 (.hard 14 (.last 15 .nil))))) 13 (.fork2 5 (.fork2 11 (.hard 12 (.hard 14 (.last 15 .nil))) 12 (.hard 11 (.hard 14 (.last 15 .nil)))) 12 (.hard 5 (.hard 11 (.hard 14 (.last 15 .nil)))))))))))))))) (by kernel_rfl) (by kernel_rfl) (by kernel_rfl) rfl ?_ (fun _ _ _ _ _ h => h) ?_)
        · exact (cellL (belowD _) q1)
        have hs8 := HSR.out.drew
        have q1_9 := cellL (belowD _) q1
        clear q1
        have HSC_10 := Lib.hid (Rd.mono HSC.out (belowD _))
        clear HSC
        have HBA_11 := Lib.hid (HBA.out.trans (((belowD _)).mono HBA.out.size))
        clear HBA
        have hz_wd12 : wr.heap.size ≤ (wr.drew).heap.size := by simp
        generalize hgen_wd12 : wr.drew = wd12 at *
        have HG_wd12 := Lib.hid hgen_wd12
        clear hgen_wd12
        (repeat (first | (apply t4_skip rfl (by rfl); try simp only [Act.put, List.setIfInBounds_toArray, List.set_cons_zero, List.set_cons_succ]) | (apply t4_float rfl (by rfl); (· (intro w' hS; go_simp <;> with_reducible rfl)); (try simp only [Act.put, List.setIfInBounds_toArray, List.set_cons_zero, List.set_cons_succ]))))
        refine t4_fork3 ?_ ?_ ?_
        · refine t4_hard rfl (by rfl) (fun K hK => ?_)
          go_wp2_with (go_at_call 58; refine (minTwo_c x y _ _ HSC_10.out).mono ?_; rintro e w13 ⟨rfl, rfl⟩)
          refine ⟨(q1_9), ?_⟩
          (repeat (first | (apply t4_skip rfl (by rfl); try simp only [Act.put, List.setIfInBounds_toArray, List.set_cons_zero, List.set_cons_succ]) | (apply t4_float rfl (by rfl); (· (intro w' hS; go_simp <;> with_reducible rfl)); (try simp only [Act.put, List.setIfInBounds_toArray, List.set_cons_zero, List.set_cons_succ]))))
          refine t4_fork3 ?_ ?_ ?_
          · refine t4_hard rfl (by rfl) (fun K hK => ?_)
            go_wp2_with (go_at_call 59; refine (maxTwo_c x y _ _ HSC_10.out).mono ?_; rintro e w14 ⟨rfl, rfl⟩)
            refine ⟨(q1_9), ?_⟩
            (repeat (first | (apply t4_skip rfl (by rfl); try simp only [Act.put, List.setIfInBounds_toArray, List.set_cons_zero, List.set_cons_succ]) | (apply t4_float rfl (by rfl); (· (intro w' hS; go_simp <;> with_reducible rfl)); (try simp only [Act.put, List.setIfInBounds_toArray, List.set_cons_zero, List.set_cons_succ]))))
            refine t4_fork2 ?_ ?_
            · refine t4_hard rfl (by rfl) (fun K hK => ?_)
              go_wp2_with fail
              have hs15 := hs8.alloc #[.int .i64 0] 2 (n := wd12.heap.size) (by simp)
              have q1_16 := cellL (belowA _ (.cells #[.int .i64 0] 2)) q1_9
              clear q1_9
              have HSC_17 := Lib.hid (Rd.mono HSC_10.out (belowA _ (.cells #[.int .i64 0] 2)))
              clear HSC_10
              have HBA_18 := Lib.hid (HBA_11.out.trans (((belowA _ (.cells #[.int .i64 0] 2))).mono HBA_11.out.size))
              clear HBA_11
              have hz_wLo : wd12.heap.size + 1 ≤ ((wd12.alloc (.cells #[.int .i64 0] 2))).heap.size := by simp
              generalize hgen_wLo : (wd12.alloc (.cells #[.int .i64 0] 2)) = wLo at *
              clear hgen_wLo
              refine ⟨(q1_16), ?_⟩
              (repeat (first | (apply t4_skip rfl (by rfl); try simp only [Act.put, List.setIfInBounds_toArray, List.set_cons_zero, List.set_cons_succ]) | (apply t4_float rfl (by rfl); (· (intro w' hS; go_simp <;> with_reducible rfl)); (try simp only [Act.put, List.setIfInBounds_toArray, List.set_cons_zero, List.set_cons_succ]))))
              refine t4_hard rfl (by rfl) (fun K hK => ?_)
              go_wp2_with fail
              have hs19 := hs15.alloc #[.int .i64 0] 2 (n := wLo.heap.size) (by simp)
              have q1_20 := cellL (belowA _ (.cells #[.int .i64 0] 2)) q1_16
              clear q1_16
              have HSC_21 := Lib.hid (Rd.mono HSC_17.out (belowA _ (.cells #[.int .i64 0] 2)))
              clear HSC_17
              have HBA_22 := Lib.hid (HBA_18.out.trans (((belowA _ (.cells #[.int .i64 0] 2))).mono HBA_18.out.size))
              clear HBA_18
              have hz_wHi : wLo.heap.size + 1 ≤ ((wLo.alloc (.cells #[.int .i64 0] 2))).heap.size := by simp
              generalize hgen_wHi : (wLo.alloc (.cells #[.int .i64 0] 2)) = wHi at *
              clear hgen_wHi
              refine ⟨(q1_20), ?_⟩
              (repeat (first | (apply t4_skip rfl (by rfl); try simp only [Act.put, List.setIfInBounds_toArray, List.set_cons_zero, List.set_cons_succ]) | (apply t4_float rfl (by rfl); (· (intro w' hS; go_simp <;> with_reducible rfl)); (try simp only [Act.put, List.setIfInBounds_toArray, List.set_cons_zero, List.set_cons_succ]))))
              refine t4_hard rfl (by rfl) (fun K hK => ?_)
              clear HSC_21
              have f0_0 := hs19.freeAt 0 rfl 0
              have k14 := (hs19.cellAt 0 rfl 0 rfl)
              go_wp2_with fail
              clear k14
              have hs23 := hs19.set (p := []) (by simp <;> omega) 0 (.int .i64 (min x y))
              have q1_24 := (cell_put (b' := wd12.heap.size) (o' := 0) (u := .int .i64 (min x y)) q1_20 (by (try simp) <;> omega))
              clear q1_20
              have HBA_25 := Lib.hid (HBA_22.out.setCell (p := ⟨wd12.heap.size, 0, none⟩) (by (try simp) <;> omega) (.int .i64 (min x y)))
              clear HBA_22
              have hz_wP : wHi.heap.size ≤ ((wHi.setCell ⟨wd12.heap.size, 0, none⟩ (.int .i64 (min x y)))).heap.size := by simp [World.setCell]
              generalize hgen_wP : (wHi.setCell ⟨wd12.heap.size, 0, none⟩ (.int .i64 (min x y))) = wP at *
              clear hgen_wP
              refine ⟨(q1_24), ?_⟩
              (repeat (first | (apply t4_skip rfl (by rfl); try simp only [Act.put, List.setIfInBounds_toArray, List.set_cons_zero, List.set_cons_succ]) | (apply t4_float rfl (by rfl); (· (intro w' hS; go_simp <;> with_reducible rfl)); (try simp only [Act.put, List.setIfInBounds_toArray, List.set_cons_zero, List.set_cons_succ]))))
              refine t4_last rfl (by rfl) (fun K hK => ?_)
              have k0_0 := hs23.cellAt 0 rfl 0 rfl
              have k1_0 := hs23.cellAt 1 rfl 0 rfl
              have f1_0 := hs23.freeAt 1 rfl 0
              go_wp2_with fail
              refine t4_nil (NoPanic.normal ?_)
              have hs26 := hs23.set (p := [_]) (by simp <;> omega) 0 (.int .i64 (max x y))
              have q1_27 := (cell_put (b' := wLo.heap.size) (o' := 0) (u := .int .i64 (max x y)) q1_24 (by (try simp) <;> omega))
              clear q1_24
              have HBA_28 := Lib.hid (HBA_25.out.setCell (p := ⟨wLo.heap.size, 0, none⟩) (by (try simp) <;> omega) (.int .i64 (max x y)))
              clear HBA_25
              clear k0_0 k1_0
              have hz_wQ : wP.heap.size ≤ ((wP.setCell ⟨wLo.heap.size, 0, none⟩ (.int .i64 (max x y)))).heap.size := by simp [World.setCell]
              generalize hgen_wQ : (wP.setCell ⟨wLo.heap.size, 0, none⟩ (.int .i64 (max x y))) = wQ at *
              clear hgen_wQ
              have k0_0 := hs26.cellAt 0 rfl 0 rfl
              have k1_0 := hs26.cellAt 1 rfl 0 rfl
              go_wp2_with fail
              go_meet
              case rel => exact ⟨wd12.heap.size, wLo.heap.size, rfl, rfl, HBA_28.out, (hs26.cellAt 0 rfl 0 rfl), (hs26.cellAt 1 rfl 0 rfl)⟩
            · refine t4_hard rfl (by rfl) (fun K hK => ?_)
              go_wp2_with fail
              have hs29 := hs8.alloc #[.int .i64 0] 2 (n := wd12.heap.size) (by simp)
              have q1_30 := cellL (belowA _ (.cells #[.int .i64 0] 2)) q1_9
              clear q1_9
              have HSC_31 := Lib.hid (Rd.mono HSC_10.out (belowA _ (.cells #[.int .i64 0] 2)))
              clear HSC_10
              have HBA_32 := Lib.hid (HBA_11.out.trans (((belowA _ (.cells #[.int .i64 0] 2))).mono HBA_11.out.size))
              clear HBA_11
              have hz_wHi : wd12.heap.size + 1 ≤ ((wd12.alloc (.cells #[.int .i64 0] 2))).heap.size := by simp
              generalize hgen_wHi : (wd12.alloc (.cells #[.int .i64 0] 2)) = wHi at *
              clear hgen_wHi
              refine ⟨(q1_30), ?_⟩
              (repeat (first | (apply t4_skip rfl (by rfl); try simp only [Act.put, List.setIfInBounds_toArray, List.set_cons_zero, List.set_cons_succ]) | (apply t4_float rfl (by rfl); (· (intro w' hS; go_simp <;> with_reducible rfl)); (try simp only [Act.put, List.setIfInBounds_toArray, List.set_cons_zero, List.set_cons_succ]))))
              refine t4_hard rfl (by rfl) (fun K hK => ?_)
              go_wp2_with fail
              have hs33 := hs29.alloc #[.int .i64 0] 2 (n := wHi.heap.size) (by simp)
              have q1_34 := cellL (belowA _ (.cells #[.int .i64 0] 2)) q1_30
              clear q1_30
              have HSC_35 := Lib.hid (Rd.mono HSC_31.out (belowA _ (.cells #[.int .i64 0] 2)))
              clear HSC_31
              have HBA_36 := Lib.hid (HBA_32.out.trans (((belowA _ (.cells #[.int .i64 0] 2))).mono HBA_32.out.size))
              clear HBA_32
              have hz_wLo : wHi.heap.size + 1 ≤ ((wHi.alloc (.cells #[.int .i64 0] 2))).heap.size := by simp
              generalize hgen_wLo : (wHi.alloc (.cells #[.int .i64 0] 2)) = wLo at *
              clear hgen_wLo
              refine ⟨(q1_34), ?_⟩
              (repeat (first | (apply t4_skip rfl (by rfl); try simp only [Act.put, List.setIfInBounds_toArray, List.set_cons_zero, List.set_cons_succ]) | (apply t4_float rfl (by rfl); (· (intro w' hS; go_simp <;> with_reducible rfl)); (try simp only [Act.put, List.setIfInBounds_toArray, List.set_cons_zero, List.set_cons_succ]))))
              refine t4_hard rfl (by rfl) (fun K hK => ?_)
              clear HSC_35
              have f1_0 := hs33.freeAt 1 rfl 0
              have k14 := (hs33.cellAt 1 rfl 0 rfl)
              go_wp2_with fail
              clear k14
              have hs37 := hs33.set (p := [_]) (by simp <;> omega) 0 (.int .i64 (min x y))
              have q1_38 := (cell_put (b' := wHi.heap.size) (o' := 0) (u := .int .i64 (min x y)) q1_34 (by (try simp) <;> omega))
              clear q1_34
              have HBA_39 := Lib.hid (HBA_36.out.setCell (p := ⟨wHi.heap.size, 0, none⟩) (by (try simp) <;> omega) (.int .i64 (min x y)))
              clear HBA_36
              have hz_wP : wLo.heap.size ≤ ((wLo.setCell ⟨wHi.heap.size, 0, none⟩ (.int .i64 (min x y)))).heap.size := by simp [World.setCell]
              generalize hgen_wP : (wLo.setCell ⟨wHi.heap.size, 0, none⟩ (.int .i64 (min x y))) = wP at *
              clear hgen_wP
              refine ⟨(q1_38), ?_⟩
              (repeat (first | (apply t4_skip rfl (by rfl); try simp only [Act.put, List.setIfInBounds_toArray, List.set_cons_zero, List.set_cons_succ]) | (apply t4_float rfl (by rfl); (· (intro w' hS; go_simp <;> with_reducible rfl)); (try simp only [Act.put, List.setIfInBounds_toArray, List.set_cons_zero, List.set_cons_succ]))))
              refine t4_last rfl (by rfl) (fun K hK => ?_)
              have k0_0 := hs37.cellAt 0 rfl 0 rfl
              have k1_0 := hs37.cellAt 1 rfl 0 rfl
              have f0_0 := hs37.freeAt 0 rfl 0
              go_wp2_with fail
              refine t4_nil (NoPanic.normal ?_)
              have hs40 := hs37.set (p := []) (by simp <;> omega) 0 (.int .i64 (max x y))
              have q1_41 := (cell_put (b' := wd12.heap.size) (o' := 0) (u := .int .i64 (max x y)) q1_38 (by (try simp) <;> omega))
              clear q1_38
              have HBA_42 := Lib.hid (HBA_39.out.setCell (p := ⟨wd12.heap.size, 0, none⟩) (by (try simp) <;> omega) (.int .i64 (max x y)))
              clear HBA_39
              clear k0_0 k1_0
              have hz_wQ : wP.heap.size ≤ ((wP.setCell ⟨wd12.heap.size, 0, none⟩ (.int .i64 (max x y)))).heap.size := by simp [World.setCell]
              generalize hgen_wQ : (wP.setCell ⟨wd12.heap.size, 0, none⟩ (.int .i64 (max x y))) = wQ at *
              clear hgen_wQ
              have k0_0 := hs40.cellAt 0 rfl 0 rfl
              have k1_0 := hs40.cellAt 1 rfl 0 rfl
              go_wp2_with fail
              go_meet
              case rel => exact ⟨wHi.heap.size, wd12.heap.size, rfl, rfl, HBA_42.out, (hs40.cellAt 1 rfl 0 rfl), (hs40.cellAt 0 rfl 0 rfl)⟩
          · refine t4_hard rfl (by rfl) (fun K hK => ?_)
            go_wp2_with fail
            have hs43 := hs8.alloc #[.int .i64 0] 2 (n := wd12.heap.size) (by simp)
            have q1_44 := cellL (belowA _ (.cells #[.int .i64 0] 2)) q1_9
            clear q1_9
            have HSC_45 := Lib.hid (Rd.mono HSC_10.out (belowA _ (.cells #[.int .i64 0] 2)))
            clear HSC_10
            have HBA_46 := Lib.hid (HBA_11.out.trans (((belowA _ (.cells #[.int .i64 0] 2))).mono HBA_11.out.size))
            clear HBA_11
            have hz_wLo : wd12.heap.size + 1 ≤ ((wd12.alloc (.cells #[.int .i64 0] 2))).heap.size := by simp
            generalize hgen_wLo : (wd12.alloc (.cells #[.int .i64 0] 2)) = wLo at *
            clear hgen_wLo
            refine ⟨(q1_44), ?_⟩
            (repeat (first | (apply t4_skip rfl (by rfl); try simp only [Act.put, List.setIfInBounds_toArray, List.set_cons_zero, List.set_cons_succ]) | (apply t4_float rfl (by rfl); (· (intro w' hS; go_simp <;> with_reducible rfl)); (try simp only [Act.put, List.setIfInBounds_toArray, List.set_cons_zero, List.set_cons_succ]))))
            refine t4_fork2 ?_ ?_
            · refine t4_hard rfl (by rfl) (fun K hK => ?_)
              go_wp2_with (go_at_call 59; refine (maxTwo_c x y _ _ HSC_45.out).mono ?_; rintro e w47 ⟨rfl, rfl⟩)
              refine ⟨(q1_44), ?_⟩
              (repeat (first | (apply t4_skip rfl (by rfl); try simp only [Act.put, List.setIfInBounds_toArray, List.set_cons_zero, List.set_cons_succ]) | (apply t4_float rfl (by rfl); (· (intro w' hS; go_simp <;> with_reducible rfl)); (try simp only [Act.put, List.setIfInBounds_toArray, List.set_cons_zero, List.set_cons_succ]))))
              refine t4_hard rfl (by rfl) (fun K hK => ?_)
              go_wp2_with fail
              have hs48 := hs43.alloc #[.int .i64 0] 2 (n := wLo.heap.size) (by simp)
              have q1_49 := cellL (belowA _ (.cells #[.int .i64 0] 2)) q1_44
              clear q1_44
              have HSC_50 := Lib.hid (Rd.mono HSC_45.out (belowA _ (.cells #[.int .i64 0] 2)))
              clear HSC_45
              have HBA_51 := Lib.hid (HBA_46.out.trans (((belowA _ (.cells #[.int .i64 0] 2))).mono HBA_46.out.size))
              clear HBA_46
              have hz_wHi : wLo.heap.size + 1 ≤ ((wLo.alloc (.cells #[.int .i64 0] 2))).heap.size := by simp
              generalize hgen_wHi : (wLo.alloc (.cells #[.int .i64 0] 2)) = wHi at *
              clear hgen_wHi
              refine ⟨(q1_49), ?_⟩
              (repeat (first | (apply t4_skip rfl (by rfl); try simp only [Act.put, List.setIfInBounds_toArray, List.set_cons_zero, List.set_cons_succ]) | (apply t4_float rfl (by rfl); (· (intro w' hS; go_simp <;> with_reducible rfl)); (try simp only [Act.put, List.setIfInBounds_toArray, List.set_cons_zero, List.set_cons_succ]))))
              refine t4_hard rfl (by rfl) (fun K hK => ?_)
              clear HSC_50
              have f0_0 := hs48.freeAt 0 rfl 0
              have k14 := (hs48.cellAt 0 rfl 0 rfl)
              go_wp2_with fail
              clear k14
              have hs52 := hs48.set (p := []) (by simp <;> omega) 0 (.int .i64 (min x y))
              have q1_53 := (cell_put (b' := wd12.heap.size) (o' := 0) (u := .int .i64 (min x y)) q1_49 (by (try simp) <;> omega))
              clear q1_49
              have HBA_54 := Lib.hid (HBA_51.out.setCell (p := ⟨wd12.heap.size, 0, none⟩) (by (try simp) <;> omega) (.int .i64 (min x y)))
              clear HBA_51
              have hz_wP : wHi.heap.size ≤ ((wHi.setCell ⟨wd12.heap.size, 0, none⟩ (.int .i64 (min x y)))).heap.size := by simp [World.setCell]
              generalize hgen_wP : (wHi.setCell ⟨wd12.heap.size, 0, none⟩ (.int .i64 (min x y))) = wP at *
              clear hgen_wP
              refine ⟨(q1_53), ?_⟩
              (repeat (first | (apply t4_skip rfl (by rfl); try simp only [Act.put, List.setIfInBounds_toArray, List.set_cons_zero, List.set_cons_succ]) | (apply t4_float rfl (by rfl); (· (intro w' hS; go_simp <;> with_reducible rfl)); (try simp only [Act.put, List.setIfInBounds_toArray, List.set_cons_zero, List.set_cons_succ]))))
              refine t4_last rfl (by rfl) (fun K hK => ?_)
              have k0_0 := hs52.cellAt 0 rfl 0 rfl
              have k1_0 := hs52.cellAt 1 rfl 0 rfl
              have f1_0 := hs52.freeAt 1 rfl 0
              go_wp2_with fail
              refine t4_nil (NoPanic.normal ?_)
              have hs55 := hs52.set (p := [_]) (by simp <;> omega) 0 (.int .i64 (max x y))
              have q1_56 := (cell_put (b' := wLo.heap.size) (o' := 0) (u := .int .i64 (max x y)) q1_53 (by (try simp) <;> omega))
              clear q1_53
              have HBA_57 := Lib.hid (HBA_54.out.setCell (p := ⟨wLo.heap.size, 0, none⟩) (by (try simp) <;> omega) (.int .i64 (max x y)))
              clear HBA_54
              clear k0_0 k1_0
              have hz_wQ : wP.heap.size ≤ ((wP.setCell ⟨wLo.heap.size, 0, none⟩ (.int .i64 (max x y)))).heap.size := by simp [World.setCell]
              generalize hgen_wQ : (wP.setCell ⟨wLo.heap.size, 0, none⟩ (.int .i64 (max x y))) = wQ at *
              clear hgen_wQ
              have k0_0 := hs55.cellAt 0 rfl 0 rfl
              have k1_0 := hs55.cellAt 1 rfl 0 rfl
              go_wp2_with fail
              go_meet
              case rel => exact ⟨wd12.heap.size, wLo.heap.size, rfl, rfl, HBA_57.out, (hs55.cellAt 0 rfl 0 rfl), (hs55.cellAt 1 rfl 0 rfl)⟩
            · refine t4_hard rfl (by rfl) (fun K hK => ?_)
              go_wp2_with fail
              have hs58 := hs43.alloc #[.int .i64 0] 2 (n := wLo.heap.size) (by simp)
              have q1_59 := cellL (belowA _ (.cells #[.int .i64 0] 2)) q1_44
              clear q1_44
              have HSC_60 := Lib.hid (Rd.mono HSC_45.out (belowA _ (.cells #[.int .i64 0] 2)))
              clear HSC_45
              have HBA_61 := Lib.hid (HBA_46.out.trans (((belowA _ (.cells #[.int .i64 0] 2))).mono HBA_46.out.size))
              clear HBA_46
              have hz_wHi : wLo.heap.size + 1 ≤ ((wLo.alloc (.cells #[.int .i64 0] 2))).heap.size := by simp
              generalize hgen_wHi : (wLo.alloc (.cells #[.int .i64 0] 2)) = wHi at *
              clear hgen_wHi
              refine ⟨(q1_59), ?_⟩
              (repeat (first | (apply t4_skip rfl (by rfl); try simp only [Act.put, List.setIfInBounds_toArray, List.set_cons_zero, List.set_cons_succ]) | (apply t4_float rfl (by rfl); (· (intro w' hS; go_simp <;> with_reducible rfl)); (try simp only [Act.put, List.setIfInBounds_toArray, List.set_cons_zero, List.set_cons_succ]))))
              refine t4_hard rfl (by rfl) (fun K hK => ?_)
              go_wp2_with (go_at_call 59; refine (maxTwo_c x y _ _ HSC_60.out).mono ?_; rintro e w62 ⟨rfl, rfl⟩)
              refine ⟨(q1_59), ?_⟩
              (repeat (first | (apply t4_skip rfl (by rfl); try simp only [Act.put, List.setIfInBounds_toArray, List.set_cons_zero, List.set_cons_succ]) | (apply t4_float rfl (by rfl); (· (intro w' hS; go_simp <;> with_reducible rfl)); (try simp only [Act.put, List.setIfInBounds_toArray, List.set_cons_zero, List.set_cons_succ]))))
              refine t4_hard rfl (by rfl) (fun K hK => ?_)
              clear HSC_60
              have f0_0 := hs58.freeAt 0 rfl 0
              have k14 := (hs58.cellAt 0 rfl 0 rfl)
              go_wp2_with fail
              clear k14
              have hs63 := hs58.set (p := []) (by simp <;> omega) 0 (.int .i64 (min x y))
              have q1_64 := (cell_put (b' := wd12.heap.size) (o' := 0) (u := .int .i64 (min x y)) q1_59 (by (try simp) <;> omega))
              clear q1_59
              have HBA_65 := Lib.hid (HBA_61.out.setCell (p := ⟨wd12.heap.size, 0, none⟩) (by (try simp) <;> omega) (.int .i64 (min x y)))
              clear HBA_61
              have hz_wP : wHi.heap.size ≤ ((wHi.setCell ⟨wd12.heap.size, 0, none⟩ (.int .i64 (min x y)))).heap.size := by simp [World.setCell]
              generalize hgen_wP : (wHi.setCell ⟨wd12.heap.size, 0, none⟩ (.int .i64 (min x y))) = wP at *
              clear hgen_wP
              refine ⟨(q1_64), ?_⟩
              (repeat (first | (apply t4_skip rfl (by rfl); try simp only [Act.put, List.setIfInBounds_toArray, List.set_cons_zero, List.set_cons_succ]) | (apply t4_float rfl (by rfl); (· (intro w' hS; go_simp <;> with_reducible rfl)); (try simp only [Act.put, List.setIfInBounds_toArray, List.set_cons_zero, List.set_cons_succ]))))
              refine t4_last rfl (by rfl) (fun K hK => ?_)
              have k0_0 := hs63.cellAt 0 rfl 0 rfl
              have k1_0 := hs63.cellAt 1 rfl 0 rfl
              have f1_0 := hs63.freeAt 1 rfl 0
              go_wp2_with fail
              refine t4_nil (NoPanic.normal ?_)
              have hs66 := hs63.set (p := [_]) (by simp <;> omega) 0 (.int .i64 (max x y))
              have q1_67 := (cell_put (b' := wLo.heap.size) (o' := 0) (u := .int .i64 (max x y)) q1_64 (by (try simp) <;> omega))
              clear q1_64
              have HBA_68 := Lib.hid (HBA_65.out.setCell (p := ⟨wLo.heap.size, 0, none⟩) (by (try simp) <;> omega) (.int .i64 (max x y)))
              clear HBA_65
              clear k0_0 k1_0
              have hz_wQ : wP.heap.size ≤ ((wP.setCell ⟨wLo.heap.size, 0, none⟩ (.int .i64 (max x y)))).heap.size := by simp [World.setCell]
              generalize hgen_wQ : (wP.setCell ⟨wLo.heap.size, 0, none⟩ (.int .i64 (max x y))) = wQ at *
              clear hgen_wQ
              have k0_0 := hs66.cellAt 0 rfl 0 rfl
              have k1_0 := hs66.cellAt 1 rfl 0 rfl
              go_wp2_with fail
              go_meet
              case rel => exact ⟨wd12.heap.size, wLo.heap.size, rfl, rfl, HBA_68.out, (hs66.cellAt 0 rfl 0 rfl), (hs66.cellAt 1 rfl 0 rfl)⟩
          · refine t4_hard rfl (by rfl) (fun K hK => ?_)
            go_wp2_with fail
            have hs69 := hs8.alloc #[.int .i64 0] 2 (n := wd12.heap.size) (by simp)
            have q1_70 := cellL (belowA _ (.cells #[.int .i64 0] 2)) q1_9
            clear q1_9
            have HSC_71 := Lib.hid (Rd.mono HSC_10.out (belowA _ (.cells #[.int .i64 0] 2)))
            clear HSC_10
            have HBA_72 := Lib.hid (HBA_11.out.trans (((belowA _ (.cells #[.int .i64 0] 2))).mono HBA_11.out.size))
            clear HBA_11
            have hz_wHi : wd12.heap.size + 1 ≤ ((wd12.alloc (.cells #[.int .i64 0] 2))).heap.size := by simp
            generalize hgen_wHi : (wd12.alloc (.cells #[.int .i64 0] 2)) = wHi at *
            clear hgen_wHi
            refine ⟨(q1_70), ?_⟩
            (repeat (first | (apply t4_skip rfl (by rfl); try simp only [Act.put, List.setIfInBounds_toArray, List.set_cons_zero, List.set_cons_succ]) | (apply t4_float rfl (by rfl); (· (intro w' hS; go_simp <;> with_reducible rfl)); (try simp only [Act.put, List.setIfInBounds_toArray, List.set_cons_zero, List.set_cons_succ]))))
            refine t4_fork2 ?_ ?_
            · refine t4_hard rfl (by rfl) (fun K hK => ?_)
              go_wp2_with (go_at_call 59; refine (maxTwo_c x y _ _ HSC_71.out).mono ?_; rintro e w73 ⟨rfl, rfl⟩)
              refine ⟨(q1_70), ?_⟩
              (repeat (first | (apply t4_skip rfl (by rfl); try simp only [Act.put, List.setIfInBounds_toArray, List.set_cons_zero, List.set_cons_succ]) | (apply t4_float rfl (by rfl); (· (intro w' hS; go_simp <;> with_reducible rfl)); (try simp only [Act.put, List.setIfInBounds_toArray, List.set_cons_zero, List.set_cons_succ]))))
              refine t4_hard rfl (by rfl) (fun K hK => ?_)
              go_wp2_with fail
              have hs74 := hs69.alloc #[.int .i64 0] 2 (n := wHi.heap.size) (by simp)
              have q1_75 := cellL (belowA _ (.cells #[.int .i64 0] 2)) q1_70
              clear q1_70
              have HSC_76 := Lib.hid (Rd.mono HSC_71.out (belowA _ (.cells #[.int .i64 0] 2)))
              clear HSC_71
              have HBA_77 := Lib.hid (HBA_72.out.trans (((belowA _ (.cells #[.int .i64 0] 2))).mono HBA_72.out.size))
              clear HBA_72
              have hz_wLo : wHi.heap.size + 1 ≤ ((wHi.alloc (.cells #[.int .i64 0] 2))).heap.size := by simp
              generalize hgen_wLo : (wHi.alloc (.cells #[.int .i64 0] 2)) = wLo at *
              clear hgen_wLo
              refine ⟨(q1_75), ?_⟩
              (repeat (first | (apply t4_skip rfl (by rfl); try simp only [Act.put, List.setIfInBounds_toArray, List.set_cons_zero, List.set_cons_succ]) | (apply t4_float rfl (by rfl); (· (intro w' hS; go_simp <;> with_reducible rfl)); (try simp only [Act.put, List.setIfInBounds_toArray, List.set_cons_zero, List.set_cons_succ]))))
              refine t4_hard rfl (by rfl) (fun K hK => ?_)
              clear HSC_76
              have f1_0 := hs74.freeAt 1 rfl 0
              have k14 := (hs74.cellAt 1 rfl 0 rfl)
              go_wp2_with fail
              clear k14
              have hs78 := hs74.set (p := [_]) (by simp <;> omega) 0 (.int .i64 (min x y))
              have q1_79 := (cell_put (b' := wHi.heap.size) (o' := 0) (u := .int .i64 (min x y)) q1_75 (by (try simp) <;> omega))
              clear q1_75
              have HBA_80 := Lib.hid (HBA_77.out.setCell (p := ⟨wHi.heap.size, 0, none⟩) (by (try simp) <;> omega) (.int .i64 (min x y)))
              clear HBA_77
              have hz_wP : wLo.heap.size ≤ ((wLo.setCell ⟨wHi.heap.size, 0, none⟩ (.int .i64 (min x y)))).heap.size := by simp [World.setCell]
              generalize hgen_wP : (wLo.setCell ⟨wHi.heap.size, 0, none⟩ (.int .i64 (min x y))) = wP at *
              clear hgen_wP
              refine ⟨(q1_79), ?_⟩
              (repeat (first | (apply t4_skip rfl (by rfl); try simp only [Act.put, List.setIfInBounds_toArray, List.set_cons_zero, List.set_cons_succ]) | (apply t4_float rfl (by rfl); (· (intro w' hS; go_simp <;> with_reducible rfl)); (try simp only [Act.put, List.setIfInBounds_toArray, List.set_cons_zero, List.set_cons_succ]))))
              refine t4_last rfl (by rfl) (fun K hK => ?_)
              have k0_0 := hs78.cellAt 0 rfl 0 rfl
              have k1_0 := hs78.cellAt 1 rfl 0 rfl
              have f0_0 := hs78.freeAt 0 rfl 0
              go_wp2_with fail
              refine t4_nil (NoPanic.normal ?_)
              have hs81 := hs78.set (p := []) (by simp <;> omega) 0 (.int .i64 (max x y))
              have q1_82 := (cell_put (b' := wd12.heap.size) (o' := 0) (u := .int .i64 (max x y)) q1_79 (by (try simp) <;> omega))
              clear q1_79
              have HBA_83 := Lib.hid (HBA_80.out.setCell (p := ⟨wd12.heap.size, 0, none⟩) (by (try simp) <;> omega) (.int .i64 (max x y)))
              clear HBA_80
              clear k0_0 k1_0
              have hz_wQ : wP.heap.size ≤ ((wP.setCell ⟨wd12.heap.size, 0, none⟩ (.int .i64 (max x y)))).heap.size := by simp [World.setCell]
              generalize hgen_wQ : (wP.setCell ⟨wd12.heap.size, 0, none⟩ (.int .i64 (max x y))) = wQ at *
              clear hgen_wQ
              have k0_0 := hs81.cellAt 0 rfl 0 rfl
              have k1_0 := hs81.cellAt 1 rfl 0 rfl
              go_wp2_with fail
              go_meet
              case rel => exact ⟨wHi.heap.size, wd12.heap.size, rfl, rfl, HBA_83.out, (hs81.cellAt 1 rfl 0 rfl), (hs81.cellAt 0 rfl 0 rfl)⟩
            · refine t4_hard rfl (by rfl) (fun K hK => ?_)
              go_wp2_with fail
              have hs84 := hs69.alloc #[.int .i64 0] 2 (n := wHi.heap.size) (by simp)
              have q1_85 := cellL (belowA _ (.cells #[.int .i64 0] 2)) q1_70
              clear q1_70
              have HSC_86 := Lib.hid (Rd.mono HSC_71.out (belowA _ (.cells #[.int .i64 0] 2)))
              clear HSC_71
              have HBA_87 := Lib.hid (HBA_72.out.trans (((belowA _ (.cells #[.int .i64 0] 2))).mono HBA_72.out.size))
              clear HBA_72
              have hz_wLo : wHi.heap.size + 1 ≤ ((wHi.alloc (.cells #[.int .i64 0] 2))).heap.size := by simp
              generalize hgen_wLo : (wHi.alloc (.cells #[.int .i64 0] 2)) = wLo at *
              clear hgen_wLo
              refine ⟨(q1_85), ?_⟩
              (repeat (first | (apply t4_skip rfl (by rfl); try simp only [Act.put, List.setIfInBounds_toArray, List.set_cons_zero, List.set_cons_succ]) | (apply t4_float rfl (by rfl); (· (intro w' hS; go_simp <;> with_reducible rfl)); (try simp only [Act.put, List.setIfInBounds_toArray, List.set_cons_zero, List.set_cons_succ]))))
              refine t4_hard rfl (by rfl) (fun K hK => ?_)
              go_wp2_with (go_at_call 59; refine (maxTwo_c x y _ _ HSC_86.out).mono ?_; rintro e w88 ⟨rfl, rfl⟩)
              refine ⟨(q1_85), ?_⟩
              (repeat (first | (apply t4_skip rfl (by rfl); try simp only [Act.put, List.setIfInBounds_toArray, List.set_cons_zero, List.set_cons_succ]) | (apply t4_float rfl (by rfl); (· (intro w' hS; go_simp <;> with_reducible rfl)); (try simp only [Act.put, List.setIfInBounds_toArray, List.set_cons_zero, List.set_cons_succ]))))
              refine t4_hard rfl (by rfl) (fun K hK => ?_)
              clear HSC_86
              have f1_0 := hs84.freeAt 1 rfl 0
              have k14 := (hs84.cellAt 1 rfl 0 rfl)
              go_wp2_with fail
              clear k14
              have hs89 := hs84.set (p := [_]) (by simp <;> omega) 0 (.int .i64 (min x y))
              have q1_90 := (cell_put (b' := wHi.heap.size) (o' := 0) (u := .int .i64 (min x y)) q1_85 (by (try simp) <;> omega))
              clear q1_85
              have HBA_91 := Lib.hid (HBA_87.out.setCell (p := ⟨wHi.heap.size, 0, none⟩) (by (try simp) <;> omega) (.int .i64 (min x y)))
              clear HBA_87
              have hz_wP : wLo.heap.size ≤ ((wLo.setCell ⟨wHi.heap.size, 0, none⟩ (.int .i64 (min x y)))).heap.size := by simp [World.setCell]
              generalize hgen_wP : (wLo.setCell ⟨wHi.heap.size, 0, none⟩ (.int .i64 (min x y))) = wP at *
              clear hgen_wP
              refine ⟨(q1_90), ?_⟩
              (repeat (first | (apply t4_skip rfl (by rfl); try simp only [Act.put, List.setIfInBounds_toArray, List.set_cons_zero, List.set_cons_succ]) | (apply t4_float rfl (by rfl); (· (intro w' hS; go_simp <;> with_reducible rfl)); (try simp only [Act.put, List.setIfInBounds_toArray, List.set_cons_zero, List.set_cons_succ]))))
              refine t4_last rfl (by rfl) (fun K hK => ?_)
              have k0_0 := hs89.cellAt 0 rfl 0 rfl
              have k1_0 := hs89.cellAt 1 rfl 0 rfl
              have f0_0 := hs89.freeAt 0 rfl 0
              go_wp2_with fail
              refine t4_nil (NoPanic.normal ?_)
              have hs92 := hs89.set (p := []) (by simp <;> omega) 0 (.int .i64 (max x y))
              have q1_93 := (cell_put (b' := wd12.heap.size) (o' := 0) (u := .int .i64 (max x y)) q1_90 (by (try simp) <;> omega))
              clear q1_90
              have HBA_94 := Lib.hid (HBA_91.out.setCell (p := ⟨wd12.heap.size, 0, none⟩) (by (try simp) <;> omega) (.int .i64 (max x y)))
              clear HBA_91
              clear k0_0 k1_0
              have hz_wQ : wP.heap.size ≤ ((wP.setCell ⟨wd12.heap.size, 0, none⟩ (.int .i64 (max x y)))).heap.size := by simp [World.setCell]
              generalize hgen_wQ : (wP.setCell ⟨wd12.heap.size, 0, none⟩ (.int .i64 (max x y))) = wQ at *
              clear hgen_wQ
              have k0_0 := hs92.cellAt 0 rfl 0 rfl
              have k1_0 := hs92.cellAt 1 rfl 0 rfl
              go_wp2_with fail
              go_meet
              case rel => exact ⟨wHi.heap.size, wd12.heap.size, rfl, rfl, HBA_94.out, (hs92.cellAt 1 rfl 0 rfl), (hs92.cellAt 0 rfl 0 rfl)⟩
        · refine t4_hard rfl (by rfl) (fun K hK => ?_)
          go_wp2_with fail
          have hs95 := hs8.alloc #[.int .i64 0] 2 (n := wd12.heap.size) (by simp)
          have q1_96 := cellL (belowA _ (.cells #[.int .i64 0] 2)) q1_9
          clear q1_9
          have HSC_97 := Lib.hid (Rd.mono HSC_10.out (belowA _ (.cells #[.int .i64 0] 2)))
          clear HSC_10
          have HBA_98 := Lib.hid (HBA_11.out.trans (((belowA _ (.cells #[.int .i64 0] 2))).mono HBA_11.out.size))
          clear HBA_11
          have hz_wLo : wd12.heap.size + 1 ≤ ((wd12.alloc (.cells #[.int .i64 0] 2))).heap.size := by simp
          generalize hgen_wLo : (wd12.alloc (.cells #[.int .i64 0] 2)) = wLo at *
          clear hgen_wLo
          refine ⟨(q1_96), ?_⟩
          (repeat (first | (apply t4_skip rfl (by rfl); try simp only [Act.put, List.setIfInBounds_toArray, List.set_cons_zero, List.set_cons_succ]) | (apply t4_float rfl (by rfl); (· (intro w' hS; go_simp <;> with_reducible rfl)); (try simp only [Act.put, List.setIfInBounds_toArray, List.set_cons_zero, List.set_cons_succ]))))
          refine t4_fork2 ?_ ?_
          · refine t4_hard rfl (by rfl) (fun K hK => ?_)
            go_wp2_with (go_at_call 58; refine (minTwo_c x y _ _ HSC_97.out).mono ?_; rintro e w99 ⟨rfl, rfl⟩)
            refine ⟨(q1_96), ?_⟩
            (repeat (first | (apply t4_skip rfl (by rfl); try simp only [Act.put, List.setIfInBounds_toArray, List.set_cons_zero, List.set_cons_succ]) | (apply t4_float rfl (by rfl); (· (intro w' hS; go_simp <;> with_reducible rfl)); (try simp only [Act.put, List.setIfInBounds_toArray, List.set_cons_zero, List.set_cons_succ]))))
            refine t4_fork2 ?_ ?_
            · refine t4_hard rfl (by rfl) (fun K hK => ?_)
              go_wp2_with (go_at_call 59; refine (maxTwo_c x y _ _ HSC_97.out).mono ?_; rintro e w100 ⟨rfl, rfl⟩)
              refine ⟨(q1_96), ?_⟩
              (repeat (first | (apply t4_skip rfl (by rfl); try simp only [Act.put, List.setIfInBounds_toArray, List.set_cons_zero, List.set_cons_succ]) | (apply t4_float rfl (by rfl); (· (intro w' hS; go_simp <;> with_reducible rfl)); (try simp only [Act.put, List.setIfInBounds_toArray, List.set_cons_zero, List.set_cons_succ]))))
              refine t4_hard rfl (by rfl) (fun K hK => ?_)
              go_wp2_with fail
              have hs101 := hs95.alloc #[.int .i64 0] 2 (n := wLo.heap.size) (by simp)
              have q1_102 := cellL (belowA _ (.cells #[.int .i64 0] 2)) q1_96
              clear q1_96
              have HSC_103 := Lib.hid (Rd.mono HSC_97.out (belowA _ (.cells #[.int .i64 0] 2)))
              clear HSC_97
              have HBA_104 := Lib.hid (HBA_98.out.trans (((belowA _ (.cells #[.int .i64 0] 2))).mono HBA_98.out.size))
              clear HBA_98
              have hz_wHi : wLo.heap.size + 1 ≤ ((wLo.alloc (.cells #[.int .i64 0] 2))).heap.size := by simp
              generalize hgen_wHi : (wLo.alloc (.cells #[.int .i64 0] 2)) = wHi at *
              clear hgen_wHi
              refine ⟨(q1_102), ?_⟩
              (repeat (first | (apply t4_skip rfl (by rfl); try simp only [Act.put, List.setIfInBounds_toArray, List.set_cons_zero, List.set_cons_succ]) | (apply t4_float rfl (by rfl); (· (intro w' hS; go_simp <;> with_reducible rfl)); (try simp only [Act.put, List.setIfInBounds_toArray, List.set_cons_zero, List.set_cons_succ]))))
              refine t4_hard rfl (by rfl) (fun K hK => ?_)
              clear HSC_103
              have f0_0 := hs101.freeAt 0 rfl 0
              have k14 := (hs101.cellAt 0 rfl 0 rfl)
              go_wp2_with fail
              clear k14
              have hs105 := hs101.set (p := []) (by simp <;> omega) 0 (.int .i64 (min x y))
              have q1_106 := (cell_put (b' := wd12.heap.size) (o' := 0) (u := .int .i64 (min x y)) q1_102 (by (try simp) <;> omega))
              clear q1_102
              have HBA_107 := Lib.hid (HBA_104.out.setCell (p := ⟨wd12.heap.size, 0, none⟩) (by (try simp) <;> omega) (.int .i64 (min x y)))
              clear HBA_104
              have hz_wP : wHi.heap.size ≤ ((wHi.setCell ⟨wd12.heap.size, 0, none⟩ (.int .i64 (min x y)))).heap.size := by simp [World.setCell]
              generalize hgen_wP : (wHi.setCell ⟨wd12.heap.size, 0, none⟩ (.int .i64 (min x y))) = wP at *
              clear hgen_wP
              refine ⟨(q1_106), ?_⟩
              (repeat (first | (apply t4_skip rfl (by rfl); try simp only [Act.put, List.setIfInBounds_toArray, List.set_cons_zero, List.set_cons_succ]) | (apply t4_float rfl (by rfl); (· (intro w' hS; go_simp <;> with_reducible rfl)); (try simp only [Act.put, List.setIfInBounds_toArray, List.set_cons_zero, List.set_cons_succ]))))
              refine t4_last rfl (by rfl) (fun K hK => ?_)
              have k0_0 := hs105.cellAt 0 rfl 0 rfl
              have k1_0 := hs105.cellAt 1 rfl 0 rfl
              have f1_0 := hs105.freeAt 1 rfl 0
              go_wp2_with fail
              refine t4_nil (NoPanic.normal ?_)
              have hs108 := hs105.set (p := [_]) (by simp <;> omega) 0 (.int .i64 (max x y))
              have q1_109 := (cell_put (b' := wLo.heap.size) (o' := 0) (u := .int .i64 (max x y)) q1_106 (by (try simp) <;> omega))
              clear q1_106
              have HBA_110 := Lib.hid (HBA_107.out.setCell (p := ⟨wLo.heap.size, 0, none⟩) (by (try simp) <;> omega) (.int .i64 (max x y)))
              clear HBA_107
              clear k0_0 k1_0
              have hz_wQ : wP.heap.size ≤ ((wP.setCell ⟨wLo.heap.size, 0, none⟩ (.int .i64 (max x y)))).heap.size := by simp [World.setCell]
              generalize hgen_wQ : (wP.setCell ⟨wLo.heap.size, 0, none⟩ (.int .i64 (max x y))) = wQ at *
              clear hgen_wQ
              have k0_0 := hs108.cellAt 0 rfl 0 rfl
              have k1_0 := hs108.cellAt 1 rfl 0 rfl
              go_wp2_with fail
              go_meet
              case rel => exact ⟨wd12.heap.size, wLo.heap.size, rfl, rfl, HBA_110.out, (hs108.cellAt 0 rfl 0 rfl), (hs108.cellAt 1 rfl 0 rfl)⟩
            · refine t4_hard rfl (by rfl) (fun K hK => ?_)
              go_wp2_with fail
              have hs111 := hs95.alloc #[.int .i64 0] 2 (n := wLo.heap.size) (by simp)
              have q1_112 := cellL (belowA _ (.cells #[.int .i64 0] 2)) q1_96
              clear q1_96
              have HSC_113 := Lib.hid (Rd.mono HSC_97.out (belowA _ (.cells #[.int .i64 0] 2)))
              clear HSC_97
              have HBA_114 := Lib.hid (HBA_98.out.trans (((belowA _ (.cells #[.int .i64 0] 2))).mono HBA_98.out.size))
              clear HBA_98
              have hz_wHi : wLo.heap.size + 1 ≤ ((wLo.alloc (.cells #[.int .i64 0] 2))).heap.size := by simp
              generalize hgen_wHi : (wLo.alloc (.cells #[.int .i64 0] 2)) = wHi at *
              clear hgen_wHi
              refine ⟨(q1_112), ?_⟩
              (repeat (first | (apply t4_skip rfl (by rfl); try simp only [Act.put, List.setIfInBounds_toArray, List.set_cons_zero, List.set_cons_succ]) | (apply t4_float rfl (by rfl); (· (intro w' hS; go_simp <;> with_reducible rfl)); (try simp only [Act.put, List.setIfInBounds_toArray, List.set_cons_zero, List.set_cons_succ]))))
              refine t4_hard rfl (by rfl) (fun K hK => ?_)
              go_wp2_with (go_at_call 59; refine (maxTwo_c x y _ _ HSC_113.out).mono ?_; rintro e w115 ⟨rfl, rfl⟩)
              refine ⟨(q1_112), ?_⟩
              (repeat (first | (apply t4_skip rfl (by rfl); try simp only [Act.put, List.setIfInBounds_toArray, List.set_cons_zero, List.set_cons_succ]) | (apply t4_float rfl (by rfl); (· (intro w' hS; go_simp <;> with_reducible rfl)); (try simp only [Act.put, List.setIfInBounds_toArray, List.set_cons_zero, List.set_cons_succ]))))
              refine t4_hard rfl (by rfl) (fun K hK => ?_)
              clear HSC_113
              have f0_0 := hs111.freeAt 0 rfl 0
              have k14 := (hs111.cellAt 0 rfl 0 rfl)
              go_wp2_with fail
              clear k14
              have hs116 := hs111.set (p := []) (by simp <;> omega) 0 (.int .i64 (min x y))
              have q1_117 := (cell_put (b' := wd12.heap.size) (o' := 0) (u := .int .i64 (min x y)) q1_112 (by (try simp) <;> omega))
              clear q1_112
              have HBA_118 := Lib.hid (HBA_114.out.setCell (p := ⟨wd12.heap.size, 0, none⟩) (by (try simp) <;> omega) (.int .i64 (min x y)))
              clear HBA_114
              have hz_wP : wHi.heap.size ≤ ((wHi.setCell ⟨wd12.heap.size, 0, none⟩ (.int .i64 (min x y)))).heap.size := by simp [World.setCell]
              generalize hgen_wP : (wHi.setCell ⟨wd12.heap.size, 0, none⟩ (.int .i64 (min x y))) = wP at *
              clear hgen_wP
              refine ⟨(q1_117), ?_⟩
              (repeat (first | (apply t4_skip rfl (by rfl); try simp only [Act.put, List.setIfInBounds_toArray, List.set_cons_zero, List.set_cons_succ]) | (apply t4_float rfl (by rfl); (· (intro w' hS; go_simp <;> with_reducible rfl)); (try simp only [Act.put, List.setIfInBounds_toArray, List.set_cons_zero, List.set_cons_succ]))))
              refine t4_last rfl (by rfl) (fun K hK => ?_)
              have k0_0 := hs116.cellAt 0 rfl 0 rfl
              have k1_0 := hs116.cellAt 1 rfl 0 rfl
              have f1_0 := hs116.freeAt 1 rfl 0
              go_wp2_with fail
              refine t4_nil (NoPanic.normal ?_)
              have hs119 := hs116.set (p := [_]) (by simp <;> omega) 0 (.int .i64 (max x y))
              have q1_120 := (cell_put (b' := wLo.heap.size) (o' := 0) (u := .int .i64 (max x y)) q1_117 (by (try simp) <;> omega))
              clear q1_117
              have HBA_121 := Lib.hid (HBA_118.out.setCell (p := ⟨wLo.heap.size, 0, none⟩) (by (try simp) <;> omega) (.int .i64 (max x y)))
              clear HBA_118
              clear k0_0 k1_0
              have hz_wQ : wP.heap.size ≤ ((wP.setCell ⟨wLo.heap.size, 0, none⟩ (.int .i64 (max x y)))).heap.size := by simp [World.setCell]
              generalize hgen_wQ : (wP.setCell ⟨wLo.heap.size, 0, none⟩ (.int .i64 (max x y))) = wQ at *
              clear hgen_wQ
              have k0_0 := hs119.cellAt 0 rfl 0 rfl
              have k1_0 := hs119.cellAt 1 rfl 0 rfl
              go_wp2_with fail
              go_meet
              case rel => exact ⟨wd12.heap.size, wLo.heap.size, rfl, rfl, HBA_121.out, (hs119.cellAt 0 rfl 0 rfl), (hs119.cellAt 1 rfl 0 rfl)⟩
          · refine t4_hard rfl (by rfl) (fun K hK => ?_)
            go_wp2_with fail
            have hs122 := hs95.alloc #[.int .i64 0] 2 (n := wLo.heap.size) (by simp)
            have q1_123 := cellL (belowA _ (.cells #[.int .i64 0] 2)) q1_96
            clear q1_96
            have HSC_124 := Lib.hid (Rd.mono HSC_97.out (belowA _ (.cells #[.int .i64 0] 2)))
            clear HSC_97
            have HBA_125 := Lib.hid (HBA_98.out.trans (((belowA _ (.cells #[.int .i64 0] 2))).mono HBA_98.out.size))
            clear HBA_98
            have hz_wHi : wLo.heap.size + 1 ≤ ((wLo.alloc (.cells #[.int .i64 0] 2))).heap.size := by simp
            generalize hgen_wHi : (wLo.alloc (.cells #[.int .i64 0] 2)) = wHi at *
            clear hgen_wHi
            refine ⟨(q1_123), ?_⟩
            (repeat (first | (apply t4_skip rfl (by rfl); try simp only [Act.put, List.setIfInBounds_toArray, List.set_cons_zero, List.set_cons_succ]) | (apply t4_float rfl (by rfl); (· (intro w' hS; go_simp <;> with_reducible rfl)); (try simp only [Act.put, List.setIfInBounds_toArray, List.set_cons_zero, List.set_cons_succ]))))
            refine t4_hard rfl (by rfl) (fun K hK => ?_)
            go_wp2_with (go_at_call 58; refine (minTwo_c x y _ _ HSC_124.out).mono ?_; rintro e w126 ⟨rfl, rfl⟩)
            refine ⟨(q1_123), ?_⟩
            (repeat (first | (apply t4_skip rfl (by rfl); try simp only [Act.put, List.setIfInBounds_toArray, List.set_cons_zero, List.set_cons_succ]) | (apply t4_float rfl (by rfl); (· (intro w' hS; go_simp <;> with_reducible rfl)); (try simp only [Act.put, List.setIfInBounds_toArray, List.set_cons_zero, List.set_cons_succ]))))
            refine t4_hard rfl (by rfl) (fun K hK => ?_)
            go_wp2_with (go_at_call 59; refine (maxTwo_c x y _ _ HSC_124.out).mono ?_; rintro e w127 ⟨rfl, rfl⟩)
            refine ⟨(q1_123), ?_⟩
            (repeat (first | (apply t4_skip rfl (by rfl); try simp only [Act.put, List.setIfInBounds_toArray, List.set_cons_zero, List.set_cons_succ]) | (apply t4_float rfl (by rfl); (· (intro w' hS; go_simp <;> with_reducible rfl)); (try simp only [Act.put, List.setIfInBounds_toArray, List.set_cons_zero, List.set_cons_succ]))))
            refine t4_hard rfl (by rfl) (fun K hK => ?_)
            clear HSC_124
            have f0_0 := hs122.freeAt 0 rfl 0
            have k14 := (hs122.cellAt 0 rfl 0 rfl)
            go_wp2_with fail
            clear k14
            have hs128 := hs122.set (p := []) (by simp <;> omega) 0 (.int .i64 (min x y))
            have q1_129 := (cell_put (b' := wd12.heap.size) (o' := 0) (u := .int .i64 (min x y)) q1_123 (by (try simp) <;> omega))
            clear q1_123
            have HBA_130 := Lib.hid (HBA_125.out.setCell (p := ⟨wd12.heap.size, 0, none⟩) (by (try simp) <;> omega) (.int .i64 (min x y)))
            clear HBA_125
            have hz_wP : wHi.heap.size ≤ ((wHi.setCell ⟨wd12.heap.size, 0, none⟩ (.int .i64 (min x y)))).heap.size := by simp [World.setCell]
            generalize hgen_wP : (wHi.setCell ⟨wd12.heap.size, 0, none⟩ (.int .i64 (min x y))) = wP at *
            clear hgen_wP
            refine ⟨(q1_129), ?_⟩
            (repeat (first | (apply t4_skip rfl (by rfl); try simp only [Act.put, List.setIfInBounds_toArray, List.set_cons_zero, List.set_cons_succ]) | (apply t4_float rfl (by rfl); (· (intro w' hS; go_simp <;> with_reducible rfl)); (try simp only [Act.put, List.setIfInBounds_toArray, List.set_cons_zero, List.set_cons_succ]))))
            refine t4_last rfl (by rfl) (fun K hK => ?_)
            have k0_0 := hs128.cellAt 0 rfl 0 rfl
            have k1_0 := hs128.cellAt 1 rfl 0 rfl
            have f1_0 := hs128.freeAt 1 rfl 0
            go_wp2_with fail
            refine t4_nil (NoPanic.normal ?_)
            have hs131 := hs128.set (p := [_]) (by simp <;> omega) 0 (.int .i64 (max x y))
            have q1_132 := (cell_put (b' := wLo.heap.size) (o' := 0) (u := .int .i64 (max x y)) q1_129 (by (try simp) <;> omega))
            clear q1_129
            have HBA_133 := Lib.hid (HBA_130.out.setCell (p := ⟨wLo.heap.size, 0, none⟩) (by (try simp) <;> omega) (.int .i64 (max x y)))
            clear HBA_130
            clear k0_0 k1_0
            have hz_wQ : wP.heap.size ≤ ((wP.setCell ⟨wLo.heap.size, 0, none⟩ (.int .i64 (max x y)))).heap.size := by simp [World.setCell]
            generalize hgen_wQ : (wP.setCell ⟨wLo.heap.size, 0, none⟩ (.int .i64 (max x y))) = wQ at *
            clear hgen_wQ
            have k0_0 := hs131.cellAt 0 rfl 0 rfl
            have k1_0 := hs131.cellAt 1 rfl 0 rfl
            go_wp2_with fail
            go_meet
            case rel => exact ⟨wd12.heap.size, wLo.heap.size, rfl, rfl, HBA_133.out, (hs131.cellAt 0 rfl 0 rfl), (hs131.cellAt 1 rfl 0 rfl)⟩
        · refine t4_hard rfl (by rfl) (fun K hK => ?_)
          go_wp2_with fail
          have hs134 := hs8.alloc #[.int .i64 0] 2 (n := wd12.heap.size) (by simp)
          have q1_135 := cellL (belowA _ (.cells #[.int .i64 0] 2)) q1_9
          clear q1_9
          have HSC_136 := Lib.hid (Rd.mono HSC_10.out (belowA _ (.cells #[.int .i64 0] 2)))
          clear HSC_10
          have HBA_137 := Lib.hid (HBA_11.out.trans (((belowA _ (.cells #[.int .i64 0] 2))).mono HBA_11.out.size))
          clear HBA_11
          have hz_wHi : wd12.heap.size + 1 ≤ ((wd12.alloc (.cells #[.int .i64 0] 2))).heap.size := by simp
          generalize hgen_wHi : (wd12.alloc (.cells #[.int .i64 0] 2)) = wHi at *
          clear hgen_wHi
          refine ⟨(q1_135), ?_⟩
          (repeat (first | (apply t4_skip rfl (by rfl); try simp only [Act.put, List.setIfInBounds_toArray, List.set_cons_zero, List.set_cons_succ]) | (apply t4_float rfl (by rfl); (· (intro w' hS; go_simp <;> with_reducible rfl)); (try simp only [Act.put, List.setIfInBounds_toArray, List.set_cons_zero, List.set_cons_succ]))))
          refine t4_fork2 ?_ ?_
          · refine t4_hard rfl (by rfl) (fun K hK => ?_)
            go_wp2_with (go_at_call 58; refine (minTwo_c x y _ _ HSC_136.out).mono ?_; rintro e w138 ⟨rfl, rfl⟩)
            refine ⟨(q1_135), ?_⟩
            (repeat (first | (apply t4_skip rfl (by rfl); try simp only [Act.put, List.setIfInBounds_toArray, List.set_cons_zero, List.set_cons_succ]) | (apply t4_float rfl (by rfl); (· (intro w' hS; go_simp <;> with_reducible rfl)); (try simp only [Act.put, List.setIfInBounds_toArray, List.set_cons_zero, List.set_cons_succ]))))
            refine t4_fork2 ?_ ?_
            · refine t4_hard rfl (by rfl) (fun K hK => ?_)
              go_wp2_with (go_at_call 59; refine (maxTwo_c x y _ _ HSC_136.out).mono ?_; rintro e w139 ⟨rfl, rfl⟩)
              refine ⟨(q1_135), ?_⟩
              (repeat (first | (apply t4_skip rfl (by rfl); try simp only [Act.put, List.setIfInBounds_toArray, List.set_cons_zero, List.set_cons_succ]) | (apply t4_float rfl (by rfl); (· (intro w' hS; go_simp <;> with_reducible rfl)); (try simp only [Act.put, List.setIfInBounds_toArray, List.set_cons_zero, List.set_cons_succ]))))
              refine t4_hard rfl (by rfl) (fun K hK => ?_)
              go_wp2_with fail
              have hs140 := hs134.alloc #[.int .i64 0] 2 (n := wHi.heap.size) (by simp)
              have q1_141 := cellL (belowA _ (.cells #[.int .i64 0] 2)) q1_135
              clear q1_135
              have HSC_142 := Lib.hid (Rd.mono HSC_136.out (belowA _ (.cells #[.int .i64 0] 2)))
              clear HSC_136
              have HBA_143 := Lib.hid (HBA_137.out.trans (((belowA _ (.cells #[.int .i64 0] 2))).mono HBA_137.out.size))
              clear HBA_137
              have hz_wLo : wHi.heap.size + 1 ≤ ((wHi.alloc (.cells #[.int .i64 0] 2))).heap.size := by simp
              generalize hgen_wLo : (wHi.alloc (.cells #[.int .i64 0] 2)) = wLo at *
              clear hgen_wLo
              refine ⟨(q1_141), ?_⟩
              (repeat (first | (apply t4_skip rfl (by rfl); try simp only [Act.put, List.setIfInBounds_toArray, List.set_cons_zero, List.set_cons_succ]) | (apply t4_float rfl (by rfl); (· (intro w' hS; go_simp <;> with_reducible rfl)); (try simp only [Act.put, List.setIfInBounds_toArray, List.set_cons_zero, List.set_cons_succ]))))
              refine t4_hard rfl (by rfl) (fun K hK => ?_)
              clear HSC_142
              have f1_0 := hs140.freeAt 1 rfl 0
              have k14 := (hs140.cellAt 1 rfl 0 rfl)
              go_wp2_with fail
              clear k14
              have hs144 := hs140.set (p := [_]) (by simp <;> omega) 0 (.int .i64 (min x y))
              have q1_145 := (cell_put (b' := wHi.heap.size) (o' := 0) (u := .int .i64 (min x y)) q1_141 (by (try simp) <;> omega))
              clear q1_141
              have HBA_146 := Lib.hid (HBA_143.out.setCell (p := ⟨wHi.heap.size, 0, none⟩) (by (try simp) <;> omega) (.int .i64 (min x y)))
              clear HBA_143
              have hz_wP : wLo.heap.size ≤ ((wLo.setCell ⟨wHi.heap.size, 0, none⟩ (.int .i64 (min x y)))).heap.size := by simp [World.setCell]
              generalize hgen_wP : (wLo.setCell ⟨wHi.heap.size, 0, none⟩ (.int .i64 (min x y))) = wP at *
              clear hgen_wP
              refine ⟨(q1_145), ?_⟩
              (repeat (first | (apply t4_skip rfl (by rfl); try simp only [Act.put, List.setIfInBounds_toArray, List.set_cons_zero, List.set_cons_succ]) | (apply t4_float rfl (by rfl); (· (intro w' hS; go_simp <;> with_reducible rfl)); (try simp only [Act.put, List.setIfInBounds_toArray, List.set_cons_zero, List.set_cons_succ]))))
              refine t4_last rfl (by rfl) (fun K hK => ?_)
              have k0_0 := hs144.cellAt 0 rfl 0 rfl
              have k1_0 := hs144.cellAt 1 rfl 0 rfl
              have f0_0 := hs144.freeAt 0 rfl 0
              go_wp2_with fail
              refine t4_nil (NoPanic.normal ?_)
              have hs147 := hs144.set (p := []) (by simp <;> omega) 0 (.int .i64 (max x y))
              have q1_148 := (cell_put (b' := wd12.heap.size) (o' := 0) (u := .int .i64 (max x y)) q1_145 (by (try simp) <;> omega))
              clear q1_145
              have HBA_149 := Lib.hid (HBA_146.out.setCell (p := ⟨wd12.heap.size, 0, none⟩) (by (try simp) <;> omega) (.int .i64 (max x y)))
              clear HBA_146
              clear k0_0 k1_0
              have hz_wQ : wP.heap.size ≤ ((wP.setCell ⟨wd12.heap.size, 0, none⟩ (.int .i64 (max x y)))).heap.size := by simp [World.setCell]
              generalize hgen_wQ : (wP.setCell ⟨wd12.heap.size, 0, none⟩ (.int .i64 (max x y))) = wQ at *
              clear hgen_wQ
              have k0_0 := hs147.cellAt 0 rfl 0 rfl
              have k1_0 := hs147.cellAt 1 rfl 0 rfl
              go_wp2_with fail
              go_meet
              case rel => exact ⟨wHi.heap.size, wd12.heap.size, rfl, rfl, HBA_149.out, (hs147.cellAt 1 rfl 0 rfl), (hs147.cellAt 0 rfl 0 rfl)⟩
            · refine t4_hard rfl (by rfl) (fun K hK => ?_)
              go_wp2_with fail
              have hs150 := hs134.alloc #[.int .i64 0] 2 (n := wHi.heap.size) (by simp)
              have q1_151 := cellL (belowA _ (.cells #[.int .i64 0] 2)) q1_135
              clear q1_135
              have HSC_152 := Lib.hid (Rd.mono HSC_136.out (belowA _ (.cells #[.int .i64 0] 2)))
              clear HSC_136
              have HBA_153 := Lib.hid (HBA_137.out.trans (((belowA _ (.cells #[.int .i64 0] 2))).mono HBA_137.out.size))
              clear HBA_137
              have hz_wLo : wHi.heap.size + 1 ≤ ((wHi.alloc (.cells #[.int .i64 0] 2))).heap.size := by simp
              generalize hgen_wLo : (wHi.alloc (.cells #[.int .i64 0] 2)) = wLo at *
              clear hgen_wLo
              refine ⟨(q1_151), ?_⟩
              (repeat (first | (apply t4_skip rfl (by rfl); try simp only [Act.put, List.setIfInBounds_toArray, List.set_cons_zero, List.set_cons_succ]) | (apply t4_float rfl (by rfl); (· (intro w' hS; go_simp <;> with_reducible rfl)); (try simp only [Act.put, List.setIfInBounds_toArray, List.set_cons_zero, List.set_cons_succ]))))
              refine t4_hard rfl (by rfl) (fun K hK => ?_)
              go_wp2_with (go_at_call 59; refine (maxTwo_c x y _ _ HSC_152.out).mono ?_; rintro e w154 ⟨rfl, rfl⟩)
              refine ⟨(q1_151), ?_⟩
              (repeat (first | (apply t4_skip rfl (by rfl); try simp only [Act.put, List.setIfInBounds_toArray, List.set_cons_zero, List.set_cons_succ]) | (apply t4_float rfl (by rfl); (· (intro w' hS; go_simp <;> with_reducible rfl)); (try simp only [Act.put, List.setIfInBounds_toArray, List.set_cons_zero, List.set_cons_succ]))))
              refine t4_hard rfl (by rfl) (fun K hK => ?_)
              clear HSC_152
              have f1_0 := hs150.freeAt 1 rfl 0
              have k14 := (hs150.cellAt 1 rfl 0 rfl)
              go_wp2_with fail
              clear k14
              have hs155 := hs150.set (p := [_]) (by simp <;> omega) 0 (.int .i64 (min x y))
              have q1_156 := (cell_put (b' := wHi.heap.size) (o' := 0) (u := .int .i64 (min x y)) q1_151 (by (try simp) <;> omega))
              clear q1_151
              have HBA_157 := Lib.hid (HBA_153.out.setCell (p := ⟨wHi.heap.size, 0, none⟩) (by (try simp) <;> omega) (.int .i64 (min x y)))
              clear HBA_153
              have hz_wP : wLo.heap.size ≤ ((wLo.setCell ⟨wHi.heap.size, 0, none⟩ (.int .i64 (min x y)))).heap.size := by simp [World.setCell]
              generalize hgen_wP : (wLo.setCell ⟨wHi.heap.size, 0, none⟩ (.int .i64 (min x y))) = wP at *
              clear hgen_wP
              refine ⟨(q1_156), ?_⟩
              (repeat (first | (apply t4_skip rfl (by rfl); try simp only [Act.put, List.setIfInBounds_toArray, List.set_cons_zero, List.set_cons_succ]) | (apply t4_float rfl (by rfl); (· (intro w' hS; go_simp <;> with_reducible rfl)); (try simp only [Act.put, List.setIfInBounds_toArray, List.set_cons_zero, List.set_cons_succ]))))
              refine t4_last rfl (by rfl) (fun K hK => ?_)
              have k0_0 := hs155.cellAt 0 rfl 0 rfl
              have k1_0 := hs155.cellAt 1 rfl 0 rfl
              have f0_0 := hs155.freeAt 0 rfl 0
              go_wp2_with fail
              refine t4_nil (NoPanic.normal ?_)
              have hs158 := hs155.set (p := []) (by simp <;> omega) 0 (.int .i64 (max x y))
              have q1_159 := (cell_put (b' := wd12.heap.size) (o' := 0) (u := .int .i64 (max x y)) q1_156 (by (try simp) <;> omega))
              clear q1_156
              have HBA_160 := Lib.hid (HBA_157.out.setCell (p := ⟨wd12.heap.size, 0, none⟩) (by (try simp) <;> omega) (.int .i64 (max x y)))
              clear HBA_157
              clear k0_0 k1_0
              have hz_wQ : wP.heap.size ≤ ((wP.setCell ⟨wd12.heap.size, 0, none⟩ (.int .i64 (max x y)))).heap.size := by simp [World.setCell]
              generalize hgen_wQ : (wP.setCell ⟨wd12.heap.size, 0, none⟩ (.int .i64 (max x y))) = wQ at *
              clear hgen_wQ
              have k0_0 := hs158.cellAt 0 rfl 0 rfl
              have k1_0 := hs158.cellAt 1 rfl 0 rfl
              go_wp2_with fail
              go_meet
              case rel => exact ⟨wHi.heap.size, wd12.heap.size, rfl, rfl, HBA_160.out, (hs158.cellAt 1 rfl 0 rfl), (hs158.cellAt 0 rfl 0 rfl)⟩
          · refine t4_hard rfl (by rfl) (fun K hK => ?_)
            go_wp2_with fail
            have hs161 := hs134.alloc #[.int .i64 0] 2 (n := wHi.heap.size) (by simp)
            have q1_162 := cellL (belowA _ (.cells #[.int .i64 0] 2)) q1_135
            clear q1_135
            have HSC_163 := Lib.hid (Rd.mono HSC_136.out (belowA _ (.cells #[.int .i64 0] 2)))
            clear HSC_136
            have HBA_164 := Lib.hid (HBA_137.out.trans (((belowA _ (.cells #[.int .i64 0] 2))).mono HBA_137.out.size))
            clear HBA_137
            have hz_wLo : wHi.heap.size + 1 ≤ ((wHi.alloc (.cells #[.int .i64 0] 2))).heap.size := by simp
            generalize hgen_wLo : (wHi.alloc (.cells #[.int .i64 0] 2)) = wLo at *
            clear hgen_wLo
            refine ⟨(q1_162), ?_⟩
            (repeat (first | (apply t4_skip rfl (by rfl); try simp only [Act.put, List.setIfInBounds_toArray, List.set_cons_zero, List.set_cons_succ]) | (apply t4_float rfl (by rfl); (· (intro w' hS; go_simp <;> with_reducible rfl)); (try simp only [Act.put, List.setIfInBounds_toArray, List.set_cons_zero, List.set_cons_succ]))))
            refine t4_hard rfl (by rfl) (fun K hK => ?_)
            go_wp2_with (go_at_call 58; refine (minTwo_c x y _ _ HSC_163.out).mono ?_; rintro e w165 ⟨rfl, rfl⟩)
            refine ⟨(q1_162), ?_⟩
            (repeat (first | (apply t4_skip rfl (by rfl); try simp only [Act.put, List.setIfInBounds_toArray, List.set_cons_zero, List.set_cons_succ]) | (apply t4_float rfl (by rfl); (· (intro w' hS; go_simp <;> with_reducible rfl)); (try simp only [Act.put, List.setIfInBounds_toArray, List.set_cons_zero, List.set_cons_succ]))))
            refine t4_hard rfl (by rfl) (fun K hK => ?_)
            go_wp2_with (go_at_call 59; refine (maxTwo_c x y _ _ HSC_163.out).mono ?_; rintro e w166 ⟨rfl, rfl⟩)
            refine ⟨(q1_162), ?_⟩
            (repeat (first | (apply t4_skip rfl (by rfl); try simp only [Act.put, List.setIfInBounds_toArray, List.set_cons_zero, List.set_cons_succ]) | (apply t4_float rfl (by rfl); (· (intro w' hS; go_simp <;> with_reducible rfl)); (try simp only [Act.put, List.setIfInBounds_toArray, List.set_cons_zero, List.set_cons_succ]))))
            refine t4_hard rfl (by rfl) (fun K hK => ?_)
            clear HSC_163
            have f1_0 := hs161.freeAt 1 rfl 0
            have k14 := (hs161.cellAt 1 rfl 0 rfl)
            go_wp2_with fail
            clear k14
            have hs167 := hs161.set (p := [_]) (by simp <;> omega) 0 (.int .i64 (min x y))
            have q1_168 := (cell_put (b' := wHi.heap.size) (o' := 0) (u := .int .i64 (min x y)) q1_162 (by (try simp) <;> omega))
            clear q1_162
            have HBA_169 := Lib.hid (HBA_164.out.setCell (p := ⟨wHi.heap.size, 0, none⟩) (by (try simp) <;> omega) (.int .i64 (min x y)))
            clear HBA_164
            have hz_wP : wLo.heap.size ≤ ((wLo.setCell ⟨wHi.heap.size, 0, none⟩ (.int .i64 (min x y)))).heap.size := by simp [World.setCell]
            generalize hgen_wP : (wLo.setCell ⟨wHi.heap.size, 0, none⟩ (.int .i64 (min x y))) = wP at *
            clear hgen_wP
            refine ⟨(q1_168), ?_⟩
            (repeat (first | (apply t4_skip rfl (by rfl); try simp only [Act.put, List.setIfInBounds_toArray, List.set_cons_zero, List.set_cons_succ]) | (apply t4_float rfl (by rfl); (· (intro w' hS; go_simp <;> with_reducible rfl)); (try simp only [Act.put, List.setIfInBounds_toArray, List.set_cons_zero, List.set_cons_succ]))))
            refine t4_last rfl (by rfl) (fun K hK => ?_)
            have k0_0 := hs167.cellAt 0 rfl 0 rfl
            have k1_0 := hs167.cellAt 1 rfl 0 rfl
            have f0_0 := hs167.freeAt 0 rfl 0
            go_wp2_with fail
            refine t4_nil (NoPanic.normal ?_)
            have hs170 := hs167.set (p := []) (by simp <;> omega) 0 (.int .i64 (max x y))
            have q1_171 := (cell_put (b' := wd12.heap.size) (o' := 0) (u := .int .i64 (max x y)) q1_168 (by (try simp) <;> omega))
            clear q1_168
            have HBA_172 := Lib.hid (HBA_169.out.setCell (p := ⟨wd12.heap.size, 0, none⟩) (by (try simp) <;> omega) (.int .i64 (max x y)))
            clear HBA_169
            clear k0_0 k1_0
            have hz_wQ : wP.heap.size ≤ ((wP.setCell ⟨wd12.heap.size, 0, none⟩ (.int .i64 (max x y)))).heap.size := by simp [World.setCell]
            generalize hgen_wQ : (wP.setCell ⟨wd12.heap.size, 0, none⟩ (.int .i64 (max x y))) = wQ at *
            clear hgen_wQ
            have k0_0 := hs170.cellAt 0 rfl 0 rfl
            have k1_0 := hs170.cellAt 1 rfl 0 rfl
            go_wp2_with fail
            go_meet
            case rel => exact ⟨wHi.heap.size, wd12.heap.size, rfl, rfl, HBA_172.out, (hs170.cellAt 1 rfl 0 rfl), (hs170.cellAt 0 rfl 0 rfl)⟩
      case rest =>
        obtain ⟨gl, gh, rfl, rfl, hbl, hcl, hch⟩ := hcut
        have HBL := hbl.out
        have hz_wc : wr.heap.size ≤ wc.heap.size := by have h9 := HBL.size; (try simp at h9); omega
        have hs173 := hst.out.step HBL
        have q0_174 := cellL HBL q0
        clear q0
        have q1_175 := cellL HBL q1
        clear q1
        have HRA_176 := Lib.hid (Rd.mono HRA.out HBL)
        clear HRA
        have HSC_177 := Lib.hid (Rd.mono HSC.out HBL)
        clear HSC
        have HBA_178 := Lib.hid (HBA.out.trans ((HBL).mono HBA.out.size))
        clear HBA
        clear k0_0 k0_1 k0_2 k1_0 k1_1 k1_2
        have k0_0 := hs173.cellAt 0 rfl 0 rfl
        have k0_1 := hs173.cellAt 0 rfl 1 rfl
        have k0_2 := hs173.cellAt 0 rfl 2 rfl
        have k1_0 := hs173.cellAt 1 rfl 0 rfl
        have k1_1 := hs173.cellAt 1 rfl 1 rfl
        have k1_2 := hs173.cellAt 1 rfl 2 rfl
        have HSM := Lib.hid (show movL (mergeV (-1, [x, y])) A = stepM A i from by unfold stepM; rw [HGD.out])
        have HSA2 := Lib.hid (show ShortA (stepM A i) ∧ (stepM A i).length = l.length from ⟨by rw [← HSM.out]; exact hsa.out.1.movL _, by rw [← HSM.out, movL_len]; exact hsa.out.2⟩)
        go_wp2_with fail
        refine (renamed_c A _ 60 _ (mergeV (-1, [x, y])) _ HRA_176.out hAl hsa.out.1 HMI.out eg2 (simplified2_by gh gl (-1, [x, y]) _ _ hch.out hcl.out)).mono ?_
        rintro e w179 ⟨v2, rfl, hF2, hbw179⟩
        have hz_w179 : wc.heap.size ≤ w179.heap.size := by have h9 := hbw179.size; (try simp at h9); omega
        have hs180 := hs173.step hbw179
        have q0_181 := cellL hbw179 q0_174
        clear q0_174
        have q1_182 := cellL hbw179 q1_175
        clear q1_175
        have HRA_183 := Lib.hid (Rd.mono HRA_176.out hbw179)
        clear HRA_176
        have HSC_184 := Lib.hid (Rd.mono HSC_177.out hbw179)
        clear HSC_177
        have HBA_185 := Lib.hid (HBA_178.out.trans ((hbw179).mono HBA_178.out.size))
        clear HBA_178
        clear k0_0 k0_1 k0_2 k1_0 k1_1 k1_2
        have k0_0 := hs180.cellAt 0 rfl 0 rfl
        have k0_1 := hs180.cellAt 0 rfl 1 rfl
        have k0_2 := hs180.cellAt 0 rfl 2 rfl
        have k1_0 := hs180.cellAt 1 rfl 0 rfl
        have k1_1 := hs180.cellAt 1 rfl 1 rfl
        have k1_2 := hs180.cellAt 1 rfl 2 rfl
        rw [HSM.out] at hF2
        have HA2 := Lib.hid hF2.rd
        clear hF2
        generalize hBB : stepM A i = B at *
        clear hBB
        obtain ⟨a3, c3, rfl, _⟩ := rd_list HA2.out
        go_wp2_with fail
        refine (indexAtoms_c B _ 56 _ _ _ HA2.out eg1 (simplified1_by _ fr _ B (hs180.cellAt 0 rfl 0 rfl) (fun a ha => (HST.out.1.1 a ha).2))).mono ?_
        rintro e w186 ⟨rfl, hbw186⟩
        have hz_w186 : w179.heap.size ≤ w186.heap.size := by have h9 := hbw186.size; (try simp at h9); omega
        have hs187 := hs180.step hbw186
        have q0_188 := cellL hbw186 q0_181
        clear q0_181
        have q1_189 := cellL hbw186 q1_182
        clear q1_182
        have HRA_190 := Lib.hid (Rd.mono HRA_183.out hbw186)
        clear HRA_183
        have HSC_191 := Lib.hid (Rd.mono HSC_184.out hbw186)
        clear HSC_184
        have HBA_192 := Lib.hid (HBA_185.out.trans ((hbw186).mono HBA_185.out.size))
        clear HBA_185
        have HA2_193 := Lib.hid (Rd.mono HA2.out hbw186)
        clear HA2
        clear k0_0 k0_1 k0_2 k1_0 k1_1 k1_2
        have k0_0 := hs187.cellAt 0 rfl 0 rfl
        have k0_1 := hs187.cellAt 0 rfl 1 rfl
        have k0_2 := hs187.cellAt 0 rfl 2 rfl
        have k1_0 := hs187.cellAt 1 rfl 0 rfl
        have k1_1 := hs187.cellAt 1 rfl 1 rfl
        have k1_2 := hs187.cellAt 1 rfl 2 rfl
        go_wp2_with fail
        go_roundw
        case rel => exact ⟨B, a3, c3, rfl, rfl, HST.out.1, HSA2.out, HA2_193.out, hs187⟩
        case measure => rw [usedW_eq HA2_193.out, usedW_eq hra.out]; exact HST.out.2
    · have HME := Lib.hid (mrgR_end hmr.out (by rw [hFF]; omega))
      have HVA := Lib.hid hmr.out.1
      have HSHA := Lib.hid hsa.out.1
      have hAl : A.length ≤ 16 := by have := hsa.out.2; omega
      clear hFF hmr hsa hra
      obtain ⟨wE, hwE⟩ : ∃ x, x = wr := ⟨_, rfl⟩
      subst hwE
      have hzE : w.heap.size + 1 + 1 ≤ wE.heap.size := hst.out.hi
      have HS2 := Lib.hid (hst.out.step (belowA _ (.cells #[] 58)))
      go_wp2_with fail
      go_loopw [8, 43] (fun lv iv wl => ∃ (k : Nat) (ab : Option Addr) (cb : Nat), k ≤ A.length ∧ lv = .slice ab (lessT A k).length cb ∧ iv = .int .i64 k ∧ Hid (St w (w.heap.size + 1 + 1) wl [(w.heap.size, #[.int .i64 fr, .int .i64 vars, .slice a l.length c], 41), (w.heap.size + 1, #[.int .i64 0, .int .i64 0, .slice none 0 0], 41)]) ∧
        Hid (Below wE.heap.size wE wl) ∧ Hid (∀ g, (Value.slice ab (lessT A k).length cb).ownBlock = some g → wE.heap.size ≤ g ∧ g < wl.heap.size) ∧ Hid (RowR wE 58 wl (.slice ab (lessT A k).length cb) (lessT A k))) (fun _ i _ => A.length - (intOf i).toNat)
      case atStart => exact ⟨0, _, _, Nat.zero_le _, rfl, rfl, HS2.out, belowA _ _, (fun g hg => by simp [Value.ownBlock, lessT] at hg ⊢; omega), ⟨[], row_made wE _, fun i h => absurd h (Nat.not_lt_zero _)⟩⟩
      case round =>
        clear HS2
        obtain ⟨k, ab, cb, hk, rfl, rfl, hst2, hbe, hgo, hrw⟩ := hrel
        have hszr : wE.heap.size ≤ wr.heap.size := hbe.out.size
        have k0_0 := hst2.out.cellAt 0 rfl 0 rfl
        have k0_1 := hst2.out.cellAt 0 rfl 1 rfl
        have k0_2 := hst2.out.cellAt 0 rfl 2 rfl
        have k1_0 := hst2.out.cellAt 1 rfl 0 rfl
        have k1_1 := hst2.out.cellAt 1 rfl 1 rfl
        have k1_2 := hst2.out.cellAt 1 rfl 2 rfl
        by_cases hlt : k < A.length
        · have hkl : (k : Int) < A.length := by omega
          obtain ⟨b, o, u0, u1, he, q0, q1, hy⟩ := rd_two_at rfl HRA.out k hlt
          have hbX : b < wE.heap.size := World.block_lt_of_cell? wE _ q0
          have HYES := Lib.hid (show dropA (lessT A k) A[k] = true → lessT A (k + 1) = lessT A k from fun h => by rw [lessT, show A.getD k (0, []) = A[k] by simp [List.getD, hlt], if_pos h])
          have HNO := Lib.hid (show dropA (lessT A k) A[k] = false → lessT A (k + 1) = lessT A k ++ [A[k]] from fun h => by rw [lessT, show A.getD k (0, []) = A[k] by simp [List.getD, hlt], if_neg (by rw [h]; decide)])
          have HVC := Lib.hid (HVA.out _ (List.getElem_mem hlt)).2
          have hLL := lessT_len A k
          have HRL := Lib.hid (hrw.out.rd hbe.out)
          obtain ⟨xs, hrow, hel⟩ := hrw.out
          generalize hC : A[k] = C at *
          obtain ⟨ci, sc⟩ := C
          generalize hLT : lessT A k = LT at *
          clear hC hLT
          subst he
          simp only at HVC
          have hyz := rd_cons rfl hy
          obtain ⟨rfl, hIc⟩ := rd_i1 hyz.1
          obtain ⟨a1, c1, rfl, _⟩ := rd_list hyz.2
          have HY := Lib.hid hy
          have HYR := Lib.hid (Rd.mono hy hbe.out)
          have HSC := Lib.hid (Rd.mono hyz.2 hbe.out)
          have HEL := Lib.hid hel
          have HRW := Lib.hid hrow
          have HBE := Lib.hid hbe.out
          have r0 := cellL hbe.out q0
          have r1 := cellL hbe.out q1
          clear hy hyz hrow hel hrw hbe q0 q1
          have hs194 := hst2.out.alloc #[.int .i64 ci, .slice a1 sc.length c1] 58 (n := wr.heap.size) (by simp)
          have HRL_195 := Lib.hid (Rd.mono HRL.out (belowA _ (.cells #[.int .i64 ci, .slice a1 sc.length c1] 58)))
          clear HRL
          have HYR_196 := Lib.hid (Rd.mono HYR.out (belowA _ (.cells #[.int .i64 ci, .slice a1 sc.length c1] 58)))
          clear HYR
          have HSC_197 := Lib.hid (Rd.mono HSC.out (belowA _ (.cells #[.int .i64 ci, .slice a1 sc.length c1] 58)))
          clear HSC
          have HRW_198 := Lib.hid (ownsRow_below HRW.out (belowA _ (.cells #[.int .i64 ci, .slice a1 sc.length c1] 58)))
          clear HRW
          have HBE_199 := Lib.hid (HBE.out.trans (((belowA _ (.cells #[.int .i64 ci, .slice a1 sc.length c1] 58))).mono HBE.out.size))
          clear HBE
          clear k0_0 k0_1 k0_2 k1_0 k1_1 k1_2
          have k0_0 := hs194.cellAt 0 rfl 0 rfl
          have k0_1 := hs194.cellAt 0 rfl 1 rfl
          have k0_2 := hs194.cellAt 0 rfl 2 rfl
          have k1_0 := hs194.cellAt 1 rfl 0 rfl
          have k1_1 := hs194.cellAt 1 rfl 1 rfl
          have k1_2 := hs194.cellAt 1 rfl 2 rfl
          have k2_0 := hs194.cellAt 2 rfl 0 rfl
          have k2_1 := hs194.cellAt 2 rfl 1 rfl
          go_upto_region 12 with fail
          clear r0 r1
          have hz_wA : wr.heap.size + 1 ≤ ((wr.alloc (.cells #[.int .i64 ci, .slice a1 sc.length c1] 58))).heap.size := by simp
          generalize hgen_wA : (wr.alloc (.cells #[.int .i64 ci, .slice a1 sc.length c1] 58)) = wA at *
          clear hgen_wA
          have HBA := Lib.hid (Below.refl wA.heap.size wA)
          go_cut [65] from 47 to 64 (fun x65 wx => x65 = .bool (dropA LT (ci, sc)) ∧ Hid (Below wA.heap.size wA wx))
          case first =>
            clear HRW_198
            clear HBE_199
            clear HEL HY HYES HNO hgo HVA HSHA HSH HV HL HRA HME eg0 eg1 eg2 eg4 eg5
            by_cases h : ci = -1
            · subst h
              obtain ⟨x, y, rfl⟩ := len_2 (HVC.out rfl)
              obtain ⟨b2, o2, rfl, s0, s1, _, _, _⟩ := rd_ints2 HSC_197.out
              have HQ := Lib.hid (show dropA LT (-1, [x, y]) = (decide (x = y) || LT.any (fun b => decide (b = (-1, [x, y])))) from rfl)
              clear HSC_197
              clear k0_0 k0_1 k0_2 k1_0 k1_1 k1_2 k2_0 k2_1
              have k0_0 := hs194.cellAt 0 rfl 0 rfl
              have k0_1 := hs194.cellAt 0 rfl 1 rfl
              have k0_2 := hs194.cellAt 0 rfl 2 rfl
              have k1_0 := hs194.cellAt 1 rfl 0 rfl
              have k1_1 := hs194.cellAt 1 rfl 1 rfl
              have k1_2 := hs194.cellAt 1 rfl 2 rfl
              have k2_0 := hs194.cellAt 2 rfl 0 rfl
              have k2_1 := hs194.cellAt 2 rfl 1 rfl
              by_cases hxy : x = y
              · have h1 : (x == y) = true := by simp [hxy]
                have H1 := Lib.hid (show dropA LT (-1, [x, y]) = true by rw [HQ.out, decide_eq_true hxy]; rfl)
                clear hxy
                refine wp_region_noPanic (wp_region_tree4 (fun w' => w'.cell? ⟨w.heap.size, 0, none⟩ = some (.int .i64 fr) ∧ w'.cell? ⟨w.heap.size, 1, none⟩ = some (.int .i64 vars) ∧ w'.cell? ⟨w.heap.size, 2, none⟩ = some (.slice a l.length c) ∧ w'.cell? ⟨w.heap.size + 1, 0, none⟩ = some (.int .i64 0) ∧ w'.cell? ⟨w.heap.size + 1, 1, none⟩ = some (.int .i64 0) ∧ w'.cell? ⟨w.heap.size + 1, 2, none⟩ = some (.slice none 0 0) ∧ w'.cell? ⟨wr.heap.size, 0, none⟩ = some (.int .i64 (-1)) ∧ w'.cell? ⟨wr.heap.size, 1, none⟩ = some (.slice (some ⟨b2, o2, none⟩) 2 c1) ∧ w'.cell? ⟨b2, o2, none⟩ = some (.int .i64 x) ∧ w'.cell? ⟨b2, o2 + 1, none⟩ = some (.int .i64 y)) (.float 0 (.float 1 (.float 2 (.float 3 (.float 4 (.float 5 (.float 6 (.float 7 (.float 8 (.float 9 (.float 10 (.float 11 (.float 12 (.float 13 (.float 14 (.float 15 (.float 16 (.hard 17 (.float 18 .nil))))))))))))))))))) (by kernel_rfl) (by kernel_rfl) (by kernel_rfl) rfl ?_ (fun _ _ _ _ _ h => h) ?_)
                · exact ⟨(hs194.drew).cellAt 0 rfl 0 rfl, (hs194.drew).cellAt 0 rfl 1 rfl, (hs194.drew).cellAt 0 rfl 2 rfl, (hs194.drew).cellAt 1 rfl 0 rfl, (hs194.drew).cellAt 1 rfl 1 rfl, (hs194.drew).cellAt 1 rfl 2 rfl, (hs194.drew).cellAt 2 rfl 0 rfl, (hs194.drew).cellAt 2 rfl 1 rfl, cellL (belowD _) s0, cellL (belowD _) s1⟩
                have hs200 := hs194.drew
                have s0_201 := cellL (belowD _) s0
                clear s0
                have s1_202 := cellL (belowD _) s1
                clear s1
                have HRL_203 := Lib.hid (Rd.mono HRL_195.out (belowD _))
                clear HRL_195
                have HYR_204 := Lib.hid (Rd.mono HYR_196.out (belowD _))
                clear HYR_196
                have HBA_205 := Lib.hid (HBA.out.trans (((belowD _)).mono HBA.out.size))
                clear HBA
                clear k0_0 k0_1 k0_2 k1_0 k1_1 k1_2 k2_0 k2_1
                have hz_wd206 : wA.heap.size ≤ (wA.drew).heap.size := by simp
                generalize hgen_wd206 : wA.drew = wd206 at *
                have HG_wd206 := Lib.hid hgen_wd206
                clear hgen_wd206
                (repeat (first | (apply t4_skip rfl (by rfl); try simp only [Act.put, List.setIfInBounds_toArray, List.set_cons_zero, List.set_cons_succ]) | (apply t4_float rfl (by rfl); (· (intro w' hS; go_simp <;> with_reducible rfl)); (try simp only [Act.put, List.setIfInBounds_toArray, List.set_cons_zero, List.set_cons_succ]))))
                refine t4_hskip rfl (by rfl) ?_ ?_
                · exact ⟨hs200.cellAt 0 rfl 0 rfl, hs200.cellAt 0 rfl 1 rfl, hs200.cellAt 0 rfl 2 rfl, hs200.cellAt 1 rfl 0 rfl, hs200.cellAt 1 rfl 1 rfl, hs200.cellAt 1 rfl 2 rfl, hs200.cellAt 2 rfl 0 rfl, hs200.cellAt 2 rfl 1 rfl, s0_201, s1_202⟩
                (try simp only [Act.put, List.setIfInBounds_toArray, List.set_cons_zero, List.set_cons_succ])
                (repeat (first | (apply t4_skip rfl (by rfl); try simp only [Act.put, List.setIfInBounds_toArray, List.set_cons_zero, List.set_cons_succ]) | (apply t4_float rfl (by rfl); (· (intro w' hS; go_simp <;> with_reducible rfl)); (try simp only [Act.put, List.setIfInBounds_toArray, List.set_cons_zero, List.set_cons_succ]))))
                have k0_0 := hs200.cellAt 0 rfl 0 rfl
                have k0_1 := hs200.cellAt 0 rfl 1 rfl
                have k0_2 := hs200.cellAt 0 rfl 2 rfl
                have k1_0 := hs200.cellAt 1 rfl 0 rfl
                have k1_1 := hs200.cellAt 1 rfl 1 rfl
                have k1_2 := hs200.cellAt 1 rfl 2 rfl
                have k2_0 := hs200.cellAt 2 rfl 0 rfl
                have k2_1 := hs200.cellAt 2 rfl 1 rfl
                refine t4_nil (NoPanic.normal ?_)
                go_wp2_with fail
                go_meet
                case rel => exact ⟨by rw [H1.out], HBA_205.out⟩
              · have h1 : (x == y) = false := by simp [hxy]
                have H1 := Lib.hid (show dropA LT (-1, [x, y]) = LT.any (fun b => decide (b = (-1, [x, y]))) by rw [HQ.out, decide_eq_false hxy]; rfl)
                clear hxy
                refine wp_region_noPanic (wp_region_tree4 (fun w' => w'.cell? ⟨w.heap.size, 0, none⟩ = some (.int .i64 fr) ∧ w'.cell? ⟨w.heap.size, 1, none⟩ = some (.int .i64 vars) ∧ w'.cell? ⟨w.heap.size, 2, none⟩ = some (.slice a l.length c) ∧ w'.cell? ⟨w.heap.size + 1, 0, none⟩ = some (.int .i64 0) ∧ w'.cell? ⟨w.heap.size + 1, 1, none⟩ = some (.int .i64 0) ∧ w'.cell? ⟨w.heap.size + 1, 2, none⟩ = some (.slice none 0 0) ∧ w'.cell? ⟨wr.heap.size, 0, none⟩ = some (.int .i64 (-1)) ∧ w'.cell? ⟨wr.heap.size, 1, none⟩ = some (.slice (some ⟨b2, o2, none⟩) 2 c1) ∧ w'.cell? ⟨b2, o2, none⟩ = some (.int .i64 x) ∧ w'.cell? ⟨b2, o2 + 1, none⟩ = some (.int .i64 y)) (.float 0 (.float 1 (.float 2 (.float 3 (.float 4 (.float 5 (.float 6 (.float 7 (.float 8 (.float 9 (.float 10 (.float 11 (.float 12 (.float 13 (.float 14 (.float 15 (.float 16 (.hard 17 (.float 18 .nil))))))))))))))))))) (by kernel_rfl) (by kernel_rfl) (by kernel_rfl) rfl ?_ (fun _ _ _ _ _ h => h) ?_)
                · exact ⟨(hs194.drew).cellAt 0 rfl 0 rfl, (hs194.drew).cellAt 0 rfl 1 rfl, (hs194.drew).cellAt 0 rfl 2 rfl, (hs194.drew).cellAt 1 rfl 0 rfl, (hs194.drew).cellAt 1 rfl 1 rfl, (hs194.drew).cellAt 1 rfl 2 rfl, (hs194.drew).cellAt 2 rfl 0 rfl, (hs194.drew).cellAt 2 rfl 1 rfl, cellL (belowD _) s0, cellL (belowD _) s1⟩
                have hs207 := hs194.drew
                have s0_208 := cellL (belowD _) s0
                clear s0
                have s1_209 := cellL (belowD _) s1
                clear s1
                have HRL_210 := Lib.hid (Rd.mono HRL_195.out (belowD _))
                clear HRL_195
                have HYR_211 := Lib.hid (Rd.mono HYR_196.out (belowD _))
                clear HYR_196
                have HBA_212 := Lib.hid (HBA.out.trans (((belowD _)).mono HBA.out.size))
                clear HBA
                clear k0_0 k0_1 k0_2 k1_0 k1_1 k1_2 k2_0 k2_1
                have hz_wd213 : wA.heap.size ≤ (wA.drew).heap.size := by simp
                generalize hgen_wd213 : wA.drew = wd213 at *
                have HG_wd213 := Lib.hid hgen_wd213
                clear hgen_wd213
                (repeat (first | (apply t4_skip rfl (by rfl); try simp only [Act.put, List.setIfInBounds_toArray, List.set_cons_zero, List.set_cons_succ]) | (apply t4_float rfl (by rfl); (· (intro w' hS; go_simp <;> with_reducible rfl)); (try simp only [Act.put, List.setIfInBounds_toArray, List.set_cons_zero, List.set_cons_succ]))))
                refine t4_hard rfl (by rfl) (fun K hK => ?_)
                go_wp2_with (go_at_call 50; refine (containsAtoms_c LT _ 61 _ _ _ HRL_210.out eg3 (simplified3_by _ (-1, [x, y]) _ _ _ LT (hs207.cellAt 2 rfl 0 rfl) (hs207.cellAt 2 rfl 1 rfl) HYR_211.out)).mono ?_; rintro e w214 ⟨rfl, hbw214⟩)
                have hz_w214 : wd213.heap.size ≤ w214.heap.size := by have h9 := hbw214.size; (try simp at h9); omega
                have hs215 := hs207.step hbw214
                have s0_216 := cellL hbw214 s0_208
                clear s0_208
                have s1_217 := cellL hbw214 s1_209
                clear s1_209
                have HRL_218 := Lib.hid (Rd.mono HRL_210.out hbw214)
                clear HRL_210
                have HYR_219 := Lib.hid (Rd.mono HYR_211.out hbw214)
                clear HYR_211
                have HBA_220 := Lib.hid (HBA_212.out.trans ((hbw214).mono HBA_212.out.size))
                clear HBA_212
                refine ⟨⟨hs215.cellAt 0 rfl 0 rfl, hs215.cellAt 0 rfl 1 rfl, hs215.cellAt 0 rfl 2 rfl, hs215.cellAt 1 rfl 0 rfl, hs215.cellAt 1 rfl 1 rfl, hs215.cellAt 1 rfl 2 rfl, hs215.cellAt 2 rfl 0 rfl, hs215.cellAt 2 rfl 1 rfl, s0_216, s1_217⟩, ?_⟩
                (repeat (first | (apply t4_skip rfl (by rfl); try simp only [Act.put, List.setIfInBounds_toArray, List.set_cons_zero, List.set_cons_succ]) | (apply t4_float rfl (by rfl); (· (intro w' hS; go_simp <;> with_reducible rfl)); (try simp only [Act.put, List.setIfInBounds_toArray, List.set_cons_zero, List.set_cons_succ]))))
                have k0_0 := hs215.cellAt 0 rfl 0 rfl
                have k0_1 := hs215.cellAt 0 rfl 1 rfl
                have k0_2 := hs215.cellAt 0 rfl 2 rfl
                have k1_0 := hs215.cellAt 1 rfl 0 rfl
                have k1_1 := hs215.cellAt 1 rfl 1 rfl
                have k1_2 := hs215.cellAt 1 rfl 2 rfl
                have k2_0 := hs215.cellAt 2 rfl 0 rfl
                have k2_1 := hs215.cellAt 2 rfl 1 rfl
                refine t4_nil (NoPanic.normal ?_)
                go_wp2_with fail
                go_meet
                case rel => exact ⟨by rw [H1.out], HBA_220.out⟩
            · have h1 : (ci == -1) = false := by simp [h]
              have H1 := Lib.hid (show dropA LT (ci, sc) = LT.any (fun b => decide (b = (ci, sc))) by unfold dropA trivA; rw [decide_eq_false h]; rfl)
              clear h
              refine wp_region_noPanic (wp_region_tree4 (fun w' => w'.cell? ⟨w.heap.size, 0, none⟩ = some (.int .i64 fr) ∧ w'.cell? ⟨w.heap.size, 1, none⟩ = some (.int .i64 vars) ∧ w'.cell? ⟨w.heap.size, 2, none⟩ = some (.slice a l.length c) ∧ w'.cell? ⟨w.heap.size + 1, 0, none⟩ = some (.int .i64 0) ∧ w'.cell? ⟨w.heap.size + 1, 1, none⟩ = some (.int .i64 0) ∧ w'.cell? ⟨w.heap.size + 1, 2, none⟩ = some (.slice none 0 0) ∧ w'.cell? ⟨wr.heap.size, 0, none⟩ = some (.int .i64 ci) ∧ w'.cell? ⟨wr.heap.size, 1, none⟩ = some (.slice a1 sc.length c1)) (.float 0 (.float 1 (.float 2 (.float 3 (.float 4 (.float 5 (.float 6 (.float 7 (.float 8 (.float 9 (.float 10 (.float 11 (.float 12 (.float 13 (.float 14 (.float 15 (.float 16 (.hard 17 (.float 18 .nil))))))))))))))))))) (by kernel_rfl) (by kernel_rfl) (by kernel_rfl) rfl ?_ (fun _ _ _ _ _ h => h) ?_)
              · exact ⟨(hs194.drew).cellAt 0 rfl 0 rfl, (hs194.drew).cellAt 0 rfl 1 rfl, (hs194.drew).cellAt 0 rfl 2 rfl, (hs194.drew).cellAt 1 rfl 0 rfl, (hs194.drew).cellAt 1 rfl 1 rfl, (hs194.drew).cellAt 1 rfl 2 rfl, (hs194.drew).cellAt 2 rfl 0 rfl, (hs194.drew).cellAt 2 rfl 1 rfl⟩
              have hs221 := hs194.drew
              have HRL_222 := Lib.hid (Rd.mono HRL_195.out (belowD _))
              clear HRL_195
              have HYR_223 := Lib.hid (Rd.mono HYR_196.out (belowD _))
              clear HYR_196
              have HSC_224 := Lib.hid (Rd.mono HSC_197.out (belowD _))
              clear HSC_197
              have HBA_225 := Lib.hid (HBA.out.trans (((belowD _)).mono HBA.out.size))
              clear HBA
              clear k0_0 k0_1 k0_2 k1_0 k1_1 k1_2 k2_0 k2_1
              have hz_wd226 : wA.heap.size ≤ (wA.drew).heap.size := by simp
              generalize hgen_wd226 : wA.drew = wd226 at *
              have HG_wd226 := Lib.hid hgen_wd226
              clear hgen_wd226
              (repeat (first | (apply t4_skip rfl (by rfl); try simp only [Act.put, List.setIfInBounds_toArray, List.set_cons_zero, List.set_cons_succ]) | (apply t4_float rfl (by rfl); (· (intro w' hS; go_simp <;> with_reducible rfl)); (try simp only [Act.put, List.setIfInBounds_toArray, List.set_cons_zero, List.set_cons_succ]))))
              refine t4_hard rfl (by rfl) (fun K hK => ?_)
              go_wp2_with (go_at_call 50; refine (containsAtoms_c LT _ 61 _ _ _ HRL_222.out eg3 (simplified3_by _ (ci, sc) _ _ _ LT (hs221.cellAt 2 rfl 0 rfl) (hs221.cellAt 2 rfl 1 rfl) HYR_223.out)).mono ?_; rintro e w227 ⟨rfl, hbw227⟩)
              have hz_w227 : wd226.heap.size ≤ w227.heap.size := by have h9 := hbw227.size; (try simp at h9); omega
              have hs228 := hs221.step hbw227
              have HRL_229 := Lib.hid (Rd.mono HRL_222.out hbw227)
              clear HRL_222
              have HYR_230 := Lib.hid (Rd.mono HYR_223.out hbw227)
              clear HYR_223
              have HSC_231 := Lib.hid (Rd.mono HSC_224.out hbw227)
              clear HSC_224
              have HBA_232 := Lib.hid (HBA_225.out.trans ((hbw227).mono HBA_225.out.size))
              clear HBA_225
              refine ⟨⟨hs228.cellAt 0 rfl 0 rfl, hs228.cellAt 0 rfl 1 rfl, hs228.cellAt 0 rfl 2 rfl, hs228.cellAt 1 rfl 0 rfl, hs228.cellAt 1 rfl 1 rfl, hs228.cellAt 1 rfl 2 rfl, hs228.cellAt 2 rfl 0 rfl, hs228.cellAt 2 rfl 1 rfl⟩, ?_⟩
              (repeat (first | (apply t4_skip rfl (by rfl); try simp only [Act.put, List.setIfInBounds_toArray, List.set_cons_zero, List.set_cons_succ]) | (apply t4_float rfl (by rfl); (· (intro w' hS; go_simp <;> with_reducible rfl)); (try simp only [Act.put, List.setIfInBounds_toArray, List.set_cons_zero, List.set_cons_succ]))))
              have k0_0 := hs228.cellAt 0 rfl 0 rfl
              have k0_1 := hs228.cellAt 0 rfl 1 rfl
              have k0_2 := hs228.cellAt 0 rfl 2 rfl
              have k1_0 := hs228.cellAt 1 rfl 0 rfl
              have k1_1 := hs228.cellAt 1 rfl 1 rfl
              have k1_2 := hs228.cellAt 1 rfl 2 rfl
              have k2_0 := hs228.cellAt 2 rfl 0 rfl
              have k2_1 := hs228.cellAt 2 rfl 1 rfl
              refine t4_nil (NoPanic.normal ?_)
              go_wp2_with fail
              go_meet
              case rel => exact ⟨by rw [H1.out], HBA_232.out⟩
          case rest =>
            obtain ⟨rfl, hbx⟩ := hcut
            have HBX := hbx.out
            have hz_wc : wA.heap.size ≤ wc.heap.size := by have h9 := HBX.size; (try simp at h9); omega
            have hs233 := hs194.step HBX
            have HRL_234 := Lib.hid (Rd.mono HRL_195.out HBX)
            clear HRL_195
            have HYR_235 := Lib.hid (Rd.mono HYR_196.out HBX)
            clear HYR_196
            have HSC_236 := Lib.hid (Rd.mono HSC_197.out HBX)
            clear HSC_197
            have HRW_237 := Lib.hid (ownsRow_below HRW_198.out HBX)
            clear HRW_198
            have HBE_238 := Lib.hid (HBE_199.out.trans ((HBX).mono HBE_199.out.size))
            clear HBE_199
            have HBA_239 := Lib.hid (HBA.out.trans ((HBX).mono HBA.out.size))
            clear HBA
            clear k0_0 k0_1 k0_2 k1_0 k1_1 k1_2 k2_0 k2_1
            have k0_0 := hs233.cellAt 0 rfl 0 rfl
            have k0_1 := hs233.cellAt 0 rfl 1 rfl
            have k0_2 := hs233.cellAt 0 rfl 2 rfl
            have k1_0 := hs233.cellAt 1 rfl 0 rfl
            have k1_1 := hs233.cellAt 1 rfl 1 rfl
            have k1_2 := hs233.cellAt 1 rfl 2 rfl
            have k2_0 := hs233.cellAt 2 rfl 0 rfl
            have k2_1 := hs233.cellAt 2 rfl 1 rfl
            cases hq : dropA LT (ci, sc) with
            | true =>
              have HQ := Lib.hid (HYES.out hq)
              clear hq
              have hs240 := hs233.low (B' := w.heap.size + 1 + 1) (bx' := [(w.heap.size, #[.int .i64 fr, .int .i64 vars, .slice a l.length c], 41), (w.heap.size + 1, #[.int .i64 0, .int .i64 0, .slice none 0 0], 41)]) (by omega) (by (try simp) <;> omega) (fun x hx => by simp only [List.mem_cons, List.not_mem_nil, or_false] at hx; rcases hx with rfl | rfl <;> (refine ⟨?_, ?_⟩ <;> (try simp) <;> (try omega)))
              go_wp2_with fail
              go_roundw
              case rel =>
                refine ⟨k + 1, ab, cb, ?_⟩
                rw [HQ.out]
                exact ⟨hlt, rfl, by go_num, hs240, HBE_238.out, (fun g hg => ⟨(hgo.out g hg).1, by have := (hgo.out g hg).2; omega⟩), ⟨xs, HRW_237.out, HEL.out⟩⟩
              case measure => simp [intOf]; omega
            | false =>
              have HQ := Lib.hid (HNO.out hq)
              clear hq
              have HS8 := Lib.hid (hs233.step (belowA wc (.cells #[.int .i64 ci, .slice a1 sc.length c1] 58)))
              go_wp2_with (at_builtin; refine wpList_append_row _ rfl _ _ _ rfl E_atoms (v := .slice ab LT.length cb) rfl (ownsRow_below HRW_237.out (belowA _ _)) (vs := [.int .i64 ci, .slice a1 sc.length c1]) rfl (fun u hu => by simp only [List.mem_cons, List.not_mem_nil, or_false] at hu; rcases hu with rfl | rfl <;> rfl) ⟨wc.heap.size, 0, none⟩ 1 rfl (news2 (cell_at_block (heap_alloc_new _ _)) (cell_at_block (heap_alloc_new _ _))) (by omega) ?_; intro gN cN w8 hat hrowN hbutN hltN)
              have hsW := hs233.hi
              have hB8 := hbutN.butP (A := fun z => wE.heap.size ≤ z ∧ z < wr.heap.size) (fun z hz => hgo.out z (by simpa using hz))
              have hz8 := hB8.size
              (try simp at hz8)
              have HG8 := Lib.hid (show wE.heap.size ≤ gN ∧ gN < w8.heap.size from ⟨by
                rcases hat with h | h
                · exact (hgo.out gN h).1
                · rw [h]; (try simp); omega, hltN⟩)
              have HR8 := Lib.hid (RowR.snoc (w0 := wE) (l := LT) (y := ((ci, sc) : OpT)) HRW_237.out HEL.out HY.out hrowN)
              have HBE8 := Lib.hid ((HBE_238.out.trans ((belowA wc (.cells #[.int .i64 ci, .slice a1 sc.length c1] 58)).mono HBE_238.out.size)).trans (hB8.below (B := wE.heap.size) (fun z hz => hz.1) (by (try simp) <;> omega)))
              have hs8 := HS8.out.butP hB8 (fun z hz => by have := hz.1; omega) (fun x hx hA => by have h1 := hA.1; have h2 := hA.2; simp at hx; rcases hx with rfl | rfl | rfl <;> (try simp only at h1 h2) <;> omega)
              clear hat hrowN hbutN hltN
              clear HRW_237
              clear HBE_238
              clear HRL_234
              clear HYR_235
              clear HSC_236
              clear HBA_239
              clear k0_0 k0_1 k0_2 k1_0 k1_1 k1_2 k2_0 k2_1
              have k0_0 := hs8.cellAt 0 rfl 0 rfl
              have k0_1 := hs8.cellAt 0 rfl 1 rfl
              have k0_2 := hs8.cellAt 0 rfl 2 rfl
              have k1_0 := hs8.cellAt 1 rfl 0 rfl
              have k1_1 := hs8.cellAt 1 rfl 1 rfl
              have k1_2 := hs8.cellAt 1 rfl 2 rfl
              have k2_0 := hs8.cellAt 2 rfl 0 rfl
              have k2_1 := hs8.cellAt 2 rfl 1 rfl
              have hs241 := hs8.low (B' := w.heap.size + 1 + 1) (bx' := [(w.heap.size, #[.int .i64 fr, .int .i64 vars, .slice a l.length c], 41), (w.heap.size + 1, #[.int .i64 0, .int .i64 0, .slice none 0 0], 41)]) (by omega) (by (try simp) <;> omega) (fun x hx => by simp only [List.mem_cons, List.not_mem_nil, or_false] at hx; rcases hx with rfl | rfl <;> (refine ⟨?_, ?_⟩ <;> (try simp) <;> (try omega)))
              have HQL := Lib.hid (show (lessT A (k + 1)).length = LT.length + 1 by rw [HQ.out, List.length_append]; rfl)
              (try go_wp2_with fail)
              go_roundw
              case rel =>
                refine ⟨k + 1, some ⟨gN, 0, none⟩, cN, ?_⟩
                rw [HQL.out, HQ.out]
                exact ⟨hlt, rfl, by go_num, hs241, HBE8.out, (fun g hg => by simp only [Value.ownBlock, Option.some.injEq] at hg; subst hg; exact HG8.out), HR8.out⟩
              case measure => simp [intOf]; omega
        · obtain rfl : k = A.length := by omega
          have hnl : ¬ ((A.length : Int) < A.length) := by omega
          have hzL0 : w.heap.size + 1 + 1 ≤ wr.heap.size := hst2.out.hi
          have HRL := Lib.hid (hrw.out.rd hbe.out)
          have HLF := Lib.hid (show lessT A A.length = leftF (fr, vars, l) from by
            show lessT A A.length = lessF (mrgF fr vars.toNat l)
            rw [← HME.out]; rfl)
          have HVL := Lib.hid (show AtomsV vars.toNat (lessT A A.length) from fun a ha => HVA.out a (lessT_mem A A.length (Nat.le_refl _) a ha))
          have HSL := Lib.hid (show ShortA (lessT A A.length) from fun a ha => HSHA.out a (lessT_mem A A.length (Nat.le_refl _) a ha))
          have hLl := lessT_len A A.length
          clear hrw hgo hbe HVA HSHA HME HRA
          generalize lessT A A.length = L at *
          have hfN : ((fr.toNat : Nat) : Int) = fr := by omega
          have HUP := Lib.hid (show ∀ W : World, Calls Tryz.prog 63 #[.int .i64 0, .int .i64 fr] W fun e w' => ∃ v, e = .returned v ∧ Acc W.heap.size w'.heap.size 2 w' v (varsT fr.toNat L 0) ∧ Below W.heap.size W w' from fun W => by
            have h := upTo_c 0 fr.toNat W (by omega) (by omega) (by omega)
            rw [hfN, show upL 0 fr.toNat = varsT fr.toNat L 0 by simp [upL, varsT]] at h
            exact h)
          obtain ⟨wL, hwL⟩ : ∃ x, x = wr := ⟨_, rfl⟩
          subst hwL
          have HB3 := Lib.hid (Below.refl wL.heap.size wL)
          go_wp2_with fail
          refine (HUP.out _).mono ?_
          rintro e w242 ⟨v3, rfl, hac, hbw242⟩
          have hz_w242 : wL.heap.size ≤ w242.heap.size := by have h9 := hbw242.size; (try simp at h9); omega
          have hs243 := hst2.out.step hbw242
          have HB3_244 := Lib.hid (HB3.out.trans ((hbw242).mono HB3.out.size))
          clear HB3
          clear k0_0 k0_1 k0_2 k1_0 k1_1 k1_2
          have k0_0 := hs243.cellAt 0 rfl 0 rfl
          have k0_1 := hs243.cellAt 0 rfl 1 rfl
          have k0_2 := hs243.cellAt 0 rfl 2 rfl
          have k1_0 := hs243.cellAt 1 rfl 0 rfl
          have k1_1 := hs243.cellAt 1 rfl 1 rfl
          have k1_2 := hs243.cellAt 1 rfl 2 rfl
          obtain ⟨av0, cv0, rfl, _⟩ := hac.len
          have HAV := Lib.hid (AccP.wk (hac.accP (Nat.le_refl _)) (C := fun z => wL.heap.size ≤ z ∧ z < w242.heap.size) (fun z h => h))
          clear hac HUP
          have hs245 := hs243.alloc #[.slice av0 (varsT fr.toNat L 0).length cv0] 56 (n := w242.heap.size) (by simp)
          have HB3_246 := Lib.hid (HB3_244.out.trans (((belowA _ (.cells #[.slice av0 (varsT fr.toNat L 0).length cv0] 56))).mono HB3_244.out.size))
          clear HB3_244
          have HAV_247 := Lib.hid (AccP.mono HAV.out (belowA _ (.cells #[.slice av0 (varsT fr.toNat L 0).length cv0] 56)))
          clear HAV
          clear k0_0 k0_1 k0_2 k1_0 k1_1 k1_2
          have k0_0 := hs245.cellAt 0 rfl 0 rfl
          have k0_1 := hs245.cellAt 0 rfl 1 rfl
          have k0_2 := hs245.cellAt 0 rfl 2 rfl
          have k1_0 := hs245.cellAt 1 rfl 0 rfl
          have k1_1 := hs245.cellAt 1 rfl 1 rfl
          have k1_2 := hs245.cellAt 1 rfl 2 rfl
          have k2_0 := hs245.cellAt 2 rfl 0 rfl
          have kF0 := (hs245.cellAt 0 rfl 0 rfl)
          have hs248 := hs245.alloc #[.int .i64 fr] 2 (n := w242.heap.size + 1) (by simp)
          have HB3_249 := Lib.hid (HB3_246.out.trans (((belowA _ (.cells #[.int .i64 fr] 2))).mono HB3_246.out.size))
          clear HB3_246
          have HAV_250 := Lib.hid (AccP.mono HAV_247.out (belowA _ (.cells #[.int .i64 fr] 2)))
          clear HAV_247
          clear k0_0 k0_1 k0_2 k1_0 k1_1 k1_2 k2_0
          have k0_0 := hs248.cellAt 0 rfl 0 rfl
          have k0_1 := hs248.cellAt 0 rfl 1 rfl
          have k0_2 := hs248.cellAt 0 rfl 2 rfl
          have k1_0 := hs248.cellAt 1 rfl 0 rfl
          have k1_1 := hs248.cellAt 1 rfl 1 rfl
          have k1_2 := hs248.cellAt 1 rfl 2 rfl
          have k2_0 := hs248.cellAt 2 rfl 0 rfl
          have k3_0 := hs248.cellAt 3 rfl 0 rfl
          have HS6 := Lib.hid hs248
          have HB6 := Lib.hid HB3_249.out
          have HA6 := Lib.hid HAV_250.out
          go_wp2_with fail
          clear kF0
          go_loopw [12] (fun iv wl => ∃ (k vb : Nat) (av : Option Addr) (cv : Nat), k ≤ (vars - fr).toNat ∧ iv = .pointer (some ⟨vb, 0, none⟩) ∧ w242.heap.size < vb ∧ vb < wl.heap.size ∧ Hid (St w wl.heap.size wl [(w.heap.size, #[.int .i64 fr, .int .i64 vars, .slice a l.length c], 41), (w.heap.size + 1, #[.int .i64 0, .int .i64 0, .slice none 0 0], 41), (w242.heap.size, #[.slice av (varsT fr.toNat L k).length cv], 56), (vb, #[.int .i64 (fr + (k : Int))], 2)]) ∧
            Hid (Below wL.heap.size wL wl) ∧ Hid (AccP (fun z => wL.heap.size ≤ z ∧ z < wl.heap.size ∧ z ≠ vb ∧ z ≠ w242.heap.size) 2 wl (.slice av (varsT fr.toNat L k).length cv) (varsT fr.toNat L k))) (fun iv wl => (vars - cellInt wl iv).toNat)
          case atStart =>
            refine ⟨0, _, av0, cv0, Nat.zero_le _, rfl, by omega, by simp, ?_, HB6.out, ?_⟩
            · have h := HS6.out
              rw [show (fr : Int) + ((0 : Nat) : Int) = fr by omega]
              exact h.up (by simp) (Nat.le_refl _)
            · exact AccP.wk HA6.out (fun z h => ⟨h.1, by have := h.2; simp; omega, by have := h.2; omega, by have := h.2; omega⟩)
          case round =>
            clear HS6 HB6 HA6
            obtain ⟨k, vb, av, cv, hk, rfl, hvb, hvb2, hst3, hbl3, hac3⟩ := hrel
            have hzL : wL.heap.size ≤ wr.heap.size := hbl3.out.size
            have HI0 := Lib.hid (hst3.out.cellAt 3 rfl 0 rfl)
            have HB3 := hbl3
            have HAV := hac3
            clear hbl3 hac3
            have k0_0 := hst3.out.cellAt 0 rfl 0 rfl
            have k0_1 := hst3.out.cellAt 0 rfl 1 rfl
            have k0_2 := hst3.out.cellAt 0 rfl 2 rfl
            have k1_0 := hst3.out.cellAt 1 rfl 0 rfl
            have k1_1 := hst3.out.cellAt 1 rfl 1 rfl
            have k1_2 := hst3.out.cellAt 1 rfl 2 rfl
            have k2_0 := hst3.out.cellAt 2 rfl 0 rfl
            have k3_0 := hst3.out.cellAt 3 rfl 0 rfl
            have hVl := varsT_len fr.toNat L k
            by_cases hlt : fr + (k : Int) < vars
            · have HYES := Lib.hid (show L.any (fun a => a.2.contains (fr + (k : Int))) = true → varsT fr.toNat L k ++ [fr + (k : Int)] = varsT fr.toNat L (k + 1) from fun h => by
                rw [varsT, show ((fr.toNat + k : Nat) : Int) = fr + (k : Int) by omega, if_pos (show usedB L (fr + (k : Int)) = true from h)])
              have HNO := Lib.hid (show L.any (fun a => a.2.contains (fr + (k : Int))) = false → varsT fr.toNat L k = varsT fr.toNat L (k + 1) from fun h => by
                rw [varsT, show ((fr.toNat + k : Nat) : Int) = fr + (k : Int) by omega, if_neg (by rw [show usedB L (fr + (k : Int)) = false from h]; decide)])
              go_wp2_with fail
              refine (containsAtoms_c L _ 64 _ _ _ (Rd.mono HRL.out HB3.out) eg4 (simplified4_by vb (fr + (k : Int)) _ L (hst3.out.cellAt 3 rfl 0 rfl))).mono ?_
              rintro e w251 ⟨rfl, hbw251⟩
              have hz_w251 : wr.heap.size ≤ w251.heap.size := by have h9 := hbw251.size; (try simp at h9); omega
              have hs252 := hst3.out.step hbw251
              have HB3_253 := Lib.hid (HB3.out.trans ((hbw251).mono HB3.out.size))
              clear HB3
              have HAV_254 := Lib.hid (AccP.mono HAV.out hbw251)
              clear HAV
              clear k0_0 k0_1 k0_2 k1_0 k1_1 k1_2 k2_0 k3_0
              have k0_0 := hs252.cellAt 0 rfl 0 rfl
              have k0_1 := hs252.cellAt 0 rfl 1 rfl
              have k0_2 := hs252.cellAt 0 rfl 2 rfl
              have k1_0 := hs252.cellAt 1 rfl 0 rfl
              have k1_1 := hs252.cellAt 1 rfl 1 rfl
              have k1_2 := hs252.cellAt 1 rfl 2 rfl
              have k2_0 := hs252.cellAt 2 rfl 0 rfl
              have k3_0 := hs252.cellAt 3 rfl 0 rfl
              cases hu : L.any (fun a => a.2.contains (fr + (k : Int))) with
              | true =>
                have HTK := Lib.hid (HYES.out hu)
                have HTL := Lib.hid (show (varsT fr.toNat L k).length + 1 = (varsT fr.toNat L (k + 1)).length by rw [← HTK.out, List.length_append]; rfl)
                clear hu HYES HNO
                have hI1 : I64 (fr + (k : Int)) := ⟨by omega, by omega⟩
                have HS8 := Lib.hid (hs252.step (belowA w251 (.cells #[.int .i64 (fr + (k : Int))] 2)))
                have HB8 := Lib.hid (HB3_253.out.trans ((belowA w251 (.cells #[.int .i64 (fr + (k : Int))] 2)).mono HB3_253.out.size))
                go_wp2_with (at_builtin; refine wpList_append_accP _ rfl _ _ _ rfl E_ints rfl (AccP.mono HAV_254.out (belowA _ _)) (ip_int1 (C := fun _ => False) hI1) (fun z _ h => h) ⟨w251.heap.size, 0, none⟩ 1 rfl (news1 (cell_at_block (heap_alloc_new _ _))) (by omega) ?_; rw [HTK.out, HTL.out]; intro a8 c8 w8 hA8 hB8; refine Hid.out ?_)
                refine Lib.hid ?_
                have hz8 := hB8.size
                (try simp at hz8)
                have hs8 := HS8.out.butP hB8 (fun z hz => by have := hz.1; omega) (fun x hx hA => by have h1 := hA.1; have h2 := hA.2; simp at hx; rcases hx with rfl | rfl | rfl | rfl <;> (try simp only at h1 h2) <;> omega)
                have HB3 := Lib.hid (HB8.out.trans (hB8.below (B := wL.heap.size) (fun z hz => hz.1) (by (try simp) <;> omega)))
                have HAV := Lib.hid (AccP.wk hA8.tight (C := fun z => wL.heap.size ≤ z ∧ z < w8.heap.size ∧ z ≠ vb ∧ z ≠ w242.heap.size) (fun z hz => ⟨by
                  rcases hz.1 with h | h | h
                  · exact h.1
                  · exact h.elim
                  · simp at h; omega, hz.2, by
                  rcases hz.1 with h | h | h
                  · exact h.2.2.1
                  · exact h.elim
                  · simp at h; omega, by
                  rcases hz.1 with h | h | h
                  · exact h.2.2.2
                  · exact h.elim
                  · simp at h; omega⟩))
                clear hA8
                clear HB3_253
                clear HAV_254
                clear k0_0 k0_1 k0_2 k1_0 k1_1 k1_2 k2_0 k3_0
                have k0_0 := hs8.cellAt 0 rfl 0 rfl
                have k0_1 := hs8.cellAt 0 rfl 1 rfl
                have k0_2 := hs8.cellAt 0 rfl 2 rfl
                have k1_0 := hs8.cellAt 1 rfl 0 rfl
                have k1_1 := hs8.cellAt 1 rfl 1 rfl
                have k1_2 := hs8.cellAt 1 rfl 2 rfl
                have k2_0 := hs8.cellAt 2 rfl 0 rfl
                have k3_0 := hs8.cellAt 3 rfl 0 rfl
                have f2_0 := hs8.freeAt 2 rfl 0
                go_upto_region 21 with fail
                have hs255 := hs8.set (p := [_, _]) (by simp <;> omega) 0 (.slice a8 (varsT fr.toNat L (k + 1)).length c8)
                have HB3_256 := Lib.hid (HB3.out.setCell (p := ⟨w242.heap.size, 0, none⟩) (by (try simp) <;> omega) (.slice a8 (varsT fr.toNat L (k + 1)).length c8))
                clear HB3
                have HAV_257 := Lib.hid (AccP.setCell (b := w242.heap.size) (o := 0) HAV.out (.slice a8 (varsT fr.toNat L (k + 1)).length c8) (by intro hA9; (try simp only at hA9); omega))
                clear HAV
                clear k0_0 k0_1 k0_2 k1_0 k1_1 k1_2 k2_0 k3_0
                have hz_wP : w8.heap.size ≤ ((w8.setCell ⟨w242.heap.size, 0, none⟩ (.slice a8 (varsT fr.toNat L (k + 1)).length c8))).heap.size := by simp [World.setCell]
                generalize hgen_wP : (w8.setCell ⟨w242.heap.size, 0, none⟩ (.slice a8 (varsT fr.toNat L (k + 1)).length c8)) = wP at *
                clear hgen_wP
                have k0_0 := hs255.cellAt 0 rfl 0 rfl
                have k0_1 := hs255.cellAt 0 rfl 1 rfl
                have k0_2 := hs255.cellAt 0 rfl 2 rfl
                have k1_0 := hs255.cellAt 1 rfl 0 rfl
                have k1_1 := hs255.cellAt 1 rfl 1 rfl
                have k1_2 := hs255.cellAt 1 rfl 2 rfl
                have k2_0 := hs255.cellAt 2 rfl 0 rfl
                have k3_0 := hs255.cellAt 3 rfl 0 rfl
                have kI := (hs255.cellAt 3 rfl 0 rfl)
                have HSP := Lib.hid hs255
                have HBP := Lib.hid HB3_256.out
                have HAP := Lib.hid HAV_257.out
                have hs258 := hs255.alloc #[.int .i64 (fr + (k : Int))] 2 (n := wP.heap.size) (by simp)
                have HB3_259 := Lib.hid (HB3_256.out.trans (((belowA _ (.cells #[.int .i64 (fr + (k : Int))] 2))).mono HB3_256.out.size))
                clear HB3_256
                have HAV_260 := Lib.hid (AccP.mono HAV_257.out (belowA _ (.cells #[.int .i64 (fr + (k : Int))] 2)))
                clear HAV_257
                clear k0_0 k0_1 k0_2 k1_0 k1_1 k1_2 k2_0 k3_0
                have k0_0 := hs258.cellAt 0 rfl 0 rfl
                have k0_1 := hs258.cellAt 0 rfl 1 rfl
                have k0_2 := hs258.cellAt 0 rfl 2 rfl
                have k1_0 := hs258.cellAt 1 rfl 0 rfl
                have k1_1 := hs258.cellAt 1 rfl 1 rfl
                have k1_2 := hs258.cellAt 1 rfl 2 rfl
                have k2_0 := hs258.cellAt 2 rfl 0 rfl
                have k3_0 := hs258.cellAt 3 rfl 0 rfl
                have k4_0 := hs258.cellAt 4 rfl 0 rfl
                have f4_0 := hs258.freeAt 4 rfl 0
                have hw1 : IntKind.i64.wrap (fr + (k : Int) + 1) = fr + ((k + 1 : Nat) : Int) := by rw [i64_in _ (by omega)]; omega
                go_wp2_with fail
                have HS7 := Lib.hid (HSP.out.alloc #[.int .i64 (fr + ((k : Int) + 1))] 2 (n := wP.heap.size) (by simp))
                have HB7 := Lib.hid (HBP.out.trans ((belowA wP (.cells #[.int .i64 (fr + ((k : Int) + 1))] 2)).mono HBP.out.size))
                have HA7 := Lib.hid (AccP.mono HAP.out (belowA wP (.cells #[.int .i64 (fr + ((k : Int) + 1))] 2)))
                go_roundw
                case rel =>
                  refine ⟨k + 1, wP.heap.size, a8, c8, by omega, rfl, by omega, by simp, ?_, HB7.out, ?_⟩
                  · rw [show ((k + 1 : Nat) : Int) = (k : Int) + 1 by omega]
                    exact ((HS7.out.sub (bx' := [(w.heap.size, #[.int .i64 fr, .int .i64 vars, .slice a l.length c], 41), (w.heap.size + 1, #[.int .i64 0, .int .i64 0, .slice none 0 0], 41), (w242.heap.size, #[.slice a8 (varsT fr.toNat L (k + 1)).length c8], 56), (wP.heap.size, #[.int .i64 (fr + ((k : Int) + 1))], 2)]) (fun x hx => by
                      simp only [List.mem_cons, List.not_mem_nil, or_false, List.mem_append, List.nil_append, List.cons_append] at hx ⊢
                      rcases hx with h | h | h | h <;> simp [h])).up (by simp) (Nat.le_refl _))
                  · exact AccP.wk HA7.out (fun z hz => ⟨hz.1, by have := hz.2.1; simp; omega, by have := hz.2.1; omega, hz.2.2.2⟩)
                case measure =>
                  have e1 := HS7.out.cellAt 4 rfl 0 rfl
                  simp only [cellInt, e1, HI0.out]
                  simp
                  omega
              | false =>
                have HTK := Lib.hid (HNO.out hu)
                clear hu HYES HNO
                go_upto_region 21 with fail
                generalize varsT fr.toNat L k = VK at *
                obtain rfl : VK = varsT fr.toNat L (k + 1) := HTK.out
                obtain ⟨wP, hwP⟩ : ∃ x, x = w251 := ⟨_, rfl⟩
                subst hwP
                have kI := (hs252.cellAt 3 rfl 0 rfl)
                have HSP := Lib.hid hs252
                have HBP := Lib.hid HB3_253.out
                have HAP := Lib.hid HAV_254.out
                have hs261 := hs252.alloc #[.int .i64 (fr + (k : Int))] 2 (n := wP.heap.size) (by simp)
                have HB3_262 := Lib.hid (HB3_253.out.trans (((belowA _ (.cells #[.int .i64 (fr + (k : Int))] 2))).mono HB3_253.out.size))
                clear HB3_253
                have HAV_263 := Lib.hid (AccP.mono HAV_254.out (belowA _ (.cells #[.int .i64 (fr + (k : Int))] 2)))
                clear HAV_254
                clear k0_0 k0_1 k0_2 k1_0 k1_1 k1_2 k2_0 k3_0
                have k0_0 := hs261.cellAt 0 rfl 0 rfl
                have k0_1 := hs261.cellAt 0 rfl 1 rfl
                have k0_2 := hs261.cellAt 0 rfl 2 rfl
                have k1_0 := hs261.cellAt 1 rfl 0 rfl
                have k1_1 := hs261.cellAt 1 rfl 1 rfl
                have k1_2 := hs261.cellAt 1 rfl 2 rfl
                have k2_0 := hs261.cellAt 2 rfl 0 rfl
                have k3_0 := hs261.cellAt 3 rfl 0 rfl
                have k4_0 := hs261.cellAt 4 rfl 0 rfl
                have f4_0 := hs261.freeAt 4 rfl 0
                have hw1 : IntKind.i64.wrap (fr + (k : Int) + 1) = fr + ((k + 1 : Nat) : Int) := by rw [i64_in _ (by omega)]; omega
                go_wp2_with fail
                have HS7 := Lib.hid (HSP.out.alloc #[.int .i64 (fr + ((k : Int) + 1))] 2 (n := wP.heap.size) (by simp))
                have HB7 := Lib.hid (HBP.out.trans ((belowA wP (.cells #[.int .i64 (fr + ((k : Int) + 1))] 2)).mono HBP.out.size))
                have HA7 := Lib.hid (AccP.mono HAP.out (belowA wP (.cells #[.int .i64 (fr + ((k : Int) + 1))] 2)))
                go_roundw
                case rel =>
                  refine ⟨k + 1, wP.heap.size, av, cv, by omega, rfl, by omega, by simp, ?_, HB7.out, ?_⟩
                  · rw [show ((k + 1 : Nat) : Int) = (k : Int) + 1 by omega]
                    exact ((HS7.out.sub (bx' := [(w.heap.size, #[.int .i64 fr, .int .i64 vars, .slice a l.length c], 41), (w.heap.size + 1, #[.int .i64 0, .int .i64 0, .slice none 0 0], 41), (w242.heap.size, #[.slice av (varsT fr.toNat L (k + 1)).length cv], 56), (wP.heap.size, #[.int .i64 (fr + ((k : Int) + 1))], 2)]) (fun x hx => by
                      simp only [List.mem_cons, List.not_mem_nil, or_false, List.mem_append, List.nil_append, List.cons_append] at hx ⊢
                      rcases hx with h | h | h | h <;> simp [h])).up (by simp) (Nat.le_refl _))
                  · exact AccP.wk HA7.out (fun z hz => ⟨hz.1, by have := hz.2.1; simp; omega, by have := hz.2.1; omega, hz.2.2.2⟩)
                case measure =>
                  have e1 := HS7.out.cellAt 4 rfl 0 rfl
                  simp only [cellInt, e1, HI0.out]
                  simp
                  omega
            · have hkN : k = (vars - fr).toNat := by omega
              have hVS : varsT fr.toNat L k = varsF (fr, vars, l) := by
                unfold varsF
                rw [hkN, HLF.out]
              have HSF := Lib.hid (show simpF (fr, vars, l) = (fr, ((varsT fr.toNat L k).length : Int), movL (idxV (varsT fr.toNat L k)) L) by
                rw [hVS]
                unfold simpF
                rw [← HLF.out])
              clear hVS HLF
              generalize varsT fr.toNat L k = VS at *
              have HXV := Lib.hid (fun x => idxV_i64 (vs := VS) (by omega) x)
              go_upto_region 23 with fail
              have HSR := Lib.hid hst3.out
              clear HI0 HVL HV HSH HL eg0 eg1 eg2 eg3 eg4
              refine wp_region_noPanic (wp_region_tree4 (fun w' => w'.cell? ⟨w.heap.size, 0, none⟩ = some (.int .i64 fr) ∧ w'.cell? ⟨w.heap.size, 1, none⟩ = some (.int .i64 vars) ∧ w'.cell? ⟨w.heap.size, 2, none⟩ = some (.slice a l.length c) ∧ w'.cell? ⟨w.heap.size + 1, 0, none⟩ = some (.int .i64 0) ∧ w'.cell? ⟨w.heap.size + 1, 1, none⟩ = some (.int .i64 0) ∧ w'.cell? ⟨w.heap.size + 1, 2, none⟩ = some (.slice none 0 0) ∧ w'.cell? ⟨w242.heap.size, 0, none⟩ = some (.slice av (VS).length cv) ∧ w'.cell? ⟨vb, 0, none⟩ = some (.int .i64 (fr + (k : Int)))) (.float 0 (.float 1 (.float 2 (.float 3 (.float 4 (.float 5 (.hard 6 (.float 7 (.last 8 .nil))))))))) (by kernel_rfl) (by kernel_rfl) (by kernel_rfl) rfl ?_ (fun _ _ _ _ _ h => h) ?_)
              · exact ⟨(hst3.out.drew).cellAt 0 rfl 0 rfl, (hst3.out.drew).cellAt 0 rfl 1 rfl, (hst3.out.drew).cellAt 0 rfl 2 rfl, (hst3.out.drew).cellAt 1 rfl 0 rfl, (hst3.out.drew).cellAt 1 rfl 1 rfl, (hst3.out.drew).cellAt 1 rfl 2 rfl, (hst3.out.drew).cellAt 2 rfl 0 rfl, (hst3.out.drew).cellAt 3 rfl 0 rfl⟩
              have hs264 := hst3.out.drew
              have HB3_265 := Lib.hid (HB3.out.trans (((belowD _)).mono HB3.out.size))
              clear HB3
              have HAV_266 := Lib.hid (AccP.mono HAV.out (belowD _))
              clear HAV
              clear k0_0 k0_1 k0_2 k1_0 k1_1 k1_2 k2_0 k3_0
              have hz_wd267 : wr.heap.size ≤ (wr.drew).heap.size := by simp
              generalize hgen_wd267 : wr.drew = wd267 at *
              have HG_wd267 := Lib.hid hgen_wd267
              clear hgen_wd267
              (repeat (first | (apply t4_skip rfl (by rfl); try simp only [Act.put, List.setIfInBounds_toArray, List.set_cons_zero, List.set_cons_succ]) | (apply t4_float rfl (by rfl); (· (intro w' hS; go_simp <;> with_reducible rfl)); (try simp only [Act.put, List.setIfInBounds_toArray, List.set_cons_zero, List.set_cons_succ]))))
              refine t4_hard rfl (by rfl) (fun K hK => ?_)
              go_wp2_with (go_at_call 54; refine (renamed_c L _ 66 _ (idxV VS) _ (Rd.mono HRL.out HB3_265.out) (by omega) HSL.out (fun a ha x hx => HXV.out x) eg5 (simplified5_by w242.heap.size VS _ _ _ (hs264.cellAt 2 rfl 0 rfl) HAV_266.out.rd)).mono ?_; rintro e w268 ⟨v9, rfl, hF9, hbw268⟩)
              have hz_w268 : wd267.heap.size ≤ w268.heap.size := by have h9 := hbw268.size; (try simp at h9); omega
              have hs269 := hs264.step hbw268
              have HB3_270 := Lib.hid (HB3_265.out.trans ((hbw268).mono HB3_265.out.size))
              clear HB3_265
              have HAV_271 := Lib.hid (AccP.mono HAV_266.out hbw268)
              clear HAV_266
              obtain ⟨a9, c9, rfl, _⟩ := rd_list hF9.rd
              rw [movL_len] at hF9
              rw [movL_len]
              have HF9 := Lib.hid hF9
              clear hF9
              refine ⟨⟨hs269.cellAt 0 rfl 0 rfl, hs269.cellAt 0 rfl 1 rfl, hs269.cellAt 0 rfl 2 rfl, hs269.cellAt 1 rfl 0 rfl, hs269.cellAt 1 rfl 1 rfl, hs269.cellAt 1 rfl 2 rfl, hs269.cellAt 2 rfl 0 rfl, hs269.cellAt 3 rfl 0 rfl⟩, ?_⟩
              (repeat (first | (apply t4_skip rfl (by rfl); try simp only [Act.put, List.setIfInBounds_toArray, List.set_cons_zero, List.set_cons_succ]) | (apply t4_float rfl (by rfl); (· (intro w' hS; go_simp <;> with_reducible rfl)); (try simp only [Act.put, List.setIfInBounds_toArray, List.set_cons_zero, List.set_cons_succ]))))
              refine t4_last rfl (by rfl) (fun K hK => ?_)
              have k0_0 := hs269.cellAt 0 rfl 0 rfl
              have k0_1 := hs269.cellAt 0 rfl 1 rfl
              have k0_2 := hs269.cellAt 0 rfl 2 rfl
              have k1_0 := hs269.cellAt 1 rfl 0 rfl
              have k1_1 := hs269.cellAt 1 rfl 1 rfl
              have k1_2 := hs269.cellAt 1 rfl 2 rfl
              have k2_0 := hs269.cellAt 2 rfl 0 rfl
              have k3_0 := hs269.cellAt 3 rfl 0 rfl
              have g0 := (hs269.freeAt 1 rfl 0)
              have g1 := (hs269.freeAt 1 rfl 1)
              have g2 := (hs269.freeAt 1 rfl 2)
              have hs9 := (((hs269.set (p := [_]) (by simp <;> omega) 0 (.int .i64 fr)).set (p := [_]) (by simp <;> omega) 1 (.int .i64 VS.length)).set (p := [_]) (by simp <;> omega) 2 (.slice a9 L.length c9))
              have HF := Lib.hid (show Fresh w.heap.size (((w268.setCell ⟨w.heap.size + 1, 0, none⟩ (.int .i64 fr)).setCell ⟨w.heap.size + 1, 1, none⟩ (.int .i64 VS.length)).setCell ⟨w.heap.size + 1, 2, none⟩ (.slice a9 L.length c9)) [.slice a9 L.length c9] (movL (idxV VS) L) from
                (((HF9.out.setCell (a := ⟨w.heap.size + 1, 0, none⟩) (by simp <;> omega) (.int .i64 fr)).setCell (a := ⟨w.heap.size + 1, 1, none⟩) (by simp <;> omega) (.int .i64 VS.length)).setCell (a := ⟨w.heap.size + 1, 2, none⟩) (by simp <;> omega) (.slice a9 L.length c9)).lower (by omega))
              have HB9 := Lib.hid hs9.bel
              have y0 := hs9.cellAt 1 rfl 0 rfl
              have y1 := hs9.cellAt 1 rfl 1 rfl
              have y2 := hs9.cellAt 1 rfl 2 rfl
              clear hs9 HF9
              go_wp2_with fail
              refine t4_nil (NoPanic.normal ?_)
              go_wp2_with fail
              refine bodyPost_ret (v := .agg #[.int .i64 fr, .int .i64 VS.length, .slice a9 L.length c9]) (by simp [results, Tryz.results24, go_sem, y0, y1, y2]) rfl (by rw [HSF.out]; exact ⟨_, rfl, HF.out, HB9.out⟩)

end Go.Proofs.YtnefmhhemaenkaaGreat
