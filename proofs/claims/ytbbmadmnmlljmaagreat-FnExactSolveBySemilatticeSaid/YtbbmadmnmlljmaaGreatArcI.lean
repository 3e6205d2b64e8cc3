/-
  CONTRACT: making domains consistent: the program's side.
-/
import Derived.Test.YtbbmadmnmlljmaaGreatArcW
namespace Go.Proofs.YtbbmadmnmlljmaaGreat
open Go.RowKit Go.Shelf Go.IntWalk
open Rep (Rd Own sz)
set_option linter.unusedSimpArgs false
set_option linter.unusedVariables false

theorem ArcW.own {w0 : World} {AD : Nat → Prop} {B0 g cd V : Nat} {eS : TypeId} {bx : List (Nat × Array Value × TypeId)} {wl w1 : World} {gs co : Nat} {s : ArcS} (h : ArcW w0 AD B0 g cd V eS bx wl gs co s) (hb : Below wl.heap.size wl w1)
    {gL : Nat} {cur : Array Value} {e : TypeId} (h1 : wl.heap.size ≤ gL) (h2 : w1.heap[gL]? = some (.cells cur e (0, 0))) : ArcW w0 AD B0 g cd V eS (bx ++ [(gL, cur, e)]) w1 gs co s := by
  have h3 := h.step hb
  have hlt : gL < w1.heap.size := (Array.getElem?_eq_some_iff.1 h2).1
  refine ⟨⟨h3.st.bel, h3.st.lo, h3.st.hi, fun x hx => ?_⟩, h3.b0, h.lo, ?_, h3.row, ⟨h3.gs.1, fun x hx => ?_⟩⟩
  · rcases List.mem_append.1 hx with hx | hx
    · exact h3.st.box x hx
    · rw [List.mem_singleton] at hx
      subst hx
      exact ⟨by have := h.st.lo; simp only; omega, hlt, h2⟩
  · refine (h.dom.tight.mono hb).wk (fun z hz => ⟨hz.1.1, fun x hx => ?_⟩)
    rcases List.mem_append.1 hx with hx | hx
    · exact hz.1.2 x hx
    · rw [List.mem_singleton] at hx
      subst hx
      have := hz.2
      simp only
      omega
  · rcases List.mem_append.1 hx with hx | hx
    · exact h.gs.2 x hx
    · rw [List.mem_singleton] at hx
      subst hx
      have := h.gs.1.2
      simp only
      omega
theorem conOk_len0 {t : Tmpl} {vars : Int} {c : OpT} (ht : tmplOk t = true) (h : conOk t vars c = true) : c.2.length ≤ 4 := by
  simp only [conOk, Bool.and_eq_true] at h
  have h1 := inB_true h.1
  have h2 := valsOk_len h.2
  have hi : c.1.toNat < t.2.length := by omega
  rw [show t.2.getD c.1.toNat (0, []) = t.2[c.1.toNat] by simp [List.getD, hi]] at h2
  have h3 := (relOk_get ((tmplOk_get ht).2.2 _ (List.getElem_mem hi))).2.1
  omega
/-- What a right instance says of a constraint. -/
theorem con_facts {t : Tmpl} {x : Inst} (h : instOk t x = true) {k : Nat} (hk : k < x.2.length) : ∃ n : Nat, x.2[k].1 = (n : Int) ∧ n < t.2.length ∧ (∀ y, y ∈ (t.2.getD n (0, [])).2 → y.length = x.2[k].2.length) ∧ (∀ v, v ∈ x.2[k].2 → 0 ≤ v ∧ v < x.1) ∧ x.2[k].2.length ≤ 4 := by
  have ht := (instOk_get h).1
  have hc := (instOk_get h).2.2.2 _ (List.getElem_mem hk)
  have h4 := conOk_len0 ht hc
  simp only [conOk, Bool.and_eq_true] at hc
  have h1 := inB_true hc.1
  have hi : x.2[k].1.toNat < t.2.length := by omega
  refine ⟨x.2[k].1.toNat, by omega, hi, fun y hy => ?_, fun v hv => ?_, h4⟩
  · have h2 := valsOk_len hc.2
    rw [show t.2.getD x.2[k].1.toNat (0, []) = t.2[x.2[k].1.toNat] by simp [List.getD, hi]] at hy h2
    have h3 := relOk_val ((tmplOk_get ht).2.2 _ (List.getElem_mem hi)) y hy
    have h5 := (relOk_get ((tmplOk_get ht).2.2 _ (List.getElem_mem hi))).2.1
    omega
  · have h2 := hc.2
    simp only [valsOk, Bool.and_eq_true, List.all_eq_true] at h2
    have := inB_true (h2.2 v hv)
    omega
/-- The number of elements that a slice's header tells. -/
def lnV : Value → Nat
  | .slice _ n _ => n
  | _ => 0
def boV : Value → Nat
  | .bool true => 1
  | _ => 0
theorem never_c (w : World) : Calls Tryz.prog 38 #[] w fun e w' => e = .returned (.bool false) ∧ w = w' := by
  go_enter Tryz.func38, Tryz.ntmps38
  go_wp2_with fail
  go_ret
  exact ⟨rfl, rfl⟩
set_option maxRecDepth 100000 in
set_option maxHeartbeats 16000000 in
theorem makeArcs_c (t : Tmpl) (x : Inst) (ds : List (List Int)) (t0 t1 x0 x1 : Value) (g cd V C : Nat) (AD : Nat → Prop) (w0 w : World) (hb : Below w0.heap.size w0 w) (ht : Rd w0 [t0, t1] t) (hx : Rd w0 [x0, x1] x) (hok : instOk t x = true)
    (hd : Ip AD w [.slice (some ⟨g, 0, none⟩) V cd] ds) (hAD : ∀ z, AD z → w0.heap.size ≤ z) (hA : ArcOk V C (ds, [])) (hV : (V : Int) = x.1) (hC : C ≤ 1000000000) :
    Calls Tryz.prog 37 #[.agg #[t0, t1], .agg #[x0, x1], .slice (some ⟨g, 0, none⟩) V cd, .func (.func 38) #[] #[]] w fun e w' => ∃ gs co, e = .returned (.slice (some ⟨gs, 0, none⟩) (arcsA t.2 x.2 (C + 1) (ds, [])).2.length co) ∧ ArcW w0 AD w.heap.size g cd V 124 [] w' gs co (arcsA t.2 x.2 (C + 1) (ds, [])) := by
  obtain ⟨size, rs⟩ := t
  obtain ⟨vars, cs⟩ := x
  simp only at hV
  have HOK := Lib.hid hok
  have zt := rd_cons rfl ht
  obtain ⟨rfl, _⟩ := rd_i1 zt.1
  obtain ⟨at0, ct0, rfl, _⟩ := rd_list zt.2
  have zx := rd_cons rfl hx
  obtain ⟨rfl, _⟩ := rd_i1 zx.1
  obtain ⟨ax, cx, rfl, hcs⟩ := rd_list zx.2
  have hcl := (instOk_get hok).2.2.1
  simp only at hcl
  have HT := Lib.hid ht
  have HCS := Lib.hid hcs
  have HADB := Lib.hid (And.intro hb.size hAD)
  have HA := Lib.hid hA
  have HFC := Lib.hid (fun (k : Nat) (hk : k < cs.length) => con_facts hok hk)
  have eg : ∀ args w, (callFunc 38 args).run Tryz.prog w = .ok (.enter 38 args) w := enters_of Tryz.func38 (by kernel_rfl) rfl
  have hs0 := (St.start w0).step hb
  have HD := Lib.hid hd
  clear ht hx zt zx hcs hok hAD hA hd hb
  have hs1 := hs0.alloc #[.int .i64 size, .slice at0 rs.length ct0] 42 (n := w.heap.size) (by simp)
  have k0_0 := hs1.cellAt 0 rfl 0 rfl
  have k0_1 := hs1.cellAt 0 rfl 1 rfl
  have hs2 := hs1.alloc #[.int .i64 vars, .slice ax cs.length cx] 46 (n := w.heap.size + 1) (by simp)
  clear k0_0 k0_1
  have k0_0 := hs2.cellAt 0 rfl 0 rfl
  have k0_1 := hs2.cellAt 0 rfl 1 rfl
  have k1_0 := hs2.cellAt 1 rfl 0 rfl
  have k1_1 := hs2.cellAt 1 rfl 1 rfl
  have HW := Lib.hid (show ArcW w0 AD w.heap.size g cd V 124 [(w.heap.size, #[.int .i64 size, .slice at0 rs.length ct0], 42), (w.heap.size + 1, #[.int .i64 vars, .slice ax cs.length cx], 46)] (((w.alloc (.cells #[.int .i64 size, .slice at0 rs.length ct0] 42)).alloc (.cells #[.int .i64 vars, .slice ax cs.length cx] 46)).alloc (.cells #[] 124)) (w.heap.size + 1 + 1) 0 (ds, []) from by
    have h3 := (hs2.step (belowA ((w.alloc (.cells #[.int .i64 size, .slice at0 rs.length ct0] 42)).alloc (.cells #[.int .i64 vars, .slice ax cs.length cx] 46)) (.cells #[] 124)))
    refine ⟨h3.up (by simp) (Nat.le_refl _), by simp; omega, HADB.out, ?_, by have h := row_made (size := 3) ((w.alloc (.cells #[.int .i64 size, .slice at0 rs.length ct0] 42)).alloc (.cells #[.int .i64 vars, .slice ax cs.length cx] 46)) 124; simpa [flat3] using h, ⟨⟨by omega, by simp⟩, fun x hx => by simp at hx; rcases hx with rfl | rfl <;> simp <;> omega⟩⟩
    refine ((HD.out.tight.mono ((belowA w _).trans ((belowA _ _).mono (by simp)))).mono (belowA ((w.alloc (.cells #[.int .i64 size, .slice at0 rs.length ct0] 42)).alloc (.cells #[.int .i64 vars, .slice ax cs.length cx] 46)) _)).wk (fun z hz => ⟨⟨.inl hz.1, by have := hz.2; omega⟩, fun x hx => ?_⟩)
    have := hz.2
    simp at hx
    rcases hx with rfl | rfl <;> (simp only; omega))
  clear HD
  go_enter Tryz.func37, Tryz.ntmps37
  go_wp2_with fail
  go_loopw [9, 10] (fun st ch wl => ∃ (s : ArcS) (gs co : Nat) (b : Bool) (n : Nat), st = .slice (some ⟨gs, 0, none⟩) s.2.length co ∧ ch = .bool b ∧ Hid (ArcW w0 AD w.heap.size g cd V 124 [(w.heap.size, #[.int .i64 size, .slice at0 rs.length ct0], 42), (w.heap.size + 1, #[.int .i64 vars, .slice ax cs.length cx], 46)] wl gs co s) ∧ Hid (ArcOk V C s) ∧ Hid ((b = true → arcsA rs cs (C + 1) (ds, []) = arcsA rs cs n s ∧ C + 1 ≤ n + s.2.length) ∧ (b = false → arcsA rs cs (C + 1) (ds, []) = s))) (fun st ch _ => 2 * (C - lnV st) + boV ch)
  case atStart => exact ⟨(ds, []), _, _, true, C + 1, rfl, rfl, HW.out, HA.out, ⟨fun _ => ⟨rfl, by simp⟩, fun h => by cases h⟩⟩
  case round =>
    clear HW HA
    obtain ⟨s, gs, co, b, n, rfl, rfl, hw, hA, hrun⟩ := hrel
    have hs1 := hw.out.st
    have k0_0 := hs1.cellAt 0 rfl 0 rfl
    have k0_1 := hs1.cellAt 0 rfl 1 rfl
    have k1_0 := hs1.cellAt 1 rfl 0 rfl
    have k1_1 := hs1.cellAt 1 rfl 1 rfl
    cases b with
    | false =>
      have HR := Lib.hid (show s = arcsA rs cs (C + 1) (ds, []) from (hrun.out.2 rfl).symm)
      have HW2 := Lib.hid (hw.out.sub (bx' := []) (fun x hx => by cases hx))
      go_wp2_with fail
      go_ret
      rw [← HR.out]
      exact ⟨gs, co, rfl, HW2.out⟩
    | true =>
      have hr2 := hrun.out.1 rfl
      have HR := Lib.hid hr2
      have hpot := hA.out.pot
      clear hr2 hrun
      go_wp2_with fail
      go_loopw [9, 10, 22] (fun st ch i wl => ∃ (k : Nat) (u : ArcS) (gs co : Nat), k ≤ cs.length ∧ i = .int .i64 k ∧ st = .slice (some ⟨gs, 0, none⟩) u.2.length co ∧ ch = .bool (decide (s.2.length < u.2.length)) ∧ Hid (ArcW w0 AD w.heap.size g cd V 124 [(w.heap.size, #[.int .i64 size, .slice at0 rs.length ct0], 42), (w.heap.size + 1, #[.int .i64 vars, .slice ax cs.length cx], 46)] wl gs co u) ∧ Hid (ArcOk V C u) ∧ Hid (u = (List.range k).foldl (conA rs cs) s)) (fun _ _ i _ => cs.length - (intOf i).toNat)
      case atStart => exact ⟨0, s, gs, co, Nat.zero_le _, rfl, rfl, by simp, hw.out, hA.out, rfl⟩
      case round =>
        obtain ⟨k, u, gs, co, hk, rfl, rfl, rfl, hw, hA, hu⟩ := hrel
        have hs1 := hw.out.st
        have k0_0 := hs1.cellAt 0 rfl 0 rfl
        have k0_1 := hs1.cellAt 0 rfl 1 rfl
        have k1_0 := hs1.cellAt 1 rfl 0 rfl
        have k1_1 := hs1.cellAt 1 rfl 1 rfl
        by_cases hlt : k < cs.length
        · have hkl : (k : Int) < cs.length := by omega
          obtain ⟨nr, hcn, hnr, hyl, hsv, hsc4⟩ := HFC.out k hlt
          obtain ⟨b, o, u0, u1, rfl, p0, p1, hy⟩ := rdSl_two rfl HCS.out k hlt
          have hyz := rd_cons rfl hy
          obtain ⟨rfl, _⟩ := rd_i1 hyz.1
          obtain ⟨a1, c1, rfl, _⟩ := rd_list hyz.2
          have HSC := Lib.hid hyz.2
          have HCON := Lib.hid hy
          have HRS := Lib.hid (show conA rs cs u k = (List.range cs[k].2.length).foldl (placeA (rs.getD nr (0, [])).2 cs[k].2 k) u by
            unfold conA
            rw [show cs.getD k (0, []) = cs[k] by simp [List.getD, hlt], hcn, Int.toNat_natCast])
          have HYL := Lib.hid hyl
          have HSV := Lib.hid hsv
          have HNR := Lib.hid hnr
          clear hyl hsv hnr hy hyz
          generalize hCC : cs[k] = CC at *
          obtain ⟨ci, sc⟩ := CC
          simp only at hcn p0 p1 HSC HCON HRS HYL HSV hsc4
          subst hcn
          have HCC := Lib.hid hCC
          clear hCC
          have q0 := cellL hs1.bel p0
          have q1 := cellL hs1.bel p1
          clear p0 p1
          obtain ⟨wc, hwc⟩ : ∃ x, x = wr := ⟨_, rfl⟩
          subst hwc
          have HWB := Lib.hid (hw.out.box #[.int .i64 nr, .slice a1 sc.length c1] 114)
          have hs3 := hs1.alloc #[.int .i64 nr, .slice a1 sc.length c1] 114 (n := wc.heap.size) (by simp)
          clear k0_0 k0_1 k1_0 k1_1
          have k0_0 := hs3.cellAt 0 rfl 0 rfl
          have k0_1 := hs3.cellAt 0 rfl 1 rfl
          have k1_0 := hs3.cellAt 1 rfl 0 rfl
          have k1_1 := hs3.cellAt 1 rfl 1 rfl
          have k2_0 := hs3.cellAt 2 rfl 0 rfl
          have k2_1 := hs3.cellAt 2 rfl 1 rfl
          go_wp2_with fail
          go_loopw [9, 10, 30] (fun st ch i wl => ∃ (p : Nat) (y : ArcS) (gs co : Nat), p ≤ sc.length ∧ i = .int .i64 p ∧ st = .slice (some ⟨gs, 0, none⟩) y.2.length co ∧ ch = .bool (decide (s.2.length < y.2.length)) ∧ Hid (ArcW w0 AD w.heap.size g cd V 124 [(w.heap.size, #[.int .i64 size, .slice at0 rs.length ct0], 42), (w.heap.size + 1, #[.int .i64 vars, .slice (some ⟨b, o, none⟩) cs.length cx], 46), (wc.heap.size, #[.int .i64 nr, .slice a1 sc.length c1], 114)] wl gs co y) ∧ Hid (ArcOk V C y) ∧ Hid (y = (List.range p).foldl (placeA (rs.getD nr (0, [])).2 sc k) u)) (fun _ _ i _ => sc.length - (intOf i).toNat)
          case atStart => exact ⟨0, u, gs, co, Nat.zero_le _, rfl, rfl, rfl, HWB.out, hA.out, rfl⟩
          case round =>
            clear HWB
            obtain ⟨p, y, gs, co, hp, rfl, rfl, rfl, hw2, hA2, hy2⟩ := hrel
            have hs2 := hw2.out.st
            have k0_0 := hs2.cellAt 0 rfl 0 rfl
            have k0_1 := hs2.cellAt 0 rfl 1 rfl
            have k1_0 := hs2.cellAt 1 rfl 0 rfl
            have k1_1 := hs2.cellAt 1 rfl 1 rfl
            have k2_0 := hs2.cellAt 2 rfl 0 rfl
            have k2_1 := hs2.cellAt 2 rfl 1 rfl
            by_cases hpl : p < sc.length
            · have hpI : (p : Int) < sc.length := by omega
              obtain ⟨b3, o3, rfl, qp0, _⟩ := rd_int_at HSC.out p hpl
              have hvv := HSV.out _ (List.getElem_mem hpl)
              obtain ⟨vn, hvn⟩ : ∃ vn : Nat, sc[p] = (vn : Int) := ⟨sc[p].toNat, by omega⟩
              have HPL := Lib.hid (show placeA (rs.getD nr (0, [])).2 sc k y p = (y.1.getD vn []).foldl (stepA (rs.getD nr (0, [])).2 sc k p vn) y by
                unfold placeA
                rw [show sc.getD p 0 = sc[p] by simp [List.getD, hpl], hvn, Int.toNat_natCast])
              rw [hvn] at hvv qp0
              have hvV : vn < V := by omega
              have hvI : (vn : Int) < V := by omega
              clear hvn
              have qp := cellL hs2.bel qp0
              obtain ⟨aD, cD, eD, hdr⟩ := rd_list hw2.out.rd
              simp only [Value.slice.injEq, Option.some.injEq] at eD
              obtain ⟨rfl, hVl, rfl⟩ := eD
              have hvl : vn < y.1.length := by omega
              obtain ⟨b4, o4, vd, e4, qd, hdn⟩ := rdSl_one rfl hdr vn hvl
              simp only [Option.some.injEq, Addr.mk.injEq, and_true] at e4
              obtain ⟨rfl, rfl⟩ := e4
              obtain ⟨a5, c5, rfl, _⟩ := rd_list hdn
              have HGD := Lib.hid (show y.1.getD vn [] = y.1[vn] by simp [List.getD, hvl])
              have HDS := Lib.hid (hA2.out.small _ (List.getElem_mem hvl))
              have HDN := Lib.hid hdn
              have HVI := Lib.hid (ValInv.start hA2.out hvV)
              have HND := Lib.hid (hA2.out.nodup _ (List.getElem_mem hvl))
              rw [HGD.out] at HPL HVI
              have HVL := Lib.hid hVl
              clear hVl hdr hdn qp0
              generalize y.1[vn] = D at *
              rw [Nat.zero_add] at qd
              go_wp2_with fail
              refine (cloneIntsA_c D _ _ HDN.out (by have := HDS.out; omega)).mono ?_
              rintro e wL ⟨vL, rfl, hAL, hbL⟩
              by_cases hD0 : D.length = 0
              · obtain ⟨aL, cL, rfl, _⟩ := hAL.len
                have HW3 := Lib.hid (hw2.out.step hbL)
                have HE := Lib.hid (show y = (List.range (p + 1)).foldl (placeA (rs.getD nr (0, [])).2 sc k) u by
                  rw [foldl_range_succ, ← hy2.out, HPL.out, List.length_eq_zero_iff.1 hD0]; rfl)
                rw [hD0]
                clear hAL hbL hD0
                go_wp2_with fail
                go_loopw [9, 10, 41] (fun st ch i wl => st = .slice (some ⟨gs, 0, none⟩) y.2.length co ∧ ch = .bool (decide (s.2.length < y.2.length)) ∧ i = .int .i64 0 ∧ Hid (ArcW w0 AD w.heap.size g cd V 124 [(w.heap.size, #[.int .i64 size, .slice at0 rs.length ct0], 42), (w.heap.size + 1, #[.int .i64 vars, .slice (some ⟨b, o, none⟩) cs.length cx], 46), (wc.heap.size, #[.int .i64 nr, .slice (some ⟨b3, o3, none⟩) sc.length c1], 114)] wl gs co y)) (fun _ _ _ _ => 0)
                case atStart => exact ⟨rfl, rfl, rfl, HW3.out⟩
                case round =>
                  obtain ⟨rfl, rfl, rfl, hw3⟩ := hrel
                  go_wp2_with fail
                  go_roundw
                  case rel => exact ⟨p + 1, y, gs, co, hpl, by go_num, rfl, rfl, hw3.out, hA2.out, HE.out⟩
                  case measure => simp [intOf]; omega
              · obtain ⟨hrowL, hbkL, hIL⟩ := acc_ints_get hAL
                rcases hrowL.2 with ⟨rfl, h⟩ | ⟨gL, capL, cur, rfl, hgb, hgh, hn2, hm, hsz, htk⟩
                · exact absurd h hD0
                have HW3 := Lib.hid (hw2.out.own hbL (hgb) hgh)
                have HCU := Lib.hid (fun (j : Nat) (hj : j < D.length) => show cur[j]? = some (.int .i64 D[j]) from by
                  have h1 : (cur.toList.take (D.length * 1))[j]? = (ivals D)[j]? := by rw [htk]
                  rw [Nat.mul_one, List.getElem?_take, if_pos hj, Array.getElem?_toList] at h1
                  rw [h1]; simp [ivals, hj])
                have HIL := Lib.hid hIL
                clear hAL hrowL hbkL hIL hgh hsz htk hn2 hm hgb
                go_wp2_with fail
                go_loopw [9, 10, 41] (fun st ch i wl => ∃ (j : Nat) (z : ArcS) (gs co : Nat), j ≤ D.length ∧ i = .int .i64 j ∧ st = .slice (some ⟨gs, 0, none⟩) z.2.length co ∧ ch = .bool (decide (s.2.length < z.2.length)) ∧ Hid (ArcW w0 AD w.heap.size g cd V 124 [(w.heap.size, #[.int .i64 size, .slice at0 rs.length ct0], 42), (w.heap.size + 1, #[.int .i64 vars, .slice (some ⟨b, o, none⟩) cs.length cx], 46), (wc.heap.size, #[.int .i64 nr, .slice (some ⟨b3, o3, none⟩) sc.length c1], 114), (gL, cur, 2)] wl gs co z) ∧ Hid (ValInv V C vn D j z) ∧ Hid (z = (D.take j).foldl (stepA (rs.getD nr (0, [])).2 sc k p vn) y)) (fun _ _ i _ => D.length - (intOf i).toNat)
                case atStart => exact ⟨0, y, gs, co, Nat.zero_le _, rfl, rfl, rfl, HW3.out, HVI.out, rfl⟩
                case round =>
                  clear HW3
                  obtain ⟨j, z, gs, co, hj, rfl, rfl, rfl, hw4, hA4, hz4⟩ := hrel
                  have hs4 := hw4.out.st
                  have k0_0 := hs4.cellAt 0 rfl 0 rfl
                  have k0_1 := hs4.cellAt 0 rfl 1 rfl
                  have k1_0 := hs4.cellAt 1 rfl 0 rfl
                  have k1_1 := hs4.cellAt 1 rfl 1 rfl
                  have k2_0 := hs4.cellAt 2 rfl 0 rfl
                  have k2_1 := hs4.cellAt 2 rfl 1 rfl
                  by_cases hjl : j < D.length
                  · have hjI : (j : Int) < D.length := by omega
                    have hjw : D.length ≤ 1048576 := HDS.out
                    have qa : wr.cell? ⟨gL, j, none⟩ = some (.int .i64 D[j]) := by
                      rw [cell_at_block (hw4.out.st.box (gL, cur, 2) (by simp)).2.2]
                      exact HCU.out j hjl
                    have HST := Lib.hid (show (D.take (j + 1)).foldl (stepA (rs.getD nr (0, [])).2 sc k p vn) y = stepA (rs.getD nr (0, [])).2 sc k p vn z D[j] by rw [foldl_take_succ _ _ _ hjl, ← hz4.out])
                    have HVN := Lib.hid (ValInv.step (ts := (rs.getD nr (0, [])).2) (sc := sc) (ci := k) (p := p) hA4.out hvV HND.out hjl)
                    have HMA := Lib.hid (hA4.out.mem j hjl (Nat.le_refl _))
                    have HSV2 := Lib.hid (show ∀ v, v ∈ sc → 0 ≤ v ∧ v < (z.1.length : Int) from fun v hv => by have h1 := HSV.out v hv; have h2 := hA4.out.ok.len; omega)
                    have HCR := Lib.hid (Rd.mono HCON.out hs4.bel)
                    generalize D[j] = A at *
                    go_wp2_with fail
                    refine (hasSupport_c (size, rs) ((nr : Int), sc) z.1 p A nr _ _ _ _ _ _ (Rd.mono HT.out hs4.bel) HCR.out hw4.out.rd rfl HNR.out hpl HYL.out HSV2.out).mono ?_
                    rintro e w5 ⟨rfl, hb5⟩
                    have HW5 := Lib.hid (hw4.out.step hb5)
                    cases hsup : supB (rs.getD nr (0, [])).2 sc z.1 p A with
                    | true =>
                      have HEQ := Lib.hid (show stepA (rs.getD nr (0, [])).2 sc k p vn z A = z by unfold stepA; rw [if_pos hsup])
                      rw [HEQ.out] at HST HVN
                      clear hsup hb5
                      go_wp2_with fail
                      go_roundw
                      case rel => exact ⟨j + 1, z, gs, co, hjl, by go_num, rfl, rfl, HW5.out, HVN.out, HST.out.symm⟩
                      case measure => simp [intOf]; omega
                    | false =>
                      have HEQ := Lib.hid (show stepA (rs.getD nr (0, [])).2 sc k p vn z A = (z.1.set vn ((z.1.getD vn []).filter (fun x => x != A)), z.2 ++ [((vn : Int), A, (k : Int))]) by unfold stepA; rw [if_neg (by rw [hsup]; decide)])
                      rw [HEQ.out] at HST HVN
                      clear hsup hb5
                      have hs5 := HW5.out.st
                      obtain ⟨aE, cE, eE, hdE⟩ := rd_list HW5.out.rd
                      simp only [Value.slice.injEq, Option.some.injEq] at eE
                      obtain ⟨rfl, hVl5, rfl⟩ := eE
                      have hvl5 : vn < z.1.length := by omega
                      obtain ⟨b6, o6, vd6, e6, qd6, hdn6⟩ := rdSl_one rfl hdE vn hvl5
                      simp only [Option.some.injEq, Addr.mk.injEq, and_true] at e6
                      obtain ⟨rfl, rfl⟩ := e6
                      obtain ⟨a7, c7, rfl, _⟩ := rd_list hdn6
                      have HG6 := Lib.hid (show z.1.getD vn [] = z.1[vn] by simp [List.getD, hvl5])
                      have HDS6 := Lib.hid (hA4.out.ok.small _ (List.getElem_mem hvl5))
                      have HDN6 := Lib.hid hdn6
                      rw [HG6.out] at HMA HST HVN
                      have HV5 := Lib.hid (And.intro hVl5 hvl5)
                      clear hVl5 hdE hdn6
                      generalize z.1[vn] = D6 at *
                      rw [Nat.zero_add] at qd6
                      have hd60 : 0 < D6.length := List.length_pos_of_mem HMA.out
                      go_wp2_with fail
                      refine (without_c D6 _ A _ HDN6.out HDS6.out hd60).mono ?_
                      rintro e w6 ⟨v6, rfl, hA6, hb6⟩
                      obtain ⟨a8, c8, rfl, _⟩ := hA6.len
                      have HP := Lib.hid (HW5.out.put hb6 (v := vn) hvl5 hA6.fresh HV5.out.1.symm)
                      have q6 := cellL hb6 qd6
                      have f6 : w6.frozen? ⟨g, vn, none⟩ = false := by
                        obtain ⟨g', o', c', cur', e', e1, _, _, hh, _, _⟩ := ip_form (HW5.out.step hb6).dom (by omega)
                        simp only [Value.slice.injEq, Option.some.injEq, Addr.mk.injEq] at e1
                        obtain ⟨⟨rfl, -, -⟩, -, -⟩ := e1
                        exact free_at_block hh
                      have hpz := HVN.out.ok.pot
                      have HPZ := Lib.hid (show z.2.length + 1 ≤ C by simp only [List.length_append, List.length_cons, List.length_nil] at hpz; omega)
                      clear hA6 hb6 hpz
                      have hws : (w6.setCell ⟨g, vn, none⟩ (.slice a8 (D6.filter (fun x => x != A)).length c8)).heap.size = w6.heap.size := by simp [World.setCell]
                      have HNB := Lib.hid (show ((w6.setCell ⟨g, vn, none⟩ (.slice a8 (D6.filter (fun x => x != A)).length c8)).alloc (.cells #[.int .i64 (vn : Int), .int .i64 A, .int .i64 (k : Int)] 124)).heap[w6.heap.size]? = some (.cells #[.int .i64 (vn : Int), .int .i64 A, .int .i64 (k : Int)] 124 (0, 0)) from by
                        have h := heap_alloc_new (w6.setCell ⟨g, vn, none⟩ (.slice a8 (D6.filter (fun x => x != A)).length c8)) (.cells #[.int .i64 (vn : Int), .int .i64 A, .int .i64 (k : Int)] 124)
                        rwa [hws] at h)
                      clear hws
                      go_wp2_with (at_builtin; go_loud (refine wpList_append_row _ rfl _ _ _ rfl E_arcs rfl (ownsRow_below HP.out.row (belowA _ (.cells #[.int .i64 (vn : Int), .int .i64 A, .int .i64 (k : Int)] 124))) (v := .slice (some ⟨gs, 0, none⟩) z.2.length co) (vs := [.int .i64 (vn : Int), .int .i64 A, .int .i64 (k : Int)]) rfl (fun u hu => by simp at hu; rcases hu with rfl | rfl | rfl <;> rfl) ⟨w6.heap.size, 0, none⟩ 1 rfl (World.news_of_block (cs := #[.int .i64 (vn : Int), .int .i64 A, .int .i64 (k : Int)]) HNB.out) (by have := HPZ.out; simp only; omega) ?_); intro g9 c9 w9 hat hrow hbut hlt)
                      have HP2 := Lib.hid ((HP.out.step (belowA _ (.cells #[.int .i64 (vn : Int), .int .i64 A, .int .i64 (k : Int)] 124))).snoc (hat.imp (fun h => by simpa [Value.ownBlock] using h) id) hbut hlt hrow)
                      have HSZ := Lib.hid (show s.2.length ≤ z.2.length from by
                        have h1 := foldl_more (fun s a => (stepA_more (rs.getD nr (0, [])).2 sc k p vn s a).1) (D.take j) y
                        have h2 := foldl_more (fun s q => placeA_more (rs.getD nr (0, [])).2 sc k s q) (List.range p) u
                        have h3 := foldl_more (fun s q => conA_more rs cs s q) (List.range k) s
                        rw [← hz4.out] at h1
                        rw [← hy2.out] at h2
                        rw [← hu.out] at h3
                        omega)
                      clear hat hrow hbut hlt
                      go_wp2_with fail
                      go_at_fn 38
                      refine (never_c _).mono ?_
                      rintro e w10 ⟨rfl, rfl⟩
                      go_wp2_with fail
                      go_roundw
                      case rel => exact ⟨j + 1, _, g9, c9, hjl, by go_num, by simp, by have := HSZ.out; simp; omega, HP2.out, HVN.out, HST.out.symm⟩
                      case measure => simp [intOf]; omega
                  · obtain rfl : j = D.length := by omega
                    have hnj : ¬ ((D.length : Int) < D.length) := by omega
                    have HNY := Lib.hid (show z = (List.range (p + 1)).foldl (placeA (rs.getD nr (0, [])).2 sc k) u by
                      rw [foldl_range_succ, ← hy2.out, HPL.out]
                      have h := hz4.out
                      rwa [List.take_length] at h)
                    have HWS := Lib.hid (hw4.out.sub (bx' := [(w.heap.size, #[.int .i64 size, .slice at0 rs.length ct0], 42), (w.heap.size + 1, #[.int .i64 vars, .slice (some ⟨b, o, none⟩) cs.length cx], 46), (wc.heap.size, #[.int .i64 nr, .slice (some ⟨b3, o3, none⟩) sc.length c1], 114)]) (fun x hx => by simp at hx ⊢; rcases hx with rfl | rfl | rfl <;> simp))
                    go_wp2_with fail
                    go_roundw
                    case rel => exact ⟨p + 1, z, gs, co, hpl, by go_num, rfl, rfl, HWS.out, hA4.out.ok, HNY.out⟩
                    case measure => simp [intOf]; omega
            · obtain rfl : p = sc.length := by omega
              have hnp : ¬ ((sc.length : Int) < sc.length) := by omega
              have HNX := Lib.hid (show y = (List.range (k + 1)).foldl (conA rs cs) s by rw [foldl_range_succ, ← hu.out, HRS.out]; exact hy2.out)
              have HWS := Lib.hid (hw2.out.sub (bx' := [(w.heap.size, #[.int .i64 size, .slice at0 rs.length ct0], 42), (w.heap.size + 1, #[.int .i64 vars, .slice (some ⟨b, o, none⟩) cs.length cx], 46)]) (fun x hx => by simp at hx ⊢; rcases hx with rfl | rfl <;> simp))
              go_wp2_with fail
              go_roundw
              case rel => exact ⟨k + 1, y, gs, co, hlt, by go_num, rfl, rfl, HWS.out, hA2.out, HNX.out⟩
              case measure => simp [intOf]; omega
        · obtain rfl : k = cs.length := by omega
          have hnl : ¬ ((cs.length : Int) < cs.length) := by omega
          have HU := Lib.hid (show u = roundA rs cs s from hu.out)
          have hn0 : 1 ≤ n := by have := HR.out.2; omega
          obtain ⟨m, rfl⟩ : ∃ m, n = m + 1 := ⟨n - 1, by omega⟩
          have hpu := hA.out.pot
          have HRU := Lib.hid (show arcsA rs cs (m + 1) s = if u.2.length = s.2.length then u else arcsA rs cs m u by rw [arcsA, ← HU.out])
          by_cases hg : s.2.length < u.2.length
          · have HD := Lib.hid (show decide (s.2.length < u.2.length) = true from decide_eq_true hg)
            have HN := Lib.hid (show arcsA rs cs (C + 1) (ds, []) = arcsA rs cs m u ∧ C + 1 ≤ m + u.2.length from ⟨by rw [HR.out.1, HRU.out, if_neg (by omega)], by have := HR.out.2; omega⟩)
            rw [HD.out]
            go_wp2_with fail
            go_roundw
            case rel => exact ⟨u, gs, co, true, m, rfl, rfl, hw.out, hA.out, ⟨fun _ => HN.out, fun h => Bool.noConfusion h⟩⟩
            case measure => simp only [lnV, boV]; omega
          · have HD := Lib.hid (show decide (s.2.length < u.2.length) = false from decide_eq_false hg)
            have HN := Lib.hid (show s.2.length ≤ u.2.length from by rw [HU.out]; exact roundA_more rs cs s)
            have HE := Lib.hid (show arcsA rs cs (C + 1) (ds, []) = u from by rw [HR.out.1, HRU.out, if_pos (by have := HN.out; omega)])
            have hus : u.2.length = s.2.length := by have := HN.out; omega
            have HUS := Lib.hid hus
            clear hus
            rw [HD.out]
            go_wp2_with fail
            go_roundw
            case rel => exact ⟨u, gs, co, false, 0, rfl, rfl, hw.out, hA.out, ⟨fun h => Bool.noConfusion h, fun _ => HE.out⟩⟩
            case measure => have := HUS.out; simp only [lnV, boV]; omega

end Go.Proofs.YtbbmadmnmlljmaaGreat
