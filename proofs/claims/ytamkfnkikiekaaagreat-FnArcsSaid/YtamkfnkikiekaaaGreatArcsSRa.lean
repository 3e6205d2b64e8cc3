/-
  CONTRACT: making domains consistent: the reference's side.
-/
import Derived.Test.YtamkfnkikiekaaaGreatArcMBRa
import Derived.Test.YtamkfnkikiekaaaGreatRowBRa
namespace Go.Proofs.YtamkfnkikiekaaaGreat
open Go.RowKit Go.Shelf Go.IntWalk
open Rep (Rd Own sz)
set_option linter.unusedSimpArgs false
set_option linter.unusedVariables false

def neV (a : Value) (b : Nat) : Nat := if intOf a = (b : Int) then 0 else 1
set_option maxRecDepth 100000 in
set_option maxHeartbeats 16000000 in
theorem l05ArcsUntil_c (t : Tmpl) (x : Inst) (ds : List (List Int)) (t0 t1 x0 x1 : Value) (tb xb g cd V C : Nat) (AD : Nat → Prop) (w0 w : World) (hb : Below w0.heap.size w0 w) (ht : Rd w0 [t0, t1] t) (hx : Rd w0 [x0, x1] x) (hok : instOk t x = true)
    (tc : w0.cell? ⟨tb, 1, none⟩ = some t1) (xc : w0.cell? ⟨xb, 1, none⟩ = some x1)
    (hd : Ip AD w [.slice (some ⟨g, 0, none⟩) V cd] ds) (hAD : ∀ z, AD z → w0.heap.size ≤ z) (hA : ArcOk V C (ds, [])) (hV : (V : Int) = x.1) (hC : C ≤ 1000000000) :
    Calls Tryz.prog 55 #[.pointer (some ⟨tb, 0, none⟩), .pointer (some ⟨xb, 0, none⟩), .slice (some ⟨g, 0, none⟩) V cd, .bool false] w fun e w' => ∃ gs co, e = .returned (.slice (some ⟨gs, 0, none⟩) (arcsA t.2 x.2 (C + 1) (ds, [])).2.length co) ∧ ArcW w0 AD w.heap.size g cd V 41 [] w' gs co (arcsA t.2 x.2 (C + 1) (ds, [])) := by
  obtain ⟨size, rs⟩ := t
  obtain ⟨vars, cs⟩ := x
  simp only at hV
  have zt := rd_cons rfl ht
  obtain ⟨rfl, _⟩ := rd_i1 zt.1
  obtain ⟨at0, ct0, rfl, _⟩ := rd_list zt.2
  have zx := rd_cons rfl hx
  obtain ⟨rfl, _⟩ := rd_i1 zx.1
  obtain ⟨ax, cx, rfl, hcs⟩ := rd_list zx.2
  have hcl := (instOk_get hok).2.2.1
  simp only at hcl
  have hv0 : 0 < vars := by have := (instOk_get hok).2.1.1; simp only at this; omega
  have hv1 : ¬ vars ≤ 0 := by omega
  have HT := Lib.hid ht
  have HR := Lib.hid zt.2
  have HCS := Lib.hid hcs
  have HADB := Lib.hid (And.intro hb.size hAD)
  have HA := Lib.hid hA
  have HFC := Lib.hid (fun (k : Nat) (hk : k < cs.length) => con_facts hok hk)
  have hs0 := (St.start w0).step hb
  have HD := Lib.hid hd
  clear ht hx zt zx hcs hok hAD hA hd hb
  have tc_ := cellL hs0.bel tc
  clear tc_
  have tc_ := cellL hs0.bel tc
  have xc_ := cellL hs0.bel xc
  have HW := Lib.hid (show ArcW w0 AD w.heap.size g cd V 41 [] (w.alloc (.cells #[] 41)) w.heap.size 0 (ds, []) from by
    have h3 := (hs0.step (belowA w (.cells #[] 41)))
    refine ⟨h3.up (by have := HADB.out.1; simp; omega) (Nat.le_refl _), by simp, HADB.out, ?_, by have h := row_made (size := 3) w 41; simpa [flat3] using h, ⟨⟨by omega, by simp⟩, fun x hx => by cases hx⟩⟩
    exact ((HD.out.tight.mono (belowA w _)).wk (fun z hz => ⟨⟨.inl hz.1, by have := hz.2; omega⟩, fun x hx => by cases hx⟩)))
  clear HD
  go_enter Tryz.func55, Tryz.ntmps55
  go_wp2_with fail
  go_loopw [10] (fun v wl => v = .int .i64 0 ∧ Hid (ArcW w0 AD w.heap.size g cd V 41 [] wl w.heap.size 0 (ds, []))) (fun _ _ => 0)
  case atStart => exact ⟨rfl, HW.out⟩
  case round =>
    clear HW
    obtain ⟨rfl, HW⟩ := hrel
    go_wp2_with fail
    go_loopw [9, 11] (fun st bf wl => ∃ (s : ArcS) (gs co : Nat) (b : Int) (n : Nat), st = .slice (some ⟨gs, 0, none⟩) s.2.length co ∧ bf = .int .i64 b ∧ Hid (ArcW w0 AD w.heap.size g cd V 41 [] wl gs co s) ∧ Hid (ArcOk V C s) ∧ Hid ((b ≠ (s.2.length : Int) → arcsA rs cs (C + 1) (ds, []) = arcsA rs cs n s ∧ C + 1 ≤ n + s.2.length) ∧ (b = (s.2.length : Int) → arcsA rs cs (C + 1) (ds, []) = s))) (fun st bf _ => 2 * (C - lnV st) + neV bf (lnV st))
    case atStart => exact ⟨(ds, []), _, _, -1, C + 1, rfl, rfl, HW.out, HA.out, ⟨fun _ => ⟨rfl, by simp⟩, fun h => by simp at h⟩⟩
    case round =>
      clear HW HA
      obtain ⟨s, gs, co, b, n, rfl, rfl, hw, hA, hrun⟩ := hrel
      have hs1 := hw.out.st
      have tc_ := cellL hs1.bel tc
      have xc_ := cellL hs1.bel xc
      by_cases hbn : b = s.2.length
      · have HR2 := Lib.hid (show s = arcsA rs cs (C + 1) (ds, []) from (hrun.out.2 hbn).symm)
        have HW2 := Lib.hid hw.out
        have hbb : (b != (s.2.length : Int)) = false := by simp [hbn]
        have HBN := Lib.hid hbn
        clear hbn
        go_wp2_with fail
        go_ret
        rw [← HR2.out]
        exact ⟨gs, co, rfl, HW2.out⟩
      · have hr2 := hrun.out.1 hbn
        have HR2 := Lib.hid hr2
        have hpot := hA.out.pot
        have hbb : (b != (s.2.length : Int)) = true := by simp [hbn]
        have HBN := Lib.hid hbn
        clear hr2 hrun hbn
        go_wp2_with fail
        go_loopw [9, 12] (fun st i wl => ∃ (k : Nat) (u : ArcS) (gs co : Nat), k ≤ cs.length ∧ i = .int .i64 k ∧ st = .slice (some ⟨gs, 0, none⟩) u.2.length co ∧ Hid (ArcW w0 AD w.heap.size g cd V 41 [] wl gs co u) ∧ Hid (ArcOk V C u) ∧ Hid (u = (List.range k).foldl (conA rs cs) s)) (fun _ i _ => cs.length - (intOf i).toNat)
        case atStart => exact ⟨0, s, gs, co, Nat.zero_le _, rfl, rfl, hw.out, hA.out, rfl⟩
        case round =>
          obtain ⟨k, u, gs, co, hk, rfl, rfl, hw, hA, hu⟩ := hrel
          have hs1 := hw.out.st
          have tc_ := cellL hs1.bel tc
          have xc_ := cellL hs1.bel xc
          by_cases hlt : k < cs.length
          · have hkl : (k : Int) < cs.length := by omega
            obtain ⟨nr, hcn, hnr, hyl, hsv, hsc4⟩ := HFC.out k hlt
            obtain ⟨b9, o, u0, u1, rfl, p0, p1, hy⟩ := rdSl_two rfl HCS.out k hlt
            have hyz := rd_cons rfl hy
            obtain ⟨rfl, _⟩ := rd_i1 hyz.1
            obtain ⟨a1, c1, rfl, _⟩ := rd_list hyz.2
            have HSC := Lib.hid hyz.2
            have HRS := Lib.hid (show conA rs cs u k = (List.range cs[k].2.length).foldl (placeA (rs.getD nr (0, [])).2 cs[k].2 k) u by
              unfold conA
              rw [show cs.getD k (0, []) = cs[k] by simp [List.getD, hlt], hcn, Int.toNat_natCast])
            have HYL := Lib.hid hyl
            have HSV := Lib.hid hsv
            have HNR := Lib.hid hnr
            clear hyl hsv hnr hy hyz
            generalize hCC : cs[k] = CC at *
            obtain ⟨ci, sc⟩ := CC
            simp only at hcn p0 p1 HSC HRS HYL HSV hsc4
            subst hcn
            have HCC := Lib.hid hCC
            clear hCC
            clear tc_ xc_
            have tc_ := cellL hs1.bel tc
            have xc_ := cellL hs1.bel xc
            have p0_ := cellL hs1.bel p0
            clear tc_ xc_ p0_
            have tc_ := cellL hs1.bel tc
            have xc_ := cellL hs1.bel xc
            have p0_ := cellL hs1.bel p0
            have p1_ := cellL hs1.bel p1
            clear tc_ xc_ p0_ p1_
            have tc_ := cellL hs1.bel tc
            have xc_ := cellL hs1.bel xc
            have p0_ := cellL hs1.bel p0
            have p1_ := cellL hs1.bel p1
            go_wp2_with fail
            go_loopw [9, 14] (fun st i wl => ∃ (p : Nat) (y : ArcS) (gs co : Nat), p ≤ sc.length ∧ i = .int .i64 p ∧ st = .slice (some ⟨gs, 0, none⟩) y.2.length co ∧ Hid (ArcW w0 AD w.heap.size g cd V 41 [] wl gs co y) ∧ Hid (ArcOk V C y) ∧ Hid (y = (List.range p).foldl (placeA (rs.getD nr (0, [])).2 sc k) u)) (fun _ i _ => sc.length - (intOf i).toNat)
            case atStart => exact ⟨0, u, gs, co, Nat.zero_le _, rfl, rfl, hw.out, hA.out, rfl⟩
            case round =>
              obtain ⟨p, y, gs, co, hp, rfl, rfl, hw2, hA2, hy2⟩ := hrel
              have hs2 := hw2.out.st
              have tc_ := cellL hs2.bel tc
              have xc_ := cellL hs2.bel xc
              have p0_ := cellL hs2.bel p0
              have p1_ := cellL hs2.bel p1
              by_cases hpl : p < sc.length
              · have hpI : (p : Int) < sc.length := by omega
                obtain ⟨b3, o3, rfl, qp0, _⟩ := rd_int_at HSC.out p hpl
                have hvv := HSV.out _ (List.getElem_mem hpl)
                obtain ⟨vn, hvn⟩ : ∃ vn : Nat, sc[p] = (vn : Int) := ⟨sc[p].toNat, by omega⟩
                have HPL := Lib.hid (show placeA (rs.getD nr (0, [])).2 sc k y p = (y.1.getD vn []).foldl (stepA (rs.getD nr (0, [])).2 sc k p vn) y by
                  unfold placeA
                  rw [show sc.getD p 0 = sc[p] by simp [List.getD, hpl], hvn, Int.toNat_natCast])
                rw [hvn] at hvv qp0
                have hvV : vn < V := by omega
                have hvI : (vn : Int) < V := by omega
                clear hvn
                have qp := cellL hs2.bel qp0
                obtain ⟨aD, cD, eD, hdr⟩ := rd_list hw2.out.rd
                simp only [Value.slice.injEq, Option.some.injEq] at eD
                obtain ⟨rfl, hVl, rfl⟩ := eD
                have hvl : vn < y.1.length := by omega
                obtain ⟨b4, o4, vd, e4, qd, hdn⟩ := rdSl_one rfl hdr vn hvl
                simp only [Option.some.injEq, Addr.mk.injEq, and_true] at e4
                obtain ⟨rfl, rfl⟩ := e4
                obtain ⟨a5, c5, rfl, _⟩ := rd_list hdn
                have HGD := Lib.hid (show y.1.getD vn [] = y.1[vn] by simp [List.getD, hvl])
                have HDS := Lib.hid (hA2.out.small _ (List.getElem_mem hvl))
                have HDN := Lib.hid hdn
                have HVI := Lib.hid (ValInv.start hA2.out hvV)
                have HND := Lib.hid (hA2.out.nodup _ (List.getElem_mem hvl))
                rw [HGD.out] at HPL HVI
                have HVL := Lib.hid hVl
                clear hVl hdr hdn qp0
                generalize y.1[vn] = D at *
                rw [Nat.zero_add] at qd
                go_wp2_with fail
                refine (l00Own_c D _ _ HDN.out (by have := HDS.out; omega)).mono ?_
                rintro e wL ⟨vL, rfl, hAL, hbL⟩
                by_cases hD0 : D.length = 0
                · obtain ⟨aL, cL, rfl, _⟩ := hAL.len
                  have HW3 := Lib.hid (hw2.out.step hbL)
                  have HE := Lib.hid (show y = (List.range (p + 1)).foldl (placeA (rs.getD nr (0, [])).2 sc k) u by
                    rw [foldl_range_succ, ← hy2.out, HPL.out, List.length_eq_zero_iff.1 hD0]; rfl)
                  rw [hD0]
                  clear hAL hbL hD0
                  go_wp2_with fail
                  go_loopw [9, 17] (fun st i wl => st = .slice (some ⟨gs, 0, none⟩) y.2.length co ∧ i = .int .i64 0 ∧ Hid (ArcW w0 AD w.heap.size g cd V 41 [] wl gs co y)) (fun _ _ _ => 0)
                  case atStart => exact ⟨rfl, rfl, HW3.out⟩
                  case round =>
                    obtain ⟨rfl, rfl, hw3⟩ := hrel
                    go_wp2_with fail
                    go_roundw
                    case rel => exact ⟨p + 1, y, gs, co, hpl, by go_num, rfl, hw3.out, hA2.out, HE.out⟩
                    case measure => simp [intOf]; omega
                · obtain ⟨hrowL, hbkL, hIL⟩ := acc_ints_get hAL
                  rcases hrowL.2 with ⟨rfl, h⟩ | ⟨gL, capL, cur, rfl, hgb, hgh, hn2, hm, hsz, htk⟩
                  · exact absurd h hD0
                  have HW3 := Lib.hid (hw2.out.own hbL (hgb) hgh)
                  have HCU := Lib.hid (fun (j : Nat) (hj : j < D.length) => show cur[j]? = some (.int .i64 D[j]) from by
                    have h1 : (cur.toList.take (D.length * 1))[j]? = (ivals D)[j]? := by rw [htk]
                    rw [Nat.mul_one, List.getElem?_take, if_pos hj, Array.getElem?_toList] at h1
                    rw [h1]; simp [ivals, hj])
                  have HIL := Lib.hid hIL
                  clear hAL hrowL hbkL hIL hgh hsz htk hn2 hm hgb
                  go_wp2_with fail
                  go_loopw [9, 17] (fun st i wl => ∃ (j : Nat) (z : ArcS) (gs co : Nat), j ≤ D.length ∧ i = .int .i64 j ∧ st = .slice (some ⟨gs, 0, none⟩) z.2.length co ∧ Hid (ArcW w0 AD w.heap.size g cd V 41 [(gL, cur, 2)] wl gs co z) ∧ Hid (ValInv V C vn D j z) ∧ Hid (z = (D.take j).foldl (stepA (rs.getD nr (0, [])).2 sc k p vn) y)) (fun _ i _ => D.length - (intOf i).toNat)
                  case atStart => exact ⟨0, y, gs, co, Nat.zero_le _, rfl, rfl, HW3.out, HVI.out, rfl⟩
                  case round =>
                    clear HW3
                    obtain ⟨j, z, gs, co, hj, rfl, rfl, hw4, hA4, hz4⟩ := hrel
                    have hs4 := hw4.out.st
                    have tc_ := cellL hs4.bel tc
                    have xc_ := cellL hs4.bel xc
                    have p0_ := cellL hs4.bel p0
                    have p1_ := cellL hs4.bel p1
                    by_cases hjl : j < D.length
                    · have hjI : (j : Int) < D.length := by omega
                      have hjw : D.length ≤ 1048576 := HDS.out
                      have qa : wr.cell? ⟨gL, j, none⟩ = some (.int .i64 D[j]) := by
                        rw [cell_at_block (hw4.out.st.box (gL, cur, 2) (by simp)).2.2]
                        exact HCU.out j hjl
                      have HST := Lib.hid (show (D.take (j + 1)).foldl (stepA (rs.getD nr (0, [])).2 sc k p vn) y = stepA (rs.getD nr (0, [])).2 sc k p vn z D[j] by rw [foldl_take_succ _ _ _ hjl, ← hz4.out])
                      have HVN := Lib.hid (ValInv.step (ts := (rs.getD nr (0, [])).2) (sc := sc) (ci := k) (p := p) hA4.out hvV HND.out hjl)
                      have HMA := Lib.hid (hA4.out.mem j hjl (Nat.le_refl _))
                      have HSV2 := Lib.hid (show ∀ v, v ∈ sc → 0 ≤ v ∧ v < (z.1.length : Int) from fun v hv => by have h1 := HSV.out v hv; have h2 := hA4.out.ok.len; omega)
                      have HSR := Lib.hid (Rd.mono HSC.out hs4.bel)
                      generalize D[j] = A at *
                      go_wp2_with fail
                      refine (l05Support_c rs sc z.1 p A nr tb b9 (o + k * 2) _ _ _ _ (Rd.mono HR.out hs4.bel) HSR.out hw4.out.rd tc_ p0_ p1_ HNR.out hpl HYL.out HSV2.out).mono ?_
                      rintro e w5 ⟨rfl, hb5⟩
                      have HW5 := Lib.hid (hw4.out.step hb5)
                      cases hsup : supB (rs.getD nr (0, [])).2 sc z.1 p A with
                      | true =>
                        have HEQ := Lib.hid (show stepA (rs.getD nr (0, [])).2 sc k p vn z A = z by unfold stepA; rw [if_pos hsup])
                        rw [HEQ.out] at HST HVN
                        clear hsup hb5
                        go_wp2_with fail
                        go_roundw
                        case rel => exact ⟨j + 1, z, gs, co, hjl, by go_num, rfl, HW5.out, HVN.out, HST.out.symm⟩
                        case measure => simp [intOf]; omega
                      | false =>
                        have HEQ := Lib.hid (show stepA (rs.getD nr (0, [])).2 sc k p vn z A = (z.1.set vn ((z.1.getD vn []).filter (fun x => x != A)), z.2 ++ [((vn : Int), A, (k : Int))]) by unfold stepA; rw [if_neg (by rw [hsup]; decide)])
                        rw [HEQ.out] at HST HVN
                        have qa5 := cellL hb5 qa
                        clear hsup hb5 qa
                        have hs5 := HW5.out.st
                        obtain ⟨aE, cE, eE, hdE⟩ := rd_list HW5.out.rd
                        simp only [Value.slice.injEq, Option.some.injEq] at eE
                        obtain ⟨rfl, hVl5, rfl⟩ := eE
                        have hvl5 : vn < z.1.length := by omega
                        obtain ⟨b6, o6, vd6, e6, qd6, hdn6⟩ := rdSl_one rfl hdE vn hvl5
                        simp only [Option.some.injEq, Addr.mk.injEq, and_true] at e6
                        obtain ⟨rfl, rfl⟩ := e6
                        obtain ⟨a7, c7, rfl, _⟩ := rd_list hdn6
                        have HG6 := Lib.hid (show z.1.getD vn [] = z.1[vn] by simp [List.getD, hvl5])
                        have HDS6 := Lib.hid (hA4.out.ok.small _ (List.getElem_mem hvl5))
                        have HDN6 := Lib.hid hdn6
                        rw [HG6.out] at HMA HST HVN
                        have HV5 := Lib.hid (And.intro hVl5 hvl5)
                        clear hVl5 hdE hdn6
                        generalize z.1[vn] = D6 at *
                        rw [Nat.zero_add] at qd6
                        have hd60 : 0 < D6.length := List.length_pos_of_mem HMA.out
                        have HB5 := Lib.hid (show Below w5.heap.size w5 w5 from Below.refl _ _)
                        go_upto_region 23 with fail
                        refine wp_region_noPanic (wp_region_tree4 (fun w' => w'.cell? ⟨tb, 1, none⟩ = some (.slice at0 rs.length ct0) ∧ w'.cell? ⟨xb, 1, none⟩ = some (.slice (some ⟨b9, o, none⟩) cs.length cx) ∧ w'.cell? ⟨b9, o + k * 2, none⟩ = some (.int .i64 nr) ∧ w'.cell? ⟨b9, o + k * 2 + 1, none⟩ = some (.slice (some ⟨b3, o3, none⟩) sc.length c1) ∧ w'.cell? ⟨g, vn, none⟩ = some (.slice a7 D6.length c7) ∧ w'.cell? ⟨gL, j, none⟩ = some (.int .i64 A)) (.float 0 (.float 1 (.float 2 (.float 3 (.float 4 (.float 5 (.float 6 (.float 7 (.float 8 (.float 9 (.hard 10 (.float 11 (.last 12 .nil))))))))))))) (by kernel_rfl) (by kernel_rfl) (by kernel_rfl) rfl ?_ (fun _ _ _ _ _ h => h) ?_)
                        · exact ⟨cellL (hs5.drew).bel tc, cellL (hs5.drew).bel xc, cellL (hs5.drew).bel p0, cellL (hs5.drew).bel p1, cellL (belowD _) qd6, cellL (belowD _) qa5⟩
                        have hs1 := hs5.drew
                        have qd6_2 := cellL (belowD _) qd6
                        clear qd6
                        have qa5_3 := cellL (belowD _) qa5
                        clear qa5
                        have HB5_4 := Lib.hid (HB5.out.trans (((belowD _)).mono HB5.out.size))
                        clear HB5
                        have hz_wd5 : w5.heap.size ≤ (w5.drew).heap.size := by simp
                        generalize hgen_wd5 : w5.drew = wd5 at *
                        have HG_wd5 := Lib.hid hgen_wd5
                        clear hgen_wd5
                        (repeat (first | (apply t4_skip rfl (by rfl); try simp only [Act.put, List.setIfInBounds_toArray, List.set_cons_zero, List.set_cons_succ]) | (apply t4_float rfl (by rfl); (· (intro w' hS; go_simp <;> with_reducible rfl)); (try simp only [Act.put, List.setIfInBounds_toArray, List.set_cons_zero, List.set_cons_succ]))))
                        refine t4_hard rfl (by rfl) (fun K hK => ?_)
                        go_wp2_with (go_at_call 84; refine (l05Without_c D6 _ A _ (Rd.mono HDN6.out HB5_4.out) HDS6.out).mono ?_; rintro e w6 ⟨v6, rfl, hA6, hbw6⟩)
                        have hz_w6 : wd5.heap.size ≤ w6.heap.size := by have h9 := hbw6.size; (try simp at h9); omega
                        have hs7 := hs1.step hbw6
                        have qd6_8 := cellL hbw6 qd6_2
                        clear qd6_2
                        have qa5_9 := cellL hbw6 qa5_3
                        clear qa5_3
                        have HB5_10 := Lib.hid (HB5_4.out.trans ((hbw6).mono HB5_4.out.size))
                        clear HB5_4
                        obtain ⟨a8, c8, rfl, _⟩ := hA6.len
                        have HF6 := Lib.hid hA6.fresh
                        clear hA6
                        refine ⟨⟨cellL hs7.bel tc, cellL hs7.bel xc, cellL hs7.bel p0, cellL hs7.bel p1, qd6_8, qa5_9⟩, ?_⟩
                        (repeat (first | (apply t4_skip rfl (by rfl); try simp only [Act.put, List.setIfInBounds_toArray, List.set_cons_zero, List.set_cons_succ]) | (apply t4_float rfl (by rfl); (· (intro w' hS; go_simp <;> with_reducible rfl)); (try simp only [Act.put, List.setIfInBounds_toArray, List.set_cons_zero, List.set_cons_succ]))))
                        refine t4_last rfl (by rfl) (fun K hK => ?_)
                        have tc_ := cellL hs7.bel tc
                        have xc_ := cellL hs7.bel xc
                        have p0_ := cellL hs7.bel p0
                        have p1_ := cellL hs7.bel p1
                        have HP := Lib.hid (HW5.out.put HB5_10.out (v := vn) hvl5 (Fresh.lower HF6.out (by omega)) HV5.out.1.symm)
                        have HGA := Lib.hid (show w6.frozen? ⟨g, vn, none⟩ = false ∧ gL ≠ g from by
                          obtain ⟨g', o', c', cur', e', e1, _, _, hh, hA9, _⟩ := ip_form (HW5.out.step HB5_10.out).dom (by omega)
                          simp only [Value.slice.injEq, Option.some.injEq, Addr.mk.injEq] at e1
                          obtain ⟨⟨rfl, -, -⟩, -, -⟩ := e1
                          exact ⟨free_at_block hh, hA9.2 (gL, cur, 2) (by simp)⟩)
                        have f6 := HGA.out.1
                        have qL9 : (w6.setCell ⟨g, vn, none⟩ (.slice a8 (D6.filter (fun x => x != A)).length c8)).cell? ⟨gL, j, none⟩ = some (.int .i64 A) := by
                          have hne := HGA.out.2
                          rw [World.cell?_setCell_other (h := fun e => hne (by simp only [Addr.mk.injEq] at e; exact e.1.symm))]
                          exact qa5_9
                        have hpz := HVN.out.ok.pot
                        have HPZ := Lib.hid (show z.2.length + 1 ≤ C by simp only [List.length_append, List.length_cons, List.length_nil] at hpz; omega)
                        clear hpz
                        have hws : (w6.setCell ⟨g, vn, none⟩ (.slice a8 (D6.filter (fun x => x != A)).length c8)).heap.size = w6.heap.size := by simp [World.setCell]
                        have HNB := Lib.hid (show ((w6.setCell ⟨g, vn, none⟩ (.slice a8 (D6.filter (fun x => x != A)).length c8)).alloc (.cells #[.int .i64 (vn : Int), .int .i64 A, .int .i64 (k : Int)] 41)).heap[w6.heap.size]? = some (.cells #[.int .i64 (vn : Int), .int .i64 A, .int .i64 (k : Int)] 41 (0, 0)) from by
                          have h := heap_alloc_new (w6.setCell ⟨g, vn, none⟩ (.slice a8 (D6.filter (fun x => x != A)).length c8)) (.cells #[.int .i64 (vn : Int), .int .i64 A, .int .i64 (k : Int)] 41)
                          rwa [hws] at h)
                        clear hws
                        go_wp2_with fail
                        refine t4_nil (NoPanic.normal ?_)
                        go_wp2_with (at_builtin; go_loud (refine wpList_append_row _ rfl _ _ _ rfl E_arcs rfl (ownsRow_below HP.out.row (belowA _ (.cells #[.int .i64 (vn : Int), .int .i64 A, .int .i64 (k : Int)] 41))) (v := .slice (some ⟨gs, 0, none⟩) z.2.length co) (vs := [.int .i64 (vn : Int), .int .i64 A, .int .i64 (k : Int)]) rfl (fun u hu => by simp at hu; rcases hu with rfl | rfl | rfl <;> rfl) ⟨w6.heap.size, 0, none⟩ 1 rfl (World.news_of_block (cs := #[.int .i64 (vn : Int), .int .i64 A, .int .i64 (k : Int)]) HNB.out) (by have := HPZ.out; simp only; omega) ?_); intro g9 c9 w9 hat hrow hbut hlt)
                        have HP2 := Lib.hid ((HP.out.step (belowA _ (.cells #[.int .i64 (vn : Int), .int .i64 A, .int .i64 (k : Int)] 41))).snoc (hat.imp (fun h => by simpa [Value.ownBlock] using h) id) hbut hlt hrow)
                        clear hat hrow hbut hlt
                        go_wp2_with fail
                        go_roundw
                        case rel => exact ⟨j + 1, _, g9, c9, hjl, by go_num, by simp, HP2.out, HVN.out, HST.out.symm⟩
                        case measure => simp [intOf]; omega
                    · obtain rfl : j = D.length := by omega
                      have hnj : ¬ ((D.length : Int) < D.length) := by omega
                      have HNY := Lib.hid (show z = (List.range (p + 1)).foldl (placeA (rs.getD nr (0, [])).2 sc k) u by
                        rw [foldl_range_succ, ← hy2.out, HPL.out]
                        have h := hz4.out
                        rwa [List.take_length] at h)
                      have HWS := Lib.hid (hw4.out.sub (bx' := []) (fun x hx => by cases hx))
                      go_wp2_with fail
                      go_roundw
                      case rel => exact ⟨p + 1, z, gs, co, hpl, by go_num, rfl, HWS.out, hA4.out.ok, HNY.out⟩
                      case measure => simp [intOf]; omega
              · obtain rfl : p = sc.length := by omega
                have hnp : ¬ ((sc.length : Int) < sc.length) := by omega
                have HNX := Lib.hid (show y = (List.range (k + 1)).foldl (conA rs cs) s by rw [foldl_range_succ, ← hu.out, HRS.out]; exact hy2.out)
                have HWS := Lib.hid hw2.out
                go_wp2_with fail
                go_roundw
                case rel => exact ⟨k + 1, y, gs, co, hlt, by go_num, rfl, HWS.out, hA2.out, HNX.out⟩
                case measure => simp [intOf]; omega
          · obtain rfl : k = cs.length := by omega
            have hnl : ¬ ((cs.length : Int) < cs.length) := by omega
            have HU := Lib.hid (show u = roundA rs cs s from hu.out)
            have hn0 : 1 ≤ n := by have := HR2.out.2; omega
            obtain ⟨m, rfl⟩ : ∃ m, n = m + 1 := ⟨n - 1, by omega⟩
            have hpu := hA.out.pot
            have HRU := Lib.hid (show arcsA rs cs (m + 1) s = if u.2.length = s.2.length then u else arcsA rs cs m u by rw [arcsA, ← HU.out])
            have HMO := Lib.hid (show s.2.length ≤ u.2.length from by rw [HU.out]; exact roundA_more rs cs s)
            have HN := Lib.hid (show ((s.2.length : Int) ≠ u.2.length → arcsA rs cs (C + 1) (ds, []) = arcsA rs cs m u ∧ C + 1 ≤ m + u.2.length) ∧ ((s.2.length : Int) = u.2.length → arcsA rs cs (C + 1) (ds, []) = u) from
              ⟨fun h => ⟨by rw [HR2.out.1, HRU.out, if_neg (by omega)], by have h1 := HR2.out.2; have h2 := HMO.out; omega⟩, fun h => by rw [HR2.out.1, HRU.out, if_pos (by omega)]⟩)
            go_wp2_with fail
            go_roundw
            case rel => exact ⟨u, gs, co, s.2.length, m, rfl, rfl, hw.out, hA.out, HN.out⟩
            case measure =>
              have h1 := HMO.out
              have h2 := HBN.out
              show 2 * (C - u.2.length) + (if (s.2.length : Int) = (u.2.length : Int) then 0 else 1) < 2 * (C - s.2.length) + (if b = (s.2.length : Int) then 0 else 1)
              rw [if_neg h2]
              split <;> omega

end Go.Proofs.YtamkfnkikiekaaaGreat

