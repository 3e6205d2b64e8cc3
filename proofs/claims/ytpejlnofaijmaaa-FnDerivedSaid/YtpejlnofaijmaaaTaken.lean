/-
  CONTRACT: taken: what is left of an equation when the rows that are done are taken away.
-/
import Derived.Test.YtpejlnofaijmaaaSolB
import Derived.Test.YtpejlnofaijmaaaRowsB
import Derived.Test.YtpejlnofaijmaaaBase
namespace Go.Proofs.Ytpejlnofaijmaaa
open Go.RowKit Go.Shelf Go.IntWalk
open Rep (Rd Own sz)
set_option linter.unusedSimpArgs false
set_option linter.unusedVariables false

theorem goodS_of_eqn {p : Int} {U n : Nat} {e : Eqn} (hp : 2 ≤ p) (h : eqnOk p U e = true) : GoodS p U n (e.1, e.2, List.replicate n 0) := by
  have h1 := eqn_good h
  exact ⟨h1.1, by simp, h1.2.1, h1.2.2, fun a ha => by have := List.eq_of_mem_replicate ha; omega⟩
theorem taken_good {s : Sys} (K : ElimOk s) {x : SRow} (hx : GoodS s.1 s.2.1.toNat s.2.2.length x) : ∀ j, j ≤ (elimS s).2.length → GoodS s.1 s.2.1.toNat s.2.2.length (takenTo s.1 (elimS s).1 (elimS s).2 x j)
  | 0, _ => hx
  | j + 1, h => by
    have hp := K.hp
    have hle := K.le
    have hlen := K.len
    exact goodS_less (by omega) _ (taken_good K hx j (by omega)) (goodS_of_get K.good j (by omega) row0)
theorem taken_flat {s : Sys} (K : ElimOk s) {x : SRow} (hx : GoodS s.1 s.2.1.toNat s.2.2.length x) (j : Nat) (hj : j < (elimS s).2.length) (hjr : j < (elimS s).1.length) (b : Nat) (hb : (elimS s).2[j] = b) (hbU : b < s.2.1.toNat) :
    flat (takenTo s.1 (elimS s).1 (elimS s).2 x (j + 1)) = addR s.1 (s.1 - (flat (takenTo s.1 (elimS s).1 (elimS s).2 x j)).1.getD b 0) (flat (takenTo s.1 (elimS s).1 (elimS s).2 x j)) (flat (elimS s).1[j]) := by
  have hg := taken_good K hx j (by omega)
  have e1 : (elimS s).1.getD j row0 = (elimS s).1[j] := by simp [List.getD, hjr]
  have e2 : ((elimS s).2.getD j 0).toNat = b := by simp [List.getD, hj, hb]
  rw [takenTo, flat_less _ hg (by rw [e1]; exact K.good _ (List.getElem_mem hjr)), e1, e2, flat_get (by rw [hg.len]; exact hbU)]
set_option maxRecDepth 100000 in
set_option maxHeartbeats 16000000 in
theorem taken_c (s : Sys) (e : Eqn) (v0 v1 v2 vr vb e0 e1 : Value) (w : World) (hx : Rd w [v0, v1, v2] s) (hr : Rd w [vr] (elimI s).1) (hb : Rd w [vb] (elimI s).2) (he : Rd w [e0, e1] e) (hok : validS s = true) (hq : eqnOk s.1 s.2.1 e = true) :
    Calls Try.prog 21 #[.agg #[v0, v1, v2], vr, vb, .agg #[e0, e1]] w fun en w' => ∃ o0 o1, en = .returned (.agg #[o0, o1]) ∧ Rd w' [o0, o1] (flat (takenS s e)) ∧ Below w.heap.size w w' := by
  obtain ⟨p, u, l⟩ := s
  obtain ⟨El, Er⟩ := e
  have HX := Lib.hid hx
  have KO := Lib.hid (elim_ok hok)
  have z := rd_cons rfl hx
  obtain ⟨rfl, _⟩ := rd_i1 z.1
  have z2 := rd_cons rfl z.2
  obtain ⟨rfl, _⟩ := rd_i1 z2.1
  obtain ⟨a, c, rfl, _⟩ := rd_list z2.2
  have hu2 := KO.out.hu
  have hp2 := KO.out.hp
  have hl2 := KO.out.hl
  simp only at hu2 hp2 hl2 hq
  obtain ⟨U, hU⟩ : ∃ U : Nat, u = U := ⟨u.toNat, by omega⟩
  subst hU
  have hGe := eqn_good (U := U) hq
  have HGX := Lib.hid (show GoodS p U l.length (El, Er, List.replicate l.length 0) from goodS_of_eqn (e := (El, Er)) (by omega) hq)
  have ze := rd_cons rfl he
  obtain ⟨rfl, hIr⟩ := rd_i1 ze.2
  obtain ⟨ae, ce, ev, _⟩ := rd_list ze.1
  rw [hGe.1] at ev
  subst ev
  have HE := Lib.hid (show Rd w [.slice ae U ce] El from ze.1)
  have HEL := Lib.hid hGe.1
  simp only at hIr
  have hEr := hGe.2.2
  simp only at hEr
  have hfl := KO.out.flat
  obtain ⟨ar, cr, er, _⟩ := rd_list hr
  rw [show (elimI (p, (U : Int), l)).1.length = l.length from KO.out.rowsI.1] at er
  subst er
  obtain ⟨ab, cb, eb, _⟩ := rd_list hb
  rw [show (elimI (p, (U : Int), l)).2.length = (elimS (p, (U : Int), l)).2.length by rw [hfl]] at eb
  subst eb
  have HR := Lib.hid hr
  have HB := Lib.hid (show Rd w [.slice ab (elimS (p, (U : Int), l)).2.length cb] (elimS (p, (U : Int), l)).2 by
    have h2 : (elimI (p, (U : Int), l)).2 = (elimS (p, (U : Int), l)).2 := by rw [hfl]
    rw [h2] at hb; exact hb)
  have HTS := Lib.hid (show takenS (p, (U : Int), l) (El, Er) = takenTo p (elimS (p, (U : Int), l)).1 (elimS (p, (U : Int), l)).2 (El, Er, List.replicate l.length 0) (elimS (p, (U : Int), l)).2.length from rfl)
  rw [HTS.out]
  have hle := KO.out.le
  simp only at hle
  clear hx z z2 ze hr hb he hok hq hGe hfl
  have hs1 := (St.start w).alloc #[.int .i64 p, .int .i64 U, .slice a l.length c] 26 (n := w.heap.size) (by simp)
  have k0_0 := hs1.cellAt 0 rfl 0 rfl
  have k0_1 := hs1.cellAt 0 rfl 1 rfl
  have k0_2 := hs1.cellAt 0 rfl 2 rfl
  have hs2 := hs1.alloc #[.slice ae U ce, .int .i64 Er] 30 (n := w.heap.size + 1) (by simp)
  clear k0_0 k0_1 k0_2
  have k0_0 := hs2.cellAt 0 rfl 0 rfl
  have k0_1 := hs2.cellAt 0 rfl 1 rfl
  have k0_2 := hs2.cellAt 0 rfl 2 rfl
  have k1_0 := hs2.cellAt 1 rfl 0 rfl
  have k1_1 := hs2.cellAt 1 rfl 1 rfl
  have hs3 := hs2.alloc #[.slice none 0 0, .slice none 0 0] 53 (n := w.heap.size + 1 + 1) (by simp)
  clear k0_0 k0_1 k0_2 k1_0 k1_1
  have k0_0 := hs3.cellAt 0 rfl 0 rfl
  have k0_1 := hs3.cellAt 0 rfl 1 rfl
  have k0_2 := hs3.cellAt 0 rfl 2 rfl
  have k1_0 := hs3.cellAt 1 rfl 0 rfl
  have k1_1 := hs3.cellAt 1 rfl 1 rfl
  have k2_0 := hs3.cellAt 2 rfl 0 rfl
  have k2_1 := hs3.cellAt 2 rfl 1 rfl
  go_enter Try.func21, Try.ntmps21
  go_upto_region 1 with fail
  go_cut [9] from 12 to 49 (fun x9 wx => ∃ g m1 n1 m2 n2, x9 = .pointer (some ⟨g, 0, none⟩) ∧ Hid (St w wx.heap.size wx [(w.heap.size, #[.int .i64 p, .int .i64 U, .slice a l.length c], 26), (w.heap.size + 1, #[.slice ae U ce, .int .i64 Er], 30), (w.heap.size + 1 + 1, #[.slice none 0 0, .slice none 0 0], 53), (g, #[.slice m1 (U + 1) n1, .slice m2 l.length n2], 53)]) ∧ Hid (Ip (fun z => w.heap.size + 3 ≤ z ∧ z ≠ g) wx [.slice m1 (U + 1) n1, .slice m2 l.length n2] (flat (El, Er, List.replicate l.length 0))) ∧ Hid (w.heap.size + 3 ≤ g))
  case first =>
    refine wp_region_noPanic (wp_region_tree4 (fun w' => w'.cell? ⟨w.heap.size, 0, none⟩ = some (.int .i64 p) ∧ w'.cell? ⟨w.heap.size, 1, none⟩ = some (.int .i64 U) ∧ w'.cell? ⟨w.heap.size, 2, none⟩ = some (.slice a l.length c) ∧ w'.cell? ⟨w.heap.size + 1, 0, none⟩ = some (.slice ae U ce) ∧ w'.cell? ⟨w.heap.size + 1, 1, none⟩ = some (.int .i64 Er) ∧ w'.cell? ⟨w.heap.size + 1 + 1, 0, none⟩ = some (.slice none 0 0) ∧ w'.cell? ⟨w.heap.size + 1 + 1, 1, none⟩ = some (.slice none 0 0)) (.float 0 (.float 1 (.float 3 (.float 4 (.float 7 (.float 8 (.float 9 (.fork4 2 (.fork3 5 (.fork3 6 (.fork2 10 (.float 11 (.hard 12 (.last 13 .nil))) 12 (.hard 10 (.float 11 (.last 13 .nil)))) 10 (.fork2 6 (.float 11 (.hard 12 (.last 13 .nil))) 12 (.hard 6 (.float 11 (.last 13 .nil)))) 12 (.fork2 6 (.hard 10 (.float 11 (.last 13 .nil))) 10 (.hard 6 (.float 11 (.last 13 .nil))))) 10 (.fork2 5 (.fork2 6 (.float 11 (.hard 12 (.last 13 .nil))) 12 (.hard 6 (.float 11 (.last 13 .nil)))) 12 (.hard 5 (.hard 6 (.float 11 (.last 13 .nil))))) 12 (.fork2 5 (.fork2 6 (.hard 10 (.float 11 (.last 13 .nil))) 10 (.hard 6 (.float 11 (.last 13 .nil)))) 10 (.hard 5 (.hard 6 (.float 11 (.last 13 .nil)))))) 5 (.fork3 2 (.fork3 6 (.fork2 10 (.float 11 (.hard 12 (.last 13 .nil))) 12 (.hard 10 (.float 11 (.last 13 .nil)))) 10 (.fork2 6 (.float 11 (.hard 12 (.last 13 .nil))) 12 (.hard 6 (.float 11 (.last 13 .nil)))) 12 (.fork2 6 (.hard 10 (.float 11 (.last 13 .nil))) 10 (.hard 6 (.float 11 (.last 13 .nil))))) 10 (.fork2 2 (.fork2 6 (.float 11 (.hard 12 (.last 13 .nil))) 12 (.hard 6 (.float 11 (.last 13 .nil)))) 12 (.hard 2 (.hard 6 (.float 11 (.last 13 .nil))))) 12 (.fork2 2 (.fork2 6 (.hard 10 (.float 11 (.last 13 .nil))) 10 (.hard 6 (.float 11 (.last 13 .nil)))) 10 (.hard 2 (.hard 6 (.float 11 (.last 13 .nil)))))) 10 (.fork3 2 (.fork2 5 (.fork2 6 (.float 11 (.hard 12 (.last 13 .nil))) 12 (.hard 6 (.float 11 (.last 13 .nil)))) 12 (.hard 5 (.hard 6 (.float 11 (.last 13 .nil))))) 5 (.fork2 2 (.fork2 6 (.float 11 (.hard 12 (.last 13 .nil))) 12 (.hard 6 (.float 11 (.last 13 .nil)))) 12 (.hard 2 (.hard 6 (.float 11 (.last 13 .nil))))) 12 (.fork2 2 (.hard 5 (.hard 6 (.float 11 (.last 13 .nil)))) 5 (.hard 2 (.hard 6 (.float 11 (.last 13 .nil)))))) 12 (.fork3 2 (.fork2 5 (.fork2 6 (.hard 10 (.float 11 (.last 13 .nil))) 10 (.hard 6 (.float 11 (.last 13 .nil)))) 10 (.hard 5 (.hard 6 (.float 11 (.last 13 .nil))))) 5 (.fork2 2 (.fork2 6 (.hard 10 (.float 11 (.last 13 .nil))) 10 (.hard 6 (.float 11 (.last 13 .nil)))) 10 (.hard 2 (.hard 6 (.float 11 (.last 13 .nil))))) 10 (.fork2 2 (.hard 5 (.hard 6 (.float 11 (.last 13 .nil)))) 5 (.hard 2 (.hard 6 (.float 11 (.last 13 .nil)))))))))))))) (by kernel_rfl) (by kernel_rfl) (by kernel_rfl) rfl ?_ (fun _ _ _ _ _ h => h) ?_)
    · exact ⟨(hs3.drew).cellAt 0 rfl 0 rfl, (hs3.drew).cellAt 0 rfl 1 rfl, (hs3.drew).cellAt 0 rfl 2 rfl, (hs3.drew).cellAt 1 rfl 0 rfl, (hs3.drew).cellAt 1 rfl 1 rfl, (hs3.drew).cellAt 2 rfl 0 rfl, (hs3.drew).cellAt 2 rfl 1 rfl⟩
    have hs4 := hs3.drew
    clear k0_0 k0_1 k0_2 k1_0 k1_1 k2_0 k2_1
    have hz_wd5 : w.heap.size + 1 + 1 + 1 ≤ ((((w.alloc (.cells #[.int .i64 p, .int .i64 U, .slice a l.length c] 26)).alloc (.cells #[.slice ae U ce, .int .i64 Er] 30)).alloc (.cells #[.slice none 0 0, .slice none 0 0] 53)).drew).heap.size := by simp
    generalize hgen_wd5 : (((w.alloc (.cells #[.int .i64 p, .int .i64 U, .slice a l.length c] 26)).alloc (.cells #[.slice ae U ce, .int .i64 Er] 30)).alloc (.cells #[.slice none 0 0, .slice none 0 0] 53)).drew = wd5 at *
    have HG_wd5 := Lib.hid hgen_wd5
    clear hgen_wd5
    (repeat (first | (apply t4_skip rfl (by rfl); try simp only [Act.put, List.setIfInBounds_toArray, List.set_cons_zero, List.set_cons_succ]) | (apply t4_float rfl (by rfl); (· (intro w' hS; go_simp <;> with_reducible rfl)); (try simp only [Act.put, List.setIfInBounds_toArray, List.set_cons_zero, List.set_cons_succ]))))
    refine t4_fork4 ?_ ?_ ?_ ?_
    · refine t4_hard rfl (by rfl) (fun K hK => ?_)
      go_wp2_with (go_at_call 39; refine (cloneIntsA_c El _ _ (Rd.mono HE.out hs4.bel) (by rw [HEL.out]; omega)).mono ?_; rintro e w6 ⟨v4, rfl, hA, hbw6⟩)
      have hz_w6 : wd5.heap.size ≤ w6.heap.size := by have h9 := hbw6.size; (try simp at h9); omega
      have hs7 := hs4.step hbw6
      obtain ⟨gC, cC, rfl, hgC1, hgC2⟩ := hA.form' (by rw [HEL.out]; omega)
      have HROW := Lib.hid (row_base (acc_ints_get hA).1)
      have HIE := Lib.hid (acc_ints_get hA).2.2
      rw [HEL.out] at HROW
      rw [HEL.out]
      (try simp at hgC1)
      clear hA
      refine ⟨⟨hs7.cellAt 0 rfl 0 rfl, hs7.cellAt 0 rfl 1 rfl, hs7.cellAt 0 rfl 2 rfl, hs7.cellAt 1 rfl 0 rfl, hs7.cellAt 1 rfl 1 rfl, hs7.cellAt 2 rfl 0 rfl, hs7.cellAt 2 rfl 1 rfl⟩, ?_⟩
      (repeat (first | (apply t4_skip rfl (by rfl); try simp only [Act.put, List.setIfInBounds_toArray, List.set_cons_zero, List.set_cons_succ]) | (apply t4_float rfl (by rfl); (· (intro w' hS; go_simp <;> with_reducible rfl)); (try simp only [Act.put, List.setIfInBounds_toArray, List.set_cons_zero, List.set_cons_succ]))))
      refine t4_fork3 ?_ ?_ ?_
      · refine t4_hard rfl (by rfl) (fun K hK => ?_)
        go_wp2_with fail
        have hs8 := hs7.alloc #[.int .i64 Er] 2 (n := w6.heap.size) (by simp)
        have HROW_9 := Lib.hid (ownsRow_below HROW.out (belowA _ (.cells #[.int .i64 Er] 2)))
        clear HROW
        refine ⟨⟨hs8.cellAt 0 rfl 0 rfl, hs8.cellAt 0 rfl 1 rfl, hs8.cellAt 0 rfl 2 rfl, hs8.cellAt 1 rfl 0 rfl, hs8.cellAt 1 rfl 1 rfl, hs8.cellAt 2 rfl 0 rfl, hs8.cellAt 2 rfl 1 rfl⟩, ?_⟩
        (repeat (first | (apply t4_skip rfl (by rfl); try simp only [Act.put, List.setIfInBounds_toArray, List.set_cons_zero, List.set_cons_succ]) | (apply t4_float rfl (by rfl); (· (intro w' hS; go_simp <;> with_reducible rfl)); (try simp only [Act.put, List.setIfInBounds_toArray, List.set_cons_zero, List.set_cons_succ]))))
        refine t4_fork3 ?_ ?_ ?_
        · refine t4_hard rfl (by rfl) (fun K hK => ?_)
          refine wp_append_row _ _ _ _ rfl E_ints (v := .slice (some ⟨gC, 0, none⟩) U cC) rfl HROW_9.out (vs := [.int .i64 Er]) rfl (one_int _) ⟨w6.heap.size, 0, none⟩ 1 rfl (news1 (hs8.cellAt 3 rfl 0 rfl)) (by omega) ?_
          intro gP cP wP hat hrowP hbutP hltP
          have hgP : gP = gC ∨ gP = w6.heap.size + 1 := by simpa [Value.ownBlock] using hat.imp Eq.symm id
          have hbutP : But [gC] (w6.alloc (.cells #[.int .i64 Er] 2)) wP := hbutP
          have hsP := hs8.butIv hbutP (fun k hk => by simp at hk; omega) (fun x hx => by
            simp only [List.mem_append, List.mem_cons, List.not_mem_nil, or_false, false_or, or_assoc, List.nil_append] at hx ⊢
            rcases hx with rfl | rfl | rfl | rfl <;> (simp only; omega))
          have HRP := Lib.hid (show wP.ownsRow 0 2 1 (.slice (some ⟨gP, 0, none⟩) (U + 1) cP) (U + 1) (ivals El ++ [.int .i64 Er]) from hrowP)
          clear hat hrowP
          clear HROW_9
          have hz_wP : w6.heap.size + 1 ≤ wP.heap.size := by have h9 := hbutP.size; (try simp at h9); omega
          refine hK _ _ ⟨⟨hsP.cellAt 0 rfl 0 rfl, hsP.cellAt 0 rfl 1 rfl, hsP.cellAt 0 rfl 2 rfl, hsP.cellAt 1 rfl 0 rfl, hsP.cellAt 1 rfl 1 rfl, hsP.cellAt 2 rfl 0 rfl, hsP.cellAt 2 rfl 1 rfl⟩, ?_⟩
          (repeat (first | (apply t4_skip rfl (by rfl); try simp only [Act.put, List.setIfInBounds_toArray, List.set_cons_zero, List.set_cons_succ]) | (apply t4_float rfl (by rfl); (· (intro w' hS; go_simp <;> with_reducible rfl)); (try simp only [Act.put, List.setIfInBounds_toArray, List.set_cons_zero, List.set_cons_succ]))))
          refine t4_fork2 ?_ ?_
          · refine t4_hard rfl (by rfl) (fun K hK => ?_)
            refine wp_make_rep _ _ _ 28 rfl E_ints (0 : Int) own0_int l.length (by omega) rfl rfl ?_
            intro wM hownM hbM hzM
            have HOM : Hid (OwnSl [wP.heap.size] wM (.slice (some ⟨wP.heap.size, 0, none⟩) l.length l.length) (List.replicate l.length (0 : Int))) := Lib.hid (by simpa using hownM)
            have hgM : wP.heap.size < wM.heap.size := by rw [hzM]; simp
            clear hownM hzM
            have hz_wM : wP.heap.size ≤ wM.heap.size := by have h9 := hbM.size; (try simp at h9); omega
            have hs10 := hsP.step hbM
            have HRP_11 := Lib.hid (ownsRow_below HRP.out hbM)
            clear HRP
            refine hK _ _ ⟨⟨hs10.cellAt 0 rfl 0 rfl, hs10.cellAt 0 rfl 1 rfl, hs10.cellAt 0 rfl 2 rfl, hs10.cellAt 1 rfl 0 rfl, hs10.cellAt 1 rfl 1 rfl, hs10.cellAt 2 rfl 0 rfl, hs10.cellAt 2 rfl 1 rfl⟩, ?_⟩
            (repeat (first | (apply t4_skip rfl (by rfl); try simp only [Act.put, List.setIfInBounds_toArray, List.set_cons_zero, List.set_cons_succ]) | (apply t4_float rfl (by rfl); (· (intro w' hS; go_simp <;> with_reducible rfl)); (try simp only [Act.put, List.setIfInBounds_toArray, List.set_cons_zero, List.set_cons_succ]))))
            refine t4_hard rfl (by rfl) (fun K hK => ?_)
            go_wp2_with fail
            have hs12 := hs10.alloc #[.slice none 0 0, .slice none 0 0] 53 (n := wM.heap.size) (by simp)
            have HRP_13 := Lib.hid (ownsRow_below HRP_11.out (belowA _ (.cells #[.slice none 0 0, .slice none 0 0] 53)))
            clear HRP_11
            have HOM_14 := Lib.hid (ownSl_mono HOM.out (belowA _ (.cells #[.slice none 0 0, .slice none 0 0] 53)))
            clear HOM
            have hz_wA : wM.heap.size + 1 ≤ ((wM.alloc (.cells #[.slice none 0 0, .slice none 0 0] 53))).heap.size := by simp
            generalize hgen_wA : (wM.alloc (.cells #[.slice none 0 0, .slice none 0 0] 53)) = wA at *
            clear hgen_wA
            refine ⟨⟨hs12.cellAt 0 rfl 0 rfl, hs12.cellAt 0 rfl 1 rfl, hs12.cellAt 0 rfl 2 rfl, hs12.cellAt 1 rfl 0 rfl, hs12.cellAt 1 rfl 1 rfl, hs12.cellAt 2 rfl 0 rfl, hs12.cellAt 2 rfl 1 rfl⟩, ?_⟩
            (repeat (first | (apply t4_skip rfl (by rfl); try simp only [Act.put, List.setIfInBounds_toArray, List.set_cons_zero, List.set_cons_succ]) | (apply t4_float rfl (by rfl); (· (intro w' hS; go_simp <;> with_reducible rfl)); (try simp only [Act.put, List.setIfInBounds_toArray, List.set_cons_zero, List.set_cons_succ]))))
            refine t4_last rfl (by rfl) (fun K hK => ?_)
            have k0_0 := hs12.cellAt 0 rfl 0 rfl
            have k0_1 := hs12.cellAt 0 rfl 1 rfl
            have k0_2 := hs12.cellAt 0 rfl 2 rfl
            have k1_0 := hs12.cellAt 1 rfl 0 rfl
            have k1_1 := hs12.cellAt 1 rfl 1 rfl
            have k2_0 := hs12.cellAt 2 rfl 0 rfl
            have k2_1 := hs12.cellAt 2 rfl 1 rfl
            have k3_0 := hs12.cellAt 3 rfl 0 rfl
            have k4_0 := hs12.cellAt 4 rfl 0 rfl
            have k4_1 := hs12.cellAt 4 rfl 1 rfl
            have f0 := (hs12.freeAt 4 rfl 0)
            have f1 := (hs12.freeAt 4 rfl 1)
            have hq := (hs12.set (p := [_, _, _, _]) (by simp <;> omega) 0 (.slice (some ⟨gP, 0, none⟩) (U + 1) cP)).set (p := [_, _, _, _]) (by simp <;> omega) 1 (.slice (some ⟨wP.heap.size, 0, none⟩) l.length l.length)
            have hgG := (hs12.box (wM.heap.size, #[.slice none 0 0, .slice none 0 0], 53) (by simp)).2.1
            simp only at hgG
            go_wp2_with fail
            refine t4_nil (NoPanic.normal ?_)
            go_wp2_with fail
            go_meet
            case rel =>
              have ho := ((OnlyAt.refl [wM.heap.size] wA).setCell (p := ⟨wM.heap.size, 0, none⟩) (by simp) (.slice (some ⟨gP, 0, none⟩) (U + 1) cP)).setCell (p := ⟨wM.heap.size, 1, none⟩) (by simp) (.slice (some ⟨wP.heap.size, 0, none⟩) l.length l.length)
              have o1 := ownSl_ints (l := El ++ [Er]) (by have h := row_frame HRP_13.out (fun k hk => ho.block k (by simp [Value.ownBlock] at hk ⊢; omega)); simpa [ivals] using h) (by rw [List.length_append, HEL.out]; rfl) (fun b hb => by
                rcases List.mem_append.1 hb with hb | hb
                · exact HIE.out b hb
                · obtain rfl : b = Er := by simpa using hb
                  exact hIr)
              have o2 := ownSl_only HOM_14.out ho (fun k h1 h2 => by simp at h1 h2; omega)
              refine ⟨wM.heap.size, _, cP, _, l.length, rfl, (hq.up hq.hi (Nat.le_refl _)).sub (fun x hx => ?_), ⟨[gP] ++ [wP.heap.size], mk_own ⟨_, rfl, o1⟩ ⟨_, rfl, o2⟩, by simp; omega, by simp; omega⟩, Lib.hid (by omega)⟩
              simp only [List.mem_cons, List.not_mem_nil, or_false] at hx
              rcases hx with rfl | rfl | rfl | rfl <;> simp
          · refine t4_hard rfl (by rfl) (fun K hK => ?_)
            go_wp2_with fail
            have hs15 := hsP.alloc #[.slice none 0 0, .slice none 0 0] 53 (n := wP.heap.size) (by simp)
            have HRP_16 := Lib.hid (ownsRow_below HRP.out (belowA _ (.cells #[.slice none 0 0, .slice none 0 0] 53)))
            clear HRP
            have hz_wA : wP.heap.size + 1 ≤ ((wP.alloc (.cells #[.slice none 0 0, .slice none 0 0] 53))).heap.size := by simp
            generalize hgen_wA : (wP.alloc (.cells #[.slice none 0 0, .slice none 0 0] 53)) = wA at *
            clear hgen_wA
            refine ⟨⟨hs15.cellAt 0 rfl 0 rfl, hs15.cellAt 0 rfl 1 rfl, hs15.cellAt 0 rfl 2 rfl, hs15.cellAt 1 rfl 0 rfl, hs15.cellAt 1 rfl 1 rfl, hs15.cellAt 2 rfl 0 rfl, hs15.cellAt 2 rfl 1 rfl⟩, ?_⟩
            (repeat (first | (apply t4_skip rfl (by rfl); try simp only [Act.put, List.setIfInBounds_toArray, List.set_cons_zero, List.set_cons_succ]) | (apply t4_float rfl (by rfl); (· (intro w' hS; go_simp <;> with_reducible rfl)); (try simp only [Act.put, List.setIfInBounds_toArray, List.set_cons_zero, List.set_cons_succ]))))
            refine t4_hard rfl (by rfl) (fun K hK => ?_)
            refine wp_make_rep _ _ _ 28 rfl E_ints (0 : Int) own0_int l.length (by omega) rfl rfl ?_
            intro wM hownM hbM hzM
            have HOM : Hid (OwnSl [wA.heap.size] wM (.slice (some ⟨wA.heap.size, 0, none⟩) l.length l.length) (List.replicate l.length (0 : Int))) := Lib.hid (by simpa using hownM)
            have hgM : wA.heap.size < wM.heap.size := by rw [hzM]; simp
            clear hownM hzM
            have hz_wM : wA.heap.size ≤ wM.heap.size := by have h9 := hbM.size; (try simp at h9); omega
            have hs17 := hs15.step hbM
            have HRP_18 := Lib.hid (ownsRow_below HRP_16.out hbM)
            clear HRP_16
            refine hK _ _ ⟨⟨hs17.cellAt 0 rfl 0 rfl, hs17.cellAt 0 rfl 1 rfl, hs17.cellAt 0 rfl 2 rfl, hs17.cellAt 1 rfl 0 rfl, hs17.cellAt 1 rfl 1 rfl, hs17.cellAt 2 rfl 0 rfl, hs17.cellAt 2 rfl 1 rfl⟩, ?_⟩
            (repeat (first | (apply t4_skip rfl (by rfl); try simp only [Act.put, List.setIfInBounds_toArray, List.set_cons_zero, List.set_cons_succ]) | (apply t4_float rfl (by rfl); (· (intro w' hS; go_simp <;> with_reducible rfl)); (try simp only [Act.put, List.setIfInBounds_toArray, List.set_cons_zero, List.set_cons_succ]))))
            refine t4_last rfl (by rfl) (fun K hK => ?_)
            have k0_0 := hs17.cellAt 0 rfl 0 rfl
            have k0_1 := hs17.cellAt 0 rfl 1 rfl
            have k0_2 := hs17.cellAt 0 rfl 2 rfl
            have k1_0 := hs17.cellAt 1 rfl 0 rfl
            have k1_1 := hs17.cellAt 1 rfl 1 rfl
            have k2_0 := hs17.cellAt 2 rfl 0 rfl
            have k2_1 := hs17.cellAt 2 rfl 1 rfl
            have k3_0 := hs17.cellAt 3 rfl 0 rfl
            have k4_0 := hs17.cellAt 4 rfl 0 rfl
            have k4_1 := hs17.cellAt 4 rfl 1 rfl
            have f0 := (hs17.freeAt 4 rfl 0)
            have f1 := (hs17.freeAt 4 rfl 1)
            have hq := (hs17.set (p := [_, _, _, _]) (by simp <;> omega) 0 (.slice (some ⟨gP, 0, none⟩) (U + 1) cP)).set (p := [_, _, _, _]) (by simp <;> omega) 1 (.slice (some ⟨wA.heap.size, 0, none⟩) l.length l.length)
            have hgG := (hs17.box (wP.heap.size, #[.slice none 0 0, .slice none 0 0], 53) (by simp)).2.1
            simp only at hgG
            go_wp2_with fail
            refine t4_nil (NoPanic.normal ?_)
            go_wp2_with fail
            go_meet
            case rel =>
              have ho := ((OnlyAt.refl [wP.heap.size] wM).setCell (p := ⟨wP.heap.size, 0, none⟩) (by simp) (.slice (some ⟨gP, 0, none⟩) (U + 1) cP)).setCell (p := ⟨wP.heap.size, 1, none⟩) (by simp) (.slice (some ⟨wA.heap.size, 0, none⟩) l.length l.length)
              have o1 := ownSl_ints (l := El ++ [Er]) (by have h := row_frame HRP_18.out (fun k hk => ho.block k (by simp [Value.ownBlock] at hk ⊢; omega)); simpa [ivals] using h) (by rw [List.length_append, HEL.out]; rfl) (fun b hb => by
                rcases List.mem_append.1 hb with hb | hb
                · exact HIE.out b hb
                · obtain rfl : b = Er := by simpa using hb
                  exact hIr)
              have o2 := ownSl_only HOM.out ho (fun k h1 h2 => by simp at h1 h2; omega)
              refine ⟨wP.heap.size, _, cP, _, l.length, rfl, (hq.up hq.hi (Nat.le_refl _)).sub (fun x hx => ?_), ⟨[gP] ++ [wA.heap.size], mk_own ⟨_, rfl, o1⟩ ⟨_, rfl, o2⟩, by simp; omega, by simp; omega⟩, Lib.hid (by omega)⟩
              simp only [List.mem_cons, List.not_mem_nil, or_false] at hx
              rcases hx with rfl | rfl | rfl | rfl <;> simp
        · refine t4_hard rfl (by rfl) (fun K hK => ?_)
          refine wp_make_rep _ _ _ 28 rfl E_ints (0 : Int) own0_int l.length (by omega) rfl rfl ?_
          intro wM hownM hbM hzM
          have HOM : Hid (OwnSl [w6.heap.size + 1] wM (.slice (some ⟨w6.heap.size + 1, 0, none⟩) l.length l.length) (List.replicate l.length (0 : Int))) := Lib.hid (by simpa using hownM)
          have hgM : w6.heap.size + 1 < wM.heap.size := by rw [hzM]; simp
          clear hownM hzM
          have hz_wM : w6.heap.size + 1 ≤ wM.heap.size := by have h9 := hbM.size; (try simp at h9); omega
          have hs19 := hs8.step hbM
          have HROW_20 := Lib.hid (ownsRow_below HROW_9.out hbM)
          clear HROW_9
          refine hK _ _ ⟨⟨hs19.cellAt 0 rfl 0 rfl, hs19.cellAt 0 rfl 1 rfl, hs19.cellAt 0 rfl 2 rfl, hs19.cellAt 1 rfl 0 rfl, hs19.cellAt 1 rfl 1 rfl, hs19.cellAt 2 rfl 0 rfl, hs19.cellAt 2 rfl 1 rfl⟩, ?_⟩
          (repeat (first | (apply t4_skip rfl (by rfl); try simp only [Act.put, List.setIfInBounds_toArray, List.set_cons_zero, List.set_cons_succ]) | (apply t4_float rfl (by rfl); (· (intro w' hS; go_simp <;> with_reducible rfl)); (try simp only [Act.put, List.setIfInBounds_toArray, List.set_cons_zero, List.set_cons_succ]))))
          refine t4_fork2 ?_ ?_
          · refine t4_hard rfl (by rfl) (fun K hK => ?_)
            refine wp_append_row _ _ _ _ rfl E_ints (v := .slice (some ⟨gC, 0, none⟩) U cC) rfl HROW_20.out (vs := [.int .i64 Er]) rfl (one_int _) ⟨w6.heap.size, 0, none⟩ 1 rfl (news1 (hs19.cellAt 3 rfl 0 rfl)) (by omega) ?_
            intro gP cP wP hat hrowP hbutP hltP
            have hgP : gP = gC ∨ gP = wM.heap.size := by simpa [Value.ownBlock] using hat.imp Eq.symm id
            have hbutP : But [gC] wM wP := hbutP
            have hsP := hs19.butIv hbutP (fun k hk => by simp at hk; omega) (fun x hx => by
              simp only [List.mem_append, List.mem_cons, List.not_mem_nil, or_false, false_or, or_assoc, List.nil_append] at hx ⊢
              rcases hx with rfl | rfl | rfl | rfl <;> (simp only; omega))
            have HRP := Lib.hid (show wP.ownsRow 0 2 1 (.slice (some ⟨gP, 0, none⟩) (U + 1) cP) (U + 1) (ivals El ++ [.int .i64 Er]) from hrowP)
            clear hat hrowP
            clear HROW_20
            have hz_wP : wM.heap.size ≤ wP.heap.size := by have h9 := hbutP.size; (try simp at h9); omega
            have HOM_21 := Lib.hid (ownSl_but HOM.out hbutP (fun k hk => by (try simp at hk ⊢) <;> omega))
            clear HOM
            refine hK _ _ ⟨⟨hsP.cellAt 0 rfl 0 rfl, hsP.cellAt 0 rfl 1 rfl, hsP.cellAt 0 rfl 2 rfl, hsP.cellAt 1 rfl 0 rfl, hsP.cellAt 1 rfl 1 rfl, hsP.cellAt 2 rfl 0 rfl, hsP.cellAt 2 rfl 1 rfl⟩, ?_⟩
            (repeat (first | (apply t4_skip rfl (by rfl); try simp only [Act.put, List.setIfInBounds_toArray, List.set_cons_zero, List.set_cons_succ]) | (apply t4_float rfl (by rfl); (· (intro w' hS; go_simp <;> with_reducible rfl)); (try simp only [Act.put, List.setIfInBounds_toArray, List.set_cons_zero, List.set_cons_succ]))))
            refine t4_hard rfl (by rfl) (fun K hK => ?_)
            go_wp2_with fail
            have hs22 := hsP.alloc #[.slice none 0 0, .slice none 0 0] 53 (n := wP.heap.size) (by simp)
            have HOM_23 := Lib.hid (ownSl_mono HOM_21.out (belowA _ (.cells #[.slice none 0 0, .slice none 0 0] 53)))
            clear HOM_21
            have HRP_24 := Lib.hid (ownsRow_below HRP.out (belowA _ (.cells #[.slice none 0 0, .slice none 0 0] 53)))
            clear HRP
            have hz_wA : wP.heap.size + 1 ≤ ((wP.alloc (.cells #[.slice none 0 0, .slice none 0 0] 53))).heap.size := by simp
            generalize hgen_wA : (wP.alloc (.cells #[.slice none 0 0, .slice none 0 0] 53)) = wA at *
            clear hgen_wA
            refine ⟨⟨hs22.cellAt 0 rfl 0 rfl, hs22.cellAt 0 rfl 1 rfl, hs22.cellAt 0 rfl 2 rfl, hs22.cellAt 1 rfl 0 rfl, hs22.cellAt 1 rfl 1 rfl, hs22.cellAt 2 rfl 0 rfl, hs22.cellAt 2 rfl 1 rfl⟩, ?_⟩
            (repeat (first | (apply t4_skip rfl (by rfl); try simp only [Act.put, List.setIfInBounds_toArray, List.set_cons_zero, List.set_cons_succ]) | (apply t4_float rfl (by rfl); (· (intro w' hS; go_simp <;> with_reducible rfl)); (try simp only [Act.put, List.setIfInBounds_toArray, List.set_cons_zero, List.set_cons_succ]))))
            refine t4_last rfl (by rfl) (fun K hK => ?_)
            have k0_0 := hs22.cellAt 0 rfl 0 rfl
            have k0_1 := hs22.cellAt 0 rfl 1 rfl
            have k0_2 := hs22.cellAt 0 rfl 2 rfl
            have k1_0 := hs22.cellAt 1 rfl 0 rfl
            have k1_1 := hs22.cellAt 1 rfl 1 rfl
            have k2_0 := hs22.cellAt 2 rfl 0 rfl
            have k2_1 := hs22.cellAt 2 rfl 1 rfl
            have k3_0 := hs22.cellAt 3 rfl 0 rfl
            have k4_0 := hs22.cellAt 4 rfl 0 rfl
            have k4_1 := hs22.cellAt 4 rfl 1 rfl
            have f0 := (hs22.freeAt 4 rfl 0)
            have f1 := (hs22.freeAt 4 rfl 1)
            have hq := (hs22.set (p := [_, _, _, _]) (by simp <;> omega) 0 (.slice (some ⟨gP, 0, none⟩) (U + 1) cP)).set (p := [_, _, _, _]) (by simp <;> omega) 1 (.slice (some ⟨w6.heap.size + 1, 0, none⟩) l.length l.length)
            have hgG := (hs22.box (wP.heap.size, #[.slice none 0 0, .slice none 0 0], 53) (by simp)).2.1
            simp only at hgG
            go_wp2_with fail
            refine t4_nil (NoPanic.normal ?_)
            go_wp2_with fail
            go_meet
            case rel =>
              have ho := ((OnlyAt.refl [wP.heap.size] wA).setCell (p := ⟨wP.heap.size, 0, none⟩) (by simp) (.slice (some ⟨gP, 0, none⟩) (U + 1) cP)).setCell (p := ⟨wP.heap.size, 1, none⟩) (by simp) (.slice (some ⟨w6.heap.size + 1, 0, none⟩) l.length l.length)
              have o1 := ownSl_ints (l := El ++ [Er]) (by have h := row_frame HRP_24.out (fun k hk => ho.block k (by simp [Value.ownBlock] at hk ⊢; omega)); simpa [ivals] using h) (by rw [List.length_append, HEL.out]; rfl) (fun b hb => by
                rcases List.mem_append.1 hb with hb | hb
                · exact HIE.out b hb
                · obtain rfl : b = Er := by simpa using hb
                  exact hIr)
              have o2 := ownSl_only HOM_23.out ho (fun k h1 h2 => by simp at h1 h2; omega)
              refine ⟨wP.heap.size, _, cP, _, l.length, rfl, (hq.up hq.hi (Nat.le_refl _)).sub (fun x hx => ?_), ⟨[gP] ++ [w6.heap.size + 1], mk_own ⟨_, rfl, o1⟩ ⟨_, rfl, o2⟩, by simp; omega, by simp; omega⟩, Lib.hid (by omega)⟩
              simp only [List.mem_cons, List.not_mem_nil, or_false] at hx
              rcases hx with rfl | rfl | rfl | rfl <;> simp
          · refine t4_hard rfl (by rfl) (fun K hK => ?_)
            go_wp2_with fail
            have hs25 := hs19.alloc #[.slice none 0 0, .slice none 0 0] 53 (n := wM.heap.size) (by simp)
            have HROW_26 := Lib.hid (ownsRow_below HROW_20.out (belowA _ (.cells #[.slice none 0 0, .slice none 0 0] 53)))
            clear HROW_20
            have HOM_27 := Lib.hid (ownSl_mono HOM.out (belowA _ (.cells #[.slice none 0 0, .slice none 0 0] 53)))
            clear HOM
            have hz_wA : wM.heap.size + 1 ≤ ((wM.alloc (.cells #[.slice none 0 0, .slice none 0 0] 53))).heap.size := by simp
            generalize hgen_wA : (wM.alloc (.cells #[.slice none 0 0, .slice none 0 0] 53)) = wA at *
            clear hgen_wA
            refine ⟨⟨hs25.cellAt 0 rfl 0 rfl, hs25.cellAt 0 rfl 1 rfl, hs25.cellAt 0 rfl 2 rfl, hs25.cellAt 1 rfl 0 rfl, hs25.cellAt 1 rfl 1 rfl, hs25.cellAt 2 rfl 0 rfl, hs25.cellAt 2 rfl 1 rfl⟩, ?_⟩
            (repeat (first | (apply t4_skip rfl (by rfl); try simp only [Act.put, List.setIfInBounds_toArray, List.set_cons_zero, List.set_cons_succ]) | (apply t4_float rfl (by rfl); (· (intro w' hS; go_simp <;> with_reducible rfl)); (try simp only [Act.put, List.setIfInBounds_toArray, List.set_cons_zero, List.set_cons_succ]))))
            refine t4_hard rfl (by rfl) (fun K hK => ?_)
            refine wp_append_row _ _ _ _ rfl E_ints (v := .slice (some ⟨gC, 0, none⟩) U cC) rfl HROW_26.out (vs := [.int .i64 Er]) rfl (one_int _) ⟨w6.heap.size, 0, none⟩ 1 rfl (news1 (hs25.cellAt 3 rfl 0 rfl)) (by omega) ?_
            intro gP cP wP hat hrowP hbutP hltP
            have hgP : gP = gC ∨ gP = wA.heap.size := by simpa [Value.ownBlock] using hat.imp Eq.symm id
            have hbutP : But [gC] wA wP := hbutP
            have hsP := hs25.butIv hbutP (fun k hk => by simp at hk; omega) (fun x hx => by
              simp only [List.mem_append, List.mem_cons, List.not_mem_nil, or_false, false_or, or_assoc, List.nil_append] at hx ⊢
              rcases hx with rfl | rfl | rfl | rfl | rfl <;> (simp only; omega))
            have HRP := Lib.hid (show wP.ownsRow 0 2 1 (.slice (some ⟨gP, 0, none⟩) (U + 1) cP) (U + 1) (ivals El ++ [.int .i64 Er]) from hrowP)
            clear hat hrowP
            clear HROW_26
            have hz_wP : wA.heap.size ≤ wP.heap.size := by have h9 := hbutP.size; (try simp at h9); omega
            have HOM_28 := Lib.hid (ownSl_but HOM_27.out hbutP (fun k hk => by (try simp at hk ⊢) <;> omega))
            clear HOM_27
            refine hK _ _ ⟨⟨hsP.cellAt 0 rfl 0 rfl, hsP.cellAt 0 rfl 1 rfl, hsP.cellAt 0 rfl 2 rfl, hsP.cellAt 1 rfl 0 rfl, hsP.cellAt 1 rfl 1 rfl, hsP.cellAt 2 rfl 0 rfl, hsP.cellAt 2 rfl 1 rfl⟩, ?_⟩
            (repeat (first | (apply t4_skip rfl (by rfl); try simp only [Act.put, List.setIfInBounds_toArray, List.set_cons_zero, List.set_cons_succ]) | (apply t4_float rfl (by rfl); (· (intro w' hS; go_simp <;> with_reducible rfl)); (try simp only [Act.put, List.setIfInBounds_toArray, List.set_cons_zero, List.set_cons_succ]))))
            refine t4_last rfl (by rfl) (fun K hK => ?_)
            have k0_0 := hsP.cellAt 0 rfl 0 rfl
            have k0_1 := hsP.cellAt 0 rfl 1 rfl
            have k0_2 := hsP.cellAt 0 rfl 2 rfl
            have k1_0 := hsP.cellAt 1 rfl 0 rfl
            have k1_1 := hsP.cellAt 1 rfl 1 rfl
            have k2_0 := hsP.cellAt 2 rfl 0 rfl
            have k2_1 := hsP.cellAt 2 rfl 1 rfl
            have k3_0 := hsP.cellAt 3 rfl 0 rfl
            have k4_0 := hsP.cellAt 4 rfl 0 rfl
            have k4_1 := hsP.cellAt 4 rfl 1 rfl
            have f0 := (hsP.freeAt 4 rfl 0)
            have f1 := (hsP.freeAt 4 rfl 1)
            have hq := (hsP.set (p := [_, _, _, _]) (by simp <;> omega) 0 (.slice (some ⟨gP, 0, none⟩) (U + 1) cP)).set (p := [_, _, _, _]) (by simp <;> omega) 1 (.slice (some ⟨w6.heap.size + 1, 0, none⟩) l.length l.length)
            have hgG := (hsP.box (wM.heap.size, #[.slice none 0 0, .slice none 0 0], 53) (by simp)).2.1
            simp only at hgG
            go_wp2_with fail
            refine t4_nil (NoPanic.normal ?_)
            go_wp2_with fail
            go_meet
            case rel =>
              have ho := ((OnlyAt.refl [wM.heap.size] wP).setCell (p := ⟨wM.heap.size, 0, none⟩) (by simp) (.slice (some ⟨gP, 0, none⟩) (U + 1) cP)).setCell (p := ⟨wM.heap.size, 1, none⟩) (by simp) (.slice (some ⟨w6.heap.size + 1, 0, none⟩) l.length l.length)
              have o1 := ownSl_ints (l := El ++ [Er]) (by have h := row_frame HRP.out (fun k hk => ho.block k (by simp [Value.ownBlock] at hk ⊢; omega)); simpa [ivals] using h) (by rw [List.length_append, HEL.out]; rfl) (fun b hb => by
                rcases List.mem_append.1 hb with hb | hb
                · exact HIE.out b hb
                · obtain rfl : b = Er := by simpa using hb
                  exact hIr)
              have o2 := ownSl_only HOM_28.out ho (fun k h1 h2 => by simp at h1 h2; omega)
              refine ⟨wM.heap.size, _, cP, _, l.length, rfl, (hq.up hq.hi (Nat.le_refl _)).sub (fun x hx => ?_), ⟨[gP] ++ [w6.heap.size + 1], mk_own ⟨_, rfl, o1⟩ ⟨_, rfl, o2⟩, by simp; omega, by simp; omega⟩, Lib.hid (by omega)⟩
              simp only [List.mem_cons, List.not_mem_nil, or_false] at hx
              rcases hx with rfl | rfl | rfl | rfl <;> simp
        · refine t4_hard rfl (by rfl) (fun K hK => ?_)
          go_wp2_with fail
          have hs29 := hs8.alloc #[.slice none 0 0, .slice none 0 0] 53 (n := w6.heap.size + 1) (by simp)
          have HROW_30 := Lib.hid (ownsRow_below HROW_9.out (belowA _ (.cells #[.slice none 0 0, .slice none 0 0] 53)))
          clear HROW_9
          have hz_wA : w6.heap.size + 1 + 1 ≤ (((w6.alloc (.cells #[.int .i64 Er] 2)).alloc (.cells #[.slice none 0 0, .slice none 0 0] 53))).heap.size := by simp
          generalize hgen_wA : ((w6.alloc (.cells #[.int .i64 Er] 2)).alloc (.cells #[.slice none 0 0, .slice none 0 0] 53)) = wA at *
          clear hgen_wA
          refine ⟨⟨hs29.cellAt 0 rfl 0 rfl, hs29.cellAt 0 rfl 1 rfl, hs29.cellAt 0 rfl 2 rfl, hs29.cellAt 1 rfl 0 rfl, hs29.cellAt 1 rfl 1 rfl, hs29.cellAt 2 rfl 0 rfl, hs29.cellAt 2 rfl 1 rfl⟩, ?_⟩
          (repeat (first | (apply t4_skip rfl (by rfl); try simp only [Act.put, List.setIfInBounds_toArray, List.set_cons_zero, List.set_cons_succ]) | (apply t4_float rfl (by rfl); (· (intro w' hS; go_simp <;> with_reducible rfl)); (try simp only [Act.put, List.setIfInBounds_toArray, List.set_cons_zero, List.set_cons_succ]))))
          refine t4_fork2 ?_ ?_
          · refine t4_hard rfl (by rfl) (fun K hK => ?_)
            refine wp_append_row _ _ _ _ rfl E_ints (v := .slice (some ⟨gC, 0, none⟩) U cC) rfl HROW_30.out (vs := [.int .i64 Er]) rfl (one_int _) ⟨w6.heap.size, 0, none⟩ 1 rfl (news1 (hs29.cellAt 3 rfl 0 rfl)) (by omega) ?_
            intro gP cP wP hat hrowP hbutP hltP
            have hgP : gP = gC ∨ gP = wA.heap.size := by simpa [Value.ownBlock] using hat.imp Eq.symm id
            have hbutP : But [gC] wA wP := hbutP
            have hsP := hs29.butIv hbutP (fun k hk => by simp at hk; omega) (fun x hx => by
              simp only [List.mem_append, List.mem_cons, List.not_mem_nil, or_false, false_or, or_assoc, List.nil_append] at hx ⊢
              rcases hx with rfl | rfl | rfl | rfl | rfl <;> (simp only; omega))
            have HRP := Lib.hid (show wP.ownsRow 0 2 1 (.slice (some ⟨gP, 0, none⟩) (U + 1) cP) (U + 1) (ivals El ++ [.int .i64 Er]) from hrowP)
            clear hat hrowP
            clear HROW_30
            have hz_wP : wA.heap.size ≤ wP.heap.size := by have h9 := hbutP.size; (try simp at h9); omega
            refine hK _ _ ⟨⟨hsP.cellAt 0 rfl 0 rfl, hsP.cellAt 0 rfl 1 rfl, hsP.cellAt 0 rfl 2 rfl, hsP.cellAt 1 rfl 0 rfl, hsP.cellAt 1 rfl 1 rfl, hsP.cellAt 2 rfl 0 rfl, hsP.cellAt 2 rfl 1 rfl⟩, ?_⟩
            (repeat (first | (apply t4_skip rfl (by rfl); try simp only [Act.put, List.setIfInBounds_toArray, List.set_cons_zero, List.set_cons_succ]) | (apply t4_float rfl (by rfl); (· (intro w' hS; go_simp <;> with_reducible rfl)); (try simp only [Act.put, List.setIfInBounds_toArray, List.set_cons_zero, List.set_cons_succ]))))
            refine t4_hard rfl (by rfl) (fun K hK => ?_)
            refine wp_make_rep _ _ _ 28 rfl E_ints (0 : Int) own0_int l.length (by omega) rfl rfl ?_
            intro wM hownM hbM hzM
            have HOM : Hid (OwnSl [wP.heap.size] wM (.slice (some ⟨wP.heap.size, 0, none⟩) l.length l.length) (List.replicate l.length (0 : Int))) := Lib.hid (by simpa using hownM)
            have hgM : wP.heap.size < wM.heap.size := by rw [hzM]; simp
            clear hownM hzM
            have hz_wM : wP.heap.size ≤ wM.heap.size := by have h9 := hbM.size; (try simp at h9); omega
            have hs31 := hsP.step hbM
            have HRP_32 := Lib.hid (ownsRow_below HRP.out hbM)
            clear HRP
            refine hK _ _ ⟨⟨hs31.cellAt 0 rfl 0 rfl, hs31.cellAt 0 rfl 1 rfl, hs31.cellAt 0 rfl 2 rfl, hs31.cellAt 1 rfl 0 rfl, hs31.cellAt 1 rfl 1 rfl, hs31.cellAt 2 rfl 0 rfl, hs31.cellAt 2 rfl 1 rfl⟩, ?_⟩
            (repeat (first | (apply t4_skip rfl (by rfl); try simp only [Act.put, List.setIfInBounds_toArray, List.set_cons_zero, List.set_cons_succ]) | (apply t4_float rfl (by rfl); (· (intro w' hS; go_simp <;> with_reducible rfl)); (try simp only [Act.put, List.setIfInBounds_toArray, List.set_cons_zero, List.set_cons_succ]))))
            refine t4_last rfl (by rfl) (fun K hK => ?_)
            have k0_0 := hs31.cellAt 0 rfl 0 rfl
            have k0_1 := hs31.cellAt 0 rfl 1 rfl
            have k0_2 := hs31.cellAt 0 rfl 2 rfl
            have k1_0 := hs31.cellAt 1 rfl 0 rfl
            have k1_1 := hs31.cellAt 1 rfl 1 rfl
            have k2_0 := hs31.cellAt 2 rfl 0 rfl
            have k2_1 := hs31.cellAt 2 rfl 1 rfl
            have k3_0 := hs31.cellAt 3 rfl 0 rfl
            have k4_0 := hs31.cellAt 4 rfl 0 rfl
            have k4_1 := hs31.cellAt 4 rfl 1 rfl
            have f0 := (hs31.freeAt 4 rfl 0)
            have f1 := (hs31.freeAt 4 rfl 1)
            have hq := (hs31.set (p := [_, _, _, _]) (by simp <;> omega) 0 (.slice (some ⟨gP, 0, none⟩) (U + 1) cP)).set (p := [_, _, _, _]) (by simp <;> omega) 1 (.slice (some ⟨wP.heap.size, 0, none⟩) l.length l.length)
            have hgG := (hs31.box (w6.heap.size + 1, #[.slice none 0 0, .slice none 0 0], 53) (by simp)).2.1
            simp only at hgG
            go_wp2_with fail
            refine t4_nil (NoPanic.normal ?_)
            go_wp2_with fail
            go_meet
            case rel =>
              have ho := ((OnlyAt.refl [w6.heap.size + 1] wM).setCell (p := ⟨w6.heap.size + 1, 0, none⟩) (by simp) (.slice (some ⟨gP, 0, none⟩) (U + 1) cP)).setCell (p := ⟨w6.heap.size + 1, 1, none⟩) (by simp) (.slice (some ⟨wP.heap.size, 0, none⟩) l.length l.length)
              have o1 := ownSl_ints (l := El ++ [Er]) (by have h := row_frame HRP_32.out (fun k hk => ho.block k (by simp [Value.ownBlock] at hk ⊢; omega)); simpa [ivals] using h) (by rw [List.length_append, HEL.out]; rfl) (fun b hb => by
                rcases List.mem_append.1 hb with hb | hb
                · exact HIE.out b hb
                · obtain rfl : b = Er := by simpa using hb
                  exact hIr)
              have o2 := ownSl_only HOM.out ho (fun k h1 h2 => by simp at h1 h2; omega)
              refine ⟨w6.heap.size + 1, _, cP, _, l.length, rfl, (hq.up hq.hi (Nat.le_refl _)).sub (fun x hx => ?_), ⟨[gP] ++ [wP.heap.size], mk_own ⟨_, rfl, o1⟩ ⟨_, rfl, o2⟩, by simp; omega, by simp; omega⟩, Lib.hid (by omega)⟩
              simp only [List.mem_cons, List.not_mem_nil, or_false] at hx
              rcases hx with rfl | rfl | rfl | rfl <;> simp
          · refine t4_hard rfl (by rfl) (fun K hK => ?_)
            refine wp_make_rep _ _ _ 28 rfl E_ints (0 : Int) own0_int l.length (by omega) rfl rfl ?_
            intro wM hownM hbM hzM
            have HOM : Hid (OwnSl [wA.heap.size] wM (.slice (some ⟨wA.heap.size, 0, none⟩) l.length l.length) (List.replicate l.length (0 : Int))) := Lib.hid (by simpa using hownM)
            have hgM : wA.heap.size < wM.heap.size := by rw [hzM]; simp
            clear hownM hzM
            have hz_wM : wA.heap.size ≤ wM.heap.size := by have h9 := hbM.size; (try simp at h9); omega
            have hs33 := hs29.step hbM
            have HROW_34 := Lib.hid (ownsRow_below HROW_30.out hbM)
            clear HROW_30
            refine hK _ _ ⟨⟨hs33.cellAt 0 rfl 0 rfl, hs33.cellAt 0 rfl 1 rfl, hs33.cellAt 0 rfl 2 rfl, hs33.cellAt 1 rfl 0 rfl, hs33.cellAt 1 rfl 1 rfl, hs33.cellAt 2 rfl 0 rfl, hs33.cellAt 2 rfl 1 rfl⟩, ?_⟩
            (repeat (first | (apply t4_skip rfl (by rfl); try simp only [Act.put, List.setIfInBounds_toArray, List.set_cons_zero, List.set_cons_succ]) | (apply t4_float rfl (by rfl); (· (intro w' hS; go_simp <;> with_reducible rfl)); (try simp only [Act.put, List.setIfInBounds_toArray, List.set_cons_zero, List.set_cons_succ]))))
            refine t4_hard rfl (by rfl) (fun K hK => ?_)
            refine wp_append_row _ _ _ _ rfl E_ints (v := .slice (some ⟨gC, 0, none⟩) U cC) rfl HROW_34.out (vs := [.int .i64 Er]) rfl (one_int _) ⟨w6.heap.size, 0, none⟩ 1 rfl (news1 (hs33.cellAt 3 rfl 0 rfl)) (by omega) ?_
            intro gP cP wP hat hrowP hbutP hltP
            have hgP : gP = gC ∨ gP = wM.heap.size := by simpa [Value.ownBlock] using hat.imp Eq.symm id
            have hbutP : But [gC] wM wP := hbutP
            have hsP := hs33.butIv hbutP (fun k hk => by simp at hk; omega) (fun x hx => by
              simp only [List.mem_append, List.mem_cons, List.not_mem_nil, or_false, false_or, or_assoc, List.nil_append] at hx ⊢
              rcases hx with rfl | rfl | rfl | rfl | rfl <;> (simp only; omega))
            have HRP := Lib.hid (show wP.ownsRow 0 2 1 (.slice (some ⟨gP, 0, none⟩) (U + 1) cP) (U + 1) (ivals El ++ [.int .i64 Er]) from hrowP)
            clear hat hrowP
            clear HROW_34
            have hz_wP : wM.heap.size ≤ wP.heap.size := by have h9 := hbutP.size; (try simp at h9); omega
            have HOM_35 := Lib.hid (ownSl_but HOM.out hbutP (fun k hk => by (try simp at hk ⊢) <;> omega))
            clear HOM
            refine hK _ _ ⟨⟨hsP.cellAt 0 rfl 0 rfl, hsP.cellAt 0 rfl 1 rfl, hsP.cellAt 0 rfl 2 rfl, hsP.cellAt 1 rfl 0 rfl, hsP.cellAt 1 rfl 1 rfl, hsP.cellAt 2 rfl 0 rfl, hsP.cellAt 2 rfl 1 rfl⟩, ?_⟩
            (repeat (first | (apply t4_skip rfl (by rfl); try simp only [Act.put, List.setIfInBounds_toArray, List.set_cons_zero, List.set_cons_succ]) | (apply t4_float rfl (by rfl); (· (intro w' hS; go_simp <;> with_reducible rfl)); (try simp only [Act.put, List.setIfInBounds_toArray, List.set_cons_zero, List.set_cons_succ]))))
            refine t4_last rfl (by rfl) (fun K hK => ?_)
            have k0_0 := hsP.cellAt 0 rfl 0 rfl
            have k0_1 := hsP.cellAt 0 rfl 1 rfl
            have k0_2 := hsP.cellAt 0 rfl 2 rfl
            have k1_0 := hsP.cellAt 1 rfl 0 rfl
            have k1_1 := hsP.cellAt 1 rfl 1 rfl
            have k2_0 := hsP.cellAt 2 rfl 0 rfl
            have k2_1 := hsP.cellAt 2 rfl 1 rfl
            have k3_0 := hsP.cellAt 3 rfl 0 rfl
            have k4_0 := hsP.cellAt 4 rfl 0 rfl
            have k4_1 := hsP.cellAt 4 rfl 1 rfl
            have f0 := (hsP.freeAt 4 rfl 0)
            have f1 := (hsP.freeAt 4 rfl 1)
            have hq := (hsP.set (p := [_, _, _, _]) (by simp <;> omega) 0 (.slice (some ⟨gP, 0, none⟩) (U + 1) cP)).set (p := [_, _, _, _]) (by simp <;> omega) 1 (.slice (some ⟨wA.heap.size, 0, none⟩) l.length l.length)
            have hgG := (hsP.box (w6.heap.size + 1, #[.slice none 0 0, .slice none 0 0], 53) (by simp)).2.1
            simp only at hgG
            go_wp2_with fail
            refine t4_nil (NoPanic.normal ?_)
            go_wp2_with fail
            go_meet
            case rel =>
              have ho := ((OnlyAt.refl [w6.heap.size + 1] wP).setCell (p := ⟨w6.heap.size + 1, 0, none⟩) (by simp) (.slice (some ⟨gP, 0, none⟩) (U + 1) cP)).setCell (p := ⟨w6.heap.size + 1, 1, none⟩) (by simp) (.slice (some ⟨wA.heap.size, 0, none⟩) l.length l.length)
              have o1 := ownSl_ints (l := El ++ [Er]) (by have h := row_frame HRP.out (fun k hk => ho.block k (by simp [Value.ownBlock] at hk ⊢; omega)); simpa [ivals] using h) (by rw [List.length_append, HEL.out]; rfl) (fun b hb => by
                rcases List.mem_append.1 hb with hb | hb
                · exact HIE.out b hb
                · obtain rfl : b = Er := by simpa using hb
                  exact hIr)
              have o2 := ownSl_only HOM_35.out ho (fun k h1 h2 => by simp at h1 h2; omega)
              refine ⟨w6.heap.size + 1, _, cP, _, l.length, rfl, (hq.up hq.hi (Nat.le_refl _)).sub (fun x hx => ?_), ⟨[gP] ++ [wA.heap.size], mk_own ⟨_, rfl, o1⟩ ⟨_, rfl, o2⟩, by simp; omega, by simp; omega⟩, Lib.hid (by omega)⟩
              simp only [List.mem_cons, List.not_mem_nil, or_false] at hx
              rcases hx with rfl | rfl | rfl | rfl <;> simp
      · refine t4_hard rfl (by rfl) (fun K hK => ?_)
        refine wp_make_rep _ _ _ 28 rfl E_ints (0 : Int) own0_int l.length (by omega) rfl rfl ?_
        intro wM hownM hbM hzM
        have HOM : Hid (OwnSl [w6.heap.size] wM (.slice (some ⟨w6.heap.size, 0, none⟩) l.length l.length) (List.replicate l.length (0 : Int))) := Lib.hid (by simpa using hownM)
        have hgM : w6.heap.size < wM.heap.size := by rw [hzM]; simp
        clear hownM hzM
        have hz_wM : w6.heap.size ≤ wM.heap.size := by have h9 := hbM.size; (try simp at h9); omega
        have hs36 := hs7.step hbM
        have HROW_37 := Lib.hid (ownsRow_below HROW.out hbM)
        clear HROW
        refine hK _ _ ⟨⟨hs36.cellAt 0 rfl 0 rfl, hs36.cellAt 0 rfl 1 rfl, hs36.cellAt 0 rfl 2 rfl, hs36.cellAt 1 rfl 0 rfl, hs36.cellAt 1 rfl 1 rfl, hs36.cellAt 2 rfl 0 rfl, hs36.cellAt 2 rfl 1 rfl⟩, ?_⟩
        (repeat (first | (apply t4_skip rfl (by rfl); try simp only [Act.put, List.setIfInBounds_toArray, List.set_cons_zero, List.set_cons_succ]) | (apply t4_float rfl (by rfl); (· (intro w' hS; go_simp <;> with_reducible rfl)); (try simp only [Act.put, List.setIfInBounds_toArray, List.set_cons_zero, List.set_cons_succ]))))
        refine t4_fork2 ?_ ?_
        · refine t4_hard rfl (by rfl) (fun K hK => ?_)
          go_wp2_with fail
          have hs38 := hs36.alloc #[.int .i64 Er] 2 (n := wM.heap.size) (by simp)
          have HROW_39 := Lib.hid (ownsRow_below HROW_37.out (belowA _ (.cells #[.int .i64 Er] 2)))
          clear HROW_37
          have HOM_40 := Lib.hid (ownSl_mono HOM.out (belowA _ (.cells #[.int .i64 Er] 2)))
          clear HOM
          refine ⟨⟨hs38.cellAt 0 rfl 0 rfl, hs38.cellAt 0 rfl 1 rfl, hs38.cellAt 0 rfl 2 rfl, hs38.cellAt 1 rfl 0 rfl, hs38.cellAt 1 rfl 1 rfl, hs38.cellAt 2 rfl 0 rfl, hs38.cellAt 2 rfl 1 rfl⟩, ?_⟩
          (repeat (first | (apply t4_skip rfl (by rfl); try simp only [Act.put, List.setIfInBounds_toArray, List.set_cons_zero, List.set_cons_succ]) | (apply t4_float rfl (by rfl); (· (intro w' hS; go_simp <;> with_reducible rfl)); (try simp only [Act.put, List.setIfInBounds_toArray, List.set_cons_zero, List.set_cons_succ]))))
          refine t4_fork2 ?_ ?_
          · refine t4_hard rfl (by rfl) (fun K hK => ?_)
            refine wp_append_row _ _ _ _ rfl E_ints (v := .slice (some ⟨gC, 0, none⟩) U cC) rfl HROW_39.out (vs := [.int .i64 Er]) rfl (one_int _) ⟨wM.heap.size, 0, none⟩ 1 rfl (news1 (hs38.cellAt 3 rfl 0 rfl)) (by omega) ?_
            intro gP cP wP hat hrowP hbutP hltP
            have hgP : gP = gC ∨ gP = wM.heap.size + 1 := by simpa [Value.ownBlock] using hat.imp Eq.symm id
            have hbutP : But [gC] (wM.alloc (.cells #[.int .i64 Er] 2)) wP := hbutP
            have hsP := hs38.butIv hbutP (fun k hk => by simp at hk; omega) (fun x hx => by
              simp only [List.mem_append, List.mem_cons, List.not_mem_nil, or_false, false_or, or_assoc, List.nil_append] at hx ⊢
              rcases hx with rfl | rfl | rfl | rfl <;> (simp only; omega))
            have HRP := Lib.hid (show wP.ownsRow 0 2 1 (.slice (some ⟨gP, 0, none⟩) (U + 1) cP) (U + 1) (ivals El ++ [.int .i64 Er]) from hrowP)
            clear hat hrowP
            clear HROW_39
            have hz_wP : wM.heap.size + 1 ≤ wP.heap.size := by have h9 := hbutP.size; (try simp at h9); omega
            have HOM_41 := Lib.hid (ownSl_but HOM_40.out hbutP (fun k hk => by (try simp at hk ⊢) <;> omega))
            clear HOM_40
            refine hK _ _ ⟨⟨hsP.cellAt 0 rfl 0 rfl, hsP.cellAt 0 rfl 1 rfl, hsP.cellAt 0 rfl 2 rfl, hsP.cellAt 1 rfl 0 rfl, hsP.cellAt 1 rfl 1 rfl, hsP.cellAt 2 rfl 0 rfl, hsP.cellAt 2 rfl 1 rfl⟩, ?_⟩
            (repeat (first | (apply t4_skip rfl (by rfl); try simp only [Act.put, List.setIfInBounds_toArray, List.set_cons_zero, List.set_cons_succ]) | (apply t4_float rfl (by rfl); (· (intro w' hS; go_simp <;> with_reducible rfl)); (try simp only [Act.put, List.setIfInBounds_toArray, List.set_cons_zero, List.set_cons_succ]))))
            refine t4_hard rfl (by rfl) (fun K hK => ?_)
            go_wp2_with fail
            have hs42 := hsP.alloc #[.slice none 0 0, .slice none 0 0] 53 (n := wP.heap.size) (by simp)
            have HOM_43 := Lib.hid (ownSl_mono HOM_41.out (belowA _ (.cells #[.slice none 0 0, .slice none 0 0] 53)))
            clear HOM_41
            have HRP_44 := Lib.hid (ownsRow_below HRP.out (belowA _ (.cells #[.slice none 0 0, .slice none 0 0] 53)))
            clear HRP
            have hz_wA : wP.heap.size + 1 ≤ ((wP.alloc (.cells #[.slice none 0 0, .slice none 0 0] 53))).heap.size := by simp
            generalize hgen_wA : (wP.alloc (.cells #[.slice none 0 0, .slice none 0 0] 53)) = wA at *
            clear hgen_wA
            refine ⟨⟨hs42.cellAt 0 rfl 0 rfl, hs42.cellAt 0 rfl 1 rfl, hs42.cellAt 0 rfl 2 rfl, hs42.cellAt 1 rfl 0 rfl, hs42.cellAt 1 rfl 1 rfl, hs42.cellAt 2 rfl 0 rfl, hs42.cellAt 2 rfl 1 rfl⟩, ?_⟩
            (repeat (first | (apply t4_skip rfl (by rfl); try simp only [Act.put, List.setIfInBounds_toArray, List.set_cons_zero, List.set_cons_succ]) | (apply t4_float rfl (by rfl); (· (intro w' hS; go_simp <;> with_reducible rfl)); (try simp only [Act.put, List.setIfInBounds_toArray, List.set_cons_zero, List.set_cons_succ]))))
            refine t4_last rfl (by rfl) (fun K hK => ?_)
            have k0_0 := hs42.cellAt 0 rfl 0 rfl
            have k0_1 := hs42.cellAt 0 rfl 1 rfl
            have k0_2 := hs42.cellAt 0 rfl 2 rfl
            have k1_0 := hs42.cellAt 1 rfl 0 rfl
            have k1_1 := hs42.cellAt 1 rfl 1 rfl
            have k2_0 := hs42.cellAt 2 rfl 0 rfl
            have k2_1 := hs42.cellAt 2 rfl 1 rfl
            have k3_0 := hs42.cellAt 3 rfl 0 rfl
            have k4_0 := hs42.cellAt 4 rfl 0 rfl
            have k4_1 := hs42.cellAt 4 rfl 1 rfl
            have f0 := (hs42.freeAt 4 rfl 0)
            have f1 := (hs42.freeAt 4 rfl 1)
            have hq := (hs42.set (p := [_, _, _, _]) (by simp <;> omega) 0 (.slice (some ⟨gP, 0, none⟩) (U + 1) cP)).set (p := [_, _, _, _]) (by simp <;> omega) 1 (.slice (some ⟨w6.heap.size, 0, none⟩) l.length l.length)
            have hgG := (hs42.box (wP.heap.size, #[.slice none 0 0, .slice none 0 0], 53) (by simp)).2.1
            simp only at hgG
            go_wp2_with fail
            refine t4_nil (NoPanic.normal ?_)
            go_wp2_with fail
            go_meet
            case rel =>
              have ho := ((OnlyAt.refl [wP.heap.size] wA).setCell (p := ⟨wP.heap.size, 0, none⟩) (by simp) (.slice (some ⟨gP, 0, none⟩) (U + 1) cP)).setCell (p := ⟨wP.heap.size, 1, none⟩) (by simp) (.slice (some ⟨w6.heap.size, 0, none⟩) l.length l.length)
              have o1 := ownSl_ints (l := El ++ [Er]) (by have h := row_frame HRP_44.out (fun k hk => ho.block k (by simp [Value.ownBlock] at hk ⊢; omega)); simpa [ivals] using h) (by rw [List.length_append, HEL.out]; rfl) (fun b hb => by
                rcases List.mem_append.1 hb with hb | hb
                · exact HIE.out b hb
                · obtain rfl : b = Er := by simpa using hb
                  exact hIr)
              have o2 := ownSl_only HOM_43.out ho (fun k h1 h2 => by simp at h1 h2; omega)
              refine ⟨wP.heap.size, _, cP, _, l.length, rfl, (hq.up hq.hi (Nat.le_refl _)).sub (fun x hx => ?_), ⟨[gP] ++ [w6.heap.size], mk_own ⟨_, rfl, o1⟩ ⟨_, rfl, o2⟩, by simp; omega, by simp; omega⟩, Lib.hid (by omega)⟩
              simp only [List.mem_cons, List.not_mem_nil, or_false] at hx
              rcases hx with rfl | rfl | rfl | rfl <;> simp
          · refine t4_hard rfl (by rfl) (fun K hK => ?_)
            go_wp2_with fail
            have hs45 := hs38.alloc #[.slice none 0 0, .slice none 0 0] 53 (n := wM.heap.size + 1) (by simp)
            have HROW_46 := Lib.hid (ownsRow_below HROW_39.out (belowA _ (.cells #[.slice none 0 0, .slice none 0 0] 53)))
            clear HROW_39
            have HOM_47 := Lib.hid (ownSl_mono HOM_40.out (belowA _ (.cells #[.slice none 0 0, .slice none 0 0] 53)))
            clear HOM_40
            have hz_wA : wM.heap.size + 1 + 1 ≤ (((wM.alloc (.cells #[.int .i64 Er] 2)).alloc (.cells #[.slice none 0 0, .slice none 0 0] 53))).heap.size := by simp
            generalize hgen_wA : ((wM.alloc (.cells #[.int .i64 Er] 2)).alloc (.cells #[.slice none 0 0, .slice none 0 0] 53)) = wA at *
            clear hgen_wA
            refine ⟨⟨hs45.cellAt 0 rfl 0 rfl, hs45.cellAt 0 rfl 1 rfl, hs45.cellAt 0 rfl 2 rfl, hs45.cellAt 1 rfl 0 rfl, hs45.cellAt 1 rfl 1 rfl, hs45.cellAt 2 rfl 0 rfl, hs45.cellAt 2 rfl 1 rfl⟩, ?_⟩
            (repeat (first | (apply t4_skip rfl (by rfl); try simp only [Act.put, List.setIfInBounds_toArray, List.set_cons_zero, List.set_cons_succ]) | (apply t4_float rfl (by rfl); (· (intro w' hS; go_simp <;> with_reducible rfl)); (try simp only [Act.put, List.setIfInBounds_toArray, List.set_cons_zero, List.set_cons_succ]))))
            refine t4_hard rfl (by rfl) (fun K hK => ?_)
            refine wp_append_row _ _ _ _ rfl E_ints (v := .slice (some ⟨gC, 0, none⟩) U cC) rfl HROW_46.out (vs := [.int .i64 Er]) rfl (one_int _) ⟨wM.heap.size, 0, none⟩ 1 rfl (news1 (hs45.cellAt 3 rfl 0 rfl)) (by omega) ?_
            intro gP cP wP hat hrowP hbutP hltP
            have hgP : gP = gC ∨ gP = wA.heap.size := by simpa [Value.ownBlock] using hat.imp Eq.symm id
            have hbutP : But [gC] wA wP := hbutP
            have hsP := hs45.butIv hbutP (fun k hk => by simp at hk; omega) (fun x hx => by
              simp only [List.mem_append, List.mem_cons, List.not_mem_nil, or_false, false_or, or_assoc, List.nil_append] at hx ⊢
              rcases hx with rfl | rfl | rfl | rfl | rfl <;> (simp only; omega))
            have HRP := Lib.hid (show wP.ownsRow 0 2 1 (.slice (some ⟨gP, 0, none⟩) (U + 1) cP) (U + 1) (ivals El ++ [.int .i64 Er]) from hrowP)
            clear hat hrowP
            clear HROW_46
            have hz_wP : wA.heap.size ≤ wP.heap.size := by have h9 := hbutP.size; (try simp at h9); omega
            have HOM_48 := Lib.hid (ownSl_but HOM_47.out hbutP (fun k hk => by (try simp at hk ⊢) <;> omega))
            clear HOM_47
            refine hK _ _ ⟨⟨hsP.cellAt 0 rfl 0 rfl, hsP.cellAt 0 rfl 1 rfl, hsP.cellAt 0 rfl 2 rfl, hsP.cellAt 1 rfl 0 rfl, hsP.cellAt 1 rfl 1 rfl, hsP.cellAt 2 rfl 0 rfl, hsP.cellAt 2 rfl 1 rfl⟩, ?_⟩
            (repeat (first | (apply t4_skip rfl (by rfl); try simp only [Act.put, List.setIfInBounds_toArray, List.set_cons_zero, List.set_cons_succ]) | (apply t4_float rfl (by rfl); (· (intro w' hS; go_simp <;> with_reducible rfl)); (try simp only [Act.put, List.setIfInBounds_toArray, List.set_cons_zero, List.set_cons_succ]))))
            refine t4_last rfl (by rfl) (fun K hK => ?_)
            have k0_0 := hsP.cellAt 0 rfl 0 rfl
            have k0_1 := hsP.cellAt 0 rfl 1 rfl
            have k0_2 := hsP.cellAt 0 rfl 2 rfl
            have k1_0 := hsP.cellAt 1 rfl 0 rfl
            have k1_1 := hsP.cellAt 1 rfl 1 rfl
            have k2_0 := hsP.cellAt 2 rfl 0 rfl
            have k2_1 := hsP.cellAt 2 rfl 1 rfl
            have k3_0 := hsP.cellAt 3 rfl 0 rfl
            have k4_0 := hsP.cellAt 4 rfl 0 rfl
            have k4_1 := hsP.cellAt 4 rfl 1 rfl
            have f0 := (hsP.freeAt 4 rfl 0)
            have f1 := (hsP.freeAt 4 rfl 1)
            have hq := (hsP.set (p := [_, _, _, _]) (by simp <;> omega) 0 (.slice (some ⟨gP, 0, none⟩) (U + 1) cP)).set (p := [_, _, _, _]) (by simp <;> omega) 1 (.slice (some ⟨w6.heap.size, 0, none⟩) l.length l.length)
            have hgG := (hsP.box (wM.heap.size + 1, #[.slice none 0 0, .slice none 0 0], 53) (by simp)).2.1
            simp only at hgG
            go_wp2_with fail
            refine t4_nil (NoPanic.normal ?_)
            go_wp2_with fail
            go_meet
            case rel =>
              have ho := ((OnlyAt.refl [wM.heap.size + 1] wP).setCell (p := ⟨wM.heap.size + 1, 0, none⟩) (by simp) (.slice (some ⟨gP, 0, none⟩) (U + 1) cP)).setCell (p := ⟨wM.heap.size + 1, 1, none⟩) (by simp) (.slice (some ⟨w6.heap.size, 0, none⟩) l.length l.length)
              have o1 := ownSl_ints (l := El ++ [Er]) (by have h := row_frame HRP.out (fun k hk => ho.block k (by simp [Value.ownBlock] at hk ⊢; omega)); simpa [ivals] using h) (by rw [List.length_append, HEL.out]; rfl) (fun b hb => by
                rcases List.mem_append.1 hb with hb | hb
                · exact HIE.out b hb
                · obtain rfl : b = Er := by simpa using hb
                  exact hIr)
              have o2 := ownSl_only HOM_48.out ho (fun k h1 h2 => by simp at h1 h2; omega)
              refine ⟨wM.heap.size + 1, _, cP, _, l.length, rfl, (hq.up hq.hi (Nat.le_refl _)).sub (fun x hx => ?_), ⟨[gP] ++ [w6.heap.size], mk_own ⟨_, rfl, o1⟩ ⟨_, rfl, o2⟩, by simp; omega, by simp; omega⟩, Lib.hid (by omega)⟩
              simp only [List.mem_cons, List.not_mem_nil, or_false] at hx
              rcases hx with rfl | rfl | rfl | rfl <;> simp
        · refine t4_hard rfl (by rfl) (fun K hK => ?_)
          go_wp2_with fail
          have hs49 := hs36.alloc #[.slice none 0 0, .slice none 0 0] 53 (n := wM.heap.size) (by simp)
          have HROW_50 := Lib.hid (ownsRow_below HROW_37.out (belowA _ (.cells #[.slice none 0 0, .slice none 0 0] 53)))
          clear HROW_37
          have HOM_51 := Lib.hid (ownSl_mono HOM.out (belowA _ (.cells #[.slice none 0 0, .slice none 0 0] 53)))
          clear HOM
          have hz_wA : wM.heap.size + 1 ≤ ((wM.alloc (.cells #[.slice none 0 0, .slice none 0 0] 53))).heap.size := by simp
          generalize hgen_wA : (wM.alloc (.cells #[.slice none 0 0, .slice none 0 0] 53)) = wA at *
          clear hgen_wA
          refine ⟨⟨hs49.cellAt 0 rfl 0 rfl, hs49.cellAt 0 rfl 1 rfl, hs49.cellAt 0 rfl 2 rfl, hs49.cellAt 1 rfl 0 rfl, hs49.cellAt 1 rfl 1 rfl, hs49.cellAt 2 rfl 0 rfl, hs49.cellAt 2 rfl 1 rfl⟩, ?_⟩
          (repeat (first | (apply t4_skip rfl (by rfl); try simp only [Act.put, List.setIfInBounds_toArray, List.set_cons_zero, List.set_cons_succ]) | (apply t4_float rfl (by rfl); (· (intro w' hS; go_simp <;> with_reducible rfl)); (try simp only [Act.put, List.setIfInBounds_toArray, List.set_cons_zero, List.set_cons_succ]))))
          refine t4_hard rfl (by rfl) (fun K hK => ?_)
          go_wp2_with fail
          have hs52 := hs49.alloc #[.int .i64 Er] 2 (n := wA.heap.size) (by simp)
          have HROW_53 := Lib.hid (ownsRow_below HROW_50.out (belowA _ (.cells #[.int .i64 Er] 2)))
          clear HROW_50
          have HOM_54 := Lib.hid (ownSl_mono HOM_51.out (belowA _ (.cells #[.int .i64 Er] 2)))
          clear HOM_51
          refine ⟨⟨hs52.cellAt 0 rfl 0 rfl, hs52.cellAt 0 rfl 1 rfl, hs52.cellAt 0 rfl 2 rfl, hs52.cellAt 1 rfl 0 rfl, hs52.cellAt 1 rfl 1 rfl, hs52.cellAt 2 rfl 0 rfl, hs52.cellAt 2 rfl 1 rfl⟩, ?_⟩
          (repeat (first | (apply t4_skip rfl (by rfl); try simp only [Act.put, List.setIfInBounds_toArray, List.set_cons_zero, List.set_cons_succ]) | (apply t4_float rfl (by rfl); (· (intro w' hS; go_simp <;> with_reducible rfl)); (try simp only [Act.put, List.setIfInBounds_toArray, List.set_cons_zero, List.set_cons_succ]))))
          refine t4_hard rfl (by rfl) (fun K hK => ?_)
          refine wp_append_row _ _ _ _ rfl E_ints (v := .slice (some ⟨gC, 0, none⟩) U cC) rfl HROW_53.out (vs := [.int .i64 Er]) rfl (one_int _) ⟨wA.heap.size, 0, none⟩ 1 rfl (news1 (hs52.cellAt 4 rfl 0 rfl)) (by omega) ?_
          intro gP cP wP hat hrowP hbutP hltP
          have hgP : gP = gC ∨ gP = wA.heap.size + 1 := by simpa [Value.ownBlock] using hat.imp Eq.symm id
          have hbutP : But [gC] (wA.alloc (.cells #[.int .i64 Er] 2)) wP := hbutP
          have hsP := hs52.butIv hbutP (fun k hk => by simp at hk; omega) (fun x hx => by
            simp only [List.mem_append, List.mem_cons, List.not_mem_nil, or_false, false_or, or_assoc, List.nil_append] at hx ⊢
            rcases hx with rfl | rfl | rfl | rfl | rfl <;> (simp only; omega))
          have HRP := Lib.hid (show wP.ownsRow 0 2 1 (.slice (some ⟨gP, 0, none⟩) (U + 1) cP) (U + 1) (ivals El ++ [.int .i64 Er]) from hrowP)
          clear hat hrowP
          clear HROW_53
          have hz_wP : wA.heap.size + 1 ≤ wP.heap.size := by have h9 := hbutP.size; (try simp at h9); omega
          have HOM_55 := Lib.hid (ownSl_but HOM_54.out hbutP (fun k hk => by (try simp at hk ⊢) <;> omega))
          clear HOM_54
          refine hK _ _ ⟨⟨hsP.cellAt 0 rfl 0 rfl, hsP.cellAt 0 rfl 1 rfl, hsP.cellAt 0 rfl 2 rfl, hsP.cellAt 1 rfl 0 rfl, hsP.cellAt 1 rfl 1 rfl, hsP.cellAt 2 rfl 0 rfl, hsP.cellAt 2 rfl 1 rfl⟩, ?_⟩
          (repeat (first | (apply t4_skip rfl (by rfl); try simp only [Act.put, List.setIfInBounds_toArray, List.set_cons_zero, List.set_cons_succ]) | (apply t4_float rfl (by rfl); (· (intro w' hS; go_simp <;> with_reducible rfl)); (try simp only [Act.put, List.setIfInBounds_toArray, List.set_cons_zero, List.set_cons_succ]))))
          refine t4_last rfl (by rfl) (fun K hK => ?_)
          have k0_0 := hsP.cellAt 0 rfl 0 rfl
          have k0_1 := hsP.cellAt 0 rfl 1 rfl
          have k0_2 := hsP.cellAt 0 rfl 2 rfl
          have k1_0 := hsP.cellAt 1 rfl 0 rfl
          have k1_1 := hsP.cellAt 1 rfl 1 rfl
          have k2_0 := hsP.cellAt 2 rfl 0 rfl
          have k2_1 := hsP.cellAt 2 rfl 1 rfl
          have k3_0 := hsP.cellAt 3 rfl 0 rfl
          have k3_1 := hsP.cellAt 3 rfl 1 rfl
          have k4_0 := hsP.cellAt 4 rfl 0 rfl
          have f0 := (hsP.freeAt 3 rfl 0)
          have f1 := (hsP.freeAt 3 rfl 1)
          have hq := (hsP.set (p := [_, _, _]) (by simp <;> omega) 0 (.slice (some ⟨gP, 0, none⟩) (U + 1) cP)).set (p := [_, _, _]) (by simp <;> omega) 1 (.slice (some ⟨w6.heap.size, 0, none⟩) l.length l.length)
          have hgG := (hsP.box (wM.heap.size, #[.slice none 0 0, .slice none 0 0], 53) (by simp)).2.1
          simp only at hgG
          go_wp2_with fail
          refine t4_nil (NoPanic.normal ?_)
          go_wp2_with fail
          go_meet
          case rel =>
            have ho := ((OnlyAt.refl [wM.heap.size] wP).setCell (p := ⟨wM.heap.size, 0, none⟩) (by simp) (.slice (some ⟨gP, 0, none⟩) (U + 1) cP)).setCell (p := ⟨wM.heap.size, 1, none⟩) (by simp) (.slice (some ⟨w6.heap.size, 0, none⟩) l.length l.length)
            have o1 := ownSl_ints (l := El ++ [Er]) (by have h := row_frame HRP.out (fun k hk => ho.block k (by simp [Value.ownBlock] at hk ⊢; omega)); simpa [ivals] using h) (by rw [List.length_append, HEL.out]; rfl) (fun b hb => by
              rcases List.mem_append.1 hb with hb | hb
              · exact HIE.out b hb
              · obtain rfl : b = Er := by simpa using hb
                exact hIr)
            have o2 := ownSl_only HOM_55.out ho (fun k h1 h2 => by simp at h1 h2; omega)
            refine ⟨wM.heap.size, _, cP, _, l.length, rfl, (hq.up hq.hi (Nat.le_refl _)).sub (fun x hx => ?_), ⟨[gP] ++ [w6.heap.size], mk_own ⟨_, rfl, o1⟩ ⟨_, rfl, o2⟩, by simp; omega, by simp; omega⟩, Lib.hid (by omega)⟩
            simp only [List.mem_cons, List.not_mem_nil, or_false] at hx
            rcases hx with rfl | rfl | rfl | rfl <;> simp
      · refine t4_hard rfl (by rfl) (fun K hK => ?_)
        go_wp2_with fail
        have hs56 := hs7.alloc #[.slice none 0 0, .slice none 0 0] 53 (n := w6.heap.size) (by simp)
        have HROW_57 := Lib.hid (ownsRow_below HROW.out (belowA _ (.cells #[.slice none 0 0, .slice none 0 0] 53)))
        clear HROW
        have hz_wA : w6.heap.size + 1 ≤ ((w6.alloc (.cells #[.slice none 0 0, .slice none 0 0] 53))).heap.size := by simp
        generalize hgen_wA : (w6.alloc (.cells #[.slice none 0 0, .slice none 0 0] 53)) = wA at *
        clear hgen_wA
        refine ⟨⟨hs56.cellAt 0 rfl 0 rfl, hs56.cellAt 0 rfl 1 rfl, hs56.cellAt 0 rfl 2 rfl, hs56.cellAt 1 rfl 0 rfl, hs56.cellAt 1 rfl 1 rfl, hs56.cellAt 2 rfl 0 rfl, hs56.cellAt 2 rfl 1 rfl⟩, ?_⟩
        (repeat (first | (apply t4_skip rfl (by rfl); try simp only [Act.put, List.setIfInBounds_toArray, List.set_cons_zero, List.set_cons_succ]) | (apply t4_float rfl (by rfl); (· (intro w' hS; go_simp <;> with_reducible rfl)); (try simp only [Act.put, List.setIfInBounds_toArray, List.set_cons_zero, List.set_cons_succ]))))
        refine t4_fork2 ?_ ?_
        · refine t4_hard rfl (by rfl) (fun K hK => ?_)
          go_wp2_with fail
          have hs58 := hs56.alloc #[.int .i64 Er] 2 (n := wA.heap.size) (by simp)
          have HROW_59 := Lib.hid (ownsRow_below HROW_57.out (belowA _ (.cells #[.int .i64 Er] 2)))
          clear HROW_57
          refine ⟨⟨hs58.cellAt 0 rfl 0 rfl, hs58.cellAt 0 rfl 1 rfl, hs58.cellAt 0 rfl 2 rfl, hs58.cellAt 1 rfl 0 rfl, hs58.cellAt 1 rfl 1 rfl, hs58.cellAt 2 rfl 0 rfl, hs58.cellAt 2 rfl 1 rfl⟩, ?_⟩
          (repeat (first | (apply t4_skip rfl (by rfl); try simp only [Act.put, List.setIfInBounds_toArray, List.set_cons_zero, List.set_cons_succ]) | (apply t4_float rfl (by rfl); (· (intro w' hS; go_simp <;> with_reducible rfl)); (try simp only [Act.put, List.setIfInBounds_toArray, List.set_cons_zero, List.set_cons_succ]))))
          refine t4_fork2 ?_ ?_
          · refine t4_hard rfl (by rfl) (fun K hK => ?_)
            refine wp_append_row _ _ _ _ rfl E_ints (v := .slice (some ⟨gC, 0, none⟩) U cC) rfl HROW_59.out (vs := [.int .i64 Er]) rfl (one_int _) ⟨wA.heap.size, 0, none⟩ 1 rfl (news1 (hs58.cellAt 4 rfl 0 rfl)) (by omega) ?_
            intro gP cP wP hat hrowP hbutP hltP
            have hgP : gP = gC ∨ gP = wA.heap.size + 1 := by simpa [Value.ownBlock] using hat.imp Eq.symm id
            have hbutP : But [gC] (wA.alloc (.cells #[.int .i64 Er] 2)) wP := hbutP
            have hsP := hs58.butIv hbutP (fun k hk => by simp at hk; omega) (fun x hx => by
              simp only [List.mem_append, List.mem_cons, List.not_mem_nil, or_false, false_or, or_assoc, List.nil_append] at hx ⊢
              rcases hx with rfl | rfl | rfl | rfl | rfl <;> (simp only; omega))
            have HRP := Lib.hid (show wP.ownsRow 0 2 1 (.slice (some ⟨gP, 0, none⟩) (U + 1) cP) (U + 1) (ivals El ++ [.int .i64 Er]) from hrowP)
            clear hat hrowP
            clear HROW_59
            have hz_wP : wA.heap.size + 1 ≤ wP.heap.size := by have h9 := hbutP.size; (try simp at h9); omega
            refine hK _ _ ⟨⟨hsP.cellAt 0 rfl 0 rfl, hsP.cellAt 0 rfl 1 rfl, hsP.cellAt 0 rfl 2 rfl, hsP.cellAt 1 rfl 0 rfl, hsP.cellAt 1 rfl 1 rfl, hsP.cellAt 2 rfl 0 rfl, hsP.cellAt 2 rfl 1 rfl⟩, ?_⟩
            (repeat (first | (apply t4_skip rfl (by rfl); try simp only [Act.put, List.setIfInBounds_toArray, List.set_cons_zero, List.set_cons_succ]) | (apply t4_float rfl (by rfl); (· (intro w' hS; go_simp <;> with_reducible rfl)); (try simp only [Act.put, List.setIfInBounds_toArray, List.set_cons_zero, List.set_cons_succ]))))
            refine t4_hard rfl (by rfl) (fun K hK => ?_)
            refine wp_make_rep _ _ _ 28 rfl E_ints (0 : Int) own0_int l.length (by omega) rfl rfl ?_
            intro wM hownM hbM hzM
            have HOM : Hid (OwnSl [wP.heap.size] wM (.slice (some ⟨wP.heap.size, 0, none⟩) l.length l.length) (List.replicate l.length (0 : Int))) := Lib.hid (by simpa using hownM)
            have hgM : wP.heap.size < wM.heap.size := by rw [hzM]; simp
            clear hownM hzM
            have hz_wM : wP.heap.size ≤ wM.heap.size := by have h9 := hbM.size; (try simp at h9); omega
            have hs60 := hsP.step hbM
            have HRP_61 := Lib.hid (ownsRow_below HRP.out hbM)
            clear HRP
            refine hK _ _ ⟨⟨hs60.cellAt 0 rfl 0 rfl, hs60.cellAt 0 rfl 1 rfl, hs60.cellAt 0 rfl 2 rfl, hs60.cellAt 1 rfl 0 rfl, hs60.cellAt 1 rfl 1 rfl, hs60.cellAt 2 rfl 0 rfl, hs60.cellAt 2 rfl 1 rfl⟩, ?_⟩
            (repeat (first | (apply t4_skip rfl (by rfl); try simp only [Act.put, List.setIfInBounds_toArray, List.set_cons_zero, List.set_cons_succ]) | (apply t4_float rfl (by rfl); (· (intro w' hS; go_simp <;> with_reducible rfl)); (try simp only [Act.put, List.setIfInBounds_toArray, List.set_cons_zero, List.set_cons_succ]))))
            refine t4_last rfl (by rfl) (fun K hK => ?_)
            have k0_0 := hs60.cellAt 0 rfl 0 rfl
            have k0_1 := hs60.cellAt 0 rfl 1 rfl
            have k0_2 := hs60.cellAt 0 rfl 2 rfl
            have k1_0 := hs60.cellAt 1 rfl 0 rfl
            have k1_1 := hs60.cellAt 1 rfl 1 rfl
            have k2_0 := hs60.cellAt 2 rfl 0 rfl
            have k2_1 := hs60.cellAt 2 rfl 1 rfl
            have k3_0 := hs60.cellAt 3 rfl 0 rfl
            have k3_1 := hs60.cellAt 3 rfl 1 rfl
            have k4_0 := hs60.cellAt 4 rfl 0 rfl
            have f0 := (hs60.freeAt 3 rfl 0)
            have f1 := (hs60.freeAt 3 rfl 1)
            have hq := (hs60.set (p := [_, _, _]) (by simp <;> omega) 0 (.slice (some ⟨gP, 0, none⟩) (U + 1) cP)).set (p := [_, _, _]) (by simp <;> omega) 1 (.slice (some ⟨wP.heap.size, 0, none⟩) l.length l.length)
            have hgG := (hs60.box (w6.heap.size, #[.slice none 0 0, .slice none 0 0], 53) (by simp)).2.1
            simp only at hgG
            go_wp2_with fail
            refine t4_nil (NoPanic.normal ?_)
            go_wp2_with fail
            go_meet
            case rel =>
              have ho := ((OnlyAt.refl [w6.heap.size] wM).setCell (p := ⟨w6.heap.size, 0, none⟩) (by simp) (.slice (some ⟨gP, 0, none⟩) (U + 1) cP)).setCell (p := ⟨w6.heap.size, 1, none⟩) (by simp) (.slice (some ⟨wP.heap.size, 0, none⟩) l.length l.length)
              have o1 := ownSl_ints (l := El ++ [Er]) (by have h := row_frame HRP_61.out (fun k hk => ho.block k (by simp [Value.ownBlock] at hk ⊢; omega)); simpa [ivals] using h) (by rw [List.length_append, HEL.out]; rfl) (fun b hb => by
                rcases List.mem_append.1 hb with hb | hb
                · exact HIE.out b hb
                · obtain rfl : b = Er := by simpa using hb
                  exact hIr)
              have o2 := ownSl_only HOM.out ho (fun k h1 h2 => by simp at h1 h2; omega)
              refine ⟨w6.heap.size, _, cP, _, l.length, rfl, (hq.up hq.hi (Nat.le_refl _)).sub (fun x hx => ?_), ⟨[gP] ++ [wP.heap.size], mk_own ⟨_, rfl, o1⟩ ⟨_, rfl, o2⟩, by simp; omega, by simp; omega⟩, Lib.hid (by omega)⟩
              simp only [List.mem_cons, List.not_mem_nil, or_false] at hx
              rcases hx with rfl | rfl | rfl | rfl <;> simp
          · refine t4_hard rfl (by rfl) (fun K hK => ?_)
            refine wp_make_rep _ _ _ 28 rfl E_ints (0 : Int) own0_int l.length (by omega) rfl rfl ?_
            intro wM hownM hbM hzM
            have HOM : Hid (OwnSl [wA.heap.size + 1] wM (.slice (some ⟨wA.heap.size + 1, 0, none⟩) l.length l.length) (List.replicate l.length (0 : Int))) := Lib.hid (by simpa using hownM)
            have hgM : wA.heap.size + 1 < wM.heap.size := by rw [hzM]; simp
            clear hownM hzM
            have hz_wM : wA.heap.size + 1 ≤ wM.heap.size := by have h9 := hbM.size; (try simp at h9); omega
            have hs62 := hs58.step hbM
            have HROW_63 := Lib.hid (ownsRow_below HROW_59.out hbM)
            clear HROW_59
            refine hK _ _ ⟨⟨hs62.cellAt 0 rfl 0 rfl, hs62.cellAt 0 rfl 1 rfl, hs62.cellAt 0 rfl 2 rfl, hs62.cellAt 1 rfl 0 rfl, hs62.cellAt 1 rfl 1 rfl, hs62.cellAt 2 rfl 0 rfl, hs62.cellAt 2 rfl 1 rfl⟩, ?_⟩
            (repeat (first | (apply t4_skip rfl (by rfl); try simp only [Act.put, List.setIfInBounds_toArray, List.set_cons_zero, List.set_cons_succ]) | (apply t4_float rfl (by rfl); (· (intro w' hS; go_simp <;> with_reducible rfl)); (try simp only [Act.put, List.setIfInBounds_toArray, List.set_cons_zero, List.set_cons_succ]))))
            refine t4_hard rfl (by rfl) (fun K hK => ?_)
            refine wp_append_row _ _ _ _ rfl E_ints (v := .slice (some ⟨gC, 0, none⟩) U cC) rfl HROW_63.out (vs := [.int .i64 Er]) rfl (one_int _) ⟨wA.heap.size, 0, none⟩ 1 rfl (news1 (hs62.cellAt 4 rfl 0 rfl)) (by omega) ?_
            intro gP cP wP hat hrowP hbutP hltP
            have hgP : gP = gC ∨ gP = wM.heap.size := by simpa [Value.ownBlock] using hat.imp Eq.symm id
            have hbutP : But [gC] wM wP := hbutP
            have hsP := hs62.butIv hbutP (fun k hk => by simp at hk; omega) (fun x hx => by
              simp only [List.mem_append, List.mem_cons, List.not_mem_nil, or_false, false_or, or_assoc, List.nil_append] at hx ⊢
              rcases hx with rfl | rfl | rfl | rfl | rfl <;> (simp only; omega))
            have HRP := Lib.hid (show wP.ownsRow 0 2 1 (.slice (some ⟨gP, 0, none⟩) (U + 1) cP) (U + 1) (ivals El ++ [.int .i64 Er]) from hrowP)
            clear hat hrowP
            clear HROW_63
            have hz_wP : wM.heap.size ≤ wP.heap.size := by have h9 := hbutP.size; (try simp at h9); omega
            have HOM_64 := Lib.hid (ownSl_but HOM.out hbutP (fun k hk => by (try simp at hk ⊢) <;> omega))
            clear HOM
            refine hK _ _ ⟨⟨hsP.cellAt 0 rfl 0 rfl, hsP.cellAt 0 rfl 1 rfl, hsP.cellAt 0 rfl 2 rfl, hsP.cellAt 1 rfl 0 rfl, hsP.cellAt 1 rfl 1 rfl, hsP.cellAt 2 rfl 0 rfl, hsP.cellAt 2 rfl 1 rfl⟩, ?_⟩
            (repeat (first | (apply t4_skip rfl (by rfl); try simp only [Act.put, List.setIfInBounds_toArray, List.set_cons_zero, List.set_cons_succ]) | (apply t4_float rfl (by rfl); (· (intro w' hS; go_simp <;> with_reducible rfl)); (try simp only [Act.put, List.setIfInBounds_toArray, List.set_cons_zero, List.set_cons_succ]))))
            refine t4_last rfl (by rfl) (fun K hK => ?_)
            have k0_0 := hsP.cellAt 0 rfl 0 rfl
            have k0_1 := hsP.cellAt 0 rfl 1 rfl
            have k0_2 := hsP.cellAt 0 rfl 2 rfl
            have k1_0 := hsP.cellAt 1 rfl 0 rfl
            have k1_1 := hsP.cellAt 1 rfl 1 rfl
            have k2_0 := hsP.cellAt 2 rfl 0 rfl
            have k2_1 := hsP.cellAt 2 rfl 1 rfl
            have k3_0 := hsP.cellAt 3 rfl 0 rfl
            have k3_1 := hsP.cellAt 3 rfl 1 rfl
            have k4_0 := hsP.cellAt 4 rfl 0 rfl
            have f0 := (hsP.freeAt 3 rfl 0)
            have f1 := (hsP.freeAt 3 rfl 1)
            have hq := (hsP.set (p := [_, _, _]) (by simp <;> omega) 0 (.slice (some ⟨gP, 0, none⟩) (U + 1) cP)).set (p := [_, _, _]) (by simp <;> omega) 1 (.slice (some ⟨wA.heap.size + 1, 0, none⟩) l.length l.length)
            have hgG := (hsP.box (w6.heap.size, #[.slice none 0 0, .slice none 0 0], 53) (by simp)).2.1
            simp only at hgG
            go_wp2_with fail
            refine t4_nil (NoPanic.normal ?_)
            go_wp2_with fail
            go_meet
            case rel =>
              have ho := ((OnlyAt.refl [w6.heap.size] wP).setCell (p := ⟨w6.heap.size, 0, none⟩) (by simp) (.slice (some ⟨gP, 0, none⟩) (U + 1) cP)).setCell (p := ⟨w6.heap.size, 1, none⟩) (by simp) (.slice (some ⟨wA.heap.size + 1, 0, none⟩) l.length l.length)
              have o1 := ownSl_ints (l := El ++ [Er]) (by have h := row_frame HRP.out (fun k hk => ho.block k (by simp [Value.ownBlock] at hk ⊢; omega)); simpa [ivals] using h) (by rw [List.length_append, HEL.out]; rfl) (fun b hb => by
                rcases List.mem_append.1 hb with hb | hb
                · exact HIE.out b hb
                · obtain rfl : b = Er := by simpa using hb
                  exact hIr)
              have o2 := ownSl_only HOM_64.out ho (fun k h1 h2 => by simp at h1 h2; omega)
              refine ⟨w6.heap.size, _, cP, _, l.length, rfl, (hq.up hq.hi (Nat.le_refl _)).sub (fun x hx => ?_), ⟨[gP] ++ [wA.heap.size + 1], mk_own ⟨_, rfl, o1⟩ ⟨_, rfl, o2⟩, by simp; omega, by simp; omega⟩, Lib.hid (by omega)⟩
              simp only [List.mem_cons, List.not_mem_nil, or_false] at hx
              rcases hx with rfl | rfl | rfl | rfl <;> simp
        · refine t4_hard rfl (by rfl) (fun K hK => ?_)
          refine wp_make_rep _ _ _ 28 rfl E_ints (0 : Int) own0_int l.length (by omega) rfl rfl ?_
          intro wM hownM hbM hzM
          have HOM : Hid (OwnSl [wA.heap.size] wM (.slice (some ⟨wA.heap.size, 0, none⟩) l.length l.length) (List.replicate l.length (0 : Int))) := Lib.hid (by simpa using hownM)
          have hgM : wA.heap.size < wM.heap.size := by rw [hzM]; simp
          clear hownM hzM
          have hz_wM : wA.heap.size ≤ wM.heap.size := by have h9 := hbM.size; (try simp at h9); omega
          have hs65 := hs56.step hbM
          have HROW_66 := Lib.hid (ownsRow_below HROW_57.out hbM)
          clear HROW_57
          refine hK _ _ ⟨⟨hs65.cellAt 0 rfl 0 rfl, hs65.cellAt 0 rfl 1 rfl, hs65.cellAt 0 rfl 2 rfl, hs65.cellAt 1 rfl 0 rfl, hs65.cellAt 1 rfl 1 rfl, hs65.cellAt 2 rfl 0 rfl, hs65.cellAt 2 rfl 1 rfl⟩, ?_⟩
          (repeat (first | (apply t4_skip rfl (by rfl); try simp only [Act.put, List.setIfInBounds_toArray, List.set_cons_zero, List.set_cons_succ]) | (apply t4_float rfl (by rfl); (· (intro w' hS; go_simp <;> with_reducible rfl)); (try simp only [Act.put, List.setIfInBounds_toArray, List.set_cons_zero, List.set_cons_succ]))))
          refine t4_hard rfl (by rfl) (fun K hK => ?_)
          go_wp2_with fail
          have hs67 := hs65.alloc #[.int .i64 Er] 2 (n := wM.heap.size) (by simp)
          have HROW_68 := Lib.hid (ownsRow_below HROW_66.out (belowA _ (.cells #[.int .i64 Er] 2)))
          clear HROW_66
          have HOM_69 := Lib.hid (ownSl_mono HOM.out (belowA _ (.cells #[.int .i64 Er] 2)))
          clear HOM
          refine ⟨⟨hs67.cellAt 0 rfl 0 rfl, hs67.cellAt 0 rfl 1 rfl, hs67.cellAt 0 rfl 2 rfl, hs67.cellAt 1 rfl 0 rfl, hs67.cellAt 1 rfl 1 rfl, hs67.cellAt 2 rfl 0 rfl, hs67.cellAt 2 rfl 1 rfl⟩, ?_⟩
          (repeat (first | (apply t4_skip rfl (by rfl); try simp only [Act.put, List.setIfInBounds_toArray, List.set_cons_zero, List.set_cons_succ]) | (apply t4_float rfl (by rfl); (· (intro w' hS; go_simp <;> with_reducible rfl)); (try simp only [Act.put, List.setIfInBounds_toArray, List.set_cons_zero, List.set_cons_succ]))))
          refine t4_hard rfl (by rfl) (fun K hK => ?_)
          refine wp_append_row _ _ _ _ rfl E_ints (v := .slice (some ⟨gC, 0, none⟩) U cC) rfl HROW_68.out (vs := [.int .i64 Er]) rfl (one_int _) ⟨wM.heap.size, 0, none⟩ 1 rfl (news1 (hs67.cellAt 4 rfl 0 rfl)) (by omega) ?_
          intro gP cP wP hat hrowP hbutP hltP
          have hgP : gP = gC ∨ gP = wM.heap.size + 1 := by simpa [Value.ownBlock] using hat.imp Eq.symm id
          have hbutP : But [gC] (wM.alloc (.cells #[.int .i64 Er] 2)) wP := hbutP
          have hsP := hs67.butIv hbutP (fun k hk => by simp at hk; omega) (fun x hx => by
            simp only [List.mem_append, List.mem_cons, List.not_mem_nil, or_false, false_or, or_assoc, List.nil_append] at hx ⊢
            rcases hx with rfl | rfl | rfl | rfl | rfl <;> (simp only; omega))
          have HRP := Lib.hid (show wP.ownsRow 0 2 1 (.slice (some ⟨gP, 0, none⟩) (U + 1) cP) (U + 1) (ivals El ++ [.int .i64 Er]) from hrowP)
          clear hat hrowP
          clear HROW_68
          have hz_wP : wM.heap.size + 1 ≤ wP.heap.size := by have h9 := hbutP.size; (try simp at h9); omega
          have HOM_70 := Lib.hid (ownSl_but HOM_69.out hbutP (fun k hk => by (try simp at hk ⊢) <;> omega))
          clear HOM_69
          refine hK _ _ ⟨⟨hsP.cellAt 0 rfl 0 rfl, hsP.cellAt 0 rfl 1 rfl, hsP.cellAt 0 rfl 2 rfl, hsP.cellAt 1 rfl 0 rfl, hsP.cellAt 1 rfl 1 rfl, hsP.cellAt 2 rfl 0 rfl, hsP.cellAt 2 rfl 1 rfl⟩, ?_⟩
          (repeat (first | (apply t4_skip rfl (by rfl); try simp only [Act.put, List.setIfInBounds_toArray, List.set_cons_zero, List.set_cons_succ]) | (apply t4_float rfl (by rfl); (· (intro w' hS; go_simp <;> with_reducible rfl)); (try simp only [Act.put, List.setIfInBounds_toArray, List.set_cons_zero, List.set_cons_succ]))))
          refine t4_last rfl (by rfl) (fun K hK => ?_)
          have k0_0 := hsP.cellAt 0 rfl 0 rfl
          have k0_1 := hsP.cellAt 0 rfl 1 rfl
          have k0_2 := hsP.cellAt 0 rfl 2 rfl
          have k1_0 := hsP.cellAt 1 rfl 0 rfl
          have k1_1 := hsP.cellAt 1 rfl 1 rfl
          have k2_0 := hsP.cellAt 2 rfl 0 rfl
          have k2_1 := hsP.cellAt 2 rfl 1 rfl
          have k3_0 := hsP.cellAt 3 rfl 0 rfl
          have k3_1 := hsP.cellAt 3 rfl 1 rfl
          have k4_0 := hsP.cellAt 4 rfl 0 rfl
          have f0 := (hsP.freeAt 3 rfl 0)
          have f1 := (hsP.freeAt 3 rfl 1)
          have hq := (hsP.set (p := [_, _, _]) (by simp <;> omega) 0 (.slice (some ⟨gP, 0, none⟩) (U + 1) cP)).set (p := [_, _, _]) (by simp <;> omega) 1 (.slice (some ⟨wA.heap.size, 0, none⟩) l.length l.length)
          have hgG := (hsP.box (w6.heap.size, #[.slice none 0 0, .slice none 0 0], 53) (by simp)).2.1
          simp only at hgG
          go_wp2_with fail
          refine t4_nil (NoPanic.normal ?_)
          go_wp2_with fail
          go_meet
          case rel =>
            have ho := ((OnlyAt.refl [w6.heap.size] wP).setCell (p := ⟨w6.heap.size, 0, none⟩) (by simp) (.slice (some ⟨gP, 0, none⟩) (U + 1) cP)).setCell (p := ⟨w6.heap.size, 1, none⟩) (by simp) (.slice (some ⟨wA.heap.size, 0, none⟩) l.length l.length)
            have o1 := ownSl_ints (l := El ++ [Er]) (by have h := row_frame HRP.out (fun k hk => ho.block k (by simp [Value.ownBlock] at hk ⊢; omega)); simpa [ivals] using h) (by rw [List.length_append, HEL.out]; rfl) (fun b hb => by
              rcases List.mem_append.1 hb with hb | hb
              · exact HIE.out b hb
              · obtain rfl : b = Er := by simpa using hb
                exact hIr)
            have o2 := ownSl_only HOM_70.out ho (fun k h1 h2 => by simp at h1 h2; omega)
            refine ⟨w6.heap.size, _, cP, _, l.length, rfl, (hq.up hq.hi (Nat.le_refl _)).sub (fun x hx => ?_), ⟨[gP] ++ [wA.heap.size], mk_own ⟨_, rfl, o1⟩ ⟨_, rfl, o2⟩, by simp; omega, by simp; omega⟩, Lib.hid (by omega)⟩
            simp only [List.mem_cons, List.not_mem_nil, or_false] at hx
            rcases hx with rfl | rfl | rfl | rfl <;> simp
    · refine t4_hard rfl (by rfl) (fun K hK => ?_)
      go_wp2_with fail
      have hs71 := hs4.alloc #[.int .i64 Er] 2 (n := wd5.heap.size) (by simp)
      refine ⟨⟨hs71.cellAt 0 rfl 0 rfl, hs71.cellAt 0 rfl 1 rfl, hs71.cellAt 0 rfl 2 rfl, hs71.cellAt 1 rfl 0 rfl, hs71.cellAt 1 rfl 1 rfl, hs71.cellAt 2 rfl 0 rfl, hs71.cellAt 2 rfl 1 rfl⟩, ?_⟩
      (repeat (first | (apply t4_skip rfl (by rfl); try simp only [Act.put, List.setIfInBounds_toArray, List.set_cons_zero, List.set_cons_succ]) | (apply t4_float rfl (by rfl); (· (intro w' hS; go_simp <;> with_reducible rfl)); (try simp only [Act.put, List.setIfInBounds_toArray, List.set_cons_zero, List.set_cons_succ]))))
      refine t4_fork3 ?_ ?_ ?_
      · refine t4_hard rfl (by rfl) (fun K hK => ?_)
        go_wp2_with (go_at_call 39; refine (cloneIntsA_c El _ _ (Rd.mono HE.out hs71.bel) (by rw [HEL.out]; omega)).mono ?_; rintro e w72 ⟨v4, rfl, hA, hbw72⟩)
        have hz_w72 : wd5.heap.size + 1 ≤ w72.heap.size := by have h9 := hbw72.size; (try simp at h9); omega
        have hs73 := hs71.step hbw72
        obtain ⟨gC, cC, rfl, hgC1, hgC2⟩ := hA.form' (by rw [HEL.out]; omega)
        have HROW := Lib.hid (row_base (acc_ints_get hA).1)
        have HIE := Lib.hid (acc_ints_get hA).2.2
        rw [HEL.out] at HROW
        rw [HEL.out]
        (try simp at hgC1)
        clear hA
        refine ⟨⟨hs73.cellAt 0 rfl 0 rfl, hs73.cellAt 0 rfl 1 rfl, hs73.cellAt 0 rfl 2 rfl, hs73.cellAt 1 rfl 0 rfl, hs73.cellAt 1 rfl 1 rfl, hs73.cellAt 2 rfl 0 rfl, hs73.cellAt 2 rfl 1 rfl⟩, ?_⟩
        (repeat (first | (apply t4_skip rfl (by rfl); try simp only [Act.put, List.setIfInBounds_toArray, List.set_cons_zero, List.set_cons_succ]) | (apply t4_float rfl (by rfl); (· (intro w' hS; go_simp <;> with_reducible rfl)); (try simp only [Act.put, List.setIfInBounds_toArray, List.set_cons_zero, List.set_cons_succ]))))
        refine t4_fork3 ?_ ?_ ?_
        · refine t4_hard rfl (by rfl) (fun K hK => ?_)
          refine wp_append_row _ _ _ _ rfl E_ints (v := .slice (some ⟨gC, 0, none⟩) U cC) rfl HROW.out (vs := [.int .i64 Er]) rfl (one_int _) ⟨wd5.heap.size, 0, none⟩ 1 rfl (news1 (hs73.cellAt 3 rfl 0 rfl)) (by omega) ?_
          intro gP cP wP hat hrowP hbutP hltP
          have hgP : gP = gC ∨ gP = w72.heap.size := by simpa [Value.ownBlock] using hat.imp Eq.symm id
          have hbutP : But [gC] w72 wP := hbutP
          have hsP := hs73.butIv hbutP (fun k hk => by simp at hk; omega) (fun x hx => by
            simp only [List.mem_append, List.mem_cons, List.not_mem_nil, or_false, false_or, or_assoc, List.nil_append] at hx ⊢
            rcases hx with rfl | rfl | rfl | rfl <;> (simp only; omega))
          have HRP := Lib.hid (show wP.ownsRow 0 2 1 (.slice (some ⟨gP, 0, none⟩) (U + 1) cP) (U + 1) (ivals El ++ [.int .i64 Er]) from hrowP)
          clear hat hrowP
          clear HROW
          have hz_wP : w72.heap.size ≤ wP.heap.size := by have h9 := hbutP.size; (try simp at h9); omega
          refine hK _ _ ⟨⟨hsP.cellAt 0 rfl 0 rfl, hsP.cellAt 0 rfl 1 rfl, hsP.cellAt 0 rfl 2 rfl, hsP.cellAt 1 rfl 0 rfl, hsP.cellAt 1 rfl 1 rfl, hsP.cellAt 2 rfl 0 rfl, hsP.cellAt 2 rfl 1 rfl⟩, ?_⟩
          (repeat (first | (apply t4_skip rfl (by rfl); try simp only [Act.put, List.setIfInBounds_toArray, List.set_cons_zero, List.set_cons_succ]) | (apply t4_float rfl (by rfl); (· (intro w' hS; go_simp <;> with_reducible rfl)); (try simp only [Act.put, List.setIfInBounds_toArray, List.set_cons_zero, List.set_cons_succ]))))
          refine t4_fork2 ?_ ?_
          · refine t4_hard rfl (by rfl) (fun K hK => ?_)
            refine wp_make_rep _ _ _ 28 rfl E_ints (0 : Int) own0_int l.length (by omega) rfl rfl ?_
            intro wM hownM hbM hzM
            have HOM : Hid (OwnSl [wP.heap.size] wM (.slice (some ⟨wP.heap.size, 0, none⟩) l.length l.length) (List.replicate l.length (0 : Int))) := Lib.hid (by simpa using hownM)
            have hgM : wP.heap.size < wM.heap.size := by rw [hzM]; simp
            clear hownM hzM
            have hz_wM : wP.heap.size ≤ wM.heap.size := by have h9 := hbM.size; (try simp at h9); omega
            have hs74 := hsP.step hbM
            have HRP_75 := Lib.hid (ownsRow_below HRP.out hbM)
            clear HRP
            refine hK _ _ ⟨⟨hs74.cellAt 0 rfl 0 rfl, hs74.cellAt 0 rfl 1 rfl, hs74.cellAt 0 rfl 2 rfl, hs74.cellAt 1 rfl 0 rfl, hs74.cellAt 1 rfl 1 rfl, hs74.cellAt 2 rfl 0 rfl, hs74.cellAt 2 rfl 1 rfl⟩, ?_⟩
            (repeat (first | (apply t4_skip rfl (by rfl); try simp only [Act.put, List.setIfInBounds_toArray, List.set_cons_zero, List.set_cons_succ]) | (apply t4_float rfl (by rfl); (· (intro w' hS; go_simp <;> with_reducible rfl)); (try simp only [Act.put, List.setIfInBounds_toArray, List.set_cons_zero, List.set_cons_succ]))))
            refine t4_hard rfl (by rfl) (fun K hK => ?_)
            go_wp2_with fail
            have hs76 := hs74.alloc #[.slice none 0 0, .slice none 0 0] 53 (n := wM.heap.size) (by simp)
            have HRP_77 := Lib.hid (ownsRow_below HRP_75.out (belowA _ (.cells #[.slice none 0 0, .slice none 0 0] 53)))
            clear HRP_75
            have HOM_78 := Lib.hid (ownSl_mono HOM.out (belowA _ (.cells #[.slice none 0 0, .slice none 0 0] 53)))
            clear HOM
            have hz_wA : wM.heap.size + 1 ≤ ((wM.alloc (.cells #[.slice none 0 0, .slice none 0 0] 53))).heap.size := by simp
            generalize hgen_wA : (wM.alloc (.cells #[.slice none 0 0, .slice none 0 0] 53)) = wA at *
            clear hgen_wA
            refine ⟨⟨hs76.cellAt 0 rfl 0 rfl, hs76.cellAt 0 rfl 1 rfl, hs76.cellAt 0 rfl 2 rfl, hs76.cellAt 1 rfl 0 rfl, hs76.cellAt 1 rfl 1 rfl, hs76.cellAt 2 rfl 0 rfl, hs76.cellAt 2 rfl 1 rfl⟩, ?_⟩
            (repeat (first | (apply t4_skip rfl (by rfl); try simp only [Act.put, List.setIfInBounds_toArray, List.set_cons_zero, List.set_cons_succ]) | (apply t4_float rfl (by rfl); (· (intro w' hS; go_simp <;> with_reducible rfl)); (try simp only [Act.put, List.setIfInBounds_toArray, List.set_cons_zero, List.set_cons_succ]))))
            refine t4_last rfl (by rfl) (fun K hK => ?_)
            have k0_0 := hs76.cellAt 0 rfl 0 rfl
            have k0_1 := hs76.cellAt 0 rfl 1 rfl
            have k0_2 := hs76.cellAt 0 rfl 2 rfl
            have k1_0 := hs76.cellAt 1 rfl 0 rfl
            have k1_1 := hs76.cellAt 1 rfl 1 rfl
            have k2_0 := hs76.cellAt 2 rfl 0 rfl
            have k2_1 := hs76.cellAt 2 rfl 1 rfl
            have k3_0 := hs76.cellAt 3 rfl 0 rfl
            have k4_0 := hs76.cellAt 4 rfl 0 rfl
            have k4_1 := hs76.cellAt 4 rfl 1 rfl
            have f0 := (hs76.freeAt 4 rfl 0)
            have f1 := (hs76.freeAt 4 rfl 1)
            have hq := (hs76.set (p := [_, _, _, _]) (by simp <;> omega) 0 (.slice (some ⟨gP, 0, none⟩) (U + 1) cP)).set (p := [_, _, _, _]) (by simp <;> omega) 1 (.slice (some ⟨wP.heap.size, 0, none⟩) l.length l.length)
            have hgG := (hs76.box (wM.heap.size, #[.slice none 0 0, .slice none 0 0], 53) (by simp)).2.1
            simp only at hgG
            go_wp2_with fail
            refine t4_nil (NoPanic.normal ?_)
            go_wp2_with fail
            go_meet
            case rel =>
              have ho := ((OnlyAt.refl [wM.heap.size] wA).setCell (p := ⟨wM.heap.size, 0, none⟩) (by simp) (.slice (some ⟨gP, 0, none⟩) (U + 1) cP)).setCell (p := ⟨wM.heap.size, 1, none⟩) (by simp) (.slice (some ⟨wP.heap.size, 0, none⟩) l.length l.length)
              have o1 := ownSl_ints (l := El ++ [Er]) (by have h := row_frame HRP_77.out (fun k hk => ho.block k (by simp [Value.ownBlock] at hk ⊢; omega)); simpa [ivals] using h) (by rw [List.length_append, HEL.out]; rfl) (fun b hb => by
                rcases List.mem_append.1 hb with hb | hb
                · exact HIE.out b hb
                · obtain rfl : b = Er := by simpa using hb
                  exact hIr)
              have o2 := ownSl_only HOM_78.out ho (fun k h1 h2 => by simp at h1 h2; omega)
              refine ⟨wM.heap.size, _, cP, _, l.length, rfl, (hq.up hq.hi (Nat.le_refl _)).sub (fun x hx => ?_), ⟨[gP] ++ [wP.heap.size], mk_own ⟨_, rfl, o1⟩ ⟨_, rfl, o2⟩, by simp; omega, by simp; omega⟩, Lib.hid (by omega)⟩
              simp only [List.mem_cons, List.not_mem_nil, or_false] at hx
              rcases hx with rfl | rfl | rfl | rfl <;> simp
          · refine t4_hard rfl (by rfl) (fun K hK => ?_)
            go_wp2_with fail
            have hs79 := hsP.alloc #[.slice none 0 0, .slice none 0 0] 53 (n := wP.heap.size) (by simp)
            have HRP_80 := Lib.hid (ownsRow_below HRP.out (belowA _ (.cells #[.slice none 0 0, .slice none 0 0] 53)))
            clear HRP
            have hz_wA : wP.heap.size + 1 ≤ ((wP.alloc (.cells #[.slice none 0 0, .slice none 0 0] 53))).heap.size := by simp
            generalize hgen_wA : (wP.alloc (.cells #[.slice none 0 0, .slice none 0 0] 53)) = wA at *
            clear hgen_wA
            refine ⟨⟨hs79.cellAt 0 rfl 0 rfl, hs79.cellAt 0 rfl 1 rfl, hs79.cellAt 0 rfl 2 rfl, hs79.cellAt 1 rfl 0 rfl, hs79.cellAt 1 rfl 1 rfl, hs79.cellAt 2 rfl 0 rfl, hs79.cellAt 2 rfl 1 rfl⟩, ?_⟩
            (repeat (first | (apply t4_skip rfl (by rfl); try simp only [Act.put, List.setIfInBounds_toArray, List.set_cons_zero, List.set_cons_succ]) | (apply t4_float rfl (by rfl); (· (intro w' hS; go_simp <;> with_reducible rfl)); (try simp only [Act.put, List.setIfInBounds_toArray, List.set_cons_zero, List.set_cons_succ]))))
            refine t4_hard rfl (by rfl) (fun K hK => ?_)
            refine wp_make_rep _ _ _ 28 rfl E_ints (0 : Int) own0_int l.length (by omega) rfl rfl ?_
            intro wM hownM hbM hzM
            have HOM : Hid (OwnSl [wA.heap.size] wM (.slice (some ⟨wA.heap.size, 0, none⟩) l.length l.length) (List.replicate l.length (0 : Int))) := Lib.hid (by simpa using hownM)
            have hgM : wA.heap.size < wM.heap.size := by rw [hzM]; simp
            clear hownM hzM
            have hz_wM : wA.heap.size ≤ wM.heap.size := by have h9 := hbM.size; (try simp at h9); omega
            have hs81 := hs79.step hbM
            have HRP_82 := Lib.hid (ownsRow_below HRP_80.out hbM)
            clear HRP_80
            refine hK _ _ ⟨⟨hs81.cellAt 0 rfl 0 rfl, hs81.cellAt 0 rfl 1 rfl, hs81.cellAt 0 rfl 2 rfl, hs81.cellAt 1 rfl 0 rfl, hs81.cellAt 1 rfl 1 rfl, hs81.cellAt 2 rfl 0 rfl, hs81.cellAt 2 rfl 1 rfl⟩, ?_⟩
            (repeat (first | (apply t4_skip rfl (by rfl); try simp only [Act.put, List.setIfInBounds_toArray, List.set_cons_zero, List.set_cons_succ]) | (apply t4_float rfl (by rfl); (· (intro w' hS; go_simp <;> with_reducible rfl)); (try simp only [Act.put, List.setIfInBounds_toArray, List.set_cons_zero, List.set_cons_succ]))))
            refine t4_last rfl (by rfl) (fun K hK => ?_)
            have k0_0 := hs81.cellAt 0 rfl 0 rfl
            have k0_1 := hs81.cellAt 0 rfl 1 rfl
            have k0_2 := hs81.cellAt 0 rfl 2 rfl
            have k1_0 := hs81.cellAt 1 rfl 0 rfl
            have k1_1 := hs81.cellAt 1 rfl 1 rfl
            have k2_0 := hs81.cellAt 2 rfl 0 rfl
            have k2_1 := hs81.cellAt 2 rfl 1 rfl
            have k3_0 := hs81.cellAt 3 rfl 0 rfl
            have k4_0 := hs81.cellAt 4 rfl 0 rfl
            have k4_1 := hs81.cellAt 4 rfl 1 rfl
            have f0 := (hs81.freeAt 4 rfl 0)
            have f1 := (hs81.freeAt 4 rfl 1)
            have hq := (hs81.set (p := [_, _, _, _]) (by simp <;> omega) 0 (.slice (some ⟨gP, 0, none⟩) (U + 1) cP)).set (p := [_, _, _, _]) (by simp <;> omega) 1 (.slice (some ⟨wA.heap.size, 0, none⟩) l.length l.length)
            have hgG := (hs81.box (wP.heap.size, #[.slice none 0 0, .slice none 0 0], 53) (by simp)).2.1
            simp only at hgG
            go_wp2_with fail
            refine t4_nil (NoPanic.normal ?_)
            go_wp2_with fail
            go_meet
            case rel =>
              have ho := ((OnlyAt.refl [wP.heap.size] wM).setCell (p := ⟨wP.heap.size, 0, none⟩) (by simp) (.slice (some ⟨gP, 0, none⟩) (U + 1) cP)).setCell (p := ⟨wP.heap.size, 1, none⟩) (by simp) (.slice (some ⟨wA.heap.size, 0, none⟩) l.length l.length)
              have o1 := ownSl_ints (l := El ++ [Er]) (by have h := row_frame HRP_82.out (fun k hk => ho.block k (by simp [Value.ownBlock] at hk ⊢; omega)); simpa [ivals] using h) (by rw [List.length_append, HEL.out]; rfl) (fun b hb => by
                rcases List.mem_append.1 hb with hb | hb
                · exact HIE.out b hb
                · obtain rfl : b = Er := by simpa using hb
                  exact hIr)
              have o2 := ownSl_only HOM.out ho (fun k h1 h2 => by simp at h1 h2; omega)
              refine ⟨wP.heap.size, _, cP, _, l.length, rfl, (hq.up hq.hi (Nat.le_refl _)).sub (fun x hx => ?_), ⟨[gP] ++ [wA.heap.size], mk_own ⟨_, rfl, o1⟩ ⟨_, rfl, o2⟩, by simp; omega, by simp; omega⟩, Lib.hid (by omega)⟩
              simp only [List.mem_cons, List.not_mem_nil, or_false] at hx
              rcases hx with rfl | rfl | rfl | rfl <;> simp
        · refine t4_hard rfl (by rfl) (fun K hK => ?_)
          refine wp_make_rep _ _ _ 28 rfl E_ints (0 : Int) own0_int l.length (by omega) rfl rfl ?_
          intro wM hownM hbM hzM
          have HOM : Hid (OwnSl [w72.heap.size] wM (.slice (some ⟨w72.heap.size, 0, none⟩) l.length l.length) (List.replicate l.length (0 : Int))) := Lib.hid (by simpa using hownM)
          have hgM : w72.heap.size < wM.heap.size := by rw [hzM]; simp
          clear hownM hzM
          have hz_wM : w72.heap.size ≤ wM.heap.size := by have h9 := hbM.size; (try simp at h9); omega
          have hs83 := hs73.step hbM
          have HROW_84 := Lib.hid (ownsRow_below HROW.out hbM)
          clear HROW
          refine hK _ _ ⟨⟨hs83.cellAt 0 rfl 0 rfl, hs83.cellAt 0 rfl 1 rfl, hs83.cellAt 0 rfl 2 rfl, hs83.cellAt 1 rfl 0 rfl, hs83.cellAt 1 rfl 1 rfl, hs83.cellAt 2 rfl 0 rfl, hs83.cellAt 2 rfl 1 rfl⟩, ?_⟩
          (repeat (first | (apply t4_skip rfl (by rfl); try simp only [Act.put, List.setIfInBounds_toArray, List.set_cons_zero, List.set_cons_succ]) | (apply t4_float rfl (by rfl); (· (intro w' hS; go_simp <;> with_reducible rfl)); (try simp only [Act.put, List.setIfInBounds_toArray, List.set_cons_zero, List.set_cons_succ]))))
          refine t4_fork2 ?_ ?_
          · refine t4_hard rfl (by rfl) (fun K hK => ?_)
            refine wp_append_row _ _ _ _ rfl E_ints (v := .slice (some ⟨gC, 0, none⟩) U cC) rfl HROW_84.out (vs := [.int .i64 Er]) rfl (one_int _) ⟨wd5.heap.size, 0, none⟩ 1 rfl (news1 (hs83.cellAt 3 rfl 0 rfl)) (by omega) ?_
            intro gP cP wP hat hrowP hbutP hltP
            have hgP : gP = gC ∨ gP = wM.heap.size := by simpa [Value.ownBlock] using hat.imp Eq.symm id
            have hbutP : But [gC] wM wP := hbutP
            have hsP := hs83.butIv hbutP (fun k hk => by simp at hk; omega) (fun x hx => by
              simp only [List.mem_append, List.mem_cons, List.not_mem_nil, or_false, false_or, or_assoc, List.nil_append] at hx ⊢
              rcases hx with rfl | rfl | rfl | rfl <;> (simp only; omega))
            have HRP := Lib.hid (show wP.ownsRow 0 2 1 (.slice (some ⟨gP, 0, none⟩) (U + 1) cP) (U + 1) (ivals El ++ [.int .i64 Er]) from hrowP)
            clear hat hrowP
            clear HROW_84
            have hz_wP : wM.heap.size ≤ wP.heap.size := by have h9 := hbutP.size; (try simp at h9); omega
            have HOM_85 := Lib.hid (ownSl_but HOM.out hbutP (fun k hk => by (try simp at hk ⊢) <;> omega))
            clear HOM
            refine hK _ _ ⟨⟨hsP.cellAt 0 rfl 0 rfl, hsP.cellAt 0 rfl 1 rfl, hsP.cellAt 0 rfl 2 rfl, hsP.cellAt 1 rfl 0 rfl, hsP.cellAt 1 rfl 1 rfl, hsP.cellAt 2 rfl 0 rfl, hsP.cellAt 2 rfl 1 rfl⟩, ?_⟩
            (repeat (first | (apply t4_skip rfl (by rfl); try simp only [Act.put, List.setIfInBounds_toArray, List.set_cons_zero, List.set_cons_succ]) | (apply t4_float rfl (by rfl); (· (intro w' hS; go_simp <;> with_reducible rfl)); (try simp only [Act.put, List.setIfInBounds_toArray, List.set_cons_zero, List.set_cons_succ]))))
            refine t4_hard rfl (by rfl) (fun K hK => ?_)
            go_wp2_with fail
            have hs86 := hsP.alloc #[.slice none 0 0, .slice none 0 0] 53 (n := wP.heap.size) (by simp)
            have HOM_87 := Lib.hid (ownSl_mono HOM_85.out (belowA _ (.cells #[.slice none 0 0, .slice none 0 0] 53)))
            clear HOM_85
            have HRP_88 := Lib.hid (ownsRow_below HRP.out (belowA _ (.cells #[.slice none 0 0, .slice none 0 0] 53)))
            clear HRP
            have hz_wA : wP.heap.size + 1 ≤ ((wP.alloc (.cells #[.slice none 0 0, .slice none 0 0] 53))).heap.size := by simp
            generalize hgen_wA : (wP.alloc (.cells #[.slice none 0 0, .slice none 0 0] 53)) = wA at *
            clear hgen_wA
            refine ⟨⟨hs86.cellAt 0 rfl 0 rfl, hs86.cellAt 0 rfl 1 rfl, hs86.cellAt 0 rfl 2 rfl, hs86.cellAt 1 rfl 0 rfl, hs86.cellAt 1 rfl 1 rfl, hs86.cellAt 2 rfl 0 rfl, hs86.cellAt 2 rfl 1 rfl⟩, ?_⟩
            (repeat (first | (apply t4_skip rfl (by rfl); try simp only [Act.put, List.setIfInBounds_toArray, List.set_cons_zero, List.set_cons_succ]) | (apply t4_float rfl (by rfl); (· (intro w' hS; go_simp <;> with_reducible rfl)); (try simp only [Act.put, List.setIfInBounds_toArray, List.set_cons_zero, List.set_cons_succ]))))
            refine t4_last rfl (by rfl) (fun K hK => ?_)
            have k0_0 := hs86.cellAt 0 rfl 0 rfl
            have k0_1 := hs86.cellAt 0 rfl 1 rfl
            have k0_2 := hs86.cellAt 0 rfl 2 rfl
            have k1_0 := hs86.cellAt 1 rfl 0 rfl
            have k1_1 := hs86.cellAt 1 rfl 1 rfl
            have k2_0 := hs86.cellAt 2 rfl 0 rfl
            have k2_1 := hs86.cellAt 2 rfl 1 rfl
            have k3_0 := hs86.cellAt 3 rfl 0 rfl
            have k4_0 := hs86.cellAt 4 rfl 0 rfl
            have k4_1 := hs86.cellAt 4 rfl 1 rfl
            have f0 := (hs86.freeAt 4 rfl 0)
            have f1 := (hs86.freeAt 4 rfl 1)
            have hq := (hs86.set (p := [_, _, _, _]) (by simp <;> omega) 0 (.slice (some ⟨gP, 0, none⟩) (U + 1) cP)).set (p := [_, _, _, _]) (by simp <;> omega) 1 (.slice (some ⟨w72.heap.size, 0, none⟩) l.length l.length)
            have hgG := (hs86.box (wP.heap.size, #[.slice none 0 0, .slice none 0 0], 53) (by simp)).2.1
            simp only at hgG
            go_wp2_with fail
            refine t4_nil (NoPanic.normal ?_)
            go_wp2_with fail
            go_meet
            case rel =>
              have ho := ((OnlyAt.refl [wP.heap.size] wA).setCell (p := ⟨wP.heap.size, 0, none⟩) (by simp) (.slice (some ⟨gP, 0, none⟩) (U + 1) cP)).setCell (p := ⟨wP.heap.size, 1, none⟩) (by simp) (.slice (some ⟨w72.heap.size, 0, none⟩) l.length l.length)
              have o1 := ownSl_ints (l := El ++ [Er]) (by have h := row_frame HRP_88.out (fun k hk => ho.block k (by simp [Value.ownBlock] at hk ⊢; omega)); simpa [ivals] using h) (by rw [List.length_append, HEL.out]; rfl) (fun b hb => by
                rcases List.mem_append.1 hb with hb | hb
                · exact HIE.out b hb
                · obtain rfl : b = Er := by simpa using hb
                  exact hIr)
              have o2 := ownSl_only HOM_87.out ho (fun k h1 h2 => by simp at h1 h2; omega)
              refine ⟨wP.heap.size, _, cP, _, l.length, rfl, (hq.up hq.hi (Nat.le_refl _)).sub (fun x hx => ?_), ⟨[gP] ++ [w72.heap.size], mk_own ⟨_, rfl, o1⟩ ⟨_, rfl, o2⟩, by simp; omega, by simp; omega⟩, Lib.hid (by omega)⟩
              simp only [List.mem_cons, List.not_mem_nil, or_false] at hx
              rcases hx with rfl | rfl | rfl | rfl <;> simp
          · refine t4_hard rfl (by rfl) (fun K hK => ?_)
            go_wp2_with fail
            have hs89 := hs83.alloc #[.slice none 0 0, .slice none 0 0] 53 (n := wM.heap.size) (by simp)
            have HROW_90 := Lib.hid (ownsRow_below HROW_84.out (belowA _ (.cells #[.slice none 0 0, .slice none 0 0] 53)))
            clear HROW_84
            have HOM_91 := Lib.hid (ownSl_mono HOM.out (belowA _ (.cells #[.slice none 0 0, .slice none 0 0] 53)))
            clear HOM
            have hz_wA : wM.heap.size + 1 ≤ ((wM.alloc (.cells #[.slice none 0 0, .slice none 0 0] 53))).heap.size := by simp
            generalize hgen_wA : (wM.alloc (.cells #[.slice none 0 0, .slice none 0 0] 53)) = wA at *
            clear hgen_wA
            refine ⟨⟨hs89.cellAt 0 rfl 0 rfl, hs89.cellAt 0 rfl 1 rfl, hs89.cellAt 0 rfl 2 rfl, hs89.cellAt 1 rfl 0 rfl, hs89.cellAt 1 rfl 1 rfl, hs89.cellAt 2 rfl 0 rfl, hs89.cellAt 2 rfl 1 rfl⟩, ?_⟩
            (repeat (first | (apply t4_skip rfl (by rfl); try simp only [Act.put, List.setIfInBounds_toArray, List.set_cons_zero, List.set_cons_succ]) | (apply t4_float rfl (by rfl); (· (intro w' hS; go_simp <;> with_reducible rfl)); (try simp only [Act.put, List.setIfInBounds_toArray, List.set_cons_zero, List.set_cons_succ]))))
            refine t4_hard rfl (by rfl) (fun K hK => ?_)
            refine wp_append_row _ _ _ _ rfl E_ints (v := .slice (some ⟨gC, 0, none⟩) U cC) rfl HROW_90.out (vs := [.int .i64 Er]) rfl (one_int _) ⟨wd5.heap.size, 0, none⟩ 1 rfl (news1 (hs89.cellAt 3 rfl 0 rfl)) (by omega) ?_
            intro gP cP wP hat hrowP hbutP hltP
            have hgP : gP = gC ∨ gP = wA.heap.size := by simpa [Value.ownBlock] using hat.imp Eq.symm id
            have hbutP : But [gC] wA wP := hbutP
            have hsP := hs89.butIv hbutP (fun k hk => by simp at hk; omega) (fun x hx => by
              simp only [List.mem_append, List.mem_cons, List.not_mem_nil, or_false, false_or, or_assoc, List.nil_append] at hx ⊢
              rcases hx with rfl | rfl | rfl | rfl | rfl <;> (simp only; omega))
            have HRP := Lib.hid (show wP.ownsRow 0 2 1 (.slice (some ⟨gP, 0, none⟩) (U + 1) cP) (U + 1) (ivals El ++ [.int .i64 Er]) from hrowP)
            clear hat hrowP
            clear HROW_90
            have hz_wP : wA.heap.size ≤ wP.heap.size := by have h9 := hbutP.size; (try simp at h9); omega
            have HOM_92 := Lib.hid (ownSl_but HOM_91.out hbutP (fun k hk => by (try simp at hk ⊢) <;> omega))
            clear HOM_91
            refine hK _ _ ⟨⟨hsP.cellAt 0 rfl 0 rfl, hsP.cellAt 0 rfl 1 rfl, hsP.cellAt 0 rfl 2 rfl, hsP.cellAt 1 rfl 0 rfl, hsP.cellAt 1 rfl 1 rfl, hsP.cellAt 2 rfl 0 rfl, hsP.cellAt 2 rfl 1 rfl⟩, ?_⟩
            (repeat (first | (apply t4_skip rfl (by rfl); try simp only [Act.put, List.setIfInBounds_toArray, List.set_cons_zero, List.set_cons_succ]) | (apply t4_float rfl (by rfl); (· (intro w' hS; go_simp <;> with_reducible rfl)); (try simp only [Act.put, List.setIfInBounds_toArray, List.set_cons_zero, List.set_cons_succ]))))
            refine t4_last rfl (by rfl) (fun K hK => ?_)
            have k0_0 := hsP.cellAt 0 rfl 0 rfl
            have k0_1 := hsP.cellAt 0 rfl 1 rfl
            have k0_2 := hsP.cellAt 0 rfl 2 rfl
            have k1_0 := hsP.cellAt 1 rfl 0 rfl
            have k1_1 := hsP.cellAt 1 rfl 1 rfl
            have k2_0 := hsP.cellAt 2 rfl 0 rfl
            have k2_1 := hsP.cellAt 2 rfl 1 rfl
            have k3_0 := hsP.cellAt 3 rfl 0 rfl
            have k4_0 := hsP.cellAt 4 rfl 0 rfl
            have k4_1 := hsP.cellAt 4 rfl 1 rfl
            have f0 := (hsP.freeAt 4 rfl 0)
            have f1 := (hsP.freeAt 4 rfl 1)
            have hq := (hsP.set (p := [_, _, _, _]) (by simp <;> omega) 0 (.slice (some ⟨gP, 0, none⟩) (U + 1) cP)).set (p := [_, _, _, _]) (by simp <;> omega) 1 (.slice (some ⟨w72.heap.size, 0, none⟩) l.length l.length)
            have hgG := (hsP.box (wM.heap.size, #[.slice none 0 0, .slice none 0 0], 53) (by simp)).2.1
            simp only at hgG
            go_wp2_with fail
            refine t4_nil (NoPanic.normal ?_)
            go_wp2_with fail
            go_meet
            case rel =>
              have ho := ((OnlyAt.refl [wM.heap.size] wP).setCell (p := ⟨wM.heap.size, 0, none⟩) (by simp) (.slice (some ⟨gP, 0, none⟩) (U + 1) cP)).setCell (p := ⟨wM.heap.size, 1, none⟩) (by simp) (.slice (some ⟨w72.heap.size, 0, none⟩) l.length l.length)
              have o1 := ownSl_ints (l := El ++ [Er]) (by have h := row_frame HRP.out (fun k hk => ho.block k (by simp [Value.ownBlock] at hk ⊢; omega)); simpa [ivals] using h) (by rw [List.length_append, HEL.out]; rfl) (fun b hb => by
                rcases List.mem_append.1 hb with hb | hb
                · exact HIE.out b hb
                · obtain rfl : b = Er := by simpa using hb
                  exact hIr)
              have o2 := ownSl_only HOM_92.out ho (fun k h1 h2 => by simp at h1 h2; omega)
              refine ⟨wM.heap.size, _, cP, _, l.length, rfl, (hq.up hq.hi (Nat.le_refl _)).sub (fun x hx => ?_), ⟨[gP] ++ [w72.heap.size], mk_own ⟨_, rfl, o1⟩ ⟨_, rfl, o2⟩, by simp; omega, by simp; omega⟩, Lib.hid (by omega)⟩
              simp only [List.mem_cons, List.not_mem_nil, or_false] at hx
              rcases hx with rfl | rfl | rfl | rfl <;> simp
        · refine t4_hard rfl (by rfl) (fun K hK => ?_)
          go_wp2_with fail
          have hs93 := hs73.alloc #[.slice none 0 0, .slice none 0 0] 53 (n := w72.heap.size) (by simp)
          have HROW_94 := Lib.hid (ownsRow_below HROW.out (belowA _ (.cells #[.slice none 0 0, .slice none 0 0] 53)))
          clear HROW
          have hz_wA : w72.heap.size + 1 ≤ ((w72.alloc (.cells #[.slice none 0 0, .slice none 0 0] 53))).heap.size := by simp
          generalize hgen_wA : (w72.alloc (.cells #[.slice none 0 0, .slice none 0 0] 53)) = wA at *
          clear hgen_wA
          refine ⟨⟨hs93.cellAt 0 rfl 0 rfl, hs93.cellAt 0 rfl 1 rfl, hs93.cellAt 0 rfl 2 rfl, hs93.cellAt 1 rfl 0 rfl, hs93.cellAt 1 rfl 1 rfl, hs93.cellAt 2 rfl 0 rfl, hs93.cellAt 2 rfl 1 rfl⟩, ?_⟩
          (repeat (first | (apply t4_skip rfl (by rfl); try simp only [Act.put, List.setIfInBounds_toArray, List.set_cons_zero, List.set_cons_succ]) | (apply t4_float rfl (by rfl); (· (intro w' hS; go_simp <;> with_reducible rfl)); (try simp only [Act.put, List.setIfInBounds_toArray, List.set_cons_zero, List.set_cons_succ]))))
          refine t4_fork2 ?_ ?_
          · refine t4_hard rfl (by rfl) (fun K hK => ?_)
            refine wp_append_row _ _ _ _ rfl E_ints (v := .slice (some ⟨gC, 0, none⟩) U cC) rfl HROW_94.out (vs := [.int .i64 Er]) rfl (one_int _) ⟨wd5.heap.size, 0, none⟩ 1 rfl (news1 (hs93.cellAt 3 rfl 0 rfl)) (by omega) ?_
            intro gP cP wP hat hrowP hbutP hltP
            have hgP : gP = gC ∨ gP = wA.heap.size := by simpa [Value.ownBlock] using hat.imp Eq.symm id
            have hbutP : But [gC] wA wP := hbutP
            have hsP := hs93.butIv hbutP (fun k hk => by simp at hk; omega) (fun x hx => by
              simp only [List.mem_append, List.mem_cons, List.not_mem_nil, or_false, false_or, or_assoc, List.nil_append] at hx ⊢
              rcases hx with rfl | rfl | rfl | rfl | rfl <;> (simp only; omega))
            have HRP := Lib.hid (show wP.ownsRow 0 2 1 (.slice (some ⟨gP, 0, none⟩) (U + 1) cP) (U + 1) (ivals El ++ [.int .i64 Er]) from hrowP)
            clear hat hrowP
            clear HROW_94
            have hz_wP : wA.heap.size ≤ wP.heap.size := by have h9 := hbutP.size; (try simp at h9); omega
            refine hK _ _ ⟨⟨hsP.cellAt 0 rfl 0 rfl, hsP.cellAt 0 rfl 1 rfl, hsP.cellAt 0 rfl 2 rfl, hsP.cellAt 1 rfl 0 rfl, hsP.cellAt 1 rfl 1 rfl, hsP.cellAt 2 rfl 0 rfl, hsP.cellAt 2 rfl 1 rfl⟩, ?_⟩
            (repeat (first | (apply t4_skip rfl (by rfl); try simp only [Act.put, List.setIfInBounds_toArray, List.set_cons_zero, List.set_cons_succ]) | (apply t4_float rfl (by rfl); (· (intro w' hS; go_simp <;> with_reducible rfl)); (try simp only [Act.put, List.setIfInBounds_toArray, List.set_cons_zero, List.set_cons_succ]))))
            refine t4_hard rfl (by rfl) (fun K hK => ?_)
            refine wp_make_rep _ _ _ 28 rfl E_ints (0 : Int) own0_int l.length (by omega) rfl rfl ?_
            intro wM hownM hbM hzM
            have HOM : Hid (OwnSl [wP.heap.size] wM (.slice (some ⟨wP.heap.size, 0, none⟩) l.length l.length) (List.replicate l.length (0 : Int))) := Lib.hid (by simpa using hownM)
            have hgM : wP.heap.size < wM.heap.size := by rw [hzM]; simp
            clear hownM hzM
            have hz_wM : wP.heap.size ≤ wM.heap.size := by have h9 := hbM.size; (try simp at h9); omega
            have hs95 := hsP.step hbM
            have HRP_96 := Lib.hid (ownsRow_below HRP.out hbM)
            clear HRP
            refine hK _ _ ⟨⟨hs95.cellAt 0 rfl 0 rfl, hs95.cellAt 0 rfl 1 rfl, hs95.cellAt 0 rfl 2 rfl, hs95.cellAt 1 rfl 0 rfl, hs95.cellAt 1 rfl 1 rfl, hs95.cellAt 2 rfl 0 rfl, hs95.cellAt 2 rfl 1 rfl⟩, ?_⟩
            (repeat (first | (apply t4_skip rfl (by rfl); try simp only [Act.put, List.setIfInBounds_toArray, List.set_cons_zero, List.set_cons_succ]) | (apply t4_float rfl (by rfl); (· (intro w' hS; go_simp <;> with_reducible rfl)); (try simp only [Act.put, List.setIfInBounds_toArray, List.set_cons_zero, List.set_cons_succ]))))
            refine t4_last rfl (by rfl) (fun K hK => ?_)
            have k0_0 := hs95.cellAt 0 rfl 0 rfl
            have k0_1 := hs95.cellAt 0 rfl 1 rfl
            have k0_2 := hs95.cellAt 0 rfl 2 rfl
            have k1_0 := hs95.cellAt 1 rfl 0 rfl
            have k1_1 := hs95.cellAt 1 rfl 1 rfl
            have k2_0 := hs95.cellAt 2 rfl 0 rfl
            have k2_1 := hs95.cellAt 2 rfl 1 rfl
            have k3_0 := hs95.cellAt 3 rfl 0 rfl
            have k4_0 := hs95.cellAt 4 rfl 0 rfl
            have k4_1 := hs95.cellAt 4 rfl 1 rfl
            have f0 := (hs95.freeAt 4 rfl 0)
            have f1 := (hs95.freeAt 4 rfl 1)
            have hq := (hs95.set (p := [_, _, _, _]) (by simp <;> omega) 0 (.slice (some ⟨gP, 0, none⟩) (U + 1) cP)).set (p := [_, _, _, _]) (by simp <;> omega) 1 (.slice (some ⟨wP.heap.size, 0, none⟩) l.length l.length)
            have hgG := (hs95.box (w72.heap.size, #[.slice none 0 0, .slice none 0 0], 53) (by simp)).2.1
            simp only at hgG
            go_wp2_with fail
            refine t4_nil (NoPanic.normal ?_)
            go_wp2_with fail
            go_meet
            case rel =>
              have ho := ((OnlyAt.refl [w72.heap.size] wM).setCell (p := ⟨w72.heap.size, 0, none⟩) (by simp) (.slice (some ⟨gP, 0, none⟩) (U + 1) cP)).setCell (p := ⟨w72.heap.size, 1, none⟩) (by simp) (.slice (some ⟨wP.heap.size, 0, none⟩) l.length l.length)
              have o1 := ownSl_ints (l := El ++ [Er]) (by have h := row_frame HRP_96.out (fun k hk => ho.block k (by simp [Value.ownBlock] at hk ⊢; omega)); simpa [ivals] using h) (by rw [List.length_append, HEL.out]; rfl) (fun b hb => by
                rcases List.mem_append.1 hb with hb | hb
                · exact HIE.out b hb
                · obtain rfl : b = Er := by simpa using hb
                  exact hIr)
              have o2 := ownSl_only HOM.out ho (fun k h1 h2 => by simp at h1 h2; omega)
              refine ⟨w72.heap.size, _, cP, _, l.length, rfl, (hq.up hq.hi (Nat.le_refl _)).sub (fun x hx => ?_), ⟨[gP] ++ [wP.heap.size], mk_own ⟨_, rfl, o1⟩ ⟨_, rfl, o2⟩, by simp; omega, by simp; omega⟩, Lib.hid (by omega)⟩
              simp only [List.mem_cons, List.not_mem_nil, or_false] at hx
              rcases hx with rfl | rfl | rfl | rfl <;> simp
          · refine t4_hard rfl (by rfl) (fun K hK => ?_)
            refine wp_make_rep _ _ _ 28 rfl E_ints (0 : Int) own0_int l.length (by omega) rfl rfl ?_
            intro wM hownM hbM hzM
            have HOM : Hid (OwnSl [wA.heap.size] wM (.slice (some ⟨wA.heap.size, 0, none⟩) l.length l.length) (List.replicate l.length (0 : Int))) := Lib.hid (by simpa using hownM)
            have hgM : wA.heap.size < wM.heap.size := by rw [hzM]; simp
            clear hownM hzM
            have hz_wM : wA.heap.size ≤ wM.heap.size := by have h9 := hbM.size; (try simp at h9); omega
            have hs97 := hs93.step hbM
            have HROW_98 := Lib.hid (ownsRow_below HROW_94.out hbM)
            clear HROW_94
            refine hK _ _ ⟨⟨hs97.cellAt 0 rfl 0 rfl, hs97.cellAt 0 rfl 1 rfl, hs97.cellAt 0 rfl 2 rfl, hs97.cellAt 1 rfl 0 rfl, hs97.cellAt 1 rfl 1 rfl, hs97.cellAt 2 rfl 0 rfl, hs97.cellAt 2 rfl 1 rfl⟩, ?_⟩
            (repeat (first | (apply t4_skip rfl (by rfl); try simp only [Act.put, List.setIfInBounds_toArray, List.set_cons_zero, List.set_cons_succ]) | (apply t4_float rfl (by rfl); (· (intro w' hS; go_simp <;> with_reducible rfl)); (try simp only [Act.put, List.setIfInBounds_toArray, List.set_cons_zero, List.set_cons_succ]))))
            refine t4_hard rfl (by rfl) (fun K hK => ?_)
            refine wp_append_row _ _ _ _ rfl E_ints (v := .slice (some ⟨gC, 0, none⟩) U cC) rfl HROW_98.out (vs := [.int .i64 Er]) rfl (one_int _) ⟨wd5.heap.size, 0, none⟩ 1 rfl (news1 (hs97.cellAt 3 rfl 0 rfl)) (by omega) ?_
            intro gP cP wP hat hrowP hbutP hltP
            have hgP : gP = gC ∨ gP = wM.heap.size := by simpa [Value.ownBlock] using hat.imp Eq.symm id
            have hbutP : But [gC] wM wP := hbutP
            have hsP := hs97.butIv hbutP (fun k hk => by simp at hk; omega) (fun x hx => by
              simp only [List.mem_append, List.mem_cons, List.not_mem_nil, or_false, false_or, or_assoc, List.nil_append] at hx ⊢
              rcases hx with rfl | rfl | rfl | rfl | rfl <;> (simp only; omega))
            have HRP := Lib.hid (show wP.ownsRow 0 2 1 (.slice (some ⟨gP, 0, none⟩) (U + 1) cP) (U + 1) (ivals El ++ [.int .i64 Er]) from hrowP)
            clear hat hrowP
            clear HROW_98
            have hz_wP : wM.heap.size ≤ wP.heap.size := by have h9 := hbutP.size; (try simp at h9); omega
            have HOM_99 := Lib.hid (ownSl_but HOM.out hbutP (fun k hk => by (try simp at hk ⊢) <;> omega))
            clear HOM
            refine hK _ _ ⟨⟨hsP.cellAt 0 rfl 0 rfl, hsP.cellAt 0 rfl 1 rfl, hsP.cellAt 0 rfl 2 rfl, hsP.cellAt 1 rfl 0 rfl, hsP.cellAt 1 rfl 1 rfl, hsP.cellAt 2 rfl 0 rfl, hsP.cellAt 2 rfl 1 rfl⟩, ?_⟩
            (repeat (first | (apply t4_skip rfl (by rfl); try simp only [Act.put, List.setIfInBounds_toArray, List.set_cons_zero, List.set_cons_succ]) | (apply t4_float rfl (by rfl); (· (intro w' hS; go_simp <;> with_reducible rfl)); (try simp only [Act.put, List.setIfInBounds_toArray, List.set_cons_zero, List.set_cons_succ]))))
            refine t4_last rfl (by rfl) (fun K hK => ?_)
            have k0_0 := hsP.cellAt 0 rfl 0 rfl
            have k0_1 := hsP.cellAt 0 rfl 1 rfl
            have k0_2 := hsP.cellAt 0 rfl 2 rfl
            have k1_0 := hsP.cellAt 1 rfl 0 rfl
            have k1_1 := hsP.cellAt 1 rfl 1 rfl
            have k2_0 := hsP.cellAt 2 rfl 0 rfl
            have k2_1 := hsP.cellAt 2 rfl 1 rfl
            have k3_0 := hsP.cellAt 3 rfl 0 rfl
            have k4_0 := hsP.cellAt 4 rfl 0 rfl
            have k4_1 := hsP.cellAt 4 rfl 1 rfl
            have f0 := (hsP.freeAt 4 rfl 0)
            have f1 := (hsP.freeAt 4 rfl 1)
            have hq := (hsP.set (p := [_, _, _, _]) (by simp <;> omega) 0 (.slice (some ⟨gP, 0, none⟩) (U + 1) cP)).set (p := [_, _, _, _]) (by simp <;> omega) 1 (.slice (some ⟨wA.heap.size, 0, none⟩) l.length l.length)
            have hgG := (hsP.box (w72.heap.size, #[.slice none 0 0, .slice none 0 0], 53) (by simp)).2.1
            simp only at hgG
            go_wp2_with fail
            refine t4_nil (NoPanic.normal ?_)
            go_wp2_with fail
            go_meet
            case rel =>
              have ho := ((OnlyAt.refl [w72.heap.size] wP).setCell (p := ⟨w72.heap.size, 0, none⟩) (by simp) (.slice (some ⟨gP, 0, none⟩) (U + 1) cP)).setCell (p := ⟨w72.heap.size, 1, none⟩) (by simp) (.slice (some ⟨wA.heap.size, 0, none⟩) l.length l.length)
              have o1 := ownSl_ints (l := El ++ [Er]) (by have h := row_frame HRP.out (fun k hk => ho.block k (by simp [Value.ownBlock] at hk ⊢; omega)); simpa [ivals] using h) (by rw [List.length_append, HEL.out]; rfl) (fun b hb => by
                rcases List.mem_append.1 hb with hb | hb
                · exact HIE.out b hb
                · obtain rfl : b = Er := by simpa using hb
                  exact hIr)
              have o2 := ownSl_only HOM_99.out ho (fun k h1 h2 => by simp at h1 h2; omega)
              refine ⟨w72.heap.size, _, cP, _, l.length, rfl, (hq.up hq.hi (Nat.le_refl _)).sub (fun x hx => ?_), ⟨[gP] ++ [wA.heap.size], mk_own ⟨_, rfl, o1⟩ ⟨_, rfl, o2⟩, by simp; omega, by simp; omega⟩, Lib.hid (by omega)⟩
              simp only [List.mem_cons, List.not_mem_nil, or_false] at hx
              rcases hx with rfl | rfl | rfl | rfl <;> simp
      · refine t4_hard rfl (by rfl) (fun K hK => ?_)
        refine wp_make_rep _ _ _ 28 rfl E_ints (0 : Int) own0_int l.length (by omega) rfl rfl ?_
        intro wM hownM hbM hzM
        have HOM : Hid (OwnSl [wd5.heap.size + 1] wM (.slice (some ⟨wd5.heap.size + 1, 0, none⟩) l.length l.length) (List.replicate l.length (0 : Int))) := Lib.hid (by simpa using hownM)
        have hgM : wd5.heap.size + 1 < wM.heap.size := by rw [hzM]; simp
        clear hownM hzM
        have hz_wM : wd5.heap.size + 1 ≤ wM.heap.size := by have h9 := hbM.size; (try simp at h9); omega
        have hs100 := hs71.step hbM
        refine hK _ _ ⟨⟨hs100.cellAt 0 rfl 0 rfl, hs100.cellAt 0 rfl 1 rfl, hs100.cellAt 0 rfl 2 rfl, hs100.cellAt 1 rfl 0 rfl, hs100.cellAt 1 rfl 1 rfl, hs100.cellAt 2 rfl 0 rfl, hs100.cellAt 2 rfl 1 rfl⟩, ?_⟩
        (repeat (first | (apply t4_skip rfl (by rfl); try simp only [Act.put, List.setIfInBounds_toArray, List.set_cons_zero, List.set_cons_succ]) | (apply t4_float rfl (by rfl); (· (intro w' hS; go_simp <;> with_reducible rfl)); (try simp only [Act.put, List.setIfInBounds_toArray, List.set_cons_zero, List.set_cons_succ]))))
        refine t4_fork2 ?_ ?_
        · refine t4_hard rfl (by rfl) (fun K hK => ?_)
          go_wp2_with (go_at_call 39; refine (cloneIntsA_c El _ _ (Rd.mono HE.out hs100.bel) (by rw [HEL.out]; omega)).mono ?_; rintro e w101 ⟨v4, rfl, hA, hbw101⟩)
          have hz_w101 : wM.heap.size ≤ w101.heap.size := by have h9 := hbw101.size; (try simp at h9); omega
          have hs102 := hs100.step hbw101
          have HOM_103 := Lib.hid (ownSl_mono HOM.out hbw101)
          clear HOM
          obtain ⟨gC, cC, rfl, hgC1, hgC2⟩ := hA.form' (by rw [HEL.out]; omega)
          have HROW := Lib.hid (row_base (acc_ints_get hA).1)
          have HIE := Lib.hid (acc_ints_get hA).2.2
          rw [HEL.out] at HROW
          rw [HEL.out]
          (try simp at hgC1)
          clear hA
          refine ⟨⟨hs102.cellAt 0 rfl 0 rfl, hs102.cellAt 0 rfl 1 rfl, hs102.cellAt 0 rfl 2 rfl, hs102.cellAt 1 rfl 0 rfl, hs102.cellAt 1 rfl 1 rfl, hs102.cellAt 2 rfl 0 rfl, hs102.cellAt 2 rfl 1 rfl⟩, ?_⟩
          (repeat (first | (apply t4_skip rfl (by rfl); try simp only [Act.put, List.setIfInBounds_toArray, List.set_cons_zero, List.set_cons_succ]) | (apply t4_float rfl (by rfl); (· (intro w' hS; go_simp <;> with_reducible rfl)); (try simp only [Act.put, List.setIfInBounds_toArray, List.set_cons_zero, List.set_cons_succ]))))
          refine t4_fork2 ?_ ?_
          · refine t4_hard rfl (by rfl) (fun K hK => ?_)
            refine wp_append_row _ _ _ _ rfl E_ints (v := .slice (some ⟨gC, 0, none⟩) U cC) rfl HROW.out (vs := [.int .i64 Er]) rfl (one_int _) ⟨wd5.heap.size, 0, none⟩ 1 rfl (news1 (hs102.cellAt 3 rfl 0 rfl)) (by omega) ?_
            intro gP cP wP hat hrowP hbutP hltP
            have hgP : gP = gC ∨ gP = w101.heap.size := by simpa [Value.ownBlock] using hat.imp Eq.symm id
            have hbutP : But [gC] w101 wP := hbutP
            have hsP := hs102.butIv hbutP (fun k hk => by simp at hk; omega) (fun x hx => by
              simp only [List.mem_append, List.mem_cons, List.not_mem_nil, or_false, false_or, or_assoc, List.nil_append] at hx ⊢
              rcases hx with rfl | rfl | rfl | rfl <;> (simp only; omega))
            have HRP := Lib.hid (show wP.ownsRow 0 2 1 (.slice (some ⟨gP, 0, none⟩) (U + 1) cP) (U + 1) (ivals El ++ [.int .i64 Er]) from hrowP)
            clear hat hrowP
            clear HROW
            have hz_wP : w101.heap.size ≤ wP.heap.size := by have h9 := hbutP.size; (try simp at h9); omega
            have HOM_104 := Lib.hid (ownSl_but HOM_103.out hbutP (fun k hk => by (try simp at hk ⊢) <;> omega))
            clear HOM_103
            refine hK _ _ ⟨⟨hsP.cellAt 0 rfl 0 rfl, hsP.cellAt 0 rfl 1 rfl, hsP.cellAt 0 rfl 2 rfl, hsP.cellAt 1 rfl 0 rfl, hsP.cellAt 1 rfl 1 rfl, hsP.cellAt 2 rfl 0 rfl, hsP.cellAt 2 rfl 1 rfl⟩, ?_⟩
            (repeat (first | (apply t4_skip rfl (by rfl); try simp only [Act.put, List.setIfInBounds_toArray, List.set_cons_zero, List.set_cons_succ]) | (apply t4_float rfl (by rfl); (· (intro w' hS; go_simp <;> with_reducible rfl)); (try simp only [Act.put, List.setIfInBounds_toArray, List.set_cons_zero, List.set_cons_succ]))))
            refine t4_hard rfl (by rfl) (fun K hK => ?_)
            go_wp2_with fail
            have hs105 := hsP.alloc #[.slice none 0 0, .slice none 0 0] 53 (n := wP.heap.size) (by simp)
            have HOM_106 := Lib.hid (ownSl_mono HOM_104.out (belowA _ (.cells #[.slice none 0 0, .slice none 0 0] 53)))
            clear HOM_104
            have HRP_107 := Lib.hid (ownsRow_below HRP.out (belowA _ (.cells #[.slice none 0 0, .slice none 0 0] 53)))
            clear HRP
            have hz_wA : wP.heap.size + 1 ≤ ((wP.alloc (.cells #[.slice none 0 0, .slice none 0 0] 53))).heap.size := by simp
            generalize hgen_wA : (wP.alloc (.cells #[.slice none 0 0, .slice none 0 0] 53)) = wA at *
            clear hgen_wA
            refine ⟨⟨hs105.cellAt 0 rfl 0 rfl, hs105.cellAt 0 rfl 1 rfl, hs105.cellAt 0 rfl 2 rfl, hs105.cellAt 1 rfl 0 rfl, hs105.cellAt 1 rfl 1 rfl, hs105.cellAt 2 rfl 0 rfl, hs105.cellAt 2 rfl 1 rfl⟩, ?_⟩
            (repeat (first | (apply t4_skip rfl (by rfl); try simp only [Act.put, List.setIfInBounds_toArray, List.set_cons_zero, List.set_cons_succ]) | (apply t4_float rfl (by rfl); (· (intro w' hS; go_simp <;> with_reducible rfl)); (try simp only [Act.put, List.setIfInBounds_toArray, List.set_cons_zero, List.set_cons_succ]))))
            refine t4_last rfl (by rfl) (fun K hK => ?_)
            have k0_0 := hs105.cellAt 0 rfl 0 rfl
            have k0_1 := hs105.cellAt 0 rfl 1 rfl
            have k0_2 := hs105.cellAt 0 rfl 2 rfl
            have k1_0 := hs105.cellAt 1 rfl 0 rfl
            have k1_1 := hs105.cellAt 1 rfl 1 rfl
            have k2_0 := hs105.cellAt 2 rfl 0 rfl
            have k2_1 := hs105.cellAt 2 rfl 1 rfl
            have k3_0 := hs105.cellAt 3 rfl 0 rfl
            have k4_0 := hs105.cellAt 4 rfl 0 rfl
            have k4_1 := hs105.cellAt 4 rfl 1 rfl
            have f0 := (hs105.freeAt 4 rfl 0)
            have f1 := (hs105.freeAt 4 rfl 1)
            have hq := (hs105.set (p := [_, _, _, _]) (by simp <;> omega) 0 (.slice (some ⟨gP, 0, none⟩) (U + 1) cP)).set (p := [_, _, _, _]) (by simp <;> omega) 1 (.slice (some ⟨wd5.heap.size + 1, 0, none⟩) l.length l.length)
            have hgG := (hs105.box (wP.heap.size, #[.slice none 0 0, .slice none 0 0], 53) (by simp)).2.1
            simp only at hgG
            go_wp2_with fail
            refine t4_nil (NoPanic.normal ?_)
            go_wp2_with fail
            go_meet
            case rel =>
              have ho := ((OnlyAt.refl [wP.heap.size] wA).setCell (p := ⟨wP.heap.size, 0, none⟩) (by simp) (.slice (some ⟨gP, 0, none⟩) (U + 1) cP)).setCell (p := ⟨wP.heap.size, 1, none⟩) (by simp) (.slice (some ⟨wd5.heap.size + 1, 0, none⟩) l.length l.length)
              have o1 := ownSl_ints (l := El ++ [Er]) (by have h := row_frame HRP_107.out (fun k hk => ho.block k (by simp [Value.ownBlock] at hk ⊢; omega)); simpa [ivals] using h) (by rw [List.length_append, HEL.out]; rfl) (fun b hb => by
                rcases List.mem_append.1 hb with hb | hb
                · exact HIE.out b hb
                · obtain rfl : b = Er := by simpa using hb
                  exact hIr)
              have o2 := ownSl_only HOM_106.out ho (fun k h1 h2 => by simp at h1 h2; omega)
              refine ⟨wP.heap.size, _, cP, _, l.length, rfl, (hq.up hq.hi (Nat.le_refl _)).sub (fun x hx => ?_), ⟨[gP] ++ [wd5.heap.size + 1], mk_own ⟨_, rfl, o1⟩ ⟨_, rfl, o2⟩, by simp; omega, by simp; omega⟩, Lib.hid (by omega)⟩
              simp only [List.mem_cons, List.not_mem_nil, or_false] at hx
              rcases hx with rfl | rfl | rfl | rfl <;> simp
          · refine t4_hard rfl (by rfl) (fun K hK => ?_)
            go_wp2_with fail
            have hs108 := hs102.alloc #[.slice none 0 0, .slice none 0 0] 53 (n := w101.heap.size) (by simp)
            have HOM_109 := Lib.hid (ownSl_mono HOM_103.out (belowA _ (.cells #[.slice none 0 0, .slice none 0 0] 53)))
            clear HOM_103
            have HROW_110 := Lib.hid (ownsRow_below HROW.out (belowA _ (.cells #[.slice none 0 0, .slice none 0 0] 53)))
            clear HROW
            have hz_wA : w101.heap.size + 1 ≤ ((w101.alloc (.cells #[.slice none 0 0, .slice none 0 0] 53))).heap.size := by simp
            generalize hgen_wA : (w101.alloc (.cells #[.slice none 0 0, .slice none 0 0] 53)) = wA at *
            clear hgen_wA
            refine ⟨⟨hs108.cellAt 0 rfl 0 rfl, hs108.cellAt 0 rfl 1 rfl, hs108.cellAt 0 rfl 2 rfl, hs108.cellAt 1 rfl 0 rfl, hs108.cellAt 1 rfl 1 rfl, hs108.cellAt 2 rfl 0 rfl, hs108.cellAt 2 rfl 1 rfl⟩, ?_⟩
            (repeat (first | (apply t4_skip rfl (by rfl); try simp only [Act.put, List.setIfInBounds_toArray, List.set_cons_zero, List.set_cons_succ]) | (apply t4_float rfl (by rfl); (· (intro w' hS; go_simp <;> with_reducible rfl)); (try simp only [Act.put, List.setIfInBounds_toArray, List.set_cons_zero, List.set_cons_succ]))))
            refine t4_hard rfl (by rfl) (fun K hK => ?_)
            refine wp_append_row _ _ _ _ rfl E_ints (v := .slice (some ⟨gC, 0, none⟩) U cC) rfl HROW_110.out (vs := [.int .i64 Er]) rfl (one_int _) ⟨wd5.heap.size, 0, none⟩ 1 rfl (news1 (hs108.cellAt 3 rfl 0 rfl)) (by omega) ?_
            intro gP cP wP hat hrowP hbutP hltP
            have hgP : gP = gC ∨ gP = wA.heap.size := by simpa [Value.ownBlock] using hat.imp Eq.symm id
            have hbutP : But [gC] wA wP := hbutP
            have hsP := hs108.butIv hbutP (fun k hk => by simp at hk; omega) (fun x hx => by
              simp only [List.mem_append, List.mem_cons, List.not_mem_nil, or_false, false_or, or_assoc, List.nil_append] at hx ⊢
              rcases hx with rfl | rfl | rfl | rfl | rfl <;> (simp only; omega))
            have HRP := Lib.hid (show wP.ownsRow 0 2 1 (.slice (some ⟨gP, 0, none⟩) (U + 1) cP) (U + 1) (ivals El ++ [.int .i64 Er]) from hrowP)
            clear hat hrowP
            clear HROW_110
            have hz_wP : wA.heap.size ≤ wP.heap.size := by have h9 := hbutP.size; (try simp at h9); omega
            have HOM_111 := Lib.hid (ownSl_but HOM_109.out hbutP (fun k hk => by (try simp at hk ⊢) <;> omega))
            clear HOM_109
            refine hK _ _ ⟨⟨hsP.cellAt 0 rfl 0 rfl, hsP.cellAt 0 rfl 1 rfl, hsP.cellAt 0 rfl 2 rfl, hsP.cellAt 1 rfl 0 rfl, hsP.cellAt 1 rfl 1 rfl, hsP.cellAt 2 rfl 0 rfl, hsP.cellAt 2 rfl 1 rfl⟩, ?_⟩
            (repeat (first | (apply t4_skip rfl (by rfl); try simp only [Act.put, List.setIfInBounds_toArray, List.set_cons_zero, List.set_cons_succ]) | (apply t4_float rfl (by rfl); (· (intro w' hS; go_simp <;> with_reducible rfl)); (try simp only [Act.put, List.setIfInBounds_toArray, List.set_cons_zero, List.set_cons_succ]))))
            refine t4_last rfl (by rfl) (fun K hK => ?_)
            have k0_0 := hsP.cellAt 0 rfl 0 rfl
            have k0_1 := hsP.cellAt 0 rfl 1 rfl
            have k0_2 := hsP.cellAt 0 rfl 2 rfl
            have k1_0 := hsP.cellAt 1 rfl 0 rfl
            have k1_1 := hsP.cellAt 1 rfl 1 rfl
            have k2_0 := hsP.cellAt 2 rfl 0 rfl
            have k2_1 := hsP.cellAt 2 rfl 1 rfl
            have k3_0 := hsP.cellAt 3 rfl 0 rfl
            have k4_0 := hsP.cellAt 4 rfl 0 rfl
            have k4_1 := hsP.cellAt 4 rfl 1 rfl
            have f0 := (hsP.freeAt 4 rfl 0)
            have f1 := (hsP.freeAt 4 rfl 1)
            have hq := (hsP.set (p := [_, _, _, _]) (by simp <;> omega) 0 (.slice (some ⟨gP, 0, none⟩) (U + 1) cP)).set (p := [_, _, _, _]) (by simp <;> omega) 1 (.slice (some ⟨wd5.heap.size + 1, 0, none⟩) l.length l.length)
            have hgG := (hsP.box (w101.heap.size, #[.slice none 0 0, .slice none 0 0], 53) (by simp)).2.1
            simp only at hgG
            go_wp2_with fail
            refine t4_nil (NoPanic.normal ?_)
            go_wp2_with fail
            go_meet
            case rel =>
              have ho := ((OnlyAt.refl [w101.heap.size] wP).setCell (p := ⟨w101.heap.size, 0, none⟩) (by simp) (.slice (some ⟨gP, 0, none⟩) (U + 1) cP)).setCell (p := ⟨w101.heap.size, 1, none⟩) (by simp) (.slice (some ⟨wd5.heap.size + 1, 0, none⟩) l.length l.length)
              have o1 := ownSl_ints (l := El ++ [Er]) (by have h := row_frame HRP.out (fun k hk => ho.block k (by simp [Value.ownBlock] at hk ⊢; omega)); simpa [ivals] using h) (by rw [List.length_append, HEL.out]; rfl) (fun b hb => by
                rcases List.mem_append.1 hb with hb | hb
                · exact HIE.out b hb
                · obtain rfl : b = Er := by simpa using hb
                  exact hIr)
              have o2 := ownSl_only HOM_111.out ho (fun k h1 h2 => by simp at h1 h2; omega)
              refine ⟨w101.heap.size, _, cP, _, l.length, rfl, (hq.up hq.hi (Nat.le_refl _)).sub (fun x hx => ?_), ⟨[gP] ++ [wd5.heap.size + 1], mk_own ⟨_, rfl, o1⟩ ⟨_, rfl, o2⟩, by simp; omega, by simp; omega⟩, Lib.hid (by omega)⟩
              simp only [List.mem_cons, List.not_mem_nil, or_false] at hx
              rcases hx with rfl | rfl | rfl | rfl <;> simp
        · refine t4_hard rfl (by rfl) (fun K hK => ?_)
          go_wp2_with fail
          have hs112 := hs100.alloc #[.slice none 0 0, .slice none 0 0] 53 (n := wM.heap.size) (by simp)
          have HOM_113 := Lib.hid (ownSl_mono HOM.out (belowA _ (.cells #[.slice none 0 0, .slice none 0 0] 53)))
          clear HOM
          have hz_wA : wM.heap.size + 1 ≤ ((wM.alloc (.cells #[.slice none 0 0, .slice none 0 0] 53))).heap.size := by simp
          generalize hgen_wA : (wM.alloc (.cells #[.slice none 0 0, .slice none 0 0] 53)) = wA at *
          clear hgen_wA
          refine ⟨⟨hs112.cellAt 0 rfl 0 rfl, hs112.cellAt 0 rfl 1 rfl, hs112.cellAt 0 rfl 2 rfl, hs112.cellAt 1 rfl 0 rfl, hs112.cellAt 1 rfl 1 rfl, hs112.cellAt 2 rfl 0 rfl, hs112.cellAt 2 rfl 1 rfl⟩, ?_⟩
          (repeat (first | (apply t4_skip rfl (by rfl); try simp only [Act.put, List.setIfInBounds_toArray, List.set_cons_zero, List.set_cons_succ]) | (apply t4_float rfl (by rfl); (· (intro w' hS; go_simp <;> with_reducible rfl)); (try simp only [Act.put, List.setIfInBounds_toArray, List.set_cons_zero, List.set_cons_succ]))))
          refine t4_hard rfl (by rfl) (fun K hK => ?_)
          go_wp2_with (go_at_call 39; refine (cloneIntsA_c El _ _ (Rd.mono HE.out hs112.bel) (by rw [HEL.out]; omega)).mono ?_; rintro e w114 ⟨v4, rfl, hA, hbw114⟩)
          have hz_w114 : wA.heap.size ≤ w114.heap.size := by have h9 := hbw114.size; (try simp at h9); omega
          have hs115 := hs112.step hbw114
          have HOM_116 := Lib.hid (ownSl_mono HOM_113.out hbw114)
          clear HOM_113
          obtain ⟨gC, cC, rfl, hgC1, hgC2⟩ := hA.form' (by rw [HEL.out]; omega)
          have HROW := Lib.hid (row_base (acc_ints_get hA).1)
          have HIE := Lib.hid (acc_ints_get hA).2.2
          rw [HEL.out] at HROW
          rw [HEL.out]
          (try simp at hgC1)
          clear hA
          refine ⟨⟨hs115.cellAt 0 rfl 0 rfl, hs115.cellAt 0 rfl 1 rfl, hs115.cellAt 0 rfl 2 rfl, hs115.cellAt 1 rfl 0 rfl, hs115.cellAt 1 rfl 1 rfl, hs115.cellAt 2 rfl 0 rfl, hs115.cellAt 2 rfl 1 rfl⟩, ?_⟩
          (repeat (first | (apply t4_skip rfl (by rfl); try simp only [Act.put, List.setIfInBounds_toArray, List.set_cons_zero, List.set_cons_succ]) | (apply t4_float rfl (by rfl); (· (intro w' hS; go_simp <;> with_reducible rfl)); (try simp only [Act.put, List.setIfInBounds_toArray, List.set_cons_zero, List.set_cons_succ]))))
          refine t4_hard rfl (by rfl) (fun K hK => ?_)
          refine wp_append_row _ _ _ _ rfl E_ints (v := .slice (some ⟨gC, 0, none⟩) U cC) rfl HROW.out (vs := [.int .i64 Er]) rfl (one_int _) ⟨wd5.heap.size, 0, none⟩ 1 rfl (news1 (hs115.cellAt 3 rfl 0 rfl)) (by omega) ?_
          intro gP cP wP hat hrowP hbutP hltP
          have hgP : gP = gC ∨ gP = w114.heap.size := by simpa [Value.ownBlock] using hat.imp Eq.symm id
          have hbutP : But [gC] w114 wP := hbutP
          have hsP := hs115.butIv hbutP (fun k hk => by simp at hk; omega) (fun x hx => by
            simp only [List.mem_append, List.mem_cons, List.not_mem_nil, or_false, false_or, or_assoc, List.nil_append] at hx ⊢
            rcases hx with rfl | rfl | rfl | rfl | rfl <;> (simp only; omega))
          have HRP := Lib.hid (show wP.ownsRow 0 2 1 (.slice (some ⟨gP, 0, none⟩) (U + 1) cP) (U + 1) (ivals El ++ [.int .i64 Er]) from hrowP)
          clear hat hrowP
          clear HROW
          have hz_wP : w114.heap.size ≤ wP.heap.size := by have h9 := hbutP.size; (try simp at h9); omega
          have HOM_117 := Lib.hid (ownSl_but HOM_116.out hbutP (fun k hk => by (try simp at hk ⊢) <;> omega))
          clear HOM_116
          refine hK _ _ ⟨⟨hsP.cellAt 0 rfl 0 rfl, hsP.cellAt 0 rfl 1 rfl, hsP.cellAt 0 rfl 2 rfl, hsP.cellAt 1 rfl 0 rfl, hsP.cellAt 1 rfl 1 rfl, hsP.cellAt 2 rfl 0 rfl, hsP.cellAt 2 rfl 1 rfl⟩, ?_⟩
          (repeat (first | (apply t4_skip rfl (by rfl); try simp only [Act.put, List.setIfInBounds_toArray, List.set_cons_zero, List.set_cons_succ]) | (apply t4_float rfl (by rfl); (· (intro w' hS; go_simp <;> with_reducible rfl)); (try simp only [Act.put, List.setIfInBounds_toArray, List.set_cons_zero, List.set_cons_succ]))))
          refine t4_last rfl (by rfl) (fun K hK => ?_)
          have k0_0 := hsP.cellAt 0 rfl 0 rfl
          have k0_1 := hsP.cellAt 0 rfl 1 rfl
          have k0_2 := hsP.cellAt 0 rfl 2 rfl
          have k1_0 := hsP.cellAt 1 rfl 0 rfl
          have k1_1 := hsP.cellAt 1 rfl 1 rfl
          have k2_0 := hsP.cellAt 2 rfl 0 rfl
          have k2_1 := hsP.cellAt 2 rfl 1 rfl
          have k3_0 := hsP.cellAt 3 rfl 0 rfl
          have k4_0 := hsP.cellAt 4 rfl 0 rfl
          have k4_1 := hsP.cellAt 4 rfl 1 rfl
          have f0 := (hsP.freeAt 4 rfl 0)
          have f1 := (hsP.freeAt 4 rfl 1)
          have hq := (hsP.set (p := [_, _, _, _]) (by simp <;> omega) 0 (.slice (some ⟨gP, 0, none⟩) (U + 1) cP)).set (p := [_, _, _, _]) (by simp <;> omega) 1 (.slice (some ⟨wd5.heap.size + 1, 0, none⟩) l.length l.length)
          have hgG := (hsP.box (wM.heap.size, #[.slice none 0 0, .slice none 0 0], 53) (by simp)).2.1
          simp only at hgG
          go_wp2_with fail
          refine t4_nil (NoPanic.normal ?_)
          go_wp2_with fail
          go_meet
          case rel =>
            have ho := ((OnlyAt.refl [wM.heap.size] wP).setCell (p := ⟨wM.heap.size, 0, none⟩) (by simp) (.slice (some ⟨gP, 0, none⟩) (U + 1) cP)).setCell (p := ⟨wM.heap.size, 1, none⟩) (by simp) (.slice (some ⟨wd5.heap.size + 1, 0, none⟩) l.length l.length)
            have o1 := ownSl_ints (l := El ++ [Er]) (by have h := row_frame HRP.out (fun k hk => ho.block k (by simp [Value.ownBlock] at hk ⊢; omega)); simpa [ivals] using h) (by rw [List.length_append, HEL.out]; rfl) (fun b hb => by
              rcases List.mem_append.1 hb with hb | hb
              · exact HIE.out b hb
              · obtain rfl : b = Er := by simpa using hb
                exact hIr)
            have o2 := ownSl_only HOM_117.out ho (fun k h1 h2 => by simp at h1 h2; omega)
            refine ⟨wM.heap.size, _, cP, _, l.length, rfl, (hq.up hq.hi (Nat.le_refl _)).sub (fun x hx => ?_), ⟨[gP] ++ [wd5.heap.size + 1], mk_own ⟨_, rfl, o1⟩ ⟨_, rfl, o2⟩, by simp; omega, by simp; omega⟩, Lib.hid (by omega)⟩
            simp only [List.mem_cons, List.not_mem_nil, or_false] at hx
            rcases hx with rfl | rfl | rfl | rfl <;> simp
      · refine t4_hard rfl (by rfl) (fun K hK => ?_)
        go_wp2_with fail
        have hs118 := hs71.alloc #[.slice none 0 0, .slice none 0 0] 53 (n := wd5.heap.size + 1) (by simp)
        have hz_wA : wd5.heap.size + 1 + 1 ≤ (((wd5.alloc (.cells #[.int .i64 Er] 2)).alloc (.cells #[.slice none 0 0, .slice none 0 0] 53))).heap.size := by simp
        generalize hgen_wA : ((wd5.alloc (.cells #[.int .i64 Er] 2)).alloc (.cells #[.slice none 0 0, .slice none 0 0] 53)) = wA at *
        clear hgen_wA
        refine ⟨⟨hs118.cellAt 0 rfl 0 rfl, hs118.cellAt 0 rfl 1 rfl, hs118.cellAt 0 rfl 2 rfl, hs118.cellAt 1 rfl 0 rfl, hs118.cellAt 1 rfl 1 rfl, hs118.cellAt 2 rfl 0 rfl, hs118.cellAt 2 rfl 1 rfl⟩, ?_⟩
        (repeat (first | (apply t4_skip rfl (by rfl); try simp only [Act.put, List.setIfInBounds_toArray, List.set_cons_zero, List.set_cons_succ]) | (apply t4_float rfl (by rfl); (· (intro w' hS; go_simp <;> with_reducible rfl)); (try simp only [Act.put, List.setIfInBounds_toArray, List.set_cons_zero, List.set_cons_succ]))))
        refine t4_fork2 ?_ ?_
        · refine t4_hard rfl (by rfl) (fun K hK => ?_)
          go_wp2_with (go_at_call 39; refine (cloneIntsA_c El _ _ (Rd.mono HE.out hs118.bel) (by rw [HEL.out]; omega)).mono ?_; rintro e w119 ⟨v4, rfl, hA, hbw119⟩)
          have hz_w119 : wA.heap.size ≤ w119.heap.size := by have h9 := hbw119.size; (try simp at h9); omega
          have hs120 := hs118.step hbw119
          obtain ⟨gC, cC, rfl, hgC1, hgC2⟩ := hA.form' (by rw [HEL.out]; omega)
          have HROW := Lib.hid (row_base (acc_ints_get hA).1)
          have HIE := Lib.hid (acc_ints_get hA).2.2
          rw [HEL.out] at HROW
          rw [HEL.out]
          (try simp at hgC1)
          clear hA
          refine ⟨⟨hs120.cellAt 0 rfl 0 rfl, hs120.cellAt 0 rfl 1 rfl, hs120.cellAt 0 rfl 2 rfl, hs120.cellAt 1 rfl 0 rfl, hs120.cellAt 1 rfl 1 rfl, hs120.cellAt 2 rfl 0 rfl, hs120.cellAt 2 rfl 1 rfl⟩, ?_⟩
          (repeat (first | (apply t4_skip rfl (by rfl); try simp only [Act.put, List.setIfInBounds_toArray, List.set_cons_zero, List.set_cons_succ]) | (apply t4_float rfl (by rfl); (· (intro w' hS; go_simp <;> with_reducible rfl)); (try simp only [Act.put, List.setIfInBounds_toArray, List.set_cons_zero, List.set_cons_succ]))))
          refine t4_fork2 ?_ ?_
          · refine t4_hard rfl (by rfl) (fun K hK => ?_)
            refine wp_append_row _ _ _ _ rfl E_ints (v := .slice (some ⟨gC, 0, none⟩) U cC) rfl HROW.out (vs := [.int .i64 Er]) rfl (one_int _) ⟨wd5.heap.size, 0, none⟩ 1 rfl (news1 (hs120.cellAt 3 rfl 0 rfl)) (by omega) ?_
            intro gP cP wP hat hrowP hbutP hltP
            have hgP : gP = gC ∨ gP = w119.heap.size := by simpa [Value.ownBlock] using hat.imp Eq.symm id
            have hbutP : But [gC] w119 wP := hbutP
            have hsP := hs120.butIv hbutP (fun k hk => by simp at hk; omega) (fun x hx => by
              simp only [List.mem_append, List.mem_cons, List.not_mem_nil, or_false, false_or, or_assoc, List.nil_append] at hx ⊢
              rcases hx with rfl | rfl | rfl | rfl | rfl <;> (simp only; omega))
            have HRP := Lib.hid (show wP.ownsRow 0 2 1 (.slice (some ⟨gP, 0, none⟩) (U + 1) cP) (U + 1) (ivals El ++ [.int .i64 Er]) from hrowP)
            clear hat hrowP
            clear HROW
            have hz_wP : w119.heap.size ≤ wP.heap.size := by have h9 := hbutP.size; (try simp at h9); omega
            refine hK _ _ ⟨⟨hsP.cellAt 0 rfl 0 rfl, hsP.cellAt 0 rfl 1 rfl, hsP.cellAt 0 rfl 2 rfl, hsP.cellAt 1 rfl 0 rfl, hsP.cellAt 1 rfl 1 rfl, hsP.cellAt 2 rfl 0 rfl, hsP.cellAt 2 rfl 1 rfl⟩, ?_⟩
            (repeat (first | (apply t4_skip rfl (by rfl); try simp only [Act.put, List.setIfInBounds_toArray, List.set_cons_zero, List.set_cons_succ]) | (apply t4_float rfl (by rfl); (· (intro w' hS; go_simp <;> with_reducible rfl)); (try simp only [Act.put, List.setIfInBounds_toArray, List.set_cons_zero, List.set_cons_succ]))))
            refine t4_hard rfl (by rfl) (fun K hK => ?_)
            refine wp_make_rep _ _ _ 28 rfl E_ints (0 : Int) own0_int l.length (by omega) rfl rfl ?_
            intro wM hownM hbM hzM
            have HOM : Hid (OwnSl [wP.heap.size] wM (.slice (some ⟨wP.heap.size, 0, none⟩) l.length l.length) (List.replicate l.length (0 : Int))) := Lib.hid (by simpa using hownM)
            have hgM : wP.heap.size < wM.heap.size := by rw [hzM]; simp
            clear hownM hzM
            have hz_wM : wP.heap.size ≤ wM.heap.size := by have h9 := hbM.size; (try simp at h9); omega
            have hs121 := hsP.step hbM
            have HRP_122 := Lib.hid (ownsRow_below HRP.out hbM)
            clear HRP
            refine hK _ _ ⟨⟨hs121.cellAt 0 rfl 0 rfl, hs121.cellAt 0 rfl 1 rfl, hs121.cellAt 0 rfl 2 rfl, hs121.cellAt 1 rfl 0 rfl, hs121.cellAt 1 rfl 1 rfl, hs121.cellAt 2 rfl 0 rfl, hs121.cellAt 2 rfl 1 rfl⟩, ?_⟩
            (repeat (first | (apply t4_skip rfl (by rfl); try simp only [Act.put, List.setIfInBounds_toArray, List.set_cons_zero, List.set_cons_succ]) | (apply t4_float rfl (by rfl); (· (intro w' hS; go_simp <;> with_reducible rfl)); (try simp only [Act.put, List.setIfInBounds_toArray, List.set_cons_zero, List.set_cons_succ]))))
            refine t4_last rfl (by rfl) (fun K hK => ?_)
            have k0_0 := hs121.cellAt 0 rfl 0 rfl
            have k0_1 := hs121.cellAt 0 rfl 1 rfl
            have k0_2 := hs121.cellAt 0 rfl 2 rfl
            have k1_0 := hs121.cellAt 1 rfl 0 rfl
            have k1_1 := hs121.cellAt 1 rfl 1 rfl
            have k2_0 := hs121.cellAt 2 rfl 0 rfl
            have k2_1 := hs121.cellAt 2 rfl 1 rfl
            have k3_0 := hs121.cellAt 3 rfl 0 rfl
            have k4_0 := hs121.cellAt 4 rfl 0 rfl
            have k4_1 := hs121.cellAt 4 rfl 1 rfl
            have f0 := (hs121.freeAt 4 rfl 0)
            have f1 := (hs121.freeAt 4 rfl 1)
            have hq := (hs121.set (p := [_, _, _, _]) (by simp <;> omega) 0 (.slice (some ⟨gP, 0, none⟩) (U + 1) cP)).set (p := [_, _, _, _]) (by simp <;> omega) 1 (.slice (some ⟨wP.heap.size, 0, none⟩) l.length l.length)
            have hgG := (hs121.box (wd5.heap.size + 1, #[.slice none 0 0, .slice none 0 0], 53) (by simp)).2.1
            simp only at hgG
            go_wp2_with fail
            refine t4_nil (NoPanic.normal ?_)
            go_wp2_with fail
            go_meet
            case rel =>
              have ho := ((OnlyAt.refl [wd5.heap.size + 1] wM).setCell (p := ⟨wd5.heap.size + 1, 0, none⟩) (by simp) (.slice (some ⟨gP, 0, none⟩) (U + 1) cP)).setCell (p := ⟨wd5.heap.size + 1, 1, none⟩) (by simp) (.slice (some ⟨wP.heap.size, 0, none⟩) l.length l.length)
              have o1 := ownSl_ints (l := El ++ [Er]) (by have h := row_frame HRP_122.out (fun k hk => ho.block k (by simp [Value.ownBlock] at hk ⊢; omega)); simpa [ivals] using h) (by rw [List.length_append, HEL.out]; rfl) (fun b hb => by
                rcases List.mem_append.1 hb with hb | hb
                · exact HIE.out b hb
                · obtain rfl : b = Er := by simpa using hb
                  exact hIr)
              have o2 := ownSl_only HOM.out ho (fun k h1 h2 => by simp at h1 h2; omega)
              refine ⟨wd5.heap.size + 1, _, cP, _, l.length, rfl, (hq.up hq.hi (Nat.le_refl _)).sub (fun x hx => ?_), ⟨[gP] ++ [wP.heap.size], mk_own ⟨_, rfl, o1⟩ ⟨_, rfl, o2⟩, by simp; omega, by simp; omega⟩, Lib.hid (by omega)⟩
              simp only [List.mem_cons, List.not_mem_nil, or_false] at hx
              rcases hx with rfl | rfl | rfl | rfl <;> simp
          · refine t4_hard rfl (by rfl) (fun K hK => ?_)
            refine wp_make_rep _ _ _ 28 rfl E_ints (0 : Int) own0_int l.length (by omega) rfl rfl ?_
            intro wM hownM hbM hzM
            have HOM : Hid (OwnSl [w119.heap.size] wM (.slice (some ⟨w119.heap.size, 0, none⟩) l.length l.length) (List.replicate l.length (0 : Int))) := Lib.hid (by simpa using hownM)
            have hgM : w119.heap.size < wM.heap.size := by rw [hzM]; simp
            clear hownM hzM
            have hz_wM : w119.heap.size ≤ wM.heap.size := by have h9 := hbM.size; (try simp at h9); omega
            have hs123 := hs120.step hbM
            have HROW_124 := Lib.hid (ownsRow_below HROW.out hbM)
            clear HROW
            refine hK _ _ ⟨⟨hs123.cellAt 0 rfl 0 rfl, hs123.cellAt 0 rfl 1 rfl, hs123.cellAt 0 rfl 2 rfl, hs123.cellAt 1 rfl 0 rfl, hs123.cellAt 1 rfl 1 rfl, hs123.cellAt 2 rfl 0 rfl, hs123.cellAt 2 rfl 1 rfl⟩, ?_⟩
            (repeat (first | (apply t4_skip rfl (by rfl); try simp only [Act.put, List.setIfInBounds_toArray, List.set_cons_zero, List.set_cons_succ]) | (apply t4_float rfl (by rfl); (· (intro w' hS; go_simp <;> with_reducible rfl)); (try simp only [Act.put, List.setIfInBounds_toArray, List.set_cons_zero, List.set_cons_succ]))))
            refine t4_hard rfl (by rfl) (fun K hK => ?_)
            refine wp_append_row _ _ _ _ rfl E_ints (v := .slice (some ⟨gC, 0, none⟩) U cC) rfl HROW_124.out (vs := [.int .i64 Er]) rfl (one_int _) ⟨wd5.heap.size, 0, none⟩ 1 rfl (news1 (hs123.cellAt 3 rfl 0 rfl)) (by omega) ?_
            intro gP cP wP hat hrowP hbutP hltP
            have hgP : gP = gC ∨ gP = wM.heap.size := by simpa [Value.ownBlock] using hat.imp Eq.symm id
            have hbutP : But [gC] wM wP := hbutP
            have hsP := hs123.butIv hbutP (fun k hk => by simp at hk; omega) (fun x hx => by
              simp only [List.mem_append, List.mem_cons, List.not_mem_nil, or_false, false_or, or_assoc, List.nil_append] at hx ⊢
              rcases hx with rfl | rfl | rfl | rfl | rfl <;> (simp only; omega))
            have HRP := Lib.hid (show wP.ownsRow 0 2 1 (.slice (some ⟨gP, 0, none⟩) (U + 1) cP) (U + 1) (ivals El ++ [.int .i64 Er]) from hrowP)
            clear hat hrowP
            clear HROW_124
            have hz_wP : wM.heap.size ≤ wP.heap.size := by have h9 := hbutP.size; (try simp at h9); omega
            have HOM_125 := Lib.hid (ownSl_but HOM.out hbutP (fun k hk => by (try simp at hk ⊢) <;> omega))
            clear HOM
            refine hK _ _ ⟨⟨hsP.cellAt 0 rfl 0 rfl, hsP.cellAt 0 rfl 1 rfl, hsP.cellAt 0 rfl 2 rfl, hsP.cellAt 1 rfl 0 rfl, hsP.cellAt 1 rfl 1 rfl, hsP.cellAt 2 rfl 0 rfl, hsP.cellAt 2 rfl 1 rfl⟩, ?_⟩
            (repeat (first | (apply t4_skip rfl (by rfl); try simp only [Act.put, List.setIfInBounds_toArray, List.set_cons_zero, List.set_cons_succ]) | (apply t4_float rfl (by rfl); (· (intro w' hS; go_simp <;> with_reducible rfl)); (try simp only [Act.put, List.setIfInBounds_toArray, List.set_cons_zero, List.set_cons_succ]))))
            refine t4_last rfl (by rfl) (fun K hK => ?_)
            have k0_0 := hsP.cellAt 0 rfl 0 rfl
            have k0_1 := hsP.cellAt 0 rfl 1 rfl
            have k0_2 := hsP.cellAt 0 rfl 2 rfl
            have k1_0 := hsP.cellAt 1 rfl 0 rfl
            have k1_1 := hsP.cellAt 1 rfl 1 rfl
            have k2_0 := hsP.cellAt 2 rfl 0 rfl
            have k2_1 := hsP.cellAt 2 rfl 1 rfl
            have k3_0 := hsP.cellAt 3 rfl 0 rfl
            have k4_0 := hsP.cellAt 4 rfl 0 rfl
            have k4_1 := hsP.cellAt 4 rfl 1 rfl
            have f0 := (hsP.freeAt 4 rfl 0)
            have f1 := (hsP.freeAt 4 rfl 1)
            have hq := (hsP.set (p := [_, _, _, _]) (by simp <;> omega) 0 (.slice (some ⟨gP, 0, none⟩) (U + 1) cP)).set (p := [_, _, _, _]) (by simp <;> omega) 1 (.slice (some ⟨w119.heap.size, 0, none⟩) l.length l.length)
            have hgG := (hsP.box (wd5.heap.size + 1, #[.slice none 0 0, .slice none 0 0], 53) (by simp)).2.1
            simp only at hgG
            go_wp2_with fail
            refine t4_nil (NoPanic.normal ?_)
            go_wp2_with fail
            go_meet
            case rel =>
              have ho := ((OnlyAt.refl [wd5.heap.size + 1] wP).setCell (p := ⟨wd5.heap.size + 1, 0, none⟩) (by simp) (.slice (some ⟨gP, 0, none⟩) (U + 1) cP)).setCell (p := ⟨wd5.heap.size + 1, 1, none⟩) (by simp) (.slice (some ⟨w119.heap.size, 0, none⟩) l.length l.length)
              have o1 := ownSl_ints (l := El ++ [Er]) (by have h := row_frame HRP.out (fun k hk => ho.block k (by simp [Value.ownBlock] at hk ⊢; omega)); simpa [ivals] using h) (by rw [List.length_append, HEL.out]; rfl) (fun b hb => by
                rcases List.mem_append.1 hb with hb | hb
                · exact HIE.out b hb
                · obtain rfl : b = Er := by simpa using hb
                  exact hIr)
              have o2 := ownSl_only HOM_125.out ho (fun k h1 h2 => by simp at h1 h2; omega)
              refine ⟨wd5.heap.size + 1, _, cP, _, l.length, rfl, (hq.up hq.hi (Nat.le_refl _)).sub (fun x hx => ?_), ⟨[gP] ++ [w119.heap.size], mk_own ⟨_, rfl, o1⟩ ⟨_, rfl, o2⟩, by simp; omega, by simp; omega⟩, Lib.hid (by omega)⟩
              simp only [List.mem_cons, List.not_mem_nil, or_false] at hx
              rcases hx with rfl | rfl | rfl | rfl <;> simp
        · refine t4_hard rfl (by rfl) (fun K hK => ?_)
          refine wp_make_rep _ _ _ 28 rfl E_ints (0 : Int) own0_int l.length (by omega) rfl rfl ?_
          intro wM hownM hbM hzM
          have HOM : Hid (OwnSl [wA.heap.size] wM (.slice (some ⟨wA.heap.size, 0, none⟩) l.length l.length) (List.replicate l.length (0 : Int))) := Lib.hid (by simpa using hownM)
          have hgM : wA.heap.size < wM.heap.size := by rw [hzM]; simp
          clear hownM hzM
          have hz_wM : wA.heap.size ≤ wM.heap.size := by have h9 := hbM.size; (try simp at h9); omega
          have hs126 := hs118.step hbM
          refine hK _ _ ⟨⟨hs126.cellAt 0 rfl 0 rfl, hs126.cellAt 0 rfl 1 rfl, hs126.cellAt 0 rfl 2 rfl, hs126.cellAt 1 rfl 0 rfl, hs126.cellAt 1 rfl 1 rfl, hs126.cellAt 2 rfl 0 rfl, hs126.cellAt 2 rfl 1 rfl⟩, ?_⟩
          (repeat (first | (apply t4_skip rfl (by rfl); try simp only [Act.put, List.setIfInBounds_toArray, List.set_cons_zero, List.set_cons_succ]) | (apply t4_float rfl (by rfl); (· (intro w' hS; go_simp <;> with_reducible rfl)); (try simp only [Act.put, List.setIfInBounds_toArray, List.set_cons_zero, List.set_cons_succ]))))
          refine t4_hard rfl (by rfl) (fun K hK => ?_)
          go_wp2_with (go_at_call 39; refine (cloneIntsA_c El _ _ (Rd.mono HE.out hs126.bel) (by rw [HEL.out]; omega)).mono ?_; rintro e w127 ⟨v4, rfl, hA, hbw127⟩)
          have hz_w127 : wM.heap.size ≤ w127.heap.size := by have h9 := hbw127.size; (try simp at h9); omega
          have hs128 := hs126.step hbw127
          have HOM_129 := Lib.hid (ownSl_mono HOM.out hbw127)
          clear HOM
          obtain ⟨gC, cC, rfl, hgC1, hgC2⟩ := hA.form' (by rw [HEL.out]; omega)
          have HROW := Lib.hid (row_base (acc_ints_get hA).1)
          have HIE := Lib.hid (acc_ints_get hA).2.2
          rw [HEL.out] at HROW
          rw [HEL.out]
          (try simp at hgC1)
          clear hA
          refine ⟨⟨hs128.cellAt 0 rfl 0 rfl, hs128.cellAt 0 rfl 1 rfl, hs128.cellAt 0 rfl 2 rfl, hs128.cellAt 1 rfl 0 rfl, hs128.cellAt 1 rfl 1 rfl, hs128.cellAt 2 rfl 0 rfl, hs128.cellAt 2 rfl 1 rfl⟩, ?_⟩
          (repeat (first | (apply t4_skip rfl (by rfl); try simp only [Act.put, List.setIfInBounds_toArray, List.set_cons_zero, List.set_cons_succ]) | (apply t4_float rfl (by rfl); (· (intro w' hS; go_simp <;> with_reducible rfl)); (try simp only [Act.put, List.setIfInBounds_toArray, List.set_cons_zero, List.set_cons_succ]))))
          refine t4_hard rfl (by rfl) (fun K hK => ?_)
          refine wp_append_row _ _ _ _ rfl E_ints (v := .slice (some ⟨gC, 0, none⟩) U cC) rfl HROW.out (vs := [.int .i64 Er]) rfl (one_int _) ⟨wd5.heap.size, 0, none⟩ 1 rfl (news1 (hs128.cellAt 3 rfl 0 rfl)) (by omega) ?_
          intro gP cP wP hat hrowP hbutP hltP
          have hgP : gP = gC ∨ gP = w127.heap.size := by simpa [Value.ownBlock] using hat.imp Eq.symm id
          have hbutP : But [gC] w127 wP := hbutP
          have hsP := hs128.butIv hbutP (fun k hk => by simp at hk; omega) (fun x hx => by
            simp only [List.mem_append, List.mem_cons, List.not_mem_nil, or_false, false_or, or_assoc, List.nil_append] at hx ⊢
            rcases hx with rfl | rfl | rfl | rfl | rfl <;> (simp only; omega))
          have HRP := Lib.hid (show wP.ownsRow 0 2 1 (.slice (some ⟨gP, 0, none⟩) (U + 1) cP) (U + 1) (ivals El ++ [.int .i64 Er]) from hrowP)
          clear hat hrowP
          clear HROW
          have hz_wP : w127.heap.size ≤ wP.heap.size := by have h9 := hbutP.size; (try simp at h9); omega
          have HOM_130 := Lib.hid (ownSl_but HOM_129.out hbutP (fun k hk => by (try simp at hk ⊢) <;> omega))
          clear HOM_129
          refine hK _ _ ⟨⟨hsP.cellAt 0 rfl 0 rfl, hsP.cellAt 0 rfl 1 rfl, hsP.cellAt 0 rfl 2 rfl, hsP.cellAt 1 rfl 0 rfl, hsP.cellAt 1 rfl 1 rfl, hsP.cellAt 2 rfl 0 rfl, hsP.cellAt 2 rfl 1 rfl⟩, ?_⟩
          (repeat (first | (apply t4_skip rfl (by rfl); try simp only [Act.put, List.setIfInBounds_toArray, List.set_cons_zero, List.set_cons_succ]) | (apply t4_float rfl (by rfl); (· (intro w' hS; go_simp <;> with_reducible rfl)); (try simp only [Act.put, List.setIfInBounds_toArray, List.set_cons_zero, List.set_cons_succ]))))
          refine t4_last rfl (by rfl) (fun K hK => ?_)
          have k0_0 := hsP.cellAt 0 rfl 0 rfl
          have k0_1 := hsP.cellAt 0 rfl 1 rfl
          have k0_2 := hsP.cellAt 0 rfl 2 rfl
          have k1_0 := hsP.cellAt 1 rfl 0 rfl
          have k1_1 := hsP.cellAt 1 rfl 1 rfl
          have k2_0 := hsP.cellAt 2 rfl 0 rfl
          have k2_1 := hsP.cellAt 2 rfl 1 rfl
          have k3_0 := hsP.cellAt 3 rfl 0 rfl
          have k4_0 := hsP.cellAt 4 rfl 0 rfl
          have k4_1 := hsP.cellAt 4 rfl 1 rfl
          have f0 := (hsP.freeAt 4 rfl 0)
          have f1 := (hsP.freeAt 4 rfl 1)
          have hq := (hsP.set (p := [_, _, _, _]) (by simp <;> omega) 0 (.slice (some ⟨gP, 0, none⟩) (U + 1) cP)).set (p := [_, _, _, _]) (by simp <;> omega) 1 (.slice (some ⟨wA.heap.size, 0, none⟩) l.length l.length)
          have hgG := (hsP.box (wd5.heap.size + 1, #[.slice none 0 0, .slice none 0 0], 53) (by simp)).2.1
          simp only at hgG
          go_wp2_with fail
          refine t4_nil (NoPanic.normal ?_)
          go_wp2_with fail
          go_meet
          case rel =>
            have ho := ((OnlyAt.refl [wd5.heap.size + 1] wP).setCell (p := ⟨wd5.heap.size + 1, 0, none⟩) (by simp) (.slice (some ⟨gP, 0, none⟩) (U + 1) cP)).setCell (p := ⟨wd5.heap.size + 1, 1, none⟩) (by simp) (.slice (some ⟨wA.heap.size, 0, none⟩) l.length l.length)
            have o1 := ownSl_ints (l := El ++ [Er]) (by have h := row_frame HRP.out (fun k hk => ho.block k (by simp [Value.ownBlock] at hk ⊢; omega)); simpa [ivals] using h) (by rw [List.length_append, HEL.out]; rfl) (fun b hb => by
              rcases List.mem_append.1 hb with hb | hb
              · exact HIE.out b hb
              · obtain rfl : b = Er := by simpa using hb
                exact hIr)
            have o2 := ownSl_only HOM_130.out ho (fun k h1 h2 => by simp at h1 h2; omega)
            refine ⟨wd5.heap.size + 1, _, cP, _, l.length, rfl, (hq.up hq.hi (Nat.le_refl _)).sub (fun x hx => ?_), ⟨[gP] ++ [wA.heap.size], mk_own ⟨_, rfl, o1⟩ ⟨_, rfl, o2⟩, by simp; omega, by simp; omega⟩, Lib.hid (by omega)⟩
            simp only [List.mem_cons, List.not_mem_nil, or_false] at hx
            rcases hx with rfl | rfl | rfl | rfl <;> simp
    · refine t4_hard rfl (by rfl) (fun K hK => ?_)
      refine wp_make_rep _ _ _ 28 rfl E_ints (0 : Int) own0_int l.length (by omega) rfl rfl ?_
      intro wM hownM hbM hzM
      have HOM : Hid (OwnSl [wd5.heap.size] wM (.slice (some ⟨wd5.heap.size, 0, none⟩) l.length l.length) (List.replicate l.length (0 : Int))) := Lib.hid (by simpa using hownM)
      have hgM : wd5.heap.size < wM.heap.size := by rw [hzM]; simp
      clear hownM hzM
      have hz_wM : wd5.heap.size ≤ wM.heap.size := by have h9 := hbM.size; (try simp at h9); omega
      have hs131 := hs4.step hbM
      refine hK _ _ ⟨⟨hs131.cellAt 0 rfl 0 rfl, hs131.cellAt 0 rfl 1 rfl, hs131.cellAt 0 rfl 2 rfl, hs131.cellAt 1 rfl 0 rfl, hs131.cellAt 1 rfl 1 rfl, hs131.cellAt 2 rfl 0 rfl, hs131.cellAt 2 rfl 1 rfl⟩, ?_⟩
      (repeat (first | (apply t4_skip rfl (by rfl); try simp only [Act.put, List.setIfInBounds_toArray, List.set_cons_zero, List.set_cons_succ]) | (apply t4_float rfl (by rfl); (· (intro w' hS; go_simp <;> with_reducible rfl)); (try simp only [Act.put, List.setIfInBounds_toArray, List.set_cons_zero, List.set_cons_succ]))))
      refine t4_fork3 ?_ ?_ ?_
      · refine t4_hard rfl (by rfl) (fun K hK => ?_)
        go_wp2_with (go_at_call 39; refine (cloneIntsA_c El _ _ (Rd.mono HE.out hs131.bel) (by rw [HEL.out]; omega)).mono ?_; rintro e w132 ⟨v4, rfl, hA, hbw132⟩)
        have hz_w132 : wM.heap.size ≤ w132.heap.size := by have h9 := hbw132.size; (try simp at h9); omega
        have hs133 := hs131.step hbw132
        have HOM_134 := Lib.hid (ownSl_mono HOM.out hbw132)
        clear HOM
        obtain ⟨gC, cC, rfl, hgC1, hgC2⟩ := hA.form' (by rw [HEL.out]; omega)
        have HROW := Lib.hid (row_base (acc_ints_get hA).1)
        have HIE := Lib.hid (acc_ints_get hA).2.2
        rw [HEL.out] at HROW
        rw [HEL.out]
        (try simp at hgC1)
        clear hA
        refine ⟨⟨hs133.cellAt 0 rfl 0 rfl, hs133.cellAt 0 rfl 1 rfl, hs133.cellAt 0 rfl 2 rfl, hs133.cellAt 1 rfl 0 rfl, hs133.cellAt 1 rfl 1 rfl, hs133.cellAt 2 rfl 0 rfl, hs133.cellAt 2 rfl 1 rfl⟩, ?_⟩
        (repeat (first | (apply t4_skip rfl (by rfl); try simp only [Act.put, List.setIfInBounds_toArray, List.set_cons_zero, List.set_cons_succ]) | (apply t4_float rfl (by rfl); (· (intro w' hS; go_simp <;> with_reducible rfl)); (try simp only [Act.put, List.setIfInBounds_toArray, List.set_cons_zero, List.set_cons_succ]))))
        refine t4_fork2 ?_ ?_
        · refine t4_hard rfl (by rfl) (fun K hK => ?_)
          go_wp2_with fail
          have hs135 := hs133.alloc #[.int .i64 Er] 2 (n := w132.heap.size) (by simp)
          have HOM_136 := Lib.hid (ownSl_mono HOM_134.out (belowA _ (.cells #[.int .i64 Er] 2)))
          clear HOM_134
          have HROW_137 := Lib.hid (ownsRow_below HROW.out (belowA _ (.cells #[.int .i64 Er] 2)))
          clear HROW
          refine ⟨⟨hs135.cellAt 0 rfl 0 rfl, hs135.cellAt 0 rfl 1 rfl, hs135.cellAt 0 rfl 2 rfl, hs135.cellAt 1 rfl 0 rfl, hs135.cellAt 1 rfl 1 rfl, hs135.cellAt 2 rfl 0 rfl, hs135.cellAt 2 rfl 1 rfl⟩, ?_⟩
          (repeat (first | (apply t4_skip rfl (by rfl); try simp only [Act.put, List.setIfInBounds_toArray, List.set_cons_zero, List.set_cons_succ]) | (apply t4_float rfl (by rfl); (· (intro w' hS; go_simp <;> with_reducible rfl)); (try simp only [Act.put, List.setIfInBounds_toArray, List.set_cons_zero, List.set_cons_succ]))))
          refine t4_fork2 ?_ ?_
          · refine t4_hard rfl (by rfl) (fun K hK => ?_)
            refine wp_append_row _ _ _ _ rfl E_ints (v := .slice (some ⟨gC, 0, none⟩) U cC) rfl HROW_137.out (vs := [.int .i64 Er]) rfl (one_int _) ⟨w132.heap.size, 0, none⟩ 1 rfl (news1 (hs135.cellAt 3 rfl 0 rfl)) (by omega) ?_
            intro gP cP wP hat hrowP hbutP hltP
            have hgP : gP = gC ∨ gP = w132.heap.size + 1 := by simpa [Value.ownBlock] using hat.imp Eq.symm id
            have hbutP : But [gC] (w132.alloc (.cells #[.int .i64 Er] 2)) wP := hbutP
            have hsP := hs135.butIv hbutP (fun k hk => by simp at hk; omega) (fun x hx => by
              simp only [List.mem_append, List.mem_cons, List.not_mem_nil, or_false, false_or, or_assoc, List.nil_append] at hx ⊢
              rcases hx with rfl | rfl | rfl | rfl <;> (simp only; omega))
            have HRP := Lib.hid (show wP.ownsRow 0 2 1 (.slice (some ⟨gP, 0, none⟩) (U + 1) cP) (U + 1) (ivals El ++ [.int .i64 Er]) from hrowP)
            clear hat hrowP
            clear HROW_137
            have hz_wP : w132.heap.size + 1 ≤ wP.heap.size := by have h9 := hbutP.size; (try simp at h9); omega
            have HOM_138 := Lib.hid (ownSl_but HOM_136.out hbutP (fun k hk => by (try simp at hk ⊢) <;> omega))
            clear HOM_136
            refine hK _ _ ⟨⟨hsP.cellAt 0 rfl 0 rfl, hsP.cellAt 0 rfl 1 rfl, hsP.cellAt 0 rfl 2 rfl, hsP.cellAt 1 rfl 0 rfl, hsP.cellAt 1 rfl 1 rfl, hsP.cellAt 2 rfl 0 rfl, hsP.cellAt 2 rfl 1 rfl⟩, ?_⟩
            (repeat (first | (apply t4_skip rfl (by rfl); try simp only [Act.put, List.setIfInBounds_toArray, List.set_cons_zero, List.set_cons_succ]) | (apply t4_float rfl (by rfl); (· (intro w' hS; go_simp <;> with_reducible rfl)); (try simp only [Act.put, List.setIfInBounds_toArray, List.set_cons_zero, List.set_cons_succ]))))
            refine t4_hard rfl (by rfl) (fun K hK => ?_)
            go_wp2_with fail
            have hs139 := hsP.alloc #[.slice none 0 0, .slice none 0 0] 53 (n := wP.heap.size) (by simp)
            have HOM_140 := Lib.hid (ownSl_mono HOM_138.out (belowA _ (.cells #[.slice none 0 0, .slice none 0 0] 53)))
            clear HOM_138
            have HRP_141 := Lib.hid (ownsRow_below HRP.out (belowA _ (.cells #[.slice none 0 0, .slice none 0 0] 53)))
            clear HRP
            have hz_wA : wP.heap.size + 1 ≤ ((wP.alloc (.cells #[.slice none 0 0, .slice none 0 0] 53))).heap.size := by simp
            generalize hgen_wA : (wP.alloc (.cells #[.slice none 0 0, .slice none 0 0] 53)) = wA at *
            clear hgen_wA
            refine ⟨⟨hs139.cellAt 0 rfl 0 rfl, hs139.cellAt 0 rfl 1 rfl, hs139.cellAt 0 rfl 2 rfl, hs139.cellAt 1 rfl 0 rfl, hs139.cellAt 1 rfl 1 rfl, hs139.cellAt 2 rfl 0 rfl, hs139.cellAt 2 rfl 1 rfl⟩, ?_⟩
            (repeat (first | (apply t4_skip rfl (by rfl); try simp only [Act.put, List.setIfInBounds_toArray, List.set_cons_zero, List.set_cons_succ]) | (apply t4_float rfl (by rfl); (· (intro w' hS; go_simp <;> with_reducible rfl)); (try simp only [Act.put, List.setIfInBounds_toArray, List.set_cons_zero, List.set_cons_succ]))))
            refine t4_last rfl (by rfl) (fun K hK => ?_)
            have k0_0 := hs139.cellAt 0 rfl 0 rfl
            have k0_1 := hs139.cellAt 0 rfl 1 rfl
            have k0_2 := hs139.cellAt 0 rfl 2 rfl
            have k1_0 := hs139.cellAt 1 rfl 0 rfl
            have k1_1 := hs139.cellAt 1 rfl 1 rfl
            have k2_0 := hs139.cellAt 2 rfl 0 rfl
            have k2_1 := hs139.cellAt 2 rfl 1 rfl
            have k3_0 := hs139.cellAt 3 rfl 0 rfl
            have k4_0 := hs139.cellAt 4 rfl 0 rfl
            have k4_1 := hs139.cellAt 4 rfl 1 rfl
            have f0 := (hs139.freeAt 4 rfl 0)
            have f1 := (hs139.freeAt 4 rfl 1)
            have hq := (hs139.set (p := [_, _, _, _]) (by simp <;> omega) 0 (.slice (some ⟨gP, 0, none⟩) (U + 1) cP)).set (p := [_, _, _, _]) (by simp <;> omega) 1 (.slice (some ⟨wd5.heap.size, 0, none⟩) l.length l.length)
            have hgG := (hs139.box (wP.heap.size, #[.slice none 0 0, .slice none 0 0], 53) (by simp)).2.1
            simp only at hgG
            go_wp2_with fail
            refine t4_nil (NoPanic.normal ?_)
            go_wp2_with fail
            go_meet
            case rel =>
              have ho := ((OnlyAt.refl [wP.heap.size] wA).setCell (p := ⟨wP.heap.size, 0, none⟩) (by simp) (.slice (some ⟨gP, 0, none⟩) (U + 1) cP)).setCell (p := ⟨wP.heap.size, 1, none⟩) (by simp) (.slice (some ⟨wd5.heap.size, 0, none⟩) l.length l.length)
              have o1 := ownSl_ints (l := El ++ [Er]) (by have h := row_frame HRP_141.out (fun k hk => ho.block k (by simp [Value.ownBlock] at hk ⊢; omega)); simpa [ivals] using h) (by rw [List.length_append, HEL.out]; rfl) (fun b hb => by
                rcases List.mem_append.1 hb with hb | hb
                · exact HIE.out b hb
                · obtain rfl : b = Er := by simpa using hb
                  exact hIr)
              have o2 := ownSl_only HOM_140.out ho (fun k h1 h2 => by simp at h1 h2; omega)
              refine ⟨wP.heap.size, _, cP, _, l.length, rfl, (hq.up hq.hi (Nat.le_refl _)).sub (fun x hx => ?_), ⟨[gP] ++ [wd5.heap.size], mk_own ⟨_, rfl, o1⟩ ⟨_, rfl, o2⟩, by simp; omega, by simp; omega⟩, Lib.hid (by omega)⟩
              simp only [List.mem_cons, List.not_mem_nil, or_false] at hx
              rcases hx with rfl | rfl | rfl | rfl <;> simp
          · refine t4_hard rfl (by rfl) (fun K hK => ?_)
            go_wp2_with fail
            have hs142 := hs135.alloc #[.slice none 0 0, .slice none 0 0] 53 (n := w132.heap.size + 1) (by simp)
            have HOM_143 := Lib.hid (ownSl_mono HOM_136.out (belowA _ (.cells #[.slice none 0 0, .slice none 0 0] 53)))
            clear HOM_136
            have HROW_144 := Lib.hid (ownsRow_below HROW_137.out (belowA _ (.cells #[.slice none 0 0, .slice none 0 0] 53)))
            clear HROW_137
            have hz_wA : w132.heap.size + 1 + 1 ≤ (((w132.alloc (.cells #[.int .i64 Er] 2)).alloc (.cells #[.slice none 0 0, .slice none 0 0] 53))).heap.size := by simp
            generalize hgen_wA : ((w132.alloc (.cells #[.int .i64 Er] 2)).alloc (.cells #[.slice none 0 0, .slice none 0 0] 53)) = wA at *
            clear hgen_wA
            refine ⟨⟨hs142.cellAt 0 rfl 0 rfl, hs142.cellAt 0 rfl 1 rfl, hs142.cellAt 0 rfl 2 rfl, hs142.cellAt 1 rfl 0 rfl, hs142.cellAt 1 rfl 1 rfl, hs142.cellAt 2 rfl 0 rfl, hs142.cellAt 2 rfl 1 rfl⟩, ?_⟩
            (repeat (first | (apply t4_skip rfl (by rfl); try simp only [Act.put, List.setIfInBounds_toArray, List.set_cons_zero, List.set_cons_succ]) | (apply t4_float rfl (by rfl); (· (intro w' hS; go_simp <;> with_reducible rfl)); (try simp only [Act.put, List.setIfInBounds_toArray, List.set_cons_zero, List.set_cons_succ]))))
            refine t4_hard rfl (by rfl) (fun K hK => ?_)
            refine wp_append_row _ _ _ _ rfl E_ints (v := .slice (some ⟨gC, 0, none⟩) U cC) rfl HROW_144.out (vs := [.int .i64 Er]) rfl (one_int _) ⟨w132.heap.size, 0, none⟩ 1 rfl (news1 (hs142.cellAt 3 rfl 0 rfl)) (by omega) ?_
            intro gP cP wP hat hrowP hbutP hltP
            have hgP : gP = gC ∨ gP = wA.heap.size := by simpa [Value.ownBlock] using hat.imp Eq.symm id
            have hbutP : But [gC] wA wP := hbutP
            have hsP := hs142.butIv hbutP (fun k hk => by simp at hk; omega) (fun x hx => by
              simp only [List.mem_append, List.mem_cons, List.not_mem_nil, or_false, false_or, or_assoc, List.nil_append] at hx ⊢
              rcases hx with rfl | rfl | rfl | rfl | rfl <;> (simp only; omega))
            have HRP := Lib.hid (show wP.ownsRow 0 2 1 (.slice (some ⟨gP, 0, none⟩) (U + 1) cP) (U + 1) (ivals El ++ [.int .i64 Er]) from hrowP)
            clear hat hrowP
            clear HROW_144
            have hz_wP : wA.heap.size ≤ wP.heap.size := by have h9 := hbutP.size; (try simp at h9); omega
            have HOM_145 := Lib.hid (ownSl_but HOM_143.out hbutP (fun k hk => by (try simp at hk ⊢) <;> omega))
            clear HOM_143
            refine hK _ _ ⟨⟨hsP.cellAt 0 rfl 0 rfl, hsP.cellAt 0 rfl 1 rfl, hsP.cellAt 0 rfl 2 rfl, hsP.cellAt 1 rfl 0 rfl, hsP.cellAt 1 rfl 1 rfl, hsP.cellAt 2 rfl 0 rfl, hsP.cellAt 2 rfl 1 rfl⟩, ?_⟩
            (repeat (first | (apply t4_skip rfl (by rfl); try simp only [Act.put, List.setIfInBounds_toArray, List.set_cons_zero, List.set_cons_succ]) | (apply t4_float rfl (by rfl); (· (intro w' hS; go_simp <;> with_reducible rfl)); (try simp only [Act.put, List.setIfInBounds_toArray, List.set_cons_zero, List.set_cons_succ]))))
            refine t4_last rfl (by rfl) (fun K hK => ?_)
            have k0_0 := hsP.cellAt 0 rfl 0 rfl
            have k0_1 := hsP.cellAt 0 rfl 1 rfl
            have k0_2 := hsP.cellAt 0 rfl 2 rfl
            have k1_0 := hsP.cellAt 1 rfl 0 rfl
            have k1_1 := hsP.cellAt 1 rfl 1 rfl
            have k2_0 := hsP.cellAt 2 rfl 0 rfl
            have k2_1 := hsP.cellAt 2 rfl 1 rfl
            have k3_0 := hsP.cellAt 3 rfl 0 rfl
            have k4_0 := hsP.cellAt 4 rfl 0 rfl
            have k4_1 := hsP.cellAt 4 rfl 1 rfl
            have f0 := (hsP.freeAt 4 rfl 0)
            have f1 := (hsP.freeAt 4 rfl 1)
            have hq := (hsP.set (p := [_, _, _, _]) (by simp <;> omega) 0 (.slice (some ⟨gP, 0, none⟩) (U + 1) cP)).set (p := [_, _, _, _]) (by simp <;> omega) 1 (.slice (some ⟨wd5.heap.size, 0, none⟩) l.length l.length)
            have hgG := (hsP.box (w132.heap.size + 1, #[.slice none 0 0, .slice none 0 0], 53) (by simp)).2.1
            simp only at hgG
            go_wp2_with fail
            refine t4_nil (NoPanic.normal ?_)
            go_wp2_with fail
            go_meet
            case rel =>
              have ho := ((OnlyAt.refl [w132.heap.size + 1] wP).setCell (p := ⟨w132.heap.size + 1, 0, none⟩) (by simp) (.slice (some ⟨gP, 0, none⟩) (U + 1) cP)).setCell (p := ⟨w132.heap.size + 1, 1, none⟩) (by simp) (.slice (some ⟨wd5.heap.size, 0, none⟩) l.length l.length)
              have o1 := ownSl_ints (l := El ++ [Er]) (by have h := row_frame HRP.out (fun k hk => ho.block k (by simp [Value.ownBlock] at hk ⊢; omega)); simpa [ivals] using h) (by rw [List.length_append, HEL.out]; rfl) (fun b hb => by
                rcases List.mem_append.1 hb with hb | hb
                · exact HIE.out b hb
                · obtain rfl : b = Er := by simpa using hb
                  exact hIr)
              have o2 := ownSl_only HOM_145.out ho (fun k h1 h2 => by simp at h1 h2; omega)
              refine ⟨w132.heap.size + 1, _, cP, _, l.length, rfl, (hq.up hq.hi (Nat.le_refl _)).sub (fun x hx => ?_), ⟨[gP] ++ [wd5.heap.size], mk_own ⟨_, rfl, o1⟩ ⟨_, rfl, o2⟩, by simp; omega, by simp; omega⟩, Lib.hid (by omega)⟩
              simp only [List.mem_cons, List.not_mem_nil, or_false] at hx
              rcases hx with rfl | rfl | rfl | rfl <;> simp
        · refine t4_hard rfl (by rfl) (fun K hK => ?_)
          go_wp2_with fail
          have hs146 := hs133.alloc #[.slice none 0 0, .slice none 0 0] 53 (n := w132.heap.size) (by simp)
          have HOM_147 := Lib.hid (ownSl_mono HOM_134.out (belowA _ (.cells #[.slice none 0 0, .slice none 0 0] 53)))
          clear HOM_134
          have HROW_148 := Lib.hid (ownsRow_below HROW.out (belowA _ (.cells #[.slice none 0 0, .slice none 0 0] 53)))
          clear HROW
          have hz_wA : w132.heap.size + 1 ≤ ((w132.alloc (.cells #[.slice none 0 0, .slice none 0 0] 53))).heap.size := by simp
          generalize hgen_wA : (w132.alloc (.cells #[.slice none 0 0, .slice none 0 0] 53)) = wA at *
          clear hgen_wA
          refine ⟨⟨hs146.cellAt 0 rfl 0 rfl, hs146.cellAt 0 rfl 1 rfl, hs146.cellAt 0 rfl 2 rfl, hs146.cellAt 1 rfl 0 rfl, hs146.cellAt 1 rfl 1 rfl, hs146.cellAt 2 rfl 0 rfl, hs146.cellAt 2 rfl 1 rfl⟩, ?_⟩
          (repeat (first | (apply t4_skip rfl (by rfl); try simp only [Act.put, List.setIfInBounds_toArray, List.set_cons_zero, List.set_cons_succ]) | (apply t4_float rfl (by rfl); (· (intro w' hS; go_simp <;> with_reducible rfl)); (try simp only [Act.put, List.setIfInBounds_toArray, List.set_cons_zero, List.set_cons_succ]))))
          refine t4_hard rfl (by rfl) (fun K hK => ?_)
          go_wp2_with fail
          have hs149 := hs146.alloc #[.int .i64 Er] 2 (n := wA.heap.size) (by simp)
          have HOM_150 := Lib.hid (ownSl_mono HOM_147.out (belowA _ (.cells #[.int .i64 Er] 2)))
          clear HOM_147
          have HROW_151 := Lib.hid (ownsRow_below HROW_148.out (belowA _ (.cells #[.int .i64 Er] 2)))
          clear HROW_148
          refine ⟨⟨hs149.cellAt 0 rfl 0 rfl, hs149.cellAt 0 rfl 1 rfl, hs149.cellAt 0 rfl 2 rfl, hs149.cellAt 1 rfl 0 rfl, hs149.cellAt 1 rfl 1 rfl, hs149.cellAt 2 rfl 0 rfl, hs149.cellAt 2 rfl 1 rfl⟩, ?_⟩
          (repeat (first | (apply t4_skip rfl (by rfl); try simp only [Act.put, List.setIfInBounds_toArray, List.set_cons_zero, List.set_cons_succ]) | (apply t4_float rfl (by rfl); (· (intro w' hS; go_simp <;> with_reducible rfl)); (try simp only [Act.put, List.setIfInBounds_toArray, List.set_cons_zero, List.set_cons_succ]))))
          refine t4_hard rfl (by rfl) (fun K hK => ?_)
          refine wp_append_row _ _ _ _ rfl E_ints (v := .slice (some ⟨gC, 0, none⟩) U cC) rfl HROW_151.out (vs := [.int .i64 Er]) rfl (one_int _) ⟨wA.heap.size, 0, none⟩ 1 rfl (news1 (hs149.cellAt 4 rfl 0 rfl)) (by omega) ?_
          intro gP cP wP hat hrowP hbutP hltP
          have hgP : gP = gC ∨ gP = wA.heap.size + 1 := by simpa [Value.ownBlock] using hat.imp Eq.symm id
          have hbutP : But [gC] (wA.alloc (.cells #[.int .i64 Er] 2)) wP := hbutP
          have hsP := hs149.butIv hbutP (fun k hk => by simp at hk; omega) (fun x hx => by
            simp only [List.mem_append, List.mem_cons, List.not_mem_nil, or_false, false_or, or_assoc, List.nil_append] at hx ⊢
            rcases hx with rfl | rfl | rfl | rfl | rfl <;> (simp only; omega))
          have HRP := Lib.hid (show wP.ownsRow 0 2 1 (.slice (some ⟨gP, 0, none⟩) (U + 1) cP) (U + 1) (ivals El ++ [.int .i64 Er]) from hrowP)
          clear hat hrowP
          clear HROW_151
          have hz_wP : wA.heap.size + 1 ≤ wP.heap.size := by have h9 := hbutP.size; (try simp at h9); omega
          have HOM_152 := Lib.hid (ownSl_but HOM_150.out hbutP (fun k hk => by (try simp at hk ⊢) <;> omega))
          clear HOM_150
          refine hK _ _ ⟨⟨hsP.cellAt 0 rfl 0 rfl, hsP.cellAt 0 rfl 1 rfl, hsP.cellAt 0 rfl 2 rfl, hsP.cellAt 1 rfl 0 rfl, hsP.cellAt 1 rfl 1 rfl, hsP.cellAt 2 rfl 0 rfl, hsP.cellAt 2 rfl 1 rfl⟩, ?_⟩
          (repeat (first | (apply t4_skip rfl (by rfl); try simp only [Act.put, List.setIfInBounds_toArray, List.set_cons_zero, List.set_cons_succ]) | (apply t4_float rfl (by rfl); (· (intro w' hS; go_simp <;> with_reducible rfl)); (try simp only [Act.put, List.setIfInBounds_toArray, List.set_cons_zero, List.set_cons_succ]))))
          refine t4_last rfl (by rfl) (fun K hK => ?_)
          have k0_0 := hsP.cellAt 0 rfl 0 rfl
          have k0_1 := hsP.cellAt 0 rfl 1 rfl
          have k0_2 := hsP.cellAt 0 rfl 2 rfl
          have k1_0 := hsP.cellAt 1 rfl 0 rfl
          have k1_1 := hsP.cellAt 1 rfl 1 rfl
          have k2_0 := hsP.cellAt 2 rfl 0 rfl
          have k2_1 := hsP.cellAt 2 rfl 1 rfl
          have k3_0 := hsP.cellAt 3 rfl 0 rfl
          have k3_1 := hsP.cellAt 3 rfl 1 rfl
          have k4_0 := hsP.cellAt 4 rfl 0 rfl
          have f0 := (hsP.freeAt 3 rfl 0)
          have f1 := (hsP.freeAt 3 rfl 1)
          have hq := (hsP.set (p := [_, _, _]) (by simp <;> omega) 0 (.slice (some ⟨gP, 0, none⟩) (U + 1) cP)).set (p := [_, _, _]) (by simp <;> omega) 1 (.slice (some ⟨wd5.heap.size, 0, none⟩) l.length l.length)
          have hgG := (hsP.box (w132.heap.size, #[.slice none 0 0, .slice none 0 0], 53) (by simp)).2.1
          simp only at hgG
          go_wp2_with fail
          refine t4_nil (NoPanic.normal ?_)
          go_wp2_with fail
          go_meet
          case rel =>
            have ho := ((OnlyAt.refl [w132.heap.size] wP).setCell (p := ⟨w132.heap.size, 0, none⟩) (by simp) (.slice (some ⟨gP, 0, none⟩) (U + 1) cP)).setCell (p := ⟨w132.heap.size, 1, none⟩) (by simp) (.slice (some ⟨wd5.heap.size, 0, none⟩) l.length l.length)
            have o1 := ownSl_ints (l := El ++ [Er]) (by have h := row_frame HRP.out (fun k hk => ho.block k (by simp [Value.ownBlock] at hk ⊢; omega)); simpa [ivals] using h) (by rw [List.length_append, HEL.out]; rfl) (fun b hb => by
              rcases List.mem_append.1 hb with hb | hb
              · exact HIE.out b hb
              · obtain rfl : b = Er := by simpa using hb
                exact hIr)
            have o2 := ownSl_only HOM_152.out ho (fun k h1 h2 => by simp at h1 h2; omega)
            refine ⟨w132.heap.size, _, cP, _, l.length, rfl, (hq.up hq.hi (Nat.le_refl _)).sub (fun x hx => ?_), ⟨[gP] ++ [wd5.heap.size], mk_own ⟨_, rfl, o1⟩ ⟨_, rfl, o2⟩, by simp; omega, by simp; omega⟩, Lib.hid (by omega)⟩
            simp only [List.mem_cons, List.not_mem_nil, or_false] at hx
            rcases hx with rfl | rfl | rfl | rfl <;> simp
      · refine t4_hard rfl (by rfl) (fun K hK => ?_)
        go_wp2_with fail
        have hs153 := hs131.alloc #[.int .i64 Er] 2 (n := wM.heap.size) (by simp)
        have HOM_154 := Lib.hid (ownSl_mono HOM.out (belowA _ (.cells #[.int .i64 Er] 2)))
        clear HOM
        refine ⟨⟨hs153.cellAt 0 rfl 0 rfl, hs153.cellAt 0 rfl 1 rfl, hs153.cellAt 0 rfl 2 rfl, hs153.cellAt 1 rfl 0 rfl, hs153.cellAt 1 rfl 1 rfl, hs153.cellAt 2 rfl 0 rfl, hs153.cellAt 2 rfl 1 rfl⟩, ?_⟩
        (repeat (first | (apply t4_skip rfl (by rfl); try simp only [Act.put, List.setIfInBounds_toArray, List.set_cons_zero, List.set_cons_succ]) | (apply t4_float rfl (by rfl); (· (intro w' hS; go_simp <;> with_reducible rfl)); (try simp only [Act.put, List.setIfInBounds_toArray, List.set_cons_zero, List.set_cons_succ]))))
        refine t4_fork2 ?_ ?_
        · refine t4_hard rfl (by rfl) (fun K hK => ?_)
          go_wp2_with (go_at_call 39; refine (cloneIntsA_c El _ _ (Rd.mono HE.out hs153.bel) (by rw [HEL.out]; omega)).mono ?_; rintro e w155 ⟨v4, rfl, hA, hbw155⟩)
          have hz_w155 : wM.heap.size + 1 ≤ w155.heap.size := by have h9 := hbw155.size; (try simp at h9); omega
          have hs156 := hs153.step hbw155
          have HOM_157 := Lib.hid (ownSl_mono HOM_154.out hbw155)
          clear HOM_154
          obtain ⟨gC, cC, rfl, hgC1, hgC2⟩ := hA.form' (by rw [HEL.out]; omega)
          have HROW := Lib.hid (row_base (acc_ints_get hA).1)
          have HIE := Lib.hid (acc_ints_get hA).2.2
          rw [HEL.out] at HROW
          rw [HEL.out]
          (try simp at hgC1)
          clear hA
          refine ⟨⟨hs156.cellAt 0 rfl 0 rfl, hs156.cellAt 0 rfl 1 rfl, hs156.cellAt 0 rfl 2 rfl, hs156.cellAt 1 rfl 0 rfl, hs156.cellAt 1 rfl 1 rfl, hs156.cellAt 2 rfl 0 rfl, hs156.cellAt 2 rfl 1 rfl⟩, ?_⟩
          (repeat (first | (apply t4_skip rfl (by rfl); try simp only [Act.put, List.setIfInBounds_toArray, List.set_cons_zero, List.set_cons_succ]) | (apply t4_float rfl (by rfl); (· (intro w' hS; go_simp <;> with_reducible rfl)); (try simp only [Act.put, List.setIfInBounds_toArray, List.set_cons_zero, List.set_cons_succ]))))
          refine t4_fork2 ?_ ?_
          · refine t4_hard rfl (by rfl) (fun K hK => ?_)
            refine wp_append_row _ _ _ _ rfl E_ints (v := .slice (some ⟨gC, 0, none⟩) U cC) rfl HROW.out (vs := [.int .i64 Er]) rfl (one_int _) ⟨wM.heap.size, 0, none⟩ 1 rfl (news1 (hs156.cellAt 3 rfl 0 rfl)) (by omega) ?_
            intro gP cP wP hat hrowP hbutP hltP
            have hgP : gP = gC ∨ gP = w155.heap.size := by simpa [Value.ownBlock] using hat.imp Eq.symm id
            have hbutP : But [gC] w155 wP := hbutP
            have hsP := hs156.butIv hbutP (fun k hk => by simp at hk; omega) (fun x hx => by
              simp only [List.mem_append, List.mem_cons, List.not_mem_nil, or_false, false_or, or_assoc, List.nil_append] at hx ⊢
              rcases hx with rfl | rfl | rfl | rfl <;> (simp only; omega))
            have HRP := Lib.hid (show wP.ownsRow 0 2 1 (.slice (some ⟨gP, 0, none⟩) (U + 1) cP) (U + 1) (ivals El ++ [.int .i64 Er]) from hrowP)
            clear hat hrowP
            clear HROW
            have hz_wP : w155.heap.size ≤ wP.heap.size := by have h9 := hbutP.size; (try simp at h9); omega
            have HOM_158 := Lib.hid (ownSl_but HOM_157.out hbutP (fun k hk => by (try simp at hk ⊢) <;> omega))
            clear HOM_157
            refine hK _ _ ⟨⟨hsP.cellAt 0 rfl 0 rfl, hsP.cellAt 0 rfl 1 rfl, hsP.cellAt 0 rfl 2 rfl, hsP.cellAt 1 rfl 0 rfl, hsP.cellAt 1 rfl 1 rfl, hsP.cellAt 2 rfl 0 rfl, hsP.cellAt 2 rfl 1 rfl⟩, ?_⟩
            (repeat (first | (apply t4_skip rfl (by rfl); try simp only [Act.put, List.setIfInBounds_toArray, List.set_cons_zero, List.set_cons_succ]) | (apply t4_float rfl (by rfl); (· (intro w' hS; go_simp <;> with_reducible rfl)); (try simp only [Act.put, List.setIfInBounds_toArray, List.set_cons_zero, List.set_cons_succ]))))
            refine t4_hard rfl (by rfl) (fun K hK => ?_)
            go_wp2_with fail
            have hs159 := hsP.alloc #[.slice none 0 0, .slice none 0 0] 53 (n := wP.heap.size) (by simp)
            have HOM_160 := Lib.hid (ownSl_mono HOM_158.out (belowA _ (.cells #[.slice none 0 0, .slice none 0 0] 53)))
            clear HOM_158
            have HRP_161 := Lib.hid (ownsRow_below HRP.out (belowA _ (.cells #[.slice none 0 0, .slice none 0 0] 53)))
            clear HRP
            have hz_wA : wP.heap.size + 1 ≤ ((wP.alloc (.cells #[.slice none 0 0, .slice none 0 0] 53))).heap.size := by simp
            generalize hgen_wA : (wP.alloc (.cells #[.slice none 0 0, .slice none 0 0] 53)) = wA at *
            clear hgen_wA
            refine ⟨⟨hs159.cellAt 0 rfl 0 rfl, hs159.cellAt 0 rfl 1 rfl, hs159.cellAt 0 rfl 2 rfl, hs159.cellAt 1 rfl 0 rfl, hs159.cellAt 1 rfl 1 rfl, hs159.cellAt 2 rfl 0 rfl, hs159.cellAt 2 rfl 1 rfl⟩, ?_⟩
            (repeat (first | (apply t4_skip rfl (by rfl); try simp only [Act.put, List.setIfInBounds_toArray, List.set_cons_zero, List.set_cons_succ]) | (apply t4_float rfl (by rfl); (· (intro w' hS; go_simp <;> with_reducible rfl)); (try simp only [Act.put, List.setIfInBounds_toArray, List.set_cons_zero, List.set_cons_succ]))))
            refine t4_last rfl (by rfl) (fun K hK => ?_)
            have k0_0 := hs159.cellAt 0 rfl 0 rfl
            have k0_1 := hs159.cellAt 0 rfl 1 rfl
            have k0_2 := hs159.cellAt 0 rfl 2 rfl
            have k1_0 := hs159.cellAt 1 rfl 0 rfl
            have k1_1 := hs159.cellAt 1 rfl 1 rfl
            have k2_0 := hs159.cellAt 2 rfl 0 rfl
            have k2_1 := hs159.cellAt 2 rfl 1 rfl
            have k3_0 := hs159.cellAt 3 rfl 0 rfl
            have k4_0 := hs159.cellAt 4 rfl 0 rfl
            have k4_1 := hs159.cellAt 4 rfl 1 rfl
            have f0 := (hs159.freeAt 4 rfl 0)
            have f1 := (hs159.freeAt 4 rfl 1)
            have hq := (hs159.set (p := [_, _, _, _]) (by simp <;> omega) 0 (.slice (some ⟨gP, 0, none⟩) (U + 1) cP)).set (p := [_, _, _, _]) (by simp <;> omega) 1 (.slice (some ⟨wd5.heap.size, 0, none⟩) l.length l.length)
            have hgG := (hs159.box (wP.heap.size, #[.slice none 0 0, .slice none 0 0], 53) (by simp)).2.1
            simp only at hgG
            go_wp2_with fail
            refine t4_nil (NoPanic.normal ?_)
            go_wp2_with fail
            go_meet
            case rel =>
              have ho := ((OnlyAt.refl [wP.heap.size] wA).setCell (p := ⟨wP.heap.size, 0, none⟩) (by simp) (.slice (some ⟨gP, 0, none⟩) (U + 1) cP)).setCell (p := ⟨wP.heap.size, 1, none⟩) (by simp) (.slice (some ⟨wd5.heap.size, 0, none⟩) l.length l.length)
              have o1 := ownSl_ints (l := El ++ [Er]) (by have h := row_frame HRP_161.out (fun k hk => ho.block k (by simp [Value.ownBlock] at hk ⊢; omega)); simpa [ivals] using h) (by rw [List.length_append, HEL.out]; rfl) (fun b hb => by
                rcases List.mem_append.1 hb with hb | hb
                · exact HIE.out b hb
                · obtain rfl : b = Er := by simpa using hb
                  exact hIr)
              have o2 := ownSl_only HOM_160.out ho (fun k h1 h2 => by simp at h1 h2; omega)
              refine ⟨wP.heap.size, _, cP, _, l.length, rfl, (hq.up hq.hi (Nat.le_refl _)).sub (fun x hx => ?_), ⟨[gP] ++ [wd5.heap.size], mk_own ⟨_, rfl, o1⟩ ⟨_, rfl, o2⟩, by simp; omega, by simp; omega⟩, Lib.hid (by omega)⟩
              simp only [List.mem_cons, List.not_mem_nil, or_false] at hx
              rcases hx with rfl | rfl | rfl | rfl <;> simp
          · refine t4_hard rfl (by rfl) (fun K hK => ?_)
            go_wp2_with fail
            have hs162 := hs156.alloc #[.slice none 0 0, .slice none 0 0] 53 (n := w155.heap.size) (by simp)
            have HOM_163 := Lib.hid (ownSl_mono HOM_157.out (belowA _ (.cells #[.slice none 0 0, .slice none 0 0] 53)))
            clear HOM_157
            have HROW_164 := Lib.hid (ownsRow_below HROW.out (belowA _ (.cells #[.slice none 0 0, .slice none 0 0] 53)))
            clear HROW
            have hz_wA : w155.heap.size + 1 ≤ ((w155.alloc (.cells #[.slice none 0 0, .slice none 0 0] 53))).heap.size := by simp
            generalize hgen_wA : (w155.alloc (.cells #[.slice none 0 0, .slice none 0 0] 53)) = wA at *
            clear hgen_wA
            refine ⟨⟨hs162.cellAt 0 rfl 0 rfl, hs162.cellAt 0 rfl 1 rfl, hs162.cellAt 0 rfl 2 rfl, hs162.cellAt 1 rfl 0 rfl, hs162.cellAt 1 rfl 1 rfl, hs162.cellAt 2 rfl 0 rfl, hs162.cellAt 2 rfl 1 rfl⟩, ?_⟩
            (repeat (first | (apply t4_skip rfl (by rfl); try simp only [Act.put, List.setIfInBounds_toArray, List.set_cons_zero, List.set_cons_succ]) | (apply t4_float rfl (by rfl); (· (intro w' hS; go_simp <;> with_reducible rfl)); (try simp only [Act.put, List.setIfInBounds_toArray, List.set_cons_zero, List.set_cons_succ]))))
            refine t4_hard rfl (by rfl) (fun K hK => ?_)
            refine wp_append_row _ _ _ _ rfl E_ints (v := .slice (some ⟨gC, 0, none⟩) U cC) rfl HROW_164.out (vs := [.int .i64 Er]) rfl (one_int _) ⟨wM.heap.size, 0, none⟩ 1 rfl (news1 (hs162.cellAt 3 rfl 0 rfl)) (by omega) ?_
            intro gP cP wP hat hrowP hbutP hltP
            have hgP : gP = gC ∨ gP = wA.heap.size := by simpa [Value.ownBlock] using hat.imp Eq.symm id
            have hbutP : But [gC] wA wP := hbutP
            have hsP := hs162.butIv hbutP (fun k hk => by simp at hk; omega) (fun x hx => by
              simp only [List.mem_append, List.mem_cons, List.not_mem_nil, or_false, false_or, or_assoc, List.nil_append] at hx ⊢
              rcases hx with rfl | rfl | rfl | rfl | rfl <;> (simp only; omega))
            have HRP := Lib.hid (show wP.ownsRow 0 2 1 (.slice (some ⟨gP, 0, none⟩) (U + 1) cP) (U + 1) (ivals El ++ [.int .i64 Er]) from hrowP)
            clear hat hrowP
            clear HROW_164
            have hz_wP : wA.heap.size ≤ wP.heap.size := by have h9 := hbutP.size; (try simp at h9); omega
            have HOM_165 := Lib.hid (ownSl_but HOM_163.out hbutP (fun k hk => by (try simp at hk ⊢) <;> omega))
            clear HOM_163
            refine hK _ _ ⟨⟨hsP.cellAt 0 rfl 0 rfl, hsP.cellAt 0 rfl 1 rfl, hsP.cellAt 0 rfl 2 rfl, hsP.cellAt 1 rfl 0 rfl, hsP.cellAt 1 rfl 1 rfl, hsP.cellAt 2 rfl 0 rfl, hsP.cellAt 2 rfl 1 rfl⟩, ?_⟩
            (repeat (first | (apply t4_skip rfl (by rfl); try simp only [Act.put, List.setIfInBounds_toArray, List.set_cons_zero, List.set_cons_succ]) | (apply t4_float rfl (by rfl); (· (intro w' hS; go_simp <;> with_reducible rfl)); (try simp only [Act.put, List.setIfInBounds_toArray, List.set_cons_zero, List.set_cons_succ]))))
            refine t4_last rfl (by rfl) (fun K hK => ?_)
            have k0_0 := hsP.cellAt 0 rfl 0 rfl
            have k0_1 := hsP.cellAt 0 rfl 1 rfl
            have k0_2 := hsP.cellAt 0 rfl 2 rfl
            have k1_0 := hsP.cellAt 1 rfl 0 rfl
            have k1_1 := hsP.cellAt 1 rfl 1 rfl
            have k2_0 := hsP.cellAt 2 rfl 0 rfl
            have k2_1 := hsP.cellAt 2 rfl 1 rfl
            have k3_0 := hsP.cellAt 3 rfl 0 rfl
            have k4_0 := hsP.cellAt 4 rfl 0 rfl
            have k4_1 := hsP.cellAt 4 rfl 1 rfl
            have f0 := (hsP.freeAt 4 rfl 0)
            have f1 := (hsP.freeAt 4 rfl 1)
            have hq := (hsP.set (p := [_, _, _, _]) (by simp <;> omega) 0 (.slice (some ⟨gP, 0, none⟩) (U + 1) cP)).set (p := [_, _, _, _]) (by simp <;> omega) 1 (.slice (some ⟨wd5.heap.size, 0, none⟩) l.length l.length)
            have hgG := (hsP.box (w155.heap.size, #[.slice none 0 0, .slice none 0 0], 53) (by simp)).2.1
            simp only at hgG
            go_wp2_with fail
            refine t4_nil (NoPanic.normal ?_)
            go_wp2_with fail
            go_meet
            case rel =>
              have ho := ((OnlyAt.refl [w155.heap.size] wP).setCell (p := ⟨w155.heap.size, 0, none⟩) (by simp) (.slice (some ⟨gP, 0, none⟩) (U + 1) cP)).setCell (p := ⟨w155.heap.size, 1, none⟩) (by simp) (.slice (some ⟨wd5.heap.size, 0, none⟩) l.length l.length)
              have o1 := ownSl_ints (l := El ++ [Er]) (by have h := row_frame HRP.out (fun k hk => ho.block k (by simp [Value.ownBlock] at hk ⊢; omega)); simpa [ivals] using h) (by rw [List.length_append, HEL.out]; rfl) (fun b hb => by
                rcases List.mem_append.1 hb with hb | hb
                · exact HIE.out b hb
                · obtain rfl : b = Er := by simpa using hb
                  exact hIr)
              have o2 := ownSl_only HOM_165.out ho (fun k h1 h2 => by simp at h1 h2; omega)
              refine ⟨w155.heap.size, _, cP, _, l.length, rfl, (hq.up hq.hi (Nat.le_refl _)).sub (fun x hx => ?_), ⟨[gP] ++ [wd5.heap.size], mk_own ⟨_, rfl, o1⟩ ⟨_, rfl, o2⟩, by simp; omega, by simp; omega⟩, Lib.hid (by omega)⟩
              simp only [List.mem_cons, List.not_mem_nil, or_false] at hx
              rcases hx with rfl | rfl | rfl | rfl <;> simp
        · refine t4_hard rfl (by rfl) (fun K hK => ?_)
          go_wp2_with fail
          have hs166 := hs153.alloc #[.slice none 0 0, .slice none 0 0] 53 (n := wM.heap.size + 1) (by simp)
          have HOM_167 := Lib.hid (ownSl_mono HOM_154.out (belowA _ (.cells #[.slice none 0 0, .slice none 0 0] 53)))
          clear HOM_154
          have hz_wA : wM.heap.size + 1 + 1 ≤ (((wM.alloc (.cells #[.int .i64 Er] 2)).alloc (.cells #[.slice none 0 0, .slice none 0 0] 53))).heap.size := by simp
          generalize hgen_wA : ((wM.alloc (.cells #[.int .i64 Er] 2)).alloc (.cells #[.slice none 0 0, .slice none 0 0] 53)) = wA at *
          clear hgen_wA
          refine ⟨⟨hs166.cellAt 0 rfl 0 rfl, hs166.cellAt 0 rfl 1 rfl, hs166.cellAt 0 rfl 2 rfl, hs166.cellAt 1 rfl 0 rfl, hs166.cellAt 1 rfl 1 rfl, hs166.cellAt 2 rfl 0 rfl, hs166.cellAt 2 rfl 1 rfl⟩, ?_⟩
          (repeat (first | (apply t4_skip rfl (by rfl); try simp only [Act.put, List.setIfInBounds_toArray, List.set_cons_zero, List.set_cons_succ]) | (apply t4_float rfl (by rfl); (· (intro w' hS; go_simp <;> with_reducible rfl)); (try simp only [Act.put, List.setIfInBounds_toArray, List.set_cons_zero, List.set_cons_succ]))))
          refine t4_hard rfl (by rfl) (fun K hK => ?_)
          go_wp2_with (go_at_call 39; refine (cloneIntsA_c El _ _ (Rd.mono HE.out hs166.bel) (by rw [HEL.out]; omega)).mono ?_; rintro e w168 ⟨v4, rfl, hA, hbw168⟩)
          have hz_w168 : wA.heap.size ≤ w168.heap.size := by have h9 := hbw168.size; (try simp at h9); omega
          have hs169 := hs166.step hbw168
          have HOM_170 := Lib.hid (ownSl_mono HOM_167.out hbw168)
          clear HOM_167
          obtain ⟨gC, cC, rfl, hgC1, hgC2⟩ := hA.form' (by rw [HEL.out]; omega)
          have HROW := Lib.hid (row_base (acc_ints_get hA).1)
          have HIE := Lib.hid (acc_ints_get hA).2.2
          rw [HEL.out] at HROW
          rw [HEL.out]
          (try simp at hgC1)
          clear hA
          refine ⟨⟨hs169.cellAt 0 rfl 0 rfl, hs169.cellAt 0 rfl 1 rfl, hs169.cellAt 0 rfl 2 rfl, hs169.cellAt 1 rfl 0 rfl, hs169.cellAt 1 rfl 1 rfl, hs169.cellAt 2 rfl 0 rfl, hs169.cellAt 2 rfl 1 rfl⟩, ?_⟩
          (repeat (first | (apply t4_skip rfl (by rfl); try simp only [Act.put, List.setIfInBounds_toArray, List.set_cons_zero, List.set_cons_succ]) | (apply t4_float rfl (by rfl); (· (intro w' hS; go_simp <;> with_reducible rfl)); (try simp only [Act.put, List.setIfInBounds_toArray, List.set_cons_zero, List.set_cons_succ]))))
          refine t4_hard rfl (by rfl) (fun K hK => ?_)
          refine wp_append_row _ _ _ _ rfl E_ints (v := .slice (some ⟨gC, 0, none⟩) U cC) rfl HROW.out (vs := [.int .i64 Er]) rfl (one_int _) ⟨wM.heap.size, 0, none⟩ 1 rfl (news1 (hs169.cellAt 3 rfl 0 rfl)) (by omega) ?_
          intro gP cP wP hat hrowP hbutP hltP
          have hgP : gP = gC ∨ gP = w168.heap.size := by simpa [Value.ownBlock] using hat.imp Eq.symm id
          have hbutP : But [gC] w168 wP := hbutP
          have hsP := hs169.butIv hbutP (fun k hk => by simp at hk; omega) (fun x hx => by
            simp only [List.mem_append, List.mem_cons, List.not_mem_nil, or_false, false_or, or_assoc, List.nil_append] at hx ⊢
            rcases hx with rfl | rfl | rfl | rfl | rfl <;> (simp only; omega))
          have HRP := Lib.hid (show wP.ownsRow 0 2 1 (.slice (some ⟨gP, 0, none⟩) (U + 1) cP) (U + 1) (ivals El ++ [.int .i64 Er]) from hrowP)
          clear hat hrowP
          clear HROW
          have hz_wP : w168.heap.size ≤ wP.heap.size := by have h9 := hbutP.size; (try simp at h9); omega
          have HOM_171 := Lib.hid (ownSl_but HOM_170.out hbutP (fun k hk => by (try simp at hk ⊢) <;> omega))
          clear HOM_170
          refine hK _ _ ⟨⟨hsP.cellAt 0 rfl 0 rfl, hsP.cellAt 0 rfl 1 rfl, hsP.cellAt 0 rfl 2 rfl, hsP.cellAt 1 rfl 0 rfl, hsP.cellAt 1 rfl 1 rfl, hsP.cellAt 2 rfl 0 rfl, hsP.cellAt 2 rfl 1 rfl⟩, ?_⟩
          (repeat (first | (apply t4_skip rfl (by rfl); try simp only [Act.put, List.setIfInBounds_toArray, List.set_cons_zero, List.set_cons_succ]) | (apply t4_float rfl (by rfl); (· (intro w' hS; go_simp <;> with_reducible rfl)); (try simp only [Act.put, List.setIfInBounds_toArray, List.set_cons_zero, List.set_cons_succ]))))
          refine t4_last rfl (by rfl) (fun K hK => ?_)
          have k0_0 := hsP.cellAt 0 rfl 0 rfl
          have k0_1 := hsP.cellAt 0 rfl 1 rfl
          have k0_2 := hsP.cellAt 0 rfl 2 rfl
          have k1_0 := hsP.cellAt 1 rfl 0 rfl
          have k1_1 := hsP.cellAt 1 rfl 1 rfl
          have k2_0 := hsP.cellAt 2 rfl 0 rfl
          have k2_1 := hsP.cellAt 2 rfl 1 rfl
          have k3_0 := hsP.cellAt 3 rfl 0 rfl
          have k4_0 := hsP.cellAt 4 rfl 0 rfl
          have k4_1 := hsP.cellAt 4 rfl 1 rfl
          have f0 := (hsP.freeAt 4 rfl 0)
          have f1 := (hsP.freeAt 4 rfl 1)
          have hq := (hsP.set (p := [_, _, _, _]) (by simp <;> omega) 0 (.slice (some ⟨gP, 0, none⟩) (U + 1) cP)).set (p := [_, _, _, _]) (by simp <;> omega) 1 (.slice (some ⟨wd5.heap.size, 0, none⟩) l.length l.length)
          have hgG := (hsP.box (wM.heap.size + 1, #[.slice none 0 0, .slice none 0 0], 53) (by simp)).2.1
          simp only at hgG
          go_wp2_with fail
          refine t4_nil (NoPanic.normal ?_)
          go_wp2_with fail
          go_meet
          case rel =>
            have ho := ((OnlyAt.refl [wM.heap.size + 1] wP).setCell (p := ⟨wM.heap.size + 1, 0, none⟩) (by simp) (.slice (some ⟨gP, 0, none⟩) (U + 1) cP)).setCell (p := ⟨wM.heap.size + 1, 1, none⟩) (by simp) (.slice (some ⟨wd5.heap.size, 0, none⟩) l.length l.length)
            have o1 := ownSl_ints (l := El ++ [Er]) (by have h := row_frame HRP.out (fun k hk => ho.block k (by simp [Value.ownBlock] at hk ⊢; omega)); simpa [ivals] using h) (by rw [List.length_append, HEL.out]; rfl) (fun b hb => by
              rcases List.mem_append.1 hb with hb | hb
              · exact HIE.out b hb
              · obtain rfl : b = Er := by simpa using hb
                exact hIr)
            have o2 := ownSl_only HOM_171.out ho (fun k h1 h2 => by simp at h1 h2; omega)
            refine ⟨wM.heap.size + 1, _, cP, _, l.length, rfl, (hq.up hq.hi (Nat.le_refl _)).sub (fun x hx => ?_), ⟨[gP] ++ [wd5.heap.size], mk_own ⟨_, rfl, o1⟩ ⟨_, rfl, o2⟩, by simp; omega, by simp; omega⟩, Lib.hid (by omega)⟩
            simp only [List.mem_cons, List.not_mem_nil, or_false] at hx
            rcases hx with rfl | rfl | rfl | rfl <;> simp
      · refine t4_hard rfl (by rfl) (fun K hK => ?_)
        go_wp2_with fail
        have hs172 := hs131.alloc #[.slice none 0 0, .slice none 0 0] 53 (n := wM.heap.size) (by simp)
        have HOM_173 := Lib.hid (ownSl_mono HOM.out (belowA _ (.cells #[.slice none 0 0, .slice none 0 0] 53)))
        clear HOM
        have hz_wA : wM.heap.size + 1 ≤ ((wM.alloc (.cells #[.slice none 0 0, .slice none 0 0] 53))).heap.size := by simp
        generalize hgen_wA : (wM.alloc (.cells #[.slice none 0 0, .slice none 0 0] 53)) = wA at *
        clear hgen_wA
        refine ⟨⟨hs172.cellAt 0 rfl 0 rfl, hs172.cellAt 0 rfl 1 rfl, hs172.cellAt 0 rfl 2 rfl, hs172.cellAt 1 rfl 0 rfl, hs172.cellAt 1 rfl 1 rfl, hs172.cellAt 2 rfl 0 rfl, hs172.cellAt 2 rfl 1 rfl⟩, ?_⟩
        (repeat (first | (apply t4_skip rfl (by rfl); try simp only [Act.put, List.setIfInBounds_toArray, List.set_cons_zero, List.set_cons_succ]) | (apply t4_float rfl (by rfl); (· (intro w' hS; go_simp <;> with_reducible rfl)); (try simp only [Act.put, List.setIfInBounds_toArray, List.set_cons_zero, List.set_cons_succ]))))
        refine t4_fork2 ?_ ?_
        · refine t4_hard rfl (by rfl) (fun K hK => ?_)
          go_wp2_with (go_at_call 39; refine (cloneIntsA_c El _ _ (Rd.mono HE.out hs172.bel) (by rw [HEL.out]; omega)).mono ?_; rintro e w174 ⟨v4, rfl, hA, hbw174⟩)
          have hz_w174 : wA.heap.size ≤ w174.heap.size := by have h9 := hbw174.size; (try simp at h9); omega
          have hs175 := hs172.step hbw174
          have HOM_176 := Lib.hid (ownSl_mono HOM_173.out hbw174)
          clear HOM_173
          obtain ⟨gC, cC, rfl, hgC1, hgC2⟩ := hA.form' (by rw [HEL.out]; omega)
          have HROW := Lib.hid (row_base (acc_ints_get hA).1)
          have HIE := Lib.hid (acc_ints_get hA).2.2
          rw [HEL.out] at HROW
          rw [HEL.out]
          (try simp at hgC1)
          clear hA
          refine ⟨⟨hs175.cellAt 0 rfl 0 rfl, hs175.cellAt 0 rfl 1 rfl, hs175.cellAt 0 rfl 2 rfl, hs175.cellAt 1 rfl 0 rfl, hs175.cellAt 1 rfl 1 rfl, hs175.cellAt 2 rfl 0 rfl, hs175.cellAt 2 rfl 1 rfl⟩, ?_⟩
          (repeat (first | (apply t4_skip rfl (by rfl); try simp only [Act.put, List.setIfInBounds_toArray, List.set_cons_zero, List.set_cons_succ]) | (apply t4_float rfl (by rfl); (· (intro w' hS; go_simp <;> with_reducible rfl)); (try simp only [Act.put, List.setIfInBounds_toArray, List.set_cons_zero, List.set_cons_succ]))))
          refine t4_hard rfl (by rfl) (fun K hK => ?_)
          go_wp2_with fail
          have hs177 := hs175.alloc #[.int .i64 Er] 2 (n := w174.heap.size) (by simp)
          have HOM_178 := Lib.hid (ownSl_mono HOM_176.out (belowA _ (.cells #[.int .i64 Er] 2)))
          clear HOM_176
          have HROW_179 := Lib.hid (ownsRow_below HROW.out (belowA _ (.cells #[.int .i64 Er] 2)))
          clear HROW
          refine ⟨⟨hs177.cellAt 0 rfl 0 rfl, hs177.cellAt 0 rfl 1 rfl, hs177.cellAt 0 rfl 2 rfl, hs177.cellAt 1 rfl 0 rfl, hs177.cellAt 1 rfl 1 rfl, hs177.cellAt 2 rfl 0 rfl, hs177.cellAt 2 rfl 1 rfl⟩, ?_⟩
          (repeat (first | (apply t4_skip rfl (by rfl); try simp only [Act.put, List.setIfInBounds_toArray, List.set_cons_zero, List.set_cons_succ]) | (apply t4_float rfl (by rfl); (· (intro w' hS; go_simp <;> with_reducible rfl)); (try simp only [Act.put, List.setIfInBounds_toArray, List.set_cons_zero, List.set_cons_succ]))))
          refine t4_hard rfl (by rfl) (fun K hK => ?_)
          refine wp_append_row _ _ _ _ rfl E_ints (v := .slice (some ⟨gC, 0, none⟩) U cC) rfl HROW_179.out (vs := [.int .i64 Er]) rfl (one_int _) ⟨w174.heap.size, 0, none⟩ 1 rfl (news1 (hs177.cellAt 4 rfl 0 rfl)) (by omega) ?_
          intro gP cP wP hat hrowP hbutP hltP
          have hgP : gP = gC ∨ gP = w174.heap.size + 1 := by simpa [Value.ownBlock] using hat.imp Eq.symm id
          have hbutP : But [gC] (w174.alloc (.cells #[.int .i64 Er] 2)) wP := hbutP
          have hsP := hs177.butIv hbutP (fun k hk => by simp at hk; omega) (fun x hx => by
            simp only [List.mem_append, List.mem_cons, List.not_mem_nil, or_false, false_or, or_assoc, List.nil_append] at hx ⊢
            rcases hx with rfl | rfl | rfl | rfl | rfl <;> (simp only; omega))
          have HRP := Lib.hid (show wP.ownsRow 0 2 1 (.slice (some ⟨gP, 0, none⟩) (U + 1) cP) (U + 1) (ivals El ++ [.int .i64 Er]) from hrowP)
          clear hat hrowP
          clear HROW_179
          have hz_wP : w174.heap.size + 1 ≤ wP.heap.size := by have h9 := hbutP.size; (try simp at h9); omega
          have HOM_180 := Lib.hid (ownSl_but HOM_178.out hbutP (fun k hk => by (try simp at hk ⊢) <;> omega))
          clear HOM_178
          refine hK _ _ ⟨⟨hsP.cellAt 0 rfl 0 rfl, hsP.cellAt 0 rfl 1 rfl, hsP.cellAt 0 rfl 2 rfl, hsP.cellAt 1 rfl 0 rfl, hsP.cellAt 1 rfl 1 rfl, hsP.cellAt 2 rfl 0 rfl, hsP.cellAt 2 rfl 1 rfl⟩, ?_⟩
          (repeat (first | (apply t4_skip rfl (by rfl); try simp only [Act.put, List.setIfInBounds_toArray, List.set_cons_zero, List.set_cons_succ]) | (apply t4_float rfl (by rfl); (· (intro w' hS; go_simp <;> with_reducible rfl)); (try simp only [Act.put, List.setIfInBounds_toArray, List.set_cons_zero, List.set_cons_succ]))))
          refine t4_last rfl (by rfl) (fun K hK => ?_)
          have k0_0 := hsP.cellAt 0 rfl 0 rfl
          have k0_1 := hsP.cellAt 0 rfl 1 rfl
          have k0_2 := hsP.cellAt 0 rfl 2 rfl
          have k1_0 := hsP.cellAt 1 rfl 0 rfl
          have k1_1 := hsP.cellAt 1 rfl 1 rfl
          have k2_0 := hsP.cellAt 2 rfl 0 rfl
          have k2_1 := hsP.cellAt 2 rfl 1 rfl
          have k3_0 := hsP.cellAt 3 rfl 0 rfl
          have k3_1 := hsP.cellAt 3 rfl 1 rfl
          have k4_0 := hsP.cellAt 4 rfl 0 rfl
          have f0 := (hsP.freeAt 3 rfl 0)
          have f1 := (hsP.freeAt 3 rfl 1)
          have hq := (hsP.set (p := [_, _, _]) (by simp <;> omega) 0 (.slice (some ⟨gP, 0, none⟩) (U + 1) cP)).set (p := [_, _, _]) (by simp <;> omega) 1 (.slice (some ⟨wd5.heap.size, 0, none⟩) l.length l.length)
          have hgG := (hsP.box (wM.heap.size, #[.slice none 0 0, .slice none 0 0], 53) (by simp)).2.1
          simp only at hgG
          go_wp2_with fail
          refine t4_nil (NoPanic.normal ?_)
          go_wp2_with fail
          go_meet
          case rel =>
            have ho := ((OnlyAt.refl [wM.heap.size] wP).setCell (p := ⟨wM.heap.size, 0, none⟩) (by simp) (.slice (some ⟨gP, 0, none⟩) (U + 1) cP)).setCell (p := ⟨wM.heap.size, 1, none⟩) (by simp) (.slice (some ⟨wd5.heap.size, 0, none⟩) l.length l.length)
            have o1 := ownSl_ints (l := El ++ [Er]) (by have h := row_frame HRP.out (fun k hk => ho.block k (by simp [Value.ownBlock] at hk ⊢; omega)); simpa [ivals] using h) (by rw [List.length_append, HEL.out]; rfl) (fun b hb => by
              rcases List.mem_append.1 hb with hb | hb
              · exact HIE.out b hb
              · obtain rfl : b = Er := by simpa using hb
                exact hIr)
            have o2 := ownSl_only HOM_180.out ho (fun k h1 h2 => by simp at h1 h2; omega)
            refine ⟨wM.heap.size, _, cP, _, l.length, rfl, (hq.up hq.hi (Nat.le_refl _)).sub (fun x hx => ?_), ⟨[gP] ++ [wd5.heap.size], mk_own ⟨_, rfl, o1⟩ ⟨_, rfl, o2⟩, by simp; omega, by simp; omega⟩, Lib.hid (by omega)⟩
            simp only [List.mem_cons, List.not_mem_nil, or_false] at hx
            rcases hx with rfl | rfl | rfl | rfl <;> simp
        · refine t4_hard rfl (by rfl) (fun K hK => ?_)
          go_wp2_with fail
          have hs181 := hs172.alloc #[.int .i64 Er] 2 (n := wA.heap.size) (by simp)
          have HOM_182 := Lib.hid (ownSl_mono HOM_173.out (belowA _ (.cells #[.int .i64 Er] 2)))
          clear HOM_173
          refine ⟨⟨hs181.cellAt 0 rfl 0 rfl, hs181.cellAt 0 rfl 1 rfl, hs181.cellAt 0 rfl 2 rfl, hs181.cellAt 1 rfl 0 rfl, hs181.cellAt 1 rfl 1 rfl, hs181.cellAt 2 rfl 0 rfl, hs181.cellAt 2 rfl 1 rfl⟩, ?_⟩
          (repeat (first | (apply t4_skip rfl (by rfl); try simp only [Act.put, List.setIfInBounds_toArray, List.set_cons_zero, List.set_cons_succ]) | (apply t4_float rfl (by rfl); (· (intro w' hS; go_simp <;> with_reducible rfl)); (try simp only [Act.put, List.setIfInBounds_toArray, List.set_cons_zero, List.set_cons_succ]))))
          refine t4_hard rfl (by rfl) (fun K hK => ?_)
          go_wp2_with (go_at_call 39; refine (cloneIntsA_c El _ _ (Rd.mono HE.out hs181.bel) (by rw [HEL.out]; omega)).mono ?_; rintro e w183 ⟨v4, rfl, hA, hbw183⟩)
          have hz_w183 : wA.heap.size + 1 ≤ w183.heap.size := by have h9 := hbw183.size; (try simp at h9); omega
          have hs184 := hs181.step hbw183
          have HOM_185 := Lib.hid (ownSl_mono HOM_182.out hbw183)
          clear HOM_182
          obtain ⟨gC, cC, rfl, hgC1, hgC2⟩ := hA.form' (by rw [HEL.out]; omega)
          have HROW := Lib.hid (row_base (acc_ints_get hA).1)
          have HIE := Lib.hid (acc_ints_get hA).2.2
          rw [HEL.out] at HROW
          rw [HEL.out]
          (try simp at hgC1)
          clear hA
          refine ⟨⟨hs184.cellAt 0 rfl 0 rfl, hs184.cellAt 0 rfl 1 rfl, hs184.cellAt 0 rfl 2 rfl, hs184.cellAt 1 rfl 0 rfl, hs184.cellAt 1 rfl 1 rfl, hs184.cellAt 2 rfl 0 rfl, hs184.cellAt 2 rfl 1 rfl⟩, ?_⟩
          (repeat (first | (apply t4_skip rfl (by rfl); try simp only [Act.put, List.setIfInBounds_toArray, List.set_cons_zero, List.set_cons_succ]) | (apply t4_float rfl (by rfl); (· (intro w' hS; go_simp <;> with_reducible rfl)); (try simp only [Act.put, List.setIfInBounds_toArray, List.set_cons_zero, List.set_cons_succ]))))
          refine t4_hard rfl (by rfl) (fun K hK => ?_)
          refine wp_append_row _ _ _ _ rfl E_ints (v := .slice (some ⟨gC, 0, none⟩) U cC) rfl HROW.out (vs := [.int .i64 Er]) rfl (one_int _) ⟨wA.heap.size, 0, none⟩ 1 rfl (news1 (hs184.cellAt 4 rfl 0 rfl)) (by omega) ?_
          intro gP cP wP hat hrowP hbutP hltP
          have hgP : gP = gC ∨ gP = w183.heap.size := by simpa [Value.ownBlock] using hat.imp Eq.symm id
          have hbutP : But [gC] w183 wP := hbutP
          have hsP := hs184.butIv hbutP (fun k hk => by simp at hk; omega) (fun x hx => by
            simp only [List.mem_append, List.mem_cons, List.not_mem_nil, or_false, false_or, or_assoc, List.nil_append] at hx ⊢
            rcases hx with rfl | rfl | rfl | rfl | rfl <;> (simp only; omega))
          have HRP := Lib.hid (show wP.ownsRow 0 2 1 (.slice (some ⟨gP, 0, none⟩) (U + 1) cP) (U + 1) (ivals El ++ [.int .i64 Er]) from hrowP)
          clear hat hrowP
          clear HROW
          have hz_wP : w183.heap.size ≤ wP.heap.size := by have h9 := hbutP.size; (try simp at h9); omega
          have HOM_186 := Lib.hid (ownSl_but HOM_185.out hbutP (fun k hk => by (try simp at hk ⊢) <;> omega))
          clear HOM_185
          refine hK _ _ ⟨⟨hsP.cellAt 0 rfl 0 rfl, hsP.cellAt 0 rfl 1 rfl, hsP.cellAt 0 rfl 2 rfl, hsP.cellAt 1 rfl 0 rfl, hsP.cellAt 1 rfl 1 rfl, hsP.cellAt 2 rfl 0 rfl, hsP.cellAt 2 rfl 1 rfl⟩, ?_⟩
          (repeat (first | (apply t4_skip rfl (by rfl); try simp only [Act.put, List.setIfInBounds_toArray, List.set_cons_zero, List.set_cons_succ]) | (apply t4_float rfl (by rfl); (· (intro w' hS; go_simp <;> with_reducible rfl)); (try simp only [Act.put, List.setIfInBounds_toArray, List.set_cons_zero, List.set_cons_succ]))))
          refine t4_last rfl (by rfl) (fun K hK => ?_)
          have k0_0 := hsP.cellAt 0 rfl 0 rfl
          have k0_1 := hsP.cellAt 0 rfl 1 rfl
          have k0_2 := hsP.cellAt 0 rfl 2 rfl
          have k1_0 := hsP.cellAt 1 rfl 0 rfl
          have k1_1 := hsP.cellAt 1 rfl 1 rfl
          have k2_0 := hsP.cellAt 2 rfl 0 rfl
          have k2_1 := hsP.cellAt 2 rfl 1 rfl
          have k3_0 := hsP.cellAt 3 rfl 0 rfl
          have k3_1 := hsP.cellAt 3 rfl 1 rfl
          have k4_0 := hsP.cellAt 4 rfl 0 rfl
          have f0 := (hsP.freeAt 3 rfl 0)
          have f1 := (hsP.freeAt 3 rfl 1)
          have hq := (hsP.set (p := [_, _, _]) (by simp <;> omega) 0 (.slice (some ⟨gP, 0, none⟩) (U + 1) cP)).set (p := [_, _, _]) (by simp <;> omega) 1 (.slice (some ⟨wd5.heap.size, 0, none⟩) l.length l.length)
          have hgG := (hsP.box (wM.heap.size, #[.slice none 0 0, .slice none 0 0], 53) (by simp)).2.1
          simp only at hgG
          go_wp2_with fail
          refine t4_nil (NoPanic.normal ?_)
          go_wp2_with fail
          go_meet
          case rel =>
            have ho := ((OnlyAt.refl [wM.heap.size] wP).setCell (p := ⟨wM.heap.size, 0, none⟩) (by simp) (.slice (some ⟨gP, 0, none⟩) (U + 1) cP)).setCell (p := ⟨wM.heap.size, 1, none⟩) (by simp) (.slice (some ⟨wd5.heap.size, 0, none⟩) l.length l.length)
            have o1 := ownSl_ints (l := El ++ [Er]) (by have h := row_frame HRP.out (fun k hk => ho.block k (by simp [Value.ownBlock] at hk ⊢; omega)); simpa [ivals] using h) (by rw [List.length_append, HEL.out]; rfl) (fun b hb => by
              rcases List.mem_append.1 hb with hb | hb
              · exact HIE.out b hb
              · obtain rfl : b = Er := by simpa using hb
                exact hIr)
            have o2 := ownSl_only HOM_186.out ho (fun k h1 h2 => by simp at h1 h2; omega)
            refine ⟨wM.heap.size, _, cP, _, l.length, rfl, (hq.up hq.hi (Nat.le_refl _)).sub (fun x hx => ?_), ⟨[gP] ++ [wd5.heap.size], mk_own ⟨_, rfl, o1⟩ ⟨_, rfl, o2⟩, by simp; omega, by simp; omega⟩, Lib.hid (by omega)⟩
            simp only [List.mem_cons, List.not_mem_nil, or_false] at hx
            rcases hx with rfl | rfl | rfl | rfl <;> simp
    · refine t4_hard rfl (by rfl) (fun K hK => ?_)
      go_wp2_with fail
      have hs187 := hs4.alloc #[.slice none 0 0, .slice none 0 0] 53 (n := wd5.heap.size) (by simp)
      have hz_wA : wd5.heap.size + 1 ≤ ((wd5.alloc (.cells #[.slice none 0 0, .slice none 0 0] 53))).heap.size := by simp
      generalize hgen_wA : (wd5.alloc (.cells #[.slice none 0 0, .slice none 0 0] 53)) = wA at *
      clear hgen_wA
      refine ⟨⟨hs187.cellAt 0 rfl 0 rfl, hs187.cellAt 0 rfl 1 rfl, hs187.cellAt 0 rfl 2 rfl, hs187.cellAt 1 rfl 0 rfl, hs187.cellAt 1 rfl 1 rfl, hs187.cellAt 2 rfl 0 rfl, hs187.cellAt 2 rfl 1 rfl⟩, ?_⟩
      (repeat (first | (apply t4_skip rfl (by rfl); try simp only [Act.put, List.setIfInBounds_toArray, List.set_cons_zero, List.set_cons_succ]) | (apply t4_float rfl (by rfl); (· (intro w' hS; go_simp <;> with_reducible rfl)); (try simp only [Act.put, List.setIfInBounds_toArray, List.set_cons_zero, List.set_cons_succ]))))
      refine t4_fork3 ?_ ?_ ?_
      · refine t4_hard rfl (by rfl) (fun K hK => ?_)
        go_wp2_with (go_at_call 39; refine (cloneIntsA_c El _ _ (Rd.mono HE.out hs187.bel) (by rw [HEL.out]; omega)).mono ?_; rintro e w188 ⟨v4, rfl, hA, hbw188⟩)
        have hz_w188 : wA.heap.size ≤ w188.heap.size := by have h9 := hbw188.size; (try simp at h9); omega
        have hs189 := hs187.step hbw188
        obtain ⟨gC, cC, rfl, hgC1, hgC2⟩ := hA.form' (by rw [HEL.out]; omega)
        have HROW := Lib.hid (row_base (acc_ints_get hA).1)
        have HIE := Lib.hid (acc_ints_get hA).2.2
        rw [HEL.out] at HROW
        rw [HEL.out]
        (try simp at hgC1)
        clear hA
        refine ⟨⟨hs189.cellAt 0 rfl 0 rfl, hs189.cellAt 0 rfl 1 rfl, hs189.cellAt 0 rfl 2 rfl, hs189.cellAt 1 rfl 0 rfl, hs189.cellAt 1 rfl 1 rfl, hs189.cellAt 2 rfl 0 rfl, hs189.cellAt 2 rfl 1 rfl⟩, ?_⟩
        (repeat (first | (apply t4_skip rfl (by rfl); try simp only [Act.put, List.setIfInBounds_toArray, List.set_cons_zero, List.set_cons_succ]) | (apply t4_float rfl (by rfl); (· (intro w' hS; go_simp <;> with_reducible rfl)); (try simp only [Act.put, List.setIfInBounds_toArray, List.set_cons_zero, List.set_cons_succ]))))
        refine t4_fork2 ?_ ?_
        · refine t4_hard rfl (by rfl) (fun K hK => ?_)
          go_wp2_with fail
          have hs190 := hs189.alloc #[.int .i64 Er] 2 (n := w188.heap.size) (by simp)
          have HROW_191 := Lib.hid (ownsRow_below HROW.out (belowA _ (.cells #[.int .i64 Er] 2)))
          clear HROW
          refine ⟨⟨hs190.cellAt 0 rfl 0 rfl, hs190.cellAt 0 rfl 1 rfl, hs190.cellAt 0 rfl 2 rfl, hs190.cellAt 1 rfl 0 rfl, hs190.cellAt 1 rfl 1 rfl, hs190.cellAt 2 rfl 0 rfl, hs190.cellAt 2 rfl 1 rfl⟩, ?_⟩
          (repeat (first | (apply t4_skip rfl (by rfl); try simp only [Act.put, List.setIfInBounds_toArray, List.set_cons_zero, List.set_cons_succ]) | (apply t4_float rfl (by rfl); (· (intro w' hS; go_simp <;> with_reducible rfl)); (try simp only [Act.put, List.setIfInBounds_toArray, List.set_cons_zero, List.set_cons_succ]))))
          refine t4_fork2 ?_ ?_
          · refine t4_hard rfl (by rfl) (fun K hK => ?_)
            refine wp_append_row _ _ _ _ rfl E_ints (v := .slice (some ⟨gC, 0, none⟩) U cC) rfl HROW_191.out (vs := [.int .i64 Er]) rfl (one_int _) ⟨w188.heap.size, 0, none⟩ 1 rfl (news1 (hs190.cellAt 4 rfl 0 rfl)) (by omega) ?_
            intro gP cP wP hat hrowP hbutP hltP
            have hgP : gP = gC ∨ gP = w188.heap.size + 1 := by simpa [Value.ownBlock] using hat.imp Eq.symm id
            have hbutP : But [gC] (w188.alloc (.cells #[.int .i64 Er] 2)) wP := hbutP
            have hsP := hs190.butIv hbutP (fun k hk => by simp at hk; omega) (fun x hx => by
              simp only [List.mem_append, List.mem_cons, List.not_mem_nil, or_false, false_or, or_assoc, List.nil_append] at hx ⊢
              rcases hx with rfl | rfl | rfl | rfl | rfl <;> (simp only; omega))
            have HRP := Lib.hid (show wP.ownsRow 0 2 1 (.slice (some ⟨gP, 0, none⟩) (U + 1) cP) (U + 1) (ivals El ++ [.int .i64 Er]) from hrowP)
            clear hat hrowP
            clear HROW_191
            have hz_wP : w188.heap.size + 1 ≤ wP.heap.size := by have h9 := hbutP.size; (try simp at h9); omega
            refine hK _ _ ⟨⟨hsP.cellAt 0 rfl 0 rfl, hsP.cellAt 0 rfl 1 rfl, hsP.cellAt 0 rfl 2 rfl, hsP.cellAt 1 rfl 0 rfl, hsP.cellAt 1 rfl 1 rfl, hsP.cellAt 2 rfl 0 rfl, hsP.cellAt 2 rfl 1 rfl⟩, ?_⟩
            (repeat (first | (apply t4_skip rfl (by rfl); try simp only [Act.put, List.setIfInBounds_toArray, List.set_cons_zero, List.set_cons_succ]) | (apply t4_float rfl (by rfl); (· (intro w' hS; go_simp <;> with_reducible rfl)); (try simp only [Act.put, List.setIfInBounds_toArray, List.set_cons_zero, List.set_cons_succ]))))
            refine t4_hard rfl (by rfl) (fun K hK => ?_)
            refine wp_make_rep _ _ _ 28 rfl E_ints (0 : Int) own0_int l.length (by omega) rfl rfl ?_
            intro wM hownM hbM hzM
            have HOM : Hid (OwnSl [wP.heap.size] wM (.slice (some ⟨wP.heap.size, 0, none⟩) l.length l.length) (List.replicate l.length (0 : Int))) := Lib.hid (by simpa using hownM)
            have hgM : wP.heap.size < wM.heap.size := by rw [hzM]; simp
            clear hownM hzM
            have hz_wM : wP.heap.size ≤ wM.heap.size := by have h9 := hbM.size; (try simp at h9); omega
            have hs192 := hsP.step hbM
            have HRP_193 := Lib.hid (ownsRow_below HRP.out hbM)
            clear HRP
            refine hK _ _ ⟨⟨hs192.cellAt 0 rfl 0 rfl, hs192.cellAt 0 rfl 1 rfl, hs192.cellAt 0 rfl 2 rfl, hs192.cellAt 1 rfl 0 rfl, hs192.cellAt 1 rfl 1 rfl, hs192.cellAt 2 rfl 0 rfl, hs192.cellAt 2 rfl 1 rfl⟩, ?_⟩
            (repeat (first | (apply t4_skip rfl (by rfl); try simp only [Act.put, List.setIfInBounds_toArray, List.set_cons_zero, List.set_cons_succ]) | (apply t4_float rfl (by rfl); (· (intro w' hS; go_simp <;> with_reducible rfl)); (try simp only [Act.put, List.setIfInBounds_toArray, List.set_cons_zero, List.set_cons_succ]))))
            refine t4_last rfl (by rfl) (fun K hK => ?_)
            have k0_0 := hs192.cellAt 0 rfl 0 rfl
            have k0_1 := hs192.cellAt 0 rfl 1 rfl
            have k0_2 := hs192.cellAt 0 rfl 2 rfl
            have k1_0 := hs192.cellAt 1 rfl 0 rfl
            have k1_1 := hs192.cellAt 1 rfl 1 rfl
            have k2_0 := hs192.cellAt 2 rfl 0 rfl
            have k2_1 := hs192.cellAt 2 rfl 1 rfl
            have k3_0 := hs192.cellAt 3 rfl 0 rfl
            have k3_1 := hs192.cellAt 3 rfl 1 rfl
            have k4_0 := hs192.cellAt 4 rfl 0 rfl
            have f0 := (hs192.freeAt 3 rfl 0)
            have f1 := (hs192.freeAt 3 rfl 1)
            have hq := (hs192.set (p := [_, _, _]) (by simp <;> omega) 0 (.slice (some ⟨gP, 0, none⟩) (U + 1) cP)).set (p := [_, _, _]) (by simp <;> omega) 1 (.slice (some ⟨wP.heap.size, 0, none⟩) l.length l.length)
            have hgG := (hs192.box (wd5.heap.size, #[.slice none 0 0, .slice none 0 0], 53) (by simp)).2.1
            simp only at hgG
            go_wp2_with fail
            refine t4_nil (NoPanic.normal ?_)
            go_wp2_with fail
            go_meet
            case rel =>
              have ho := ((OnlyAt.refl [wd5.heap.size] wM).setCell (p := ⟨wd5.heap.size, 0, none⟩) (by simp) (.slice (some ⟨gP, 0, none⟩) (U + 1) cP)).setCell (p := ⟨wd5.heap.size, 1, none⟩) (by simp) (.slice (some ⟨wP.heap.size, 0, none⟩) l.length l.length)
              have o1 := ownSl_ints (l := El ++ [Er]) (by have h := row_frame HRP_193.out (fun k hk => ho.block k (by simp [Value.ownBlock] at hk ⊢; omega)); simpa [ivals] using h) (by rw [List.length_append, HEL.out]; rfl) (fun b hb => by
                rcases List.mem_append.1 hb with hb | hb
                · exact HIE.out b hb
                · obtain rfl : b = Er := by simpa using hb
                  exact hIr)
              have o2 := ownSl_only HOM.out ho (fun k h1 h2 => by simp at h1 h2; omega)
              refine ⟨wd5.heap.size, _, cP, _, l.length, rfl, (hq.up hq.hi (Nat.le_refl _)).sub (fun x hx => ?_), ⟨[gP] ++ [wP.heap.size], mk_own ⟨_, rfl, o1⟩ ⟨_, rfl, o2⟩, by simp; omega, by simp; omega⟩, Lib.hid (by omega)⟩
              simp only [List.mem_cons, List.not_mem_nil, or_false] at hx
              rcases hx with rfl | rfl | rfl | rfl <;> simp
          · refine t4_hard rfl (by rfl) (fun K hK => ?_)
            refine wp_make_rep _ _ _ 28 rfl E_ints (0 : Int) own0_int l.length (by omega) rfl rfl ?_
            intro wM hownM hbM hzM
            have HOM : Hid (OwnSl [w188.heap.size + 1] wM (.slice (some ⟨w188.heap.size + 1, 0, none⟩) l.length l.length) (List.replicate l.length (0 : Int))) := Lib.hid (by simpa using hownM)
            have hgM : w188.heap.size + 1 < wM.heap.size := by rw [hzM]; simp
            clear hownM hzM
            have hz_wM : w188.heap.size + 1 ≤ wM.heap.size := by have h9 := hbM.size; (try simp at h9); omega
            have hs194 := hs190.step hbM
            have HROW_195 := Lib.hid (ownsRow_below HROW_191.out hbM)
            clear HROW_191
            refine hK _ _ ⟨⟨hs194.cellAt 0 rfl 0 rfl, hs194.cellAt 0 rfl 1 rfl, hs194.cellAt 0 rfl 2 rfl, hs194.cellAt 1 rfl 0 rfl, hs194.cellAt 1 rfl 1 rfl, hs194.cellAt 2 rfl 0 rfl, hs194.cellAt 2 rfl 1 rfl⟩, ?_⟩
            (repeat (first | (apply t4_skip rfl (by rfl); try simp only [Act.put, List.setIfInBounds_toArray, List.set_cons_zero, List.set_cons_succ]) | (apply t4_float rfl (by rfl); (· (intro w' hS; go_simp <;> with_reducible rfl)); (try simp only [Act.put, List.setIfInBounds_toArray, List.set_cons_zero, List.set_cons_succ]))))
            refine t4_hard rfl (by rfl) (fun K hK => ?_)
            refine wp_append_row _ _ _ _ rfl E_ints (v := .slice (some ⟨gC, 0, none⟩) U cC) rfl HROW_195.out (vs := [.int .i64 Er]) rfl (one_int _) ⟨w188.heap.size, 0, none⟩ 1 rfl (news1 (hs194.cellAt 4 rfl 0 rfl)) (by omega) ?_
            intro gP cP wP hat hrowP hbutP hltP
            have hgP : gP = gC ∨ gP = wM.heap.size := by simpa [Value.ownBlock] using hat.imp Eq.symm id
            have hbutP : But [gC] wM wP := hbutP
            have hsP := hs194.butIv hbutP (fun k hk => by simp at hk; omega) (fun x hx => by
              simp only [List.mem_append, List.mem_cons, List.not_mem_nil, or_false, false_or, or_assoc, List.nil_append] at hx ⊢
              rcases hx with rfl | rfl | rfl | rfl | rfl <;> (simp only; omega))
            have HRP := Lib.hid (show wP.ownsRow 0 2 1 (.slice (some ⟨gP, 0, none⟩) (U + 1) cP) (U + 1) (ivals El ++ [.int .i64 Er]) from hrowP)
            clear hat hrowP
            clear HROW_195
            have hz_wP : wM.heap.size ≤ wP.heap.size := by have h9 := hbutP.size; (try simp at h9); omega
            have HOM_196 := Lib.hid (ownSl_but HOM.out hbutP (fun k hk => by (try simp at hk ⊢) <;> omega))
            clear HOM
            refine hK _ _ ⟨⟨hsP.cellAt 0 rfl 0 rfl, hsP.cellAt 0 rfl 1 rfl, hsP.cellAt 0 rfl 2 rfl, hsP.cellAt 1 rfl 0 rfl, hsP.cellAt 1 rfl 1 rfl, hsP.cellAt 2 rfl 0 rfl, hsP.cellAt 2 rfl 1 rfl⟩, ?_⟩
            (repeat (first | (apply t4_skip rfl (by rfl); try simp only [Act.put, List.setIfInBounds_toArray, List.set_cons_zero, List.set_cons_succ]) | (apply t4_float rfl (by rfl); (· (intro w' hS; go_simp <;> with_reducible rfl)); (try simp only [Act.put, List.setIfInBounds_toArray, List.set_cons_zero, List.set_cons_succ]))))
            refine t4_last rfl (by rfl) (fun K hK => ?_)
            have k0_0 := hsP.cellAt 0 rfl 0 rfl
            have k0_1 := hsP.cellAt 0 rfl 1 rfl
            have k0_2 := hsP.cellAt 0 rfl 2 rfl
            have k1_0 := hsP.cellAt 1 rfl 0 rfl
            have k1_1 := hsP.cellAt 1 rfl 1 rfl
            have k2_0 := hsP.cellAt 2 rfl 0 rfl
            have k2_1 := hsP.cellAt 2 rfl 1 rfl
            have k3_0 := hsP.cellAt 3 rfl 0 rfl
            have k3_1 := hsP.cellAt 3 rfl 1 rfl
            have k4_0 := hsP.cellAt 4 rfl 0 rfl
            have f0 := (hsP.freeAt 3 rfl 0)
            have f1 := (hsP.freeAt 3 rfl 1)
            have hq := (hsP.set (p := [_, _, _]) (by simp <;> omega) 0 (.slice (some ⟨gP, 0, none⟩) (U + 1) cP)).set (p := [_, _, _]) (by simp <;> omega) 1 (.slice (some ⟨w188.heap.size + 1, 0, none⟩) l.length l.length)
            have hgG := (hsP.box (wd5.heap.size, #[.slice none 0 0, .slice none 0 0], 53) (by simp)).2.1
            simp only at hgG
            go_wp2_with fail
            refine t4_nil (NoPanic.normal ?_)
            go_wp2_with fail
            go_meet
            case rel =>
              have ho := ((OnlyAt.refl [wd5.heap.size] wP).setCell (p := ⟨wd5.heap.size, 0, none⟩) (by simp) (.slice (some ⟨gP, 0, none⟩) (U + 1) cP)).setCell (p := ⟨wd5.heap.size, 1, none⟩) (by simp) (.slice (some ⟨w188.heap.size + 1, 0, none⟩) l.length l.length)
              have o1 := ownSl_ints (l := El ++ [Er]) (by have h := row_frame HRP.out (fun k hk => ho.block k (by simp [Value.ownBlock] at hk ⊢; omega)); simpa [ivals] using h) (by rw [List.length_append, HEL.out]; rfl) (fun b hb => by
                rcases List.mem_append.1 hb with hb | hb
                · exact HIE.out b hb
                · obtain rfl : b = Er := by simpa using hb
                  exact hIr)
              have o2 := ownSl_only HOM_196.out ho (fun k h1 h2 => by simp at h1 h2; omega)
              refine ⟨wd5.heap.size, _, cP, _, l.length, rfl, (hq.up hq.hi (Nat.le_refl _)).sub (fun x hx => ?_), ⟨[gP] ++ [w188.heap.size + 1], mk_own ⟨_, rfl, o1⟩ ⟨_, rfl, o2⟩, by simp; omega, by simp; omega⟩, Lib.hid (by omega)⟩
              simp only [List.mem_cons, List.not_mem_nil, or_false] at hx
              rcases hx with rfl | rfl | rfl | rfl <;> simp
        · refine t4_hard rfl (by rfl) (fun K hK => ?_)
          refine wp_make_rep _ _ _ 28 rfl E_ints (0 : Int) own0_int l.length (by omega) rfl rfl ?_
          intro wM hownM hbM hzM
          have HOM : Hid (OwnSl [w188.heap.size] wM (.slice (some ⟨w188.heap.size, 0, none⟩) l.length l.length) (List.replicate l.length (0 : Int))) := Lib.hid (by simpa using hownM)
          have hgM : w188.heap.size < wM.heap.size := by rw [hzM]; simp
          clear hownM hzM
          have hz_wM : w188.heap.size ≤ wM.heap.size := by have h9 := hbM.size; (try simp at h9); omega
          have hs197 := hs189.step hbM
          have HROW_198 := Lib.hid (ownsRow_below HROW.out hbM)
          clear HROW
          refine hK _ _ ⟨⟨hs197.cellAt 0 rfl 0 rfl, hs197.cellAt 0 rfl 1 rfl, hs197.cellAt 0 rfl 2 rfl, hs197.cellAt 1 rfl 0 rfl, hs197.cellAt 1 rfl 1 rfl, hs197.cellAt 2 rfl 0 rfl, hs197.cellAt 2 rfl 1 rfl⟩, ?_⟩
          (repeat (first | (apply t4_skip rfl (by rfl); try simp only [Act.put, List.setIfInBounds_toArray, List.set_cons_zero, List.set_cons_succ]) | (apply t4_float rfl (by rfl); (· (intro w' hS; go_simp <;> with_reducible rfl)); (try simp only [Act.put, List.setIfInBounds_toArray, List.set_cons_zero, List.set_cons_succ]))))
          refine t4_hard rfl (by rfl) (fun K hK => ?_)
          go_wp2_with fail
          have hs199 := hs197.alloc #[.int .i64 Er] 2 (n := wM.heap.size) (by simp)
          have HROW_200 := Lib.hid (ownsRow_below HROW_198.out (belowA _ (.cells #[.int .i64 Er] 2)))
          clear HROW_198
          have HOM_201 := Lib.hid (ownSl_mono HOM.out (belowA _ (.cells #[.int .i64 Er] 2)))
          clear HOM
          refine ⟨⟨hs199.cellAt 0 rfl 0 rfl, hs199.cellAt 0 rfl 1 rfl, hs199.cellAt 0 rfl 2 rfl, hs199.cellAt 1 rfl 0 rfl, hs199.cellAt 1 rfl 1 rfl, hs199.cellAt 2 rfl 0 rfl, hs199.cellAt 2 rfl 1 rfl⟩, ?_⟩
          (repeat (first | (apply t4_skip rfl (by rfl); try simp only [Act.put, List.setIfInBounds_toArray, List.set_cons_zero, List.set_cons_succ]) | (apply t4_float rfl (by rfl); (· (intro w' hS; go_simp <;> with_reducible rfl)); (try simp only [Act.put, List.setIfInBounds_toArray, List.set_cons_zero, List.set_cons_succ]))))
          refine t4_hard rfl (by rfl) (fun K hK => ?_)
          refine wp_append_row _ _ _ _ rfl E_ints (v := .slice (some ⟨gC, 0, none⟩) U cC) rfl HROW_200.out (vs := [.int .i64 Er]) rfl (one_int _) ⟨wM.heap.size, 0, none⟩ 1 rfl (news1 (hs199.cellAt 4 rfl 0 rfl)) (by omega) ?_
          intro gP cP wP hat hrowP hbutP hltP
          have hgP : gP = gC ∨ gP = wM.heap.size + 1 := by simpa [Value.ownBlock] using hat.imp Eq.symm id
          have hbutP : But [gC] (wM.alloc (.cells #[.int .i64 Er] 2)) wP := hbutP
          have hsP := hs199.butIv hbutP (fun k hk => by simp at hk; omega) (fun x hx => by
            simp only [List.mem_append, List.mem_cons, List.not_mem_nil, or_false, false_or, or_assoc, List.nil_append] at hx ⊢
            rcases hx with rfl | rfl | rfl | rfl | rfl <;> (simp only; omega))
          have HRP := Lib.hid (show wP.ownsRow 0 2 1 (.slice (some ⟨gP, 0, none⟩) (U + 1) cP) (U + 1) (ivals El ++ [.int .i64 Er]) from hrowP)
          clear hat hrowP
          clear HROW_200
          have hz_wP : wM.heap.size + 1 ≤ wP.heap.size := by have h9 := hbutP.size; (try simp at h9); omega
          have HOM_202 := Lib.hid (ownSl_but HOM_201.out hbutP (fun k hk => by (try simp at hk ⊢) <;> omega))
          clear HOM_201
          refine hK _ _ ⟨⟨hsP.cellAt 0 rfl 0 rfl, hsP.cellAt 0 rfl 1 rfl, hsP.cellAt 0 rfl 2 rfl, hsP.cellAt 1 rfl 0 rfl, hsP.cellAt 1 rfl 1 rfl, hsP.cellAt 2 rfl 0 rfl, hsP.cellAt 2 rfl 1 rfl⟩, ?_⟩
          (repeat (first | (apply t4_skip rfl (by rfl); try simp only [Act.put, List.setIfInBounds_toArray, List.set_cons_zero, List.set_cons_succ]) | (apply t4_float rfl (by rfl); (· (intro w' hS; go_simp <;> with_reducible rfl)); (try simp only [Act.put, List.setIfInBounds_toArray, List.set_cons_zero, List.set_cons_succ]))))
          refine t4_last rfl (by rfl) (fun K hK => ?_)
          have k0_0 := hsP.cellAt 0 rfl 0 rfl
          have k0_1 := hsP.cellAt 0 rfl 1 rfl
          have k0_2 := hsP.cellAt 0 rfl 2 rfl
          have k1_0 := hsP.cellAt 1 rfl 0 rfl
          have k1_1 := hsP.cellAt 1 rfl 1 rfl
          have k2_0 := hsP.cellAt 2 rfl 0 rfl
          have k2_1 := hsP.cellAt 2 rfl 1 rfl
          have k3_0 := hsP.cellAt 3 rfl 0 rfl
          have k3_1 := hsP.cellAt 3 rfl 1 rfl
          have k4_0 := hsP.cellAt 4 rfl 0 rfl
          have f0 := (hsP.freeAt 3 rfl 0)
          have f1 := (hsP.freeAt 3 rfl 1)
          have hq := (hsP.set (p := [_, _, _]) (by simp <;> omega) 0 (.slice (some ⟨gP, 0, none⟩) (U + 1) cP)).set (p := [_, _, _]) (by simp <;> omega) 1 (.slice (some ⟨w188.heap.size, 0, none⟩) l.length l.length)
          have hgG := (hsP.box (wd5.heap.size, #[.slice none 0 0, .slice none 0 0], 53) (by simp)).2.1
          simp only at hgG
          go_wp2_with fail
          refine t4_nil (NoPanic.normal ?_)
          go_wp2_with fail
          go_meet
          case rel =>
            have ho := ((OnlyAt.refl [wd5.heap.size] wP).setCell (p := ⟨wd5.heap.size, 0, none⟩) (by simp) (.slice (some ⟨gP, 0, none⟩) (U + 1) cP)).setCell (p := ⟨wd5.heap.size, 1, none⟩) (by simp) (.slice (some ⟨w188.heap.size, 0, none⟩) l.length l.length)
            have o1 := ownSl_ints (l := El ++ [Er]) (by have h := row_frame HRP.out (fun k hk => ho.block k (by simp [Value.ownBlock] at hk ⊢; omega)); simpa [ivals] using h) (by rw [List.length_append, HEL.out]; rfl) (fun b hb => by
              rcases List.mem_append.1 hb with hb | hb
              · exact HIE.out b hb
              · obtain rfl : b = Er := by simpa using hb
                exact hIr)
            have o2 := ownSl_only HOM_202.out ho (fun k h1 h2 => by simp at h1 h2; omega)
            refine ⟨wd5.heap.size, _, cP, _, l.length, rfl, (hq.up hq.hi (Nat.le_refl _)).sub (fun x hx => ?_), ⟨[gP] ++ [w188.heap.size], mk_own ⟨_, rfl, o1⟩ ⟨_, rfl, o2⟩, by simp; omega, by simp; omega⟩, Lib.hid (by omega)⟩
            simp only [List.mem_cons, List.not_mem_nil, or_false] at hx
            rcases hx with rfl | rfl | rfl | rfl <;> simp
      · refine t4_hard rfl (by rfl) (fun K hK => ?_)
        go_wp2_with fail
        have hs203 := hs187.alloc #[.int .i64 Er] 2 (n := wA.heap.size) (by simp)
        refine ⟨⟨hs203.cellAt 0 rfl 0 rfl, hs203.cellAt 0 rfl 1 rfl, hs203.cellAt 0 rfl 2 rfl, hs203.cellAt 1 rfl 0 rfl, hs203.cellAt 1 rfl 1 rfl, hs203.cellAt 2 rfl 0 rfl, hs203.cellAt 2 rfl 1 rfl⟩, ?_⟩
        (repeat (first | (apply t4_skip rfl (by rfl); try simp only [Act.put, List.setIfInBounds_toArray, List.set_cons_zero, List.set_cons_succ]) | (apply t4_float rfl (by rfl); (· (intro w' hS; go_simp <;> with_reducible rfl)); (try simp only [Act.put, List.setIfInBounds_toArray, List.set_cons_zero, List.set_cons_succ]))))
        refine t4_fork2 ?_ ?_
        · refine t4_hard rfl (by rfl) (fun K hK => ?_)
          go_wp2_with (go_at_call 39; refine (cloneIntsA_c El _ _ (Rd.mono HE.out hs203.bel) (by rw [HEL.out]; omega)).mono ?_; rintro e w204 ⟨v4, rfl, hA, hbw204⟩)
          have hz_w204 : wA.heap.size + 1 ≤ w204.heap.size := by have h9 := hbw204.size; (try simp at h9); omega
          have hs205 := hs203.step hbw204
          obtain ⟨gC, cC, rfl, hgC1, hgC2⟩ := hA.form' (by rw [HEL.out]; omega)
          have HROW := Lib.hid (row_base (acc_ints_get hA).1)
          have HIE := Lib.hid (acc_ints_get hA).2.2
          rw [HEL.out] at HROW
          rw [HEL.out]
          (try simp at hgC1)
          clear hA
          refine ⟨⟨hs205.cellAt 0 rfl 0 rfl, hs205.cellAt 0 rfl 1 rfl, hs205.cellAt 0 rfl 2 rfl, hs205.cellAt 1 rfl 0 rfl, hs205.cellAt 1 rfl 1 rfl, hs205.cellAt 2 rfl 0 rfl, hs205.cellAt 2 rfl 1 rfl⟩, ?_⟩
          (repeat (first | (apply t4_skip rfl (by rfl); try simp only [Act.put, List.setIfInBounds_toArray, List.set_cons_zero, List.set_cons_succ]) | (apply t4_float rfl (by rfl); (· (intro w' hS; go_simp <;> with_reducible rfl)); (try simp only [Act.put, List.setIfInBounds_toArray, List.set_cons_zero, List.set_cons_succ]))))
          refine t4_fork2 ?_ ?_
          · refine t4_hard rfl (by rfl) (fun K hK => ?_)
            refine wp_append_row _ _ _ _ rfl E_ints (v := .slice (some ⟨gC, 0, none⟩) U cC) rfl HROW.out (vs := [.int .i64 Er]) rfl (one_int _) ⟨wA.heap.size, 0, none⟩ 1 rfl (news1 (hs205.cellAt 4 rfl 0 rfl)) (by omega) ?_
            intro gP cP wP hat hrowP hbutP hltP
            have hgP : gP = gC ∨ gP = w204.heap.size := by simpa [Value.ownBlock] using hat.imp Eq.symm id
            have hbutP : But [gC] w204 wP := hbutP
            have hsP := hs205.butIv hbutP (fun k hk => by simp at hk; omega) (fun x hx => by
              simp only [List.mem_append, List.mem_cons, List.not_mem_nil, or_false, false_or, or_assoc, List.nil_append] at hx ⊢
              rcases hx with rfl | rfl | rfl | rfl | rfl <;> (simp only; omega))
            have HRP := Lib.hid (show wP.ownsRow 0 2 1 (.slice (some ⟨gP, 0, none⟩) (U + 1) cP) (U + 1) (ivals El ++ [.int .i64 Er]) from hrowP)
            clear hat hrowP
            clear HROW
            have hz_wP : w204.heap.size ≤ wP.heap.size := by have h9 := hbutP.size; (try simp at h9); omega
            refine hK _ _ ⟨⟨hsP.cellAt 0 rfl 0 rfl, hsP.cellAt 0 rfl 1 rfl, hsP.cellAt 0 rfl 2 rfl, hsP.cellAt 1 rfl 0 rfl, hsP.cellAt 1 rfl 1 rfl, hsP.cellAt 2 rfl 0 rfl, hsP.cellAt 2 rfl 1 rfl⟩, ?_⟩
            (repeat (first | (apply t4_skip rfl (by rfl); try simp only [Act.put, List.setIfInBounds_toArray, List.set_cons_zero, List.set_cons_succ]) | (apply t4_float rfl (by rfl); (· (intro w' hS; go_simp <;> with_reducible rfl)); (try simp only [Act.put, List.setIfInBounds_toArray, List.set_cons_zero, List.set_cons_succ]))))
            refine t4_hard rfl (by rfl) (fun K hK => ?_)
            refine wp_make_rep _ _ _ 28 rfl E_ints (0 : Int) own0_int l.length (by omega) rfl rfl ?_
            intro wM hownM hbM hzM
            have HOM : Hid (OwnSl [wP.heap.size] wM (.slice (some ⟨wP.heap.size, 0, none⟩) l.length l.length) (List.replicate l.length (0 : Int))) := Lib.hid (by simpa using hownM)
            have hgM : wP.heap.size < wM.heap.size := by rw [hzM]; simp
            clear hownM hzM
            have hz_wM : wP.heap.size ≤ wM.heap.size := by have h9 := hbM.size; (try simp at h9); omega
            have hs206 := hsP.step hbM
            have HRP_207 := Lib.hid (ownsRow_below HRP.out hbM)
            clear HRP
            refine hK _ _ ⟨⟨hs206.cellAt 0 rfl 0 rfl, hs206.cellAt 0 rfl 1 rfl, hs206.cellAt 0 rfl 2 rfl, hs206.cellAt 1 rfl 0 rfl, hs206.cellAt 1 rfl 1 rfl, hs206.cellAt 2 rfl 0 rfl, hs206.cellAt 2 rfl 1 rfl⟩, ?_⟩
            (repeat (first | (apply t4_skip rfl (by rfl); try simp only [Act.put, List.setIfInBounds_toArray, List.set_cons_zero, List.set_cons_succ]) | (apply t4_float rfl (by rfl); (· (intro w' hS; go_simp <;> with_reducible rfl)); (try simp only [Act.put, List.setIfInBounds_toArray, List.set_cons_zero, List.set_cons_succ]))))
            refine t4_last rfl (by rfl) (fun K hK => ?_)
            have k0_0 := hs206.cellAt 0 rfl 0 rfl
            have k0_1 := hs206.cellAt 0 rfl 1 rfl
            have k0_2 := hs206.cellAt 0 rfl 2 rfl
            have k1_0 := hs206.cellAt 1 rfl 0 rfl
            have k1_1 := hs206.cellAt 1 rfl 1 rfl
            have k2_0 := hs206.cellAt 2 rfl 0 rfl
            have k2_1 := hs206.cellAt 2 rfl 1 rfl
            have k3_0 := hs206.cellAt 3 rfl 0 rfl
            have k3_1 := hs206.cellAt 3 rfl 1 rfl
            have k4_0 := hs206.cellAt 4 rfl 0 rfl
            have f0 := (hs206.freeAt 3 rfl 0)
            have f1 := (hs206.freeAt 3 rfl 1)
            have hq := (hs206.set (p := [_, _, _]) (by simp <;> omega) 0 (.slice (some ⟨gP, 0, none⟩) (U + 1) cP)).set (p := [_, _, _]) (by simp <;> omega) 1 (.slice (some ⟨wP.heap.size, 0, none⟩) l.length l.length)
            have hgG := (hs206.box (wd5.heap.size, #[.slice none 0 0, .slice none 0 0], 53) (by simp)).2.1
            simp only at hgG
            go_wp2_with fail
            refine t4_nil (NoPanic.normal ?_)
            go_wp2_with fail
            go_meet
            case rel =>
              have ho := ((OnlyAt.refl [wd5.heap.size] wM).setCell (p := ⟨wd5.heap.size, 0, none⟩) (by simp) (.slice (some ⟨gP, 0, none⟩) (U + 1) cP)).setCell (p := ⟨wd5.heap.size, 1, none⟩) (by simp) (.slice (some ⟨wP.heap.size, 0, none⟩) l.length l.length)
              have o1 := ownSl_ints (l := El ++ [Er]) (by have h := row_frame HRP_207.out (fun k hk => ho.block k (by simp [Value.ownBlock] at hk ⊢; omega)); simpa [ivals] using h) (by rw [List.length_append, HEL.out]; rfl) (fun b hb => by
                rcases List.mem_append.1 hb with hb | hb
                · exact HIE.out b hb
                · obtain rfl : b = Er := by simpa using hb
                  exact hIr)
              have o2 := ownSl_only HOM.out ho (fun k h1 h2 => by simp at h1 h2; omega)
              refine ⟨wd5.heap.size, _, cP, _, l.length, rfl, (hq.up hq.hi (Nat.le_refl _)).sub (fun x hx => ?_), ⟨[gP] ++ [wP.heap.size], mk_own ⟨_, rfl, o1⟩ ⟨_, rfl, o2⟩, by simp; omega, by simp; omega⟩, Lib.hid (by omega)⟩
              simp only [List.mem_cons, List.not_mem_nil, or_false] at hx
              rcases hx with rfl | rfl | rfl | rfl <;> simp
          · refine t4_hard rfl (by rfl) (fun K hK => ?_)
            refine wp_make_rep _ _ _ 28 rfl E_ints (0 : Int) own0_int l.length (by omega) rfl rfl ?_
            intro wM hownM hbM hzM
            have HOM : Hid (OwnSl [w204.heap.size] wM (.slice (some ⟨w204.heap.size, 0, none⟩) l.length l.length) (List.replicate l.length (0 : Int))) := Lib.hid (by simpa using hownM)
            have hgM : w204.heap.size < wM.heap.size := by rw [hzM]; simp
            clear hownM hzM
            have hz_wM : w204.heap.size ≤ wM.heap.size := by have h9 := hbM.size; (try simp at h9); omega
            have hs208 := hs205.step hbM
            have HROW_209 := Lib.hid (ownsRow_below HROW.out hbM)
            clear HROW
            refine hK _ _ ⟨⟨hs208.cellAt 0 rfl 0 rfl, hs208.cellAt 0 rfl 1 rfl, hs208.cellAt 0 rfl 2 rfl, hs208.cellAt 1 rfl 0 rfl, hs208.cellAt 1 rfl 1 rfl, hs208.cellAt 2 rfl 0 rfl, hs208.cellAt 2 rfl 1 rfl⟩, ?_⟩
            (repeat (first | (apply t4_skip rfl (by rfl); try simp only [Act.put, List.setIfInBounds_toArray, List.set_cons_zero, List.set_cons_succ]) | (apply t4_float rfl (by rfl); (· (intro w' hS; go_simp <;> with_reducible rfl)); (try simp only [Act.put, List.setIfInBounds_toArray, List.set_cons_zero, List.set_cons_succ]))))
            refine t4_hard rfl (by rfl) (fun K hK => ?_)
            refine wp_append_row _ _ _ _ rfl E_ints (v := .slice (some ⟨gC, 0, none⟩) U cC) rfl HROW_209.out (vs := [.int .i64 Er]) rfl (one_int _) ⟨wA.heap.size, 0, none⟩ 1 rfl (news1 (hs208.cellAt 4 rfl 0 rfl)) (by omega) ?_
            intro gP cP wP hat hrowP hbutP hltP
            have hgP : gP = gC ∨ gP = wM.heap.size := by simpa [Value.ownBlock] using hat.imp Eq.symm id
            have hbutP : But [gC] wM wP := hbutP
            have hsP := hs208.butIv hbutP (fun k hk => by simp at hk; omega) (fun x hx => by
              simp only [List.mem_append, List.mem_cons, List.not_mem_nil, or_false, false_or, or_assoc, List.nil_append] at hx ⊢
              rcases hx with rfl | rfl | rfl | rfl | rfl <;> (simp only; omega))
            have HRP := Lib.hid (show wP.ownsRow 0 2 1 (.slice (some ⟨gP, 0, none⟩) (U + 1) cP) (U + 1) (ivals El ++ [.int .i64 Er]) from hrowP)
            clear hat hrowP
            clear HROW_209
            have hz_wP : wM.heap.size ≤ wP.heap.size := by have h9 := hbutP.size; (try simp at h9); omega
            have HOM_210 := Lib.hid (ownSl_but HOM.out hbutP (fun k hk => by (try simp at hk ⊢) <;> omega))
            clear HOM
            refine hK _ _ ⟨⟨hsP.cellAt 0 rfl 0 rfl, hsP.cellAt 0 rfl 1 rfl, hsP.cellAt 0 rfl 2 rfl, hsP.cellAt 1 rfl 0 rfl, hsP.cellAt 1 rfl 1 rfl, hsP.cellAt 2 rfl 0 rfl, hsP.cellAt 2 rfl 1 rfl⟩, ?_⟩
            (repeat (first | (apply t4_skip rfl (by rfl); try simp only [Act.put, List.setIfInBounds_toArray, List.set_cons_zero, List.set_cons_succ]) | (apply t4_float rfl (by rfl); (· (intro w' hS; go_simp <;> with_reducible rfl)); (try simp only [Act.put, List.setIfInBounds_toArray, List.set_cons_zero, List.set_cons_succ]))))
            refine t4_last rfl (by rfl) (fun K hK => ?_)
            have k0_0 := hsP.cellAt 0 rfl 0 rfl
            have k0_1 := hsP.cellAt 0 rfl 1 rfl
            have k0_2 := hsP.cellAt 0 rfl 2 rfl
            have k1_0 := hsP.cellAt 1 rfl 0 rfl
            have k1_1 := hsP.cellAt 1 rfl 1 rfl
            have k2_0 := hsP.cellAt 2 rfl 0 rfl
            have k2_1 := hsP.cellAt 2 rfl 1 rfl
            have k3_0 := hsP.cellAt 3 rfl 0 rfl
            have k3_1 := hsP.cellAt 3 rfl 1 rfl
            have k4_0 := hsP.cellAt 4 rfl 0 rfl
            have f0 := (hsP.freeAt 3 rfl 0)
            have f1 := (hsP.freeAt 3 rfl 1)
            have hq := (hsP.set (p := [_, _, _]) (by simp <;> omega) 0 (.slice (some ⟨gP, 0, none⟩) (U + 1) cP)).set (p := [_, _, _]) (by simp <;> omega) 1 (.slice (some ⟨w204.heap.size, 0, none⟩) l.length l.length)
            have hgG := (hsP.box (wd5.heap.size, #[.slice none 0 0, .slice none 0 0], 53) (by simp)).2.1
            simp only at hgG
            go_wp2_with fail
            refine t4_nil (NoPanic.normal ?_)
            go_wp2_with fail
            go_meet
            case rel =>
              have ho := ((OnlyAt.refl [wd5.heap.size] wP).setCell (p := ⟨wd5.heap.size, 0, none⟩) (by simp) (.slice (some ⟨gP, 0, none⟩) (U + 1) cP)).setCell (p := ⟨wd5.heap.size, 1, none⟩) (by simp) (.slice (some ⟨w204.heap.size, 0, none⟩) l.length l.length)
              have o1 := ownSl_ints (l := El ++ [Er]) (by have h := row_frame HRP.out (fun k hk => ho.block k (by simp [Value.ownBlock] at hk ⊢; omega)); simpa [ivals] using h) (by rw [List.length_append, HEL.out]; rfl) (fun b hb => by
                rcases List.mem_append.1 hb with hb | hb
                · exact HIE.out b hb
                · obtain rfl : b = Er := by simpa using hb
                  exact hIr)
              have o2 := ownSl_only HOM_210.out ho (fun k h1 h2 => by simp at h1 h2; omega)
              refine ⟨wd5.heap.size, _, cP, _, l.length, rfl, (hq.up hq.hi (Nat.le_refl _)).sub (fun x hx => ?_), ⟨[gP] ++ [w204.heap.size], mk_own ⟨_, rfl, o1⟩ ⟨_, rfl, o2⟩, by simp; omega, by simp; omega⟩, Lib.hid (by omega)⟩
              simp only [List.mem_cons, List.not_mem_nil, or_false] at hx
              rcases hx with rfl | rfl | rfl | rfl <;> simp
        · refine t4_hard rfl (by rfl) (fun K hK => ?_)
          refine wp_make_rep _ _ _ 28 rfl E_ints (0 : Int) own0_int l.length (by omega) rfl rfl ?_
          intro wM hownM hbM hzM
          have HOM : Hid (OwnSl [wA.heap.size + 1] wM (.slice (some ⟨wA.heap.size + 1, 0, none⟩) l.length l.length) (List.replicate l.length (0 : Int))) := Lib.hid (by simpa using hownM)
          have hgM : wA.heap.size + 1 < wM.heap.size := by rw [hzM]; simp
          clear hownM hzM
          have hz_wM : wA.heap.size + 1 ≤ wM.heap.size := by have h9 := hbM.size; (try simp at h9); omega
          have hs211 := hs203.step hbM
          refine hK _ _ ⟨⟨hs211.cellAt 0 rfl 0 rfl, hs211.cellAt 0 rfl 1 rfl, hs211.cellAt 0 rfl 2 rfl, hs211.cellAt 1 rfl 0 rfl, hs211.cellAt 1 rfl 1 rfl, hs211.cellAt 2 rfl 0 rfl, hs211.cellAt 2 rfl 1 rfl⟩, ?_⟩
          (repeat (first | (apply t4_skip rfl (by rfl); try simp only [Act.put, List.setIfInBounds_toArray, List.set_cons_zero, List.set_cons_succ]) | (apply t4_float rfl (by rfl); (· (intro w' hS; go_simp <;> with_reducible rfl)); (try simp only [Act.put, List.setIfInBounds_toArray, List.set_cons_zero, List.set_cons_succ]))))
          refine t4_hard rfl (by rfl) (fun K hK => ?_)
          go_wp2_with (go_at_call 39; refine (cloneIntsA_c El _ _ (Rd.mono HE.out hs211.bel) (by rw [HEL.out]; omega)).mono ?_; rintro e w212 ⟨v4, rfl, hA, hbw212⟩)
          have hz_w212 : wM.heap.size ≤ w212.heap.size := by have h9 := hbw212.size; (try simp at h9); omega
          have hs213 := hs211.step hbw212
          have HOM_214 := Lib.hid (ownSl_mono HOM.out hbw212)
          clear HOM
          obtain ⟨gC, cC, rfl, hgC1, hgC2⟩ := hA.form' (by rw [HEL.out]; omega)
          have HROW := Lib.hid (row_base (acc_ints_get hA).1)
          have HIE := Lib.hid (acc_ints_get hA).2.2
          rw [HEL.out] at HROW
          rw [HEL.out]
          (try simp at hgC1)
          clear hA
          refine ⟨⟨hs213.cellAt 0 rfl 0 rfl, hs213.cellAt 0 rfl 1 rfl, hs213.cellAt 0 rfl 2 rfl, hs213.cellAt 1 rfl 0 rfl, hs213.cellAt 1 rfl 1 rfl, hs213.cellAt 2 rfl 0 rfl, hs213.cellAt 2 rfl 1 rfl⟩, ?_⟩
          (repeat (first | (apply t4_skip rfl (by rfl); try simp only [Act.put, List.setIfInBounds_toArray, List.set_cons_zero, List.set_cons_succ]) | (apply t4_float rfl (by rfl); (· (intro w' hS; go_simp <;> with_reducible rfl)); (try simp only [Act.put, List.setIfInBounds_toArray, List.set_cons_zero, List.set_cons_succ]))))
          refine t4_hard rfl (by rfl) (fun K hK => ?_)
          refine wp_append_row _ _ _ _ rfl E_ints (v := .slice (some ⟨gC, 0, none⟩) U cC) rfl HROW.out (vs := [.int .i64 Er]) rfl (one_int _) ⟨wA.heap.size, 0, none⟩ 1 rfl (news1 (hs213.cellAt 4 rfl 0 rfl)) (by omega) ?_
          intro gP cP wP hat hrowP hbutP hltP
          have hgP : gP = gC ∨ gP = w212.heap.size := by simpa [Value.ownBlock] using hat.imp Eq.symm id
          have hbutP : But [gC] w212 wP := hbutP
          have hsP := hs213.butIv hbutP (fun k hk => by simp at hk; omega) (fun x hx => by
            simp only [List.mem_append, List.mem_cons, List.not_mem_nil, or_false, false_or, or_assoc, List.nil_append] at hx ⊢
            rcases hx with rfl | rfl | rfl | rfl | rfl <;> (simp only; omega))
          have HRP := Lib.hid (show wP.ownsRow 0 2 1 (.slice (some ⟨gP, 0, none⟩) (U + 1) cP) (U + 1) (ivals El ++ [.int .i64 Er]) from hrowP)
          clear hat hrowP
          clear HROW
          have hz_wP : w212.heap.size ≤ wP.heap.size := by have h9 := hbutP.size; (try simp at h9); omega
          have HOM_215 := Lib.hid (ownSl_but HOM_214.out hbutP (fun k hk => by (try simp at hk ⊢) <;> omega))
          clear HOM_214
          refine hK _ _ ⟨⟨hsP.cellAt 0 rfl 0 rfl, hsP.cellAt 0 rfl 1 rfl, hsP.cellAt 0 rfl 2 rfl, hsP.cellAt 1 rfl 0 rfl, hsP.cellAt 1 rfl 1 rfl, hsP.cellAt 2 rfl 0 rfl, hsP.cellAt 2 rfl 1 rfl⟩, ?_⟩
          (repeat (first | (apply t4_skip rfl (by rfl); try simp only [Act.put, List.setIfInBounds_toArray, List.set_cons_zero, List.set_cons_succ]) | (apply t4_float rfl (by rfl); (· (intro w' hS; go_simp <;> with_reducible rfl)); (try simp only [Act.put, List.setIfInBounds_toArray, List.set_cons_zero, List.set_cons_succ]))))
          refine t4_last rfl (by rfl) (fun K hK => ?_)
          have k0_0 := hsP.cellAt 0 rfl 0 rfl
          have k0_1 := hsP.cellAt 0 rfl 1 rfl
          have k0_2 := hsP.cellAt 0 rfl 2 rfl
          have k1_0 := hsP.cellAt 1 rfl 0 rfl
          have k1_1 := hsP.cellAt 1 rfl 1 rfl
          have k2_0 := hsP.cellAt 2 rfl 0 rfl
          have k2_1 := hsP.cellAt 2 rfl 1 rfl
          have k3_0 := hsP.cellAt 3 rfl 0 rfl
          have k3_1 := hsP.cellAt 3 rfl 1 rfl
          have k4_0 := hsP.cellAt 4 rfl 0 rfl
          have f0 := (hsP.freeAt 3 rfl 0)
          have f1 := (hsP.freeAt 3 rfl 1)
          have hq := (hsP.set (p := [_, _, _]) (by simp <;> omega) 0 (.slice (some ⟨gP, 0, none⟩) (U + 1) cP)).set (p := [_, _, _]) (by simp <;> omega) 1 (.slice (some ⟨wA.heap.size + 1, 0, none⟩) l.length l.length)
          have hgG := (hsP.box (wd5.heap.size, #[.slice none 0 0, .slice none 0 0], 53) (by simp)).2.1
          simp only at hgG
          go_wp2_with fail
          refine t4_nil (NoPanic.normal ?_)
          go_wp2_with fail
          go_meet
          case rel =>
            have ho := ((OnlyAt.refl [wd5.heap.size] wP).setCell (p := ⟨wd5.heap.size, 0, none⟩) (by simp) (.slice (some ⟨gP, 0, none⟩) (U + 1) cP)).setCell (p := ⟨wd5.heap.size, 1, none⟩) (by simp) (.slice (some ⟨wA.heap.size + 1, 0, none⟩) l.length l.length)
            have o1 := ownSl_ints (l := El ++ [Er]) (by have h := row_frame HRP.out (fun k hk => ho.block k (by simp [Value.ownBlock] at hk ⊢; omega)); simpa [ivals] using h) (by rw [List.length_append, HEL.out]; rfl) (fun b hb => by
              rcases List.mem_append.1 hb with hb | hb
              · exact HIE.out b hb
              · obtain rfl : b = Er := by simpa using hb
                exact hIr)
            have o2 := ownSl_only HOM_215.out ho (fun k h1 h2 => by simp at h1 h2; omega)
            refine ⟨wd5.heap.size, _, cP, _, l.length, rfl, (hq.up hq.hi (Nat.le_refl _)).sub (fun x hx => ?_), ⟨[gP] ++ [wA.heap.size + 1], mk_own ⟨_, rfl, o1⟩ ⟨_, rfl, o2⟩, by simp; omega, by simp; omega⟩, Lib.hid (by omega)⟩
            simp only [List.mem_cons, List.not_mem_nil, or_false] at hx
            rcases hx with rfl | rfl | rfl | rfl <;> simp
      · refine t4_hard rfl (by rfl) (fun K hK => ?_)
        refine wp_make_rep _ _ _ 28 rfl E_ints (0 : Int) own0_int l.length (by omega) rfl rfl ?_
        intro wM hownM hbM hzM
        have HOM : Hid (OwnSl [wA.heap.size] wM (.slice (some ⟨wA.heap.size, 0, none⟩) l.length l.length) (List.replicate l.length (0 : Int))) := Lib.hid (by simpa using hownM)
        have hgM : wA.heap.size < wM.heap.size := by rw [hzM]; simp
        clear hownM hzM
        have hz_wM : wA.heap.size ≤ wM.heap.size := by have h9 := hbM.size; (try simp at h9); omega
        have hs216 := hs187.step hbM
        refine hK _ _ ⟨⟨hs216.cellAt 0 rfl 0 rfl, hs216.cellAt 0 rfl 1 rfl, hs216.cellAt 0 rfl 2 rfl, hs216.cellAt 1 rfl 0 rfl, hs216.cellAt 1 rfl 1 rfl, hs216.cellAt 2 rfl 0 rfl, hs216.cellAt 2 rfl 1 rfl⟩, ?_⟩
        (repeat (first | (apply t4_skip rfl (by rfl); try simp only [Act.put, List.setIfInBounds_toArray, List.set_cons_zero, List.set_cons_succ]) | (apply t4_float rfl (by rfl); (· (intro w' hS; go_simp <;> with_reducible rfl)); (try simp only [Act.put, List.setIfInBounds_toArray, List.set_cons_zero, List.set_cons_succ]))))
        refine t4_fork2 ?_ ?_
        · refine t4_hard rfl (by rfl) (fun K hK => ?_)
          go_wp2_with (go_at_call 39; refine (cloneIntsA_c El _ _ (Rd.mono HE.out hs216.bel) (by rw [HEL.out]; omega)).mono ?_; rintro e w217 ⟨v4, rfl, hA, hbw217⟩)
          have hz_w217 : wM.heap.size ≤ w217.heap.size := by have h9 := hbw217.size; (try simp at h9); omega
          have hs218 := hs216.step hbw217
          have HOM_219 := Lib.hid (ownSl_mono HOM.out hbw217)
          clear HOM
          obtain ⟨gC, cC, rfl, hgC1, hgC2⟩ := hA.form' (by rw [HEL.out]; omega)
          have HROW := Lib.hid (row_base (acc_ints_get hA).1)
          have HIE := Lib.hid (acc_ints_get hA).2.2
          rw [HEL.out] at HROW
          rw [HEL.out]
          (try simp at hgC1)
          clear hA
          refine ⟨⟨hs218.cellAt 0 rfl 0 rfl, hs218.cellAt 0 rfl 1 rfl, hs218.cellAt 0 rfl 2 rfl, hs218.cellAt 1 rfl 0 rfl, hs218.cellAt 1 rfl 1 rfl, hs218.cellAt 2 rfl 0 rfl, hs218.cellAt 2 rfl 1 rfl⟩, ?_⟩
          (repeat (first | (apply t4_skip rfl (by rfl); try simp only [Act.put, List.setIfInBounds_toArray, List.set_cons_zero, List.set_cons_succ]) | (apply t4_float rfl (by rfl); (· (intro w' hS; go_simp <;> with_reducible rfl)); (try simp only [Act.put, List.setIfInBounds_toArray, List.set_cons_zero, List.set_cons_succ]))))
          refine t4_hard rfl (by rfl) (fun K hK => ?_)
          go_wp2_with fail
          have hs220 := hs218.alloc #[.int .i64 Er] 2 (n := w217.heap.size) (by simp)
          have HOM_221 := Lib.hid (ownSl_mono HOM_219.out (belowA _ (.cells #[.int .i64 Er] 2)))
          clear HOM_219
          have HROW_222 := Lib.hid (ownsRow_below HROW.out (belowA _ (.cells #[.int .i64 Er] 2)))
          clear HROW
          refine ⟨⟨hs220.cellAt 0 rfl 0 rfl, hs220.cellAt 0 rfl 1 rfl, hs220.cellAt 0 rfl 2 rfl, hs220.cellAt 1 rfl 0 rfl, hs220.cellAt 1 rfl 1 rfl, hs220.cellAt 2 rfl 0 rfl, hs220.cellAt 2 rfl 1 rfl⟩, ?_⟩
          (repeat (first | (apply t4_skip rfl (by rfl); try simp only [Act.put, List.setIfInBounds_toArray, List.set_cons_zero, List.set_cons_succ]) | (apply t4_float rfl (by rfl); (· (intro w' hS; go_simp <;> with_reducible rfl)); (try simp only [Act.put, List.setIfInBounds_toArray, List.set_cons_zero, List.set_cons_succ]))))
          refine t4_hard rfl (by rfl) (fun K hK => ?_)
          refine wp_append_row _ _ _ _ rfl E_ints (v := .slice (some ⟨gC, 0, none⟩) U cC) rfl HROW_222.out (vs := [.int .i64 Er]) rfl (one_int _) ⟨w217.heap.size, 0, none⟩ 1 rfl (news1 (hs220.cellAt 4 rfl 0 rfl)) (by omega) ?_
          intro gP cP wP hat hrowP hbutP hltP
          have hgP : gP = gC ∨ gP = w217.heap.size + 1 := by simpa [Value.ownBlock] using hat.imp Eq.symm id
          have hbutP : But [gC] (w217.alloc (.cells #[.int .i64 Er] 2)) wP := hbutP
          have hsP := hs220.butIv hbutP (fun k hk => by simp at hk; omega) (fun x hx => by
            simp only [List.mem_append, List.mem_cons, List.not_mem_nil, or_false, false_or, or_assoc, List.nil_append] at hx ⊢
            rcases hx with rfl | rfl | rfl | rfl | rfl <;> (simp only; omega))
          have HRP := Lib.hid (show wP.ownsRow 0 2 1 (.slice (some ⟨gP, 0, none⟩) (U + 1) cP) (U + 1) (ivals El ++ [.int .i64 Er]) from hrowP)
          clear hat hrowP
          clear HROW_222
          have hz_wP : w217.heap.size + 1 ≤ wP.heap.size := by have h9 := hbutP.size; (try simp at h9); omega
          have HOM_223 := Lib.hid (ownSl_but HOM_221.out hbutP (fun k hk => by (try simp at hk ⊢) <;> omega))
          clear HOM_221
          refine hK _ _ ⟨⟨hsP.cellAt 0 rfl 0 rfl, hsP.cellAt 0 rfl 1 rfl, hsP.cellAt 0 rfl 2 rfl, hsP.cellAt 1 rfl 0 rfl, hsP.cellAt 1 rfl 1 rfl, hsP.cellAt 2 rfl 0 rfl, hsP.cellAt 2 rfl 1 rfl⟩, ?_⟩
          (repeat (first | (apply t4_skip rfl (by rfl); try simp only [Act.put, List.setIfInBounds_toArray, List.set_cons_zero, List.set_cons_succ]) | (apply t4_float rfl (by rfl); (· (intro w' hS; go_simp <;> with_reducible rfl)); (try simp only [Act.put, List.setIfInBounds_toArray, List.set_cons_zero, List.set_cons_succ]))))
          refine t4_last rfl (by rfl) (fun K hK => ?_)
          have k0_0 := hsP.cellAt 0 rfl 0 rfl
          have k0_1 := hsP.cellAt 0 rfl 1 rfl
          have k0_2 := hsP.cellAt 0 rfl 2 rfl
          have k1_0 := hsP.cellAt 1 rfl 0 rfl
          have k1_1 := hsP.cellAt 1 rfl 1 rfl
          have k2_0 := hsP.cellAt 2 rfl 0 rfl
          have k2_1 := hsP.cellAt 2 rfl 1 rfl
          have k3_0 := hsP.cellAt 3 rfl 0 rfl
          have k3_1 := hsP.cellAt 3 rfl 1 rfl
          have k4_0 := hsP.cellAt 4 rfl 0 rfl
          have f0 := (hsP.freeAt 3 rfl 0)
          have f1 := (hsP.freeAt 3 rfl 1)
          have hq := (hsP.set (p := [_, _, _]) (by simp <;> omega) 0 (.slice (some ⟨gP, 0, none⟩) (U + 1) cP)).set (p := [_, _, _]) (by simp <;> omega) 1 (.slice (some ⟨wA.heap.size, 0, none⟩) l.length l.length)
          have hgG := (hsP.box (wd5.heap.size, #[.slice none 0 0, .slice none 0 0], 53) (by simp)).2.1
          simp only at hgG
          go_wp2_with fail
          refine t4_nil (NoPanic.normal ?_)
          go_wp2_with fail
          go_meet
          case rel =>
            have ho := ((OnlyAt.refl [wd5.heap.size] wP).setCell (p := ⟨wd5.heap.size, 0, none⟩) (by simp) (.slice (some ⟨gP, 0, none⟩) (U + 1) cP)).setCell (p := ⟨wd5.heap.size, 1, none⟩) (by simp) (.slice (some ⟨wA.heap.size, 0, none⟩) l.length l.length)
            have o1 := ownSl_ints (l := El ++ [Er]) (by have h := row_frame HRP.out (fun k hk => ho.block k (by simp [Value.ownBlock] at hk ⊢; omega)); simpa [ivals] using h) (by rw [List.length_append, HEL.out]; rfl) (fun b hb => by
              rcases List.mem_append.1 hb with hb | hb
              · exact HIE.out b hb
              · obtain rfl : b = Er := by simpa using hb
                exact hIr)
            have o2 := ownSl_only HOM_223.out ho (fun k h1 h2 => by simp at h1 h2; omega)
            refine ⟨wd5.heap.size, _, cP, _, l.length, rfl, (hq.up hq.hi (Nat.le_refl _)).sub (fun x hx => ?_), ⟨[gP] ++ [wA.heap.size], mk_own ⟨_, rfl, o1⟩ ⟨_, rfl, o2⟩, by simp; omega, by simp; omega⟩, Lib.hid (by omega)⟩
            simp only [List.mem_cons, List.not_mem_nil, or_false] at hx
            rcases hx with rfl | rfl | rfl | rfl <;> simp
        · refine t4_hard rfl (by rfl) (fun K hK => ?_)
          go_wp2_with fail
          have hs224 := hs216.alloc #[.int .i64 Er] 2 (n := wM.heap.size) (by simp)
          have HOM_225 := Lib.hid (ownSl_mono HOM.out (belowA _ (.cells #[.int .i64 Er] 2)))
          clear HOM
          refine ⟨⟨hs224.cellAt 0 rfl 0 rfl, hs224.cellAt 0 rfl 1 rfl, hs224.cellAt 0 rfl 2 rfl, hs224.cellAt 1 rfl 0 rfl, hs224.cellAt 1 rfl 1 rfl, hs224.cellAt 2 rfl 0 rfl, hs224.cellAt 2 rfl 1 rfl⟩, ?_⟩
          (repeat (first | (apply t4_skip rfl (by rfl); try simp only [Act.put, List.setIfInBounds_toArray, List.set_cons_zero, List.set_cons_succ]) | (apply t4_float rfl (by rfl); (· (intro w' hS; go_simp <;> with_reducible rfl)); (try simp only [Act.put, List.setIfInBounds_toArray, List.set_cons_zero, List.set_cons_succ]))))
          refine t4_hard rfl (by rfl) (fun K hK => ?_)
          go_wp2_with (go_at_call 39; refine (cloneIntsA_c El _ _ (Rd.mono HE.out hs224.bel) (by rw [HEL.out]; omega)).mono ?_; rintro e w226 ⟨v4, rfl, hA, hbw226⟩)
          have hz_w226 : wM.heap.size + 1 ≤ w226.heap.size := by have h9 := hbw226.size; (try simp at h9); omega
          have hs227 := hs224.step hbw226
          have HOM_228 := Lib.hid (ownSl_mono HOM_225.out hbw226)
          clear HOM_225
          obtain ⟨gC, cC, rfl, hgC1, hgC2⟩ := hA.form' (by rw [HEL.out]; omega)
          have HROW := Lib.hid (row_base (acc_ints_get hA).1)
          have HIE := Lib.hid (acc_ints_get hA).2.2
          rw [HEL.out] at HROW
          rw [HEL.out]
          (try simp at hgC1)
          clear hA
          refine ⟨⟨hs227.cellAt 0 rfl 0 rfl, hs227.cellAt 0 rfl 1 rfl, hs227.cellAt 0 rfl 2 rfl, hs227.cellAt 1 rfl 0 rfl, hs227.cellAt 1 rfl 1 rfl, hs227.cellAt 2 rfl 0 rfl, hs227.cellAt 2 rfl 1 rfl⟩, ?_⟩
          (repeat (first | (apply t4_skip rfl (by rfl); try simp only [Act.put, List.setIfInBounds_toArray, List.set_cons_zero, List.set_cons_succ]) | (apply t4_float rfl (by rfl); (· (intro w' hS; go_simp <;> with_reducible rfl)); (try simp only [Act.put, List.setIfInBounds_toArray, List.set_cons_zero, List.set_cons_succ]))))
          refine t4_hard rfl (by rfl) (fun K hK => ?_)
          refine wp_append_row _ _ _ _ rfl E_ints (v := .slice (some ⟨gC, 0, none⟩) U cC) rfl HROW.out (vs := [.int .i64 Er]) rfl (one_int _) ⟨wM.heap.size, 0, none⟩ 1 rfl (news1 (hs227.cellAt 4 rfl 0 rfl)) (by omega) ?_
          intro gP cP wP hat hrowP hbutP hltP
          have hgP : gP = gC ∨ gP = w226.heap.size := by simpa [Value.ownBlock] using hat.imp Eq.symm id
          have hbutP : But [gC] w226 wP := hbutP
          have hsP := hs227.butIv hbutP (fun k hk => by simp at hk; omega) (fun x hx => by
            simp only [List.mem_append, List.mem_cons, List.not_mem_nil, or_false, false_or, or_assoc, List.nil_append] at hx ⊢
            rcases hx with rfl | rfl | rfl | rfl | rfl <;> (simp only; omega))
          have HRP := Lib.hid (show wP.ownsRow 0 2 1 (.slice (some ⟨gP, 0, none⟩) (U + 1) cP) (U + 1) (ivals El ++ [.int .i64 Er]) from hrowP)
          clear hat hrowP
          clear HROW
          have hz_wP : w226.heap.size ≤ wP.heap.size := by have h9 := hbutP.size; (try simp at h9); omega
          have HOM_229 := Lib.hid (ownSl_but HOM_228.out hbutP (fun k hk => by (try simp at hk ⊢) <;> omega))
          clear HOM_228
          refine hK _ _ ⟨⟨hsP.cellAt 0 rfl 0 rfl, hsP.cellAt 0 rfl 1 rfl, hsP.cellAt 0 rfl 2 rfl, hsP.cellAt 1 rfl 0 rfl, hsP.cellAt 1 rfl 1 rfl, hsP.cellAt 2 rfl 0 rfl, hsP.cellAt 2 rfl 1 rfl⟩, ?_⟩
          (repeat (first | (apply t4_skip rfl (by rfl); try simp only [Act.put, List.setIfInBounds_toArray, List.set_cons_zero, List.set_cons_succ]) | (apply t4_float rfl (by rfl); (· (intro w' hS; go_simp <;> with_reducible rfl)); (try simp only [Act.put, List.setIfInBounds_toArray, List.set_cons_zero, List.set_cons_succ]))))
          refine t4_last rfl (by rfl) (fun K hK => ?_)
          have k0_0 := hsP.cellAt 0 rfl 0 rfl
          have k0_1 := hsP.cellAt 0 rfl 1 rfl
          have k0_2 := hsP.cellAt 0 rfl 2 rfl
          have k1_0 := hsP.cellAt 1 rfl 0 rfl
          have k1_1 := hsP.cellAt 1 rfl 1 rfl
          have k2_0 := hsP.cellAt 2 rfl 0 rfl
          have k2_1 := hsP.cellAt 2 rfl 1 rfl
          have k3_0 := hsP.cellAt 3 rfl 0 rfl
          have k3_1 := hsP.cellAt 3 rfl 1 rfl
          have k4_0 := hsP.cellAt 4 rfl 0 rfl
          have f0 := (hsP.freeAt 3 rfl 0)
          have f1 := (hsP.freeAt 3 rfl 1)
          have hq := (hsP.set (p := [_, _, _]) (by simp <;> omega) 0 (.slice (some ⟨gP, 0, none⟩) (U + 1) cP)).set (p := [_, _, _]) (by simp <;> omega) 1 (.slice (some ⟨wA.heap.size, 0, none⟩) l.length l.length)
          have hgG := (hsP.box (wd5.heap.size, #[.slice none 0 0, .slice none 0 0], 53) (by simp)).2.1
          simp only at hgG
          go_wp2_with fail
          refine t4_nil (NoPanic.normal ?_)
          go_wp2_with fail
          go_meet
          case rel =>
            have ho := ((OnlyAt.refl [wd5.heap.size] wP).setCell (p := ⟨wd5.heap.size, 0, none⟩) (by simp) (.slice (some ⟨gP, 0, none⟩) (U + 1) cP)).setCell (p := ⟨wd5.heap.size, 1, none⟩) (by simp) (.slice (some ⟨wA.heap.size, 0, none⟩) l.length l.length)
            have o1 := ownSl_ints (l := El ++ [Er]) (by have h := row_frame HRP.out (fun k hk => ho.block k (by simp [Value.ownBlock] at hk ⊢; omega)); simpa [ivals] using h) (by rw [List.length_append, HEL.out]; rfl) (fun b hb => by
              rcases List.mem_append.1 hb with hb | hb
              · exact HIE.out b hb
              · obtain rfl : b = Er := by simpa using hb
                exact hIr)
            have o2 := ownSl_only HOM_229.out ho (fun k h1 h2 => by simp at h1 h2; omega)
            refine ⟨wd5.heap.size, _, cP, _, l.length, rfl, (hq.up hq.hi (Nat.le_refl _)).sub (fun x hx => ?_), ⟨[gP] ++ [wA.heap.size], mk_own ⟨_, rfl, o1⟩ ⟨_, rfl, o2⟩, by simp; omega, by simp; omega⟩, Lib.hid (by omega)⟩
            simp only [List.mem_cons, List.not_mem_nil, or_false] at hx
            rcases hx with rfl | rfl | rfl | rfl <;> simp
  case rest =>
    obtain ⟨g, m1, n1, m2, n2, rfl, hst, hip, hg⟩ := hcut
    have hg3 := hg.out
    go_wp2_with fail
    go_loopw [26] (fun i wl => ∃ (j : Nat) (m1 m2 : Option Addr) (n1 n2 : Nat), j ≤ (elimS (p, (U : Int), l)).2.length ∧ i = .int .i64 j ∧ Hid (St w wl.heap.size wl [(w.heap.size, #[.int .i64 p, .int .i64 U, .slice a l.length c], 26), (w.heap.size + 1, #[.slice ae U ce, .int .i64 Er], 30), (w.heap.size + 1 + 1, #[.slice none 0 0, .slice none 0 0], 53), (g, #[.slice m1 (U + 1) n1, .slice m2 l.length n2], 53)]) ∧ Hid (Ip (fun z => w.heap.size + 3 ≤ z ∧ z ≠ g) wl [.slice m1 (U + 1) n1, .slice m2 l.length n2] (flat (takenTo p (elimS (p, (U : Int), l)).1 (elimS (p, (U : Int), l)).2 (El, Er, List.replicate l.length 0) j)))) (fun i _ => (elimS (p, (U : Int), l)).2.length - (intOf i).toNat)
    case atStart => exact ⟨0, m1, m2, n1, n2, Nat.zero_le _, rfl, hst.out, hip.out⟩
    case round =>
      clear hst hip hg
      obtain ⟨j, m1, m2, n1, n2, hj, rfl, hst, hip⟩ := hrel
      have hgw := (hst.out.box (g, #[.slice m1 (U + 1) n1, .slice m2 l.length n2], 53) (by simp)).2.1
      simp only at hgw
      have k0_0 := hst.out.cellAt 0 rfl 0 rfl
      have k0_1 := hst.out.cellAt 0 rfl 1 rfl
      have k0_2 := hst.out.cellAt 0 rfl 2 rfl
      have k1_0 := hst.out.cellAt 1 rfl 0 rfl
      have k1_1 := hst.out.cellAt 1 rfl 1 rfl
      have k2_0 := hst.out.cellAt 2 rfl 0 rfl
      have k2_1 := hst.out.cellAt 2 rfl 1 rfl
      have k3_0 := hst.out.cellAt 3 rfl 0 rfl
      have k3_1 := hst.out.cellAt 3 rfl 1 rfl
      have HRW := Lib.hid (Rd.mono HR.out hst.out.bel)
      have HBW := Lib.hid (Rd.mono HB.out hst.out.bel)
      by_cases hlt : j < (elimS (p, (U : Int), l)).2.length
      · obtain ⟨bq, hbq, hbU⟩ := KO.out.bs j hlt
        simp only [Int.toNat_natCast] at hbU
        have hjr : j < (elimS (p, (U : Int), l)).1.length := by rw [KO.out.len]; simp only; omega
        have hjI : j < (elimI (p, (U : Int), l)).1.length := by rw [KO.out.rowsI.1]; simp only; omega
        have HTF := Lib.hid (taken_flat KO.out (x := (El, Er, List.replicate l.length 0)) HGX.out j hlt hjr bq hbq (by simpa using hbU))
        have HTG := Lib.hid (flat_good (taken_good KO.out (x := (El, Er, List.replicate l.length 0)) HGX.out j (by omega)))
        obtain ⟨b1, o1, rfl, q0, _⟩ := rd_int_at HBW.out j hlt
        rw [hbq] at q0
        obtain ⟨b2, o2, y0, y1, rfl, f0, f1, hrow⟩ := rd_two_at rfl HRW.out j hjI
        rw [elim_rowI KO.out j hjr hjI] at hrow
        have hg := flat_good (KO.out.good _ (List.getElem_mem hjr))
        have z0 := (rd_cons rfl hrow).1
        have z1 := (rd_cons rfl hrow).2
        obtain ⟨a6, c6, e6, _⟩ := rd_list z0
        obtain ⟨a7, c7, e7, _⟩ := rd_list z1
        subst e6 e7
        have HRJ := Lib.hid hrow
        have HG := Lib.hid hg
        clear hrow hg z0 z1 hbq
        simp only [Int.toNat_natCast] at HTG HG HTF
        generalize flat (elimS (p, (U : Int), l)).1[j] = Y at *
        generalize hT : flat (takenTo p (elimS (p, (U : Int), l)).1 (elimS (p, (U : Int), l)).2 (El, Er, List.replicate l.length 0) j) = T at *
        have hT2 : Hid (True) := trivial
        clear hT
        have HIP := hip
        obtain ⟨b3, o3, eq3, t0, t1⟩ := rd_int_at (rd_cons rfl hip.out.rd).1 bq (by rw [HTG.out.1]; omega)
        subst eq3
        have hN := HTG.out.2.2.1.get bq (by rw [HTG.out.1]; omega)
        have HN := Lib.hid (show T.1.getD bq 0 = T.1[bq]'(by rw [HTG.out.1]; omega) by have h9 := HTG.out.1; simp only [List.getD, List.getElem?_eq_getElem (show bq < T.1.length by omega), Option.getD_some])
        generalize T.1[bq]'(by rw [HTG.out.1]; omega) = NN at *
        have HTF2 := Lib.hid (HTF.out.trans (by rw [HN.out] : addR p (p - T.1.getD bq 0) T Y = addR p (p - NN) T Y))
        have HTN := Lib.hid (flat_good (taken_good KO.out (x := (El, Er, List.replicate l.length 0)) HGX.out (j + 1) (by omega)))
        simp only [Int.toNat_natCast] at HTN
        rw [HTF2.out] at HTN
        have hjl : (j : Int) < l.length := by omega
        have hjb : (j : Int) < (elimS (p, (U : Int), l)).2.length := by omega
        have hbUi : (bq : Int) < U := by omega
        have hbU1 : (bq : Int) < (U : Int) + 1 := by omega
        have hp0 : 2 ≤ p := by omega
        have hp3 : p ≤ 3 := by omega
        have hN0 := hN.1
        have hN1 := hN.2
        go_upto_region 5 with fail
        refine wp_region_noPanic (wp_region_tree4 (fun w' => w'.cell? ⟨w.heap.size, 0, none⟩ = some (.int .i64 p) ∧ w'.cell? ⟨w.heap.size, 1, none⟩ = some (.int .i64 U) ∧ w'.cell? ⟨w.heap.size, 2, none⟩ = some (.slice a l.length c) ∧ w'.cell? ⟨w.heap.size + 1, 0, none⟩ = some (.slice ae U ce) ∧ w'.cell? ⟨w.heap.size + 1, 1, none⟩ = some (.int .i64 Er) ∧ w'.cell? ⟨w.heap.size + 1 + 1, 0, none⟩ = some (.slice none 0 0) ∧ w'.cell? ⟨w.heap.size + 1 + 1, 1, none⟩ = some (.slice none 0 0) ∧ w'.cell? ⟨g, 0, none⟩ = some (.slice (some ⟨b3, o3, none⟩) (U + 1) n1) ∧ w'.cell? ⟨g, 1, none⟩ = some (.slice m2 l.length n2) ∧ w'.cell? ⟨b2, o2 + j * 2, none⟩ = some (.slice a6 Y.1.length c6) ∧ w'.cell? ⟨b2, o2 + j * 2 + 1, none⟩ = some (.slice a7 Y.2.length c7) ∧ w'.cell? ⟨b3, o3 + bq, none⟩ = some (.int .i64 NN)) (.float 0 (.float 1 (.float 2 (.float 3 (.float 4 (.float 5 (.float 6 (.float 7 (.float 8 (.float 9 (.float 10 (.float 11 (.float 12 (.float 13 (.float 14 (.hard 15 (.last 16 .nil))))))))))))))))) (by kernel_rfl) (by kernel_rfl) (by kernel_rfl) rfl ?_ (fun _ _ _ _ _ h => h) ?_)
        · exact ⟨(hst.out.drew).cellAt 0 rfl 0 rfl, (hst.out.drew).cellAt 0 rfl 1 rfl, (hst.out.drew).cellAt 0 rfl 2 rfl, (hst.out.drew).cellAt 1 rfl 0 rfl, (hst.out.drew).cellAt 1 rfl 1 rfl, (hst.out.drew).cellAt 2 rfl 0 rfl, (hst.out.drew).cellAt 2 rfl 1 rfl, (hst.out.drew).cellAt 3 rfl 0 rfl, (hst.out.drew).cellAt 3 rfl 1 rfl, cellL (belowD _) f0, cellL (belowD _) f1, cellL (belowD _) t0⟩
        have hs230 := hst.out.drew
        have f0_231 := cellL (belowD _) f0
        clear f0
        have f1_232 := cellL (belowD _) f1
        clear f1
        have t0_233 := cellL (belowD _) t0
        clear t0
        have HRJ_234 := Lib.hid (Rd.mono HRJ.out (belowD _))
        clear HRJ
        have HIP_235 := Lib.hid (Ip.mono HIP.out (belowD _))
        clear HIP
        clear k0_0 k0_1 k0_2 k1_0 k1_1 k2_0 k2_1 k3_0 k3_1
        have hz_wd236 : wr.heap.size ≤ (wr.drew).heap.size := by simp
        generalize hgen_wd236 : wr.drew = wd236 at *
        have HG_wd236 := Lib.hid hgen_wd236
        clear hgen_wd236
        (repeat (first | (apply t4_skip rfl (by rfl); try simp only [Act.put, List.setIfInBounds_toArray, List.set_cons_zero, List.set_cons_succ]) | (apply t4_float rfl (by rfl); (· (intro w' hS; go_simp <;> with_reducible rfl)); (try simp only [Act.put, List.setIfInBounds_toArray, List.set_cons_zero, List.set_cons_succ]))))
        refine t4_hard rfl (by rfl) (fun K hK => ?_)
        go_wp2_with (go_at_call 43; refine (addTimes_c p (p - NN) T Y _ _ _ _ _ HIP_235.out.rd HRJ_234.out (by rw [HTG.out.1]; omega) (by rw [HTG.out.2.1]; omega) (by omega) (by omega) (by omega) (by omega) HTG.out.2.2.1 HTG.out.2.2.2 HG.out.2.2.1 HG.out.2.2.2 (by rw [HTG.out.1, HG.out.1]; exact Nat.le_refl _) (by rw [HTG.out.2.1, HG.out.2.1]; exact Nat.le_refl _)).mono ?_; rintro e w237 ⟨x0, x1, rfl, fr, hbw237⟩)
        have hz_w237 : wd236.heap.size ≤ w237.heap.size := by have h9 := hbw237.size; (try simp at h9); omega
        have hs238 := hs230.step hbw237
        have f0_239 := cellL hbw237 f0_231
        clear f0_231
        have f1_240 := cellL hbw237 f1_232
        clear f1_232
        have t0_241 := cellL hbw237 t0_233
        clear t0_233
        have HRJ_242 := Lib.hid (Rd.mono HRJ_234.out hbw237)
        clear HRJ_234
        have HIP_243 := Lib.hid (Ip.mono HIP_235.out hbw237)
        clear HIP_235
        obtain ⟨a8, c8, e8, _⟩ := rd_list (rd_cons rfl fr.rd).1
        obtain ⟨a9, c9, e9, _⟩ := rd_list (rd_cons rfl fr.rd).2
        rw [HTN.out.1] at e8
        rw [HTN.out.2.1] at e9
        subst e8 e9
        have HIQ := Lib.hid (show Ip (fun z => w.heap.size + 3 ≤ z ∧ z ≠ g) w237 [.slice a8 (U + 1) c8, .slice a9 l.length c9] (addR p (p - NN) T Y) by
          obtain ⟨ps, h1, h2, h3⟩ := fr
          exact ⟨ps, h1, h2, fun k hk => by have := h3 k hk; omega⟩)
        clear fr
        clear HIP_243
        clear HRJ_242
        refine ⟨⟨hs238.cellAt 0 rfl 0 rfl, hs238.cellAt 0 rfl 1 rfl, hs238.cellAt 0 rfl 2 rfl, hs238.cellAt 1 rfl 0 rfl, hs238.cellAt 1 rfl 1 rfl, hs238.cellAt 2 rfl 0 rfl, hs238.cellAt 2 rfl 1 rfl, hs238.cellAt 3 rfl 0 rfl, hs238.cellAt 3 rfl 1 rfl, f0_239, f1_240, t0_241⟩, ?_⟩
        (repeat (first | (apply t4_skip rfl (by rfl); try simp only [Act.put, List.setIfInBounds_toArray, List.set_cons_zero, List.set_cons_succ]) | (apply t4_float rfl (by rfl); (· (intro w' hS; go_simp <;> with_reducible rfl)); (try simp only [Act.put, List.setIfInBounds_toArray, List.set_cons_zero, List.set_cons_succ]))))
        refine t4_last rfl (by rfl) (fun K hK => ?_)
        have k0_0 := hs238.cellAt 0 rfl 0 rfl
        have k0_1 := hs238.cellAt 0 rfl 1 rfl
        have k0_2 := hs238.cellAt 0 rfl 2 rfl
        have k1_0 := hs238.cellAt 1 rfl 0 rfl
        have k1_1 := hs238.cellAt 1 rfl 1 rfl
        have k2_0 := hs238.cellAt 2 rfl 0 rfl
        have k2_1 := hs238.cellAt 2 rfl 1 rfl
        have k3_0 := hs238.cellAt 3 rfl 0 rfl
        have k3_1 := hs238.cellAt 3 rfl 1 rfl
        have g0 := (hs238.freeAt 3 rfl 0)
        have g1 := (hs238.freeAt 3 rfl 1)
        have hq := (hs238.set (p := [_, _, _]) (by simp <;> omega) 0 (.slice a8 (U + 1) c8)).set (p := [_, _, _]) (by simp <;> omega) 1 (.slice a9 l.length c9)
        go_wp2_with fail
        refine t4_nil (NoPanic.normal ?_)
        go_wp2_with fail
        go_roundw
        case rel =>
          have ho := ((OnlyAt.refl [g] w237).setCell (p := ⟨g, 0, none⟩) (by simp) (.slice a8 (U + 1) c8)).setCell (p := ⟨g, 1, none⟩) (by simp) (.slice a9 l.length c9)
          refine ⟨j + 1, a8, a9, c8, c9, hlt, by go_num, (hq.up hq.hi (Nat.le_refl _)).sub (fun x hx => hx), ?_⟩
          rw [HTF2.out]
          exact HIQ.out.frame (fun k h1 h2 => ho.block k (by simp; exact h1.2))
        case measure => simp [intOf]; omega
      · obtain rfl : j = (elimS (p, (U : Int), l)).2.length := by omega
        have g0 := (hst.out.freeAt 2 rfl 0)
        have g1 := (hst.out.freeAt 2 rfl 1)
        have hq := (hst.out.set (p := [_, _]) (by simp <;> omega) 0 (.slice m1 (U + 1) n1)).set (p := [_, _]) (by simp <;> omega) 1 (.slice m2 l.length n2)
        have x0 := hq.cellAt 2 rfl 0 rfl
        have x1 := hq.cellAt 2 rfl 1 rfl
        go_wp2_with fail
        refine bodyPost_ret (v := .agg #[.slice m1 (U + 1) n1, .slice m2 l.length n2]) (by simp [results, Try.results21, go_sem, x0, x1]) rfl ⟨_, _, rfl, ?_, hq.bel⟩
        have ho := ((OnlyAt.refl [w.heap.size + 1 + 1] wr).setCell (p := ⟨w.heap.size + 1 + 1, 0, none⟩) (by simp) (.slice m1 (U + 1) n1)).setCell (p := ⟨w.heap.size + 1 + 1, 1, none⟩) (by simp) (.slice m2 l.length n2)
        exact (hip.out.frame (fun k h1 h2 => ho.block k (by simp; omega))).rd

end Go.Proofs.Ytpejlnofaijmaaa
