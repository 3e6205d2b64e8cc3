/-
  CONTRACT: the pairs that constraints tell: the reference's side.
-/
import Derived.Test.YtllenfkbfeanmaaGreatPairBFa
import Derived.Test.YtllenfkbfeanmaaGreatFailBFa
namespace Go.Proofs.YtllenfkbfeanmaaGreat
open Go.RowKit Go.Shelf Go.IntWalk
open Rep (Rd Own sz)
set_option linter.unusedSimpArgs false
set_option linter.unusedVariables false

theorem ip_lit2 (w : World) (e : TypeId) {a b : Int} (ha : I64 a) (hb : I64 b) : Ip (fun z => z = w.heap.size) (w.alloc (.cells #[.int .i64 a, .int .i64 b] e)) [.slice (some ⟨w.heap.size, 0, none⟩) 2 2] [a, b] := by
  exact ⟨[w.heap.size], ⟨_, rfl, .inr ⟨w.heap.size, 0, 2, #[.int .i64 a, .int .i64 b], e, [[], []], rfl, Nat.le_refl _, by unfold maxLen; omega, heap_alloc_new _ _, rfl, rfl, fun i hi => by
    match i, hi with
    | 0, _ => exact ⟨[], [.int .i64 a], rfl, ⟨rfl, rfl, ha⟩, fun k hk => by
      simp only [List.length_cons, List.length_nil] at hk
      obtain rfl : k = 0 := by omega
      rfl⟩
    | 1, _ => exact ⟨[], [.int .i64 b], rfl, ⟨rfl, rfl, hb⟩, fun k hk => by
      simp only [List.length_cons, List.length_nil] at hk
      obtain rfl : k = 0 := by omega
      rfl⟩⟩⟩, by simp, by simp⟩
theorem all_no {α : Type} {l : List α} {q : α → Bool} {k : Nat} (hk : k < l.length) (h : q l[k] = false) : l.all q = false := by
  rw [List.all_eq_false]
  exact ⟨l[k], List.getElem_mem hk, by rw [h]; decide⟩
theorem all_yes {α : Type} {l : List α} {q : α → Bool} (h : ∀ k (hk : k < l.length), q l[k] = true) : l.all q = true := by
  rw [List.all_eq_true]
  intro x hx
  obtain ⟨k, hk, rfl⟩ := List.getElem_of_mem hx
  exact h k hk
set_option maxRecDepth 100000 in
set_option maxHeartbeats 16000000 in
theorem l05First_c (t : Tmpl) (x : Inst) (V tb xb : Nat) (t0 t1 x0 x1 : Value) (w : World) (ht : Rd w [t0, t1] t) (hx : Rd w [x0, x1] x) (hok : instOk t x = true) (hV : x.1 = (V : Int))
    (tc0 : w.cell? ⟨tb, 0, none⟩ = some t0) (tc1 : w.cell? ⟨tb, 1, none⟩ = some t1) (xc0 : w.cell? ⟨xb, 0, none⟩ = some x0) (xc1 : w.cell? ⟨xb, 1, none⟩ = some x1) :
    Calls Tryz.prog 43 #[.pointer (some ⟨tb, 0, none⟩), .pointer (some ⟨xb, 0, none⟩)] w fun e w' => ∃ v, e = .returned v ∧ Fresh w.heap.size w' [v] (fstP t x V) ∧ Below w.heap.size w w' := by
  have hv1 := (instOk_get hok).2.1
  have hcl := (instOk_get hok).2.2.1
  have hs1 := (tmplOk_get (instOk_get hok).1).1
  have hsq := sqN_le hs1
  obtain ⟨size, rs⟩ := t
  obtain ⟨vars, cs⟩ := x
  simp only at hV hv1 hs1 hsq hcl
  subst hV
  have zt := rd_cons rfl ht
  obtain ⟨rfl, _⟩ := rd_i1 zt.1
  obtain ⟨at0, ct0, rfl, _⟩ := rd_list zt.2
  have zx := rd_cons rfl hx
  obtain ⟨rfl, _⟩ := rd_i1 zx.1
  obtain ⟨ax, cx, rfl, hcs⟩ := rd_list zx.2
  have HR := Lib.hid zt.2
  have HCS := Lib.hid hcs
  have HFC := Lib.hid (fun (k : Nat) (hk : k < cs.length) => con_facts hok hk)
  have hwr : IntKind.i64.wrap (size * size) = (sqN size : Int) := by rw [hsq.2.2.2]; exact i64_in _ (by omega)
  have HWR := Lib.hid hwr
  have hsq1 := hsq.2.1
  have HDG := Lib.hid (fun (n : Nat) (h : n < sqN size) => digs_two hs1.1 h)
  clear ht hx zt zx hok hsq hcs hwr
  have hss : 0 < size := by omega
  have hsn : size ≠ 0 := by omega
  have tc0_ := cellL (St.start w).bel tc0
  clear tc0_
  have tc0_ := cellL (St.start w).bel tc0
  have tc1_ := cellL (St.start w).bel tc1
  clear tc0_ tc1_
  have tc0_ := cellL (St.start w).bel tc0
  have tc1_ := cellL (St.start w).bel tc1
  have xc0_ := cellL (St.start w).bel xc0
  clear tc0_ tc1_ xc0_
  have tc0_ := cellL (St.start w).bel tc0
  have tc1_ := cellL (St.start w).bel tc1
  have xc0_ := cellL (St.start w).bel xc0
  have xc1_ := cellL (St.start w).bel xc1
  have HG := Lib.hid (show GrowW (α := RelT) w [] 50 (w.alloc (.cells #[] 50)) (.slice (some ⟨w.heap.size, 0, none⟩) 0 0) (fstP (size, rs) (V, cs) 1) from
    ⟨((St.start w).step (belowA w (.cells #[] 50))).up (by simp) (Nat.le_refl _), (accP_made (α := RelT) w 50).wk (fun z hz => ⟨by omega, fun x hx => by cases hx⟩)⟩)
  go_enter Tryz.func43, Tryz.ntmps43
  go_wp2_with fail
  go_loopw [5, 6] (fun oo jj wl => ∃ (j n c : Nat) (ao : Option Addr), 1 ≤ j ∧ j ≤ V ∧ jj = .int .i64 j ∧ oo = .slice ao n c ∧ Hid ((fstP (size, rs) (V, cs) j).length = n) ∧ Hid (GrowW w [] 50 wl (.slice ao n c) (fstP (size, rs) (V, cs) j))) (fun _ jj _ => V - (intOf jj).toNat)
  case atStart => exact ⟨1, 0, 0, _, Nat.le_refl _, by omega, rfl, rfl, rfl, HG.out⟩
  case round =>
    clear HG
    obtain ⟨j, n, c, ao, hj0, hj, rfl, rfl, hn, hg⟩ := hrel
    have hs2 := hg.out.st
    have tc0_ := cellL hs2.bel tc0
    have tc1_ := cellL hs2.bel tc1
    have xc0_ := cellL hs2.bel xc0
    have xc1_ := cellL hs2.bel xc1
    by_cases hlt : j < V
    · have hjI : (j : Int) < V := by omega
      have HN0 := Lib.hid (show (fstP (size, rs) (V, cs) j ++ fstRow (size, rs) (V, cs) j 0).length = n by simpa [fstRow] using hn.out)
      have HR0 := Lib.hid (show fstP (size, rs) (V, cs) j = fstP (size, rs) (V, cs) j ++ fstRow (size, rs) (V, cs) j 0 by simp [fstRow])
      have HGJ := Lib.hid hg.out
      rw [HR0.out] at HGJ
      go_wp2_with fail
      go_loopw [5, 7] (fun oo ii wl => ∃ (i n c : Nat) (ao : Option Addr), i ≤ j ∧ ii = .int .i64 i ∧ oo = .slice ao n c ∧ Hid ((fstP (size, rs) (V, cs) j ++ fstRow (size, rs) (V, cs) j i).length = n) ∧ Hid (GrowW w [] 50 wl (.slice ao n c) (fstP (size, rs) (V, cs) j ++ fstRow (size, rs) (V, cs) j i))) (fun _ ii _ => j - (intOf ii).toNat)
      case atStart => exact ⟨0, n, c, ao, Nat.zero_le _, rfl, rfl, HN0.out, HGJ.out⟩
      case round =>
        clear HGJ
        obtain ⟨i, n, c, ao, hi, rfl, rfl, hn2, hg2⟩ := hrel
        have hs3 := hg2.out.st
        have tc0_ := cellL hs3.bel tc0
        have tc1_ := cellL hs3.bel tc1
        have xc0_ := cellL hs3.bel xc0
        have xc1_ := cellL hs3.bel xc1
        by_cases hil : i < j
        · have hiI : (i : Int) < j := by omega
          have HNL := Lib.hid (show n ≤ 55 by
            have h1 := hn2.out
            have h2 := tri_ten (show j ≤ 10 by omega)
            simp at h1
            omega)
          have HAP := Lib.hid (show (fstP (size, rs) (V, cs) j ++ fstRow (size, rs) (V, cs) j i) ++ [((2 : Int), selT (okY rs cs i j) size 2 (sqN size))] = fstP (size, rs) (V, cs) j ++ fstRow (size, rs) (V, cs) j (i + 1) by
            rw [fstRow_succ, List.append_assoc]; rfl)
          obtain ⟨wm, hwm⟩ : ∃ x, x = wr := ⟨_, rfl⟩
          subst hwm
          have HSB := Lib.hid (hs3.alloc #[.int .i64 2, .slice none 0 0] 50 (n := wm.heap.size) rfl)
          have HBM := Lib.hid (belowA wm (.cells #[.int .i64 2, .slice none 0 0] 50))
          have hwlo := hs3.lo
          go_wp2_with fail
          go_loopw [9] (fun nn wl => ∃ (q m c : Nat) (ao : Option Addr), q ≤ sqN size ∧ nn = .int .i64 q ∧ Hid ((selT (okY rs cs i j) size 2 q).length = m) ∧ Hid (Below wm.heap.size wm wl) ∧ Hid (St w (wm.heap.size + 1) wl [(wm.heap.size, #[.int .i64 2, .slice ao m c], 50)]) ∧
            Hid (AccP (fun z => wm.heap.size + 1 ≤ z ∧ z < wl.heap.size) 32 wl (.slice ao m c) (selT (okY rs cs i j) size 2 q))) (fun nn _ => sqN size - (intOf nn).toNat)
          case atStart => exact ⟨0, 0, 0, none, Nat.zero_le _, rfl, rfl, HBM.out, HSB.out, AccP.nil _ _ _⟩
          case round =>
            clear HSB HBM
            obtain ⟨q, m, c8, a8, hq, rfl, hm, hbm, hst, hacc⟩ := hrel
            have hs4 := hst.out
            have HAC := hacc
            have HBM := hbm
            have k0_0 := hs4.cellAt 0 rfl 0 rfl
            have k0_1 := hs4.cellAt 0 rfl 1 rfl
            have tc0_ := cellL hs4.bel tc0
            have tc1_ := cellL hs4.bel tc1
            have xc0_ := cellL hs4.bel xc0
            have xc1_ := cellL hs4.bel xc1
            by_cases hql : q < sqN size
            · have hqI : (q : Int) < (sqN size : Int) := by omega
              have hcmp : (q : Int) < IntKind.i64.wrap (size * size) := by rw [HWR.out]; exact hqI
              have hmq : m ≤ q := by rw [← hm.out]; exact selT_len _ _ _ _
              have HDQ := Lib.hid (HDG.out q hql)
              have h1 := Int.emod_nonneg (q : Int) (by omega : size ≠ 0)
              have h2 := Int.emod_lt_of_pos (q : Int) hss
              have h3 : 0 ≤ (q : Int) / size := Int.ediv_nonneg (by omega) (by omega)
              have h4 : (q : Int) / size ≤ q := Int.ediv_le_self _ (by omega)
              go_upto_region 10 with fail
              refine wp_region_noPanic (wp_region_tree4 (fun w' => w'.cell? ⟨wm.heap.size, 0, none⟩ = some (.int .i64 2) ∧ w'.cell? ⟨wm.heap.size, 1, none⟩ = some (.slice a8 m c8) ∧ w'.cell? ⟨tb, 0, none⟩ = some (.int .i64 size) ∧ w'.cell? ⟨tb, 1, none⟩ = some (.slice at0 rs.length ct0) ∧ w'.cell? ⟨xb, 0, none⟩ = some (.int .i64 V) ∧ w'.cell? ⟨xb, 1, none⟩ = some (.slice ax cs.length cx)) (.float 0 (.float 1 (.float 2 (.float 3 (.float 4 (.float 5 (.float 6 (.float 7 (.float 8 (.float 9 (.float 10 .nil))))))))))) (by kernel_rfl) (by kernel_rfl) (by kernel_rfl) rfl ?_ (fun _ _ _ _ _ h => h) ?_)
              · exact ⟨(hs4.drew).cellAt 0 rfl 0 rfl, (hs4.drew).cellAt 0 rfl 1 rfl, cellL (hs4.drew).bel tc0, cellL (hs4.drew).bel tc1, cellL (hs4.drew).bel xc0, cellL (hs4.drew).bel xc1⟩
              have hs1 := hs4.drew
              have HAC_2 := Lib.hid (AccP.mono HAC.out (belowD _))
              clear HAC
              have HBM_3 := Lib.hid (HBM.out.trans (((belowD _)).mono HBM.out.size))
              clear HBM
              clear k0_0 k0_1 tc0_ tc1_ xc0_ xc1_
              have hz_wd4 : wr.heap.size ≤ (wr.drew).heap.size := by simp
              generalize hgen_wd4 : wr.drew = wd4 at *
              have HG_wd4 := Lib.hid hgen_wd4
              clear hgen_wd4
              (repeat (first | (apply t4_skip rfl (by rfl); try simp only [Act.put, List.setIfInBounds_toArray, List.set_cons_zero, List.set_cons_succ]) | (apply t4_float rfl (by rfl); (· (intro w' hS; go_simp <;> with_reducible rfl)); (try simp only [Act.put, List.setIfInBounds_toArray, List.set_cons_zero, List.set_cons_succ]))))
              have k0_0 := hs1.cellAt 0 rfl 0 rfl
              have k0_1 := hs1.cellAt 0 rfl 1 rfl
              have tc0_ := cellL hs1.bel tc0
              have tc1_ := cellL hs1.bel tc1
              have xc0_ := cellL hs1.bel xc0
              have xc1_ := cellL hs1.bel xc1
              refine t4_nil (NoPanic.normal ?_)
              have HOY := Lib.hid (show okY rs cs i j (digs size 2 (q : Int)) = cs.all (fun c => tellsB (rs.getD c.1.toNat (0, [])).2 c.2 i j ((q : Int) / size) ((q : Int) % size)) by rw [HDQ.out]; rfl)
              have HSE := Lib.hid (show selT (okY rs cs i j) size 2 (q + 1) = selT (okY rs cs i j) size 2 q ++ (if cs.all (fun c => tellsB (rs.getD c.1.toNat (0, [])).2 c.2 i j ((q : Int) / size) ((q : Int) % size)) then [[(q : Int) / size, (q : Int) % size]] else []) by rw [selT_succ, HOY.out, HDQ.out])
              have HIA := Lib.hid (show I64 ((q : Int) / size) from i64_of _ h3 (by omega))
              have HIB := Lib.hid (show I64 ((q : Int) % size) from i64_of _ h1 (by omega))
              obtain ⟨wn, hwn⟩ : ∃ x, x = wd4 := ⟨_, rfl⟩
              have HSN := Lib.hid (show St w (wm.heap.size + 1) wn _ from by rw [hwn]; exact hs1)
              have HAN := Lib.hid (show AccP _ 32 wn (.slice a8 m c8) (selT (okY rs cs i j) size 2 q) from by rw [hwn]; exact HAC_2.out)
              have HBN := Lib.hid (show Below wm.heap.size wm wn from by rw [hwn]; exact HBM_3.out)
              have hzwn : wr.heap.size ≤ wn.heap.size := by rw [hwn]; omega
              have HWN := Lib.hid hwn
              clear hacc hst
              go_wp2_with fail
              rw [← HWN.out]
              clear hwn HDQ HOY
              generalize (q : Int) / size = VA at *
              generalize (q : Int) % size = VB at *
              go_loopw [12, 13] (fun bv kv wl => ∃ (k : Nat) (b : Bool), k ≤ cs.length ∧ bv = .bool b ∧ kv = .int .i64 k ∧ Hid (Below wn.heap.size wn wl) ∧ Hid ((b = true → ∀ p (hp : p < cs.length), p < k → tellsB (rs.getD cs[p].1.toNat (0, [])).2 cs[p].2 i j VA VB = true) ∧ (b = false → cs.all (fun c => tellsB (rs.getD c.1.toNat (0, [])).2 c.2 i j VA VB) = false))) (fun _ kv _ => cs.length - (intOf kv).toNat)
              case atStart => exact ⟨0, true, Nat.zero_le _, rfl, rfl, Below.refl _ _, fun _ p hp h => absurd h (Nat.not_lt_zero _), fun h => (by cases h)⟩
              case round =>
                obtain ⟨k, b, hk, rfl, rfl, hbl, hb⟩ := hrel
                have hs5 := HSN.out.step hbl.out
                have HBN2 := Lib.hid (HBN.out.trans (hbl.out.mono HBN.out.size))
                have hznr := hbl.out.size
                have hzmn := HBN.out.size
                have hzmn1 := HSN.out.hi
                have HBL := hbl
                have HBN3 := HBN2
                have k0_0 := hs5.cellAt 0 rfl 0 rfl
                have k0_1 := hs5.cellAt 0 rfl 1 rfl
                have tc0_ := cellL hs5.bel tc0
                have tc1_ := cellL hs5.bel tc1
                have xc0_ := cellL hs5.bel xc0
                have xc1_ := cellL hs5.bel xc1
                have HBN := HBN3
                cases b with
                | false =>
                  by_cases hkl : k < cs.length
                  · have hkI : (k : Int) < cs.length := by omega
                    have HS9 := Lib.hid hs5
                    have HA9 := Lib.hid (show AccP (fun z => wm.heap.size + 1 ≤ z ∧ z < wr.heap.size) 32 wr (.slice a8 m c8) (selT (okY rs cs i j) size 2 (q + 1)) by rw [HSE.out, hb.out.2 rfl]; simpa using (HAN.out.mono hbl.out).wk (fun z hz => ⟨hz.1, by have := hz.2; have := hbl.out.size; omega⟩))
                    have HM9 := Lib.hid (show (selT (okY rs cs i j) size 2 (q + 1)).length = m by rw [HSE.out, hb.out.2 rfl]; simpa using hm.out)
                    have HB9 := Lib.hid HBN.out
                    clear hb
                    go_wp2_with fail
                    go_roundw
                    case rel => exact ⟨q + 1, m, c8, a8, by omega, by go_num, HM9.out, HB9.out, HS9.out, HA9.out⟩
                    case measure => simp [intOf]; omega
                  · have hkI : ¬ ((k : Int) < cs.length) := by omega
                    have HS9 := Lib.hid hs5
                    have HA9 := Lib.hid (show AccP (fun z => wm.heap.size + 1 ≤ z ∧ z < wr.heap.size) 32 wr (.slice a8 m c8) (selT (okY rs cs i j) size 2 (q + 1)) by rw [HSE.out, hb.out.2 rfl]; simpa using (HAN.out.mono hbl.out).wk (fun z hz => ⟨hz.1, by have := hz.2; have := hbl.out.size; omega⟩))
                    have HM9 := Lib.hid (show (selT (okY rs cs i j) size 2 (q + 1)).length = m by rw [HSE.out, hb.out.2 rfl]; simpa using hm.out)
                    have HB9 := Lib.hid HBN.out
                    clear hb
                    go_wp2_with fail
                    go_roundw
                    case rel => exact ⟨q + 1, m, c8, a8, by omega, by go_num, HM9.out, HB9.out, HS9.out, HA9.out⟩
                    case measure => simp [intOf]; omega
                | true =>
                  by_cases hkl : k < cs.length
                  · have hkI : (k : Int) < cs.length := by omega
                    obtain ⟨nr, hcn, hnr, hyl, -, -⟩ := HFC.out k hkl
                    obtain ⟨bc, oc, u0, u1, rfl, p0, p1, hy⟩ := rdSl_two rfl HCS.out k hkl
                    have hyz := rd_cons rfl hy
                    obtain ⟨rfl, _⟩ := rd_i1 hyz.1
                    obtain ⟨a1, c1, rfl, _⟩ := rd_list hyz.2
                    have HSC := Lib.hid hyz.2
                    have HNX := Lib.hid (fun (h : tellsB (rs.getD cs[k].1.toNat (0, [])).2 cs[k].2 i j VA VB = true) => show ∀ p (hp : p < cs.length), p < k + 1 → tellsB (rs.getD cs[p].1.toNat (0, [])).2 cs[p].2 i j VA VB = true from fun p hp hpk => by
                      rcases Nat.lt_or_ge p k with h1 | h1
                      · exact hb.out.1 rfl p hp h1
                      · obtain rfl : p = k := by omega
                        exact h)
                    have HNF := Lib.hid (fun (h : tellsB (rs.getD cs[k].1.toNat (0, [])).2 cs[k].2 i j VA VB = false) => all_no (q := fun c => tellsB (rs.getD c.1.toNat (0, [])).2 c.2 i j VA VB) hkl h)
                    simp only [hcn, Int.toNat_natCast] at HNX HNF
                    rw [hcn] at p0
                    have HYL := Lib.hid hyl
                    have HNR := Lib.hid hnr
                    clear hy hyz hcn hyl hnr hb
                    generalize cs[k] = CK at *
                    obtain ⟨cki, sc⟩ := CK
                    simp only at p0 p1 HSC HYL HNX HNF
                    clear k0_0 k0_1 tc0_ tc1_ xc0_ xc1_
                    have k0_0 := hs5.cellAt 0 rfl 0 rfl
                    have k0_1 := hs5.cellAt 0 rfl 1 rfl
                    have tc0_ := cellL hs5.bel tc0
                    have tc1_ := cellL hs5.bel tc1
                    have xc0_ := cellL hs5.bel xc0
                    have xc1_ := cellL hs5.bel xc1
                    have p0_ := cellL hs5.bel p0
                    clear k0_0 k0_1 tc0_ tc1_ xc0_ xc1_ p0_
                    have k0_0 := hs5.cellAt 0 rfl 0 rfl
                    have k0_1 := hs5.cellAt 0 rfl 1 rfl
                    have tc0_ := cellL hs5.bel tc0
                    have tc1_ := cellL hs5.bel tc1
                    have xc0_ := cellL hs5.bel xc0
                    have xc1_ := cellL hs5.bel xc1
                    have p0_ := cellL hs5.bel p0
                    have p1_ := cellL hs5.bel p1
                    clear k0_0 k0_1 tc0_ tc1_ xc0_ xc1_ p0_ p1_
                    have k0_0 := hs5.cellAt 0 rfl 0 rfl
                    have k0_1 := hs5.cellAt 0 rfl 1 rfl
                    have tc0_ := cellL hs5.bel tc0
                    have tc1_ := cellL hs5.bel tc1
                    have xc0_ := cellL hs5.bel xc0
                    have xc1_ := cellL hs5.bel xc1
                    have p0_ := cellL hs5.bel p0
                    have p1_ := cellL hs5.bel p1
                    go_wp2_with fail
                    refine (l05Tells_c rs nr sc i j VA VB nr tb bc (oc + k * 2) _ _ _ (Rd.mono HR.out hs5.bel) (Rd.mono HSC.out hs5.bel) (cellL hs5.bel tc1) (cellL hs5.bel p0) (cellL hs5.bel p1) HNR.out HYL.out).mono ?_
                    rintro e w5 ⟨rfl, hbw5⟩
                    have hz_w5 : wr.heap.size ≤ w5.heap.size := by have h9 := hbw5.size; (try simp at h9); omega
                    have hs6 := hs5.step hbw5
                    have HBL_7 := Lib.hid (HBL.out.trans ((hbw5).mono HBL.out.size))
                    clear HBL
                    have HBN_8 := Lib.hid (HBN.out.trans ((hbw5).mono HBN.out.size))
                    clear HBN
                    clear k0_0 k0_1 tc0_ tc1_ xc0_ xc1_ p0_ p1_
                    have k0_0 := hs6.cellAt 0 rfl 0 rfl
                    have k0_1 := hs6.cellAt 0 rfl 1 rfl
                    have tc0_ := cellL hs6.bel tc0
                    have tc1_ := cellL hs6.bel tc1
                    have xc0_ := cellL hs6.bel xc0
                    have xc1_ := cellL hs6.bel xc1
                    have p0_ := cellL hs6.bel p0
                    have p1_ := cellL hs6.bel p1
                    cases ht : tellsB (rs.getD nr (0, [])).2 sc i j VA VB with
                    | true =>
                      have H9 := Lib.hid (HNX.out ht)
                      clear ht
                      go_wp2_with fail
                      go_roundw
                      case rel => exact ⟨k + 1, true, by omega, rfl, by go_num, HBL_7.out, fun _ => H9.out, fun h => (by cases h)⟩
                      case measure => simp [intOf]; omega
                    | false =>
                      have H9 := Lib.hid (HNF.out ht)
                      clear ht
                      go_wp2_with fail
                      go_roundw
                      case rel => exact ⟨k + 1, false, by omega, rfl, by go_num, HBL_7.out, fun h => (by cases h), fun _ => H9.out⟩
                      case measure => simp [intOf]; omega
                  · have hkI : ¬ ((k : Int) < cs.length) := by omega
                    have HALL := Lib.hid (show cs.all (fun c => tellsB (rs.getD c.1.toNat (0, [])).2 c.2 i j VA VB) = true from all_yes (fun p hp => hb.out.1 rfl p hp (by omega)))
                    have HS := Lib.hid (show selT (okY rs cs i j) size 2 q ++ [[VA, VB]] = selT (okY rs cs i j) size 2 (q + 1) by rw [HSE.out, HALL.out]; rfl)
                    have HA6 := Lib.hid ((HAN.out.mono hbl.out).mono ((belowA wr (.cells #[.int .i64 VA, .int .i64 VB] 2)).trans ((belowA (wr.alloc (.cells #[.int .i64 VA, .int .i64 VB] 2)) (.cells #[.slice (some ⟨wr.heap.size, 0, none⟩) 2 2] 32)).mono (by simp))))
                    have HI6 := Lib.hid ((ip_lit2 wr 2 HIA.out HIB.out).mono (belowA (wr.alloc (.cells #[.int .i64 VA, .int .i64 VB] 2)) (.cells #[.slice (some ⟨wr.heap.size, 0, none⟩) 2 2] 32)))
                    have HNB := Lib.hid (show ((wr.alloc (.cells #[.int .i64 VA, .int .i64 VB] 2)).alloc (.cells #[.slice (some ⟨wr.heap.size, 0, none⟩) 2 2] 32)).heap[wr.heap.size + 1]? = some (.cells #[.slice (some ⟨wr.heap.size, 0, none⟩) 2 2] 32 (0, 0)) from by
                      have h := heap_alloc_new (wr.alloc (.cells #[.int .i64 VA, .int .i64 VB] 2)) (.cells #[.slice (some ⟨wr.heap.size, 0, none⟩) 2 2] 32)
                      rwa [show (wr.alloc (.cells #[.int .i64 VA, .int .i64 VB] 2)).heap.size = wr.heap.size + 1 by simp] at h)
                    have HS7 := Lib.hid ((hs5.step (belowA wr (.cells #[.int .i64 VA, .int .i64 VB] 2))).step (belowA (wr.alloc (.cells #[.int .i64 VA, .int .i64 VB] 2)) (.cells #[.slice (some ⟨wr.heap.size, 0, none⟩) 2 2] 32)))
                    have HB7 := Lib.hid (HBN2.out.trans (((belowA wr (.cells #[.int .i64 VA, .int .i64 VB] 2)).trans ((belowA (wr.alloc (.cells #[.int .i64 VA, .int .i64 VB] 2)) (.cells #[.slice (some ⟨wr.heap.size, 0, none⟩) 2 2] 32)).mono (by simp))).mono HBN2.out.size))
                    clear hb
                    go_wp2_with (at_builtin; refine wpList_append_accP _ rfl _ _ _ rfl E_lists rfl HA6.out HI6.out (fun z h1 h2 => by have h3 := h1.2; omega) ⟨wr.heap.size + 1, 0, none⟩ 1 rfl (news1 (cell_at_block HNB.out)) (by rw [hm.out]; omega) ?_; simp only [hm.out, HS.out]; intro a9 c9 w9 hA9 hB9; have hs9 := HS7.out.butP hB9 (fun z hz => by have := hz.1; omega) (fun x hx hA => by have h1 := hA.1; simp at hx; subst hx; simp only at h1; omega); have hf9 := hs9.freeAt 0 rfl 1; have hc9 := hs9.cellAt 0 rfl 1 rfl)
                    have hz9 := hB9.size
                    have HQ := Lib.hid (hs9.set (p := []) (by simp <;> omega) 1 (.slice a9 (m + 1) c9))
                    have HB9 := Lib.hid ((HB7.out.trans (hB9.below (B := wm.heap.size) (fun z hz => by have := hz.1; omega) (by simp; omega))).setCell (p := ⟨wm.heap.size, 1, none⟩) (by simp) (.slice a9 (m + 1) c9))
                    have HA9 := Lib.hid (show AccP (fun z => wm.heap.size + 1 ≤ z ∧ z < (w9.setCell ⟨wm.heap.size, 1, none⟩ (.slice a9 (m + 1) c9)).heap.size) 32 (w9.setCell ⟨wm.heap.size, 1, none⟩ (.slice a9 (m + 1) c9)) (.slice a9 (m + 1) c9) (selT (okY rs cs i j) size 2 (q + 1)) from
                      ((hA9.tight.wk (C := fun z => wm.heap.size + 1 ≤ z ∧ z < w9.heap.size) (fun z hz => ⟨by
                        rcases hz.1 with h | h | h
                        · exact h.1
                        · have h9 : z = wr.heap.size := h
                          omega
                        · rw [h]; simp; omega, hz.2⟩)).setCell (.slice a9 (m + 1) c9) (fun h => by have := h.1; omega)).wk (fun z hz => by simpa [World.setCell] using hz))
                    have HM9 := Lib.hid (show (selT (okY rs cs i j) size 2 (q + 1)).length = m + 1 by rw [← HS.out, List.length_append, hm.out]; rfl)
                    clear hs9 hA9 hB9 hz9
                    go_wp2_with fail
                    go_roundw
                    case rel => exact ⟨q + 1, m + 1, c9, a9, by omega, by go_num, HM9.out, HB9.out, HQ.out, HA9.out⟩
                    case measure => simp [intOf]; omega
            · obtain rfl : q = sqN size := by omega
              have hcmp : ¬ (((sqN size : Nat) : Int) < IntKind.i64.wrap (size * size)) := by rw [HWR.out]; omega
              clear hacc hst
              go_upto_region 10 with fail
              refine wp_region_noPanic (wp_region_tree4 (fun w' => w'.cell? ⟨wm.heap.size, 0, none⟩ = some (.int .i64 2) ∧ w'.cell? ⟨wm.heap.size, 1, none⟩ = some (.slice a8 m c8) ∧ w'.cell? ⟨tb, 0, none⟩ = some (.int .i64 size) ∧ w'.cell? ⟨tb, 1, none⟩ = some (.slice at0 rs.length ct0) ∧ w'.cell? ⟨xb, 0, none⟩ = some (.int .i64 V) ∧ w'.cell? ⟨xb, 1, none⟩ = some (.slice ax cs.length cx)) (.float 0 (.float 1 (.float 2 (.float 3 (.float 4 (.float 5 (.float 6 (.float 7 (.float 8 (.float 9 (.float 10 .nil))))))))))) (by kernel_rfl) (by kernel_rfl) (by kernel_rfl) rfl ?_ (fun _ _ _ _ _ h => h) ?_)
              · exact ⟨(hs4.drew).cellAt 0 rfl 0 rfl, (hs4.drew).cellAt 0 rfl 1 rfl, cellL (hs4.drew).bel tc0, cellL (hs4.drew).bel tc1, cellL (hs4.drew).bel xc0, cellL (hs4.drew).bel xc1⟩
              have hs9 := hs4.drew
              have HAC_10 := Lib.hid (AccP.mono HAC.out (belowD _))
              clear HAC
              have HBM_11 := Lib.hid (HBM.out.trans (((belowD _)).mono HBM.out.size))
              clear HBM
              clear k0_0 k0_1 tc0_ tc1_ xc0_ xc1_
              have hz_wd12 : wr.heap.size ≤ (wr.drew).heap.size := by simp
              generalize hgen_wd12 : wr.drew = wd12 at *
              have HG_wd12 := Lib.hid hgen_wd12
              clear hgen_wd12
              (repeat (first | (apply t4_skip rfl (by rfl); try simp only [Act.put, List.setIfInBounds_toArray, List.set_cons_zero, List.set_cons_succ]) | (apply t4_float rfl (by rfl); (· (intro w' hS; go_simp <;> with_reducible rfl)); (try simp only [Act.put, List.setIfInBounds_toArray, List.set_cons_zero, List.set_cons_succ]))))
              have k0_0 := hs9.cellAt 0 rfl 0 rfl
              have k0_1 := hs9.cellAt 0 rfl 1 rfl
              have tc0_ := cellL hs9.bel tc0
              have tc1_ := cellL hs9.bel tc1
              have xc0_ := cellL hs9.bel xc0
              have xc1_ := cellL hs9.bel xc1
              obtain ⟨wn, hwn⟩ : ∃ x, x = wd12 := ⟨_, rfl⟩
              have HG5 := Lib.hid (show GrowW w [] 50 wn _ _ from by rw [hwn]; exact hg2.out.step HBM_11.out)
              have HA5 := Lib.hid (show AccP _ 50 wn _ _ from by rw [hwn]; exact hg2.out.acc.tight.mono HBM_11.out)
              have HI5 := Lib.hid (show Ip _ wn [.int .i64 2, .slice a8 m c8] ((2, selT (okY rs cs i j) size 2 (sqN size)) : RelT) from by rw [hwn]; exact ip_rel2 (i64_of 2 (by decide) (by decide)) (AccP.ip HAC_10.out))
              have HNW := Lib.hid (fun k (hk : wm.heap.size ≤ k) => hg2.out.newer hk)
              have HWN := Lib.hid hwn
              have HG6 := Lib.hid (HG5.out.step (belowA wn (.cells #[.int .i64 2, .slice a8 m c8] 50)))
              have HA6 := Lib.hid (HA5.out.mono (belowA wn (.cells #[.int .i64 2, .slice a8 m c8] 50)))
              have HI6 := Lib.hid (HI5.out.mono (belowA wn (.cells #[.int .i64 2, .slice a8 m c8] 50)))
              have r0 := (hs9.cellAt 0 rfl 0 rfl)
              have r1 := (hs9.cellAt 0 rfl 1 rfl)
              rw [← hwn] at r0 r1
              clear hwn
              refine t4_nil (NoPanic.normal ?_)
              rw [← HWN.out]
              go_wp2_with (at_builtin; refine wpList_append_accP _ rfl _ _ _ rfl E_rels rfl HA6.out HI6.out (fun z h1 h2 => by have h3 := h1.2; have h4 := h2.1; omega) ⟨wn.heap.size, 0, none⟩ 1 rfl (news2 (cell_at_block (heap_alloc_new _ _)) (cell_at_block (heap_alloc_new _ _))) (by rw [hn2.out]; have := HNL.out; omega) ?_; simp only [hn2.out, HAP.out]; intro a9 c9 w9 hA9 hB9)
              have HG9 := Lib.hid (HG6.out.snoc hA9 hB9 (fun k hk => hk.1) (fun k hk => HNW.out k (by have := hk.1; omega)))
              have HN9 := Lib.hid (show (fstP (size, rs) (V, cs) j ++ fstRow (size, rs) (V, cs) j (i + 1)).length = n + 1 by rw [← HAP.out, List.length_append, hn2.out]; rfl)
              clear hA9 hB9
              go_wp2_with fail
              go_roundw
              case rel => exact ⟨i + 1, n + 1, c9, a9, by omega, by go_num, rfl, HN9.out, HG9.out⟩
              case measure => simp [intOf]; omega
        · obtain rfl : i = j := by omega
          have hnl : ¬ ((i : Int) < i) := by omega
          have HG9 := Lib.hid hg2.out
          have HN9 := Lib.hid hn2.out
          go_wp2_with fail
          go_roundw
          case rel => exact ⟨i + 1, n, c, ao, by omega, by omega, by go_num, rfl, HN9.out, HG9.out⟩
          case measure => simp [intOf]; omega
    · obtain rfl : j = V := by omega
      have hnl : ¬ ((j : Int) < j) := by omega
      have HFR := Lib.hid hg.out.fresh
      have HBF := Lib.hid hg.out.bel
      go_wp2_with fail
      go_ret
      exact ⟨_, rfl, HFR.out, HBF.out⟩

end Go.Proofs.YtllenfkbfeanmaaGreat

