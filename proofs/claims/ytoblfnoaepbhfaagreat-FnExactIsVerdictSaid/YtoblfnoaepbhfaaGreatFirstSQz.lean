import Derived.Test.YtoblfnoaepbhfaaGreatPairBQz
import Derived.Test.YtoblfnoaepbhfaaGreatFailBQz
set_option linter.unusedSimpArgs false
set_option linter.unusedVariables false
set_option maxHeartbeats 16000000
set_option maxRecDepth 100000
namespace Go.Proofs.YtoblfnoaepbhfaaGreat
open Go.Proofs.Tryz
open Go.RowKit Go.Shelf Go.IntWalk
open Rep (Rd Own sz)
theorem ae7 (w : World) (e : TypeId) {a b : Int} (ha : I64 a) (hb : I64 b) : Ip (fun z => z = w.heap.size) (w.alloc (.cells #[.int .i64 a, .int .i64 b] e)) [.slice (some ⟨w.heap.size, 0, none⟩) 2 2] [a, b] := by
 exact ⟨[w.heap.size], ⟨_, rfl, .inr ⟨w.heap.size, 0, 2, #[.int .i64 a, .int .i64 b], e, [[], []], rfl, Nat.le_refl _, by unfold maxLen; omega, heap_alloc_new _ _, rfl, rfl, fun i hi => by
  match i, hi with
  | 0, _ => exact ⟨[], [.int .i64 a], rfl, ⟨rfl, rfl, ha⟩, fun k hk => by
   simp only [List.length_cons, List.length_nil] at hk
   obtain rfl : k = 0 := by omega
   rfl⟩
  | 1, _ => exact ⟨[], [.int .i64 b], rfl, ⟨rfl, rfl, hb⟩, fun k hk => by
   simp only [List.length_cons, List.length_nil] at hk
   obtain rfl : k = 0 := by omega
   rfl⟩⟩⟩, by simp, by simp⟩
theorem ajK {α : Type} {l : List α} {q : α → Bool} {k : Nat} (hk : k < l.length) (h : q l[k] = false) : l.all q = false := by
 rw [List.all_eq_false]
 exact ⟨l[k], List.getElem_mem hk, by rw [h]; decide⟩
theorem ae8 {α : Type} {l : List α} {q : α → Bool} (h : ∀ k (hk : k < l.length), q l[k] = true) : l.all q = true := by
 rw [List.all_eq_true]
 intro x hx
 obtain ⟨k, hk, rfl⟩ := List.getElem_of_mem hx
 exact h k hk
theorem VT (t : dB) (x : Inst) (V tb xb : Nat) (t0 t1 x0 x1 : Value) (w : World) (ht : Rd w [t0, t1] t) (hx : Rd w [x0, x1] x) (hok : cu t x = true) (hV : x.1 = (V : Int))
 (jr : w.cell? ⟨tb, 0, none⟩ = some t0) (jD : w.cell? ⟨tb, 1, none⟩ = some t1) (xc0 : w.cell? ⟨xb, 0, none⟩ = some x0) (gJ : w.cell? ⟨xb, 1, none⟩ = some x1) :
 Calls prog 50 #[.pointer (some ⟨tb, 0, none⟩), .pointer (some ⟨xb, 0, none⟩)] w fun e w' => ∃ v, e = .returned v ∧ aQ w.heap.size w' [v] (ng t x V) ∧ Below w.heap.size w w' := by
 have hv1 := (aX hok).2.1
 have hcl := (aX hok).2.2.1
 have hs1 := (dV (aX hok).1).1
 have TY := JI hs1
 obtain ⟨size, rs⟩ := t
 obtain ⟨vars, cs⟩ := x
 simp only at hV hv1 hs1 TY hcl
 subst hV
 have zt := au rfl ht
 obtain ⟨rfl, _⟩ := aG zt.1
 obtain ⟨at0, ct0, rfl, _⟩ := ah zt.2
 have zx := au rfl hx
 obtain ⟨rfl, _⟩ := aG zx.1
 obtain ⟨ax, cx, rfl, hcs⟩ := ah zx.2
 have HR := qH zt.2
 have PW := qH hcs
 have HFC := qH (fun (k : Nat) (hk : k < cs.length) => xH hok hk)
 have hwr : IntKind.i64.wrap (size * size) = (CG size : Int) := by rw [TY.2.2.2]; exact i64_in _ (by omega)
 have HWR := qH hwr
 have anf := TY.2.1
 have HDG := qH (fun (n : Nat) (h : n < CG size) => abV hs1.1 h)
 clear ht hx zt zx hok TY hcs hwr
 have hss : 0 < size := by omega
 have hsn : size ≠ 0 := by omega
 have bU := qC (St.start w).bel jr
 clear bU
 obtain ⟨bU, cO⟩ := iQ (St.start w).bel jr jD
 clear bU cO
 obtain ⟨bU, cO, bg⟩ := fQ (St.start w).bel jr jD xc0
 clear bU cO bg
 obtain ⟨bU, cO, bg, bI⟩ := jc (St.start w).bel jr jD xc0 gJ
 have HG := qH (show lD (α := bH) w [] 118 (w.alloc (.cells #[] 118)) (.slice (some ⟨w.heap.size, 0, none⟩) 0 0) (ng (size, rs) (V, cs) 1) from
  ⟨((St.start w).step (aB w (.cells #[] 118))).up (by simp) (Nat.le_refl _), (qM (α := bH) w 118).wk (fun z hz => ⟨by omega, fun x hx => by cases hx⟩)⟩)
 go_enter func50, ntmps50
 go_wp2_with fail
 go_loopw [5, 6] (fun oo jj wl => ∃ (j n c : Nat) (ao : Option Addr), 1 ≤ j ∧ j ≤ V ∧ jj = .int .i64 j ∧ oo = .slice ao n c ∧ Hid ((ng (size, rs) (V, cs) j).length = n) ∧ Hid (lD w [] 118 wl (.slice ao n c) (ng (size, rs) (V, cs) j))) (fun _ jj _ => V - (intOf jj).toNat)
 case atStart => exact ⟨1, 0, 0, _, Nat.le_refl _, by omega, rfl, rfl, rfl, HG.out⟩
 clear HG
 obtain ⟨j, n, c, ao, hj0, hj, rfl, rfl, hn, hg⟩ := hrel
 have hs2 := hg.out.st
 obtain ⟨bU, cO, bg, bI⟩ := jc hs2.bel jr jD xc0 gJ
 by_cases hlt : j < V
 rotate_left
 · obtain rfl : j = V := by omega
   have hnl : ¬ ((j : Int) < j) := by omega
   have D8 := qH hg.out.fresh
   have lu := qH hg.out.bel
   go_wp2_with fail
   go_ret
   exact ⟨_, rfl, D8.out, lu.out⟩
 have hjI : (j : Int) < V := by omega
 have HN0 := qH (show (ng (size, rs) (V, cs) j ++ jy (size, rs) (V, cs) j 0).length = n by simpa [jy] using hn.out)
 have HR0 := qH (show ng (size, rs) (V, cs) j = ng (size, rs) (V, cs) j ++ jy (size, rs) (V, cs) j 0 by simp [jy])
 have Iy := qH hg.out
 rw [HR0.out] at Iy
 go_wp2_with fail
 go_loopw [5, 7] (fun oo ii wl => ∃ (i n c : Nat) (ao : Option Addr), i ≤ j ∧ ii = .int .i64 i ∧ oo = .slice ao n c ∧ Hid ((ng (size, rs) (V, cs) j ++ jy (size, rs) (V, cs) j i).length = n) ∧ Hid (lD w [] 118 wl (.slice ao n c) (ng (size, rs) (V, cs) j ++ jy (size, rs) (V, cs) j i))) (fun _ ii _ => j - (intOf ii).toNat)
 case atStart => exact ⟨0, n, c, ao, Nat.zero_le _, rfl, rfl, HN0.out, Iy.out⟩
 clear Iy
 obtain ⟨i, n, c, ao, hi, rfl, rfl, hn2, hg2⟩ := hrel
 have hs3 := hg2.out.st
 obtain ⟨bU, cO, bg, bI⟩ := jc hs3.bel jr jD xc0 gJ
 by_cases hil : i < j
 rotate_left
 · obtain rfl : i = j := by omega
   have hnl : ¬ ((i : Int) < i) := by omega
   have Ux := qH hg2.out
   have HN9 := qH hn2.out
   go_wp2_with fail
   go_roundw
   case rel => exact ⟨i + 1, n, c, ao, by omega, by omega, by go_num, rfl, HN9.out, Ux.out⟩
   simp [intOf]; omega
 have hiI : (i : Int) < j := by omega
 have HNL := qH (show n ≤ 55 by
  have h1 := hn2.out
  have h2 := G8 (show j ≤ 10 by omega)
  simp at h1
  omega)
 have HAP := qH (show (ng (size, rs) (V, cs) j ++ jy (size, rs) (V, cs) j i) ++ [((2 : Int), ji (Gm rs cs i j) size 2 (CG size))] = ng (size, rs) (V, cs) j ++ jy (size, rs) (V, cs) j (i + 1) by
  rw [FN, List.append_assoc]; rfl)
 obtain ⟨wm, hwm⟩ : ∃ x, x = wr := ⟨_, rfl⟩
 subst hwm
 have HSB := qH (hs3.alloc #[.int .i64 2, .slice none 0 0] 118 (n := wm.heap.size) rfl)
 have HBM := qH (aB wm (.cells #[.int .i64 2, .slice none 0 0] 118))
 have azc := hs3.lo
 go_wp2_with fail
 go_loopw [9] (fun nn wl => ∃ (q m c : Nat) (ao : Option Addr), q ≤ CG size ∧ nn = .int .i64 q ∧ Hid ((ji (Gm rs cs i j) size 2 q).length = m) ∧ Hid (Below wm.heap.size wm wl) ∧ Hid (St w (wm.heap.size + 1) wl [(wm.heap.size, #[.int .i64 2, .slice ao m c], 118)]) ∧
  Hid (bM (fun z => wm.heap.size + 1 ≤ z ∧ z < wl.heap.size) 28 wl (.slice ao m c) (ji (Gm rs cs i j) size 2 q))) (fun nn _ => CG size - (intOf nn).toNat)
 case atStart => exact ⟨0, 0, 0, none, Nat.zero_le _, rfl, rfl, HBM.out, HSB.out, bM.nil _ _ _⟩
 clear HSB HBM
 obtain ⟨q, m, c8, a8, hq, rfl, hm, hbm, hst, hacc⟩ := hrel
 have hs4 := hst.out
 have PV := hacc
 have HBM := hbm
 obtain ⟨aF, aH⟩ := hs4.c2 0 0 0 1
 obtain ⟨bU, cO, bg, bI⟩ := jc hs4.bel jr jD xc0 gJ
 by_cases P6 : q < CG size
 rotate_left
 · obtain rfl : q = CG size := by omega
   have hcmp : ¬ (((CG size : Nat) : Int) < IntKind.i64.wrap (size * size)) := by rw [HWR.out]; omega
   clear hacc hst
   go_upto_region 10 with fail
   refine iT (fun w' => cI w' wm.heap.size 0 2 ∧ cV w' wm.heap.size 1 (.slice a8 m c8) ∧ cI w' tb 0 size ∧ cV w' tb 1 (.slice at0 rs.length ct0) ∧ cI w' xb 0 V ∧ cV w' xb 1 (.slice ax cs.length cx)) (.z [0,1,2,3,4,5,6,7,8,9,10] .nil) ?_ ?_
   · exact (hs4.drew).d2 0 0 0 1 (jc (hs4.drew).bel jr jD xc0 gJ:)
   have hs9 := hs4.drew
   have ajL := qH (bM.mono PV.out (belowD _))
   clear PV
   have acy := qH (HBM.out.trans (((belowD _)).mono HBM.out.size))
   clear HBM
   clear aF aH bU cO bg bI
   have Xu : wr.heap.size ≤ (wr.drew).heap.size := by simp
   generalize wr.drew = zZ at *
   refine aV ?_
   obtain ⟨aF, aH⟩ := hs9.c2 0 0 0 1
   obtain ⟨bU, cO, bg, bI⟩ := jc hs9.bel jr jD xc0 gJ
   obtain ⟨wn, hwn⟩ : ∃ x, x = zZ := ⟨_, rfl⟩
   have HG5 := qH (show lD w [] 118 wn _ _ from by rw [hwn]; exact hg2.out.step acy.out)
   have HA5 := qH (show bM _ 118 wn _ _ from by rw [hwn]; exact hg2.out.acc.tight.mono acy.out)
   have HI5 := qH (show Ip _ wn [.int .i64 2, .slice a8 m c8] ((2, ji (Gm rs cs i j) size 2 (CG size)) : bH) from by rw [hwn]; exact Pq (jf 2 (by decide) (by decide)) (bM.ip ajL.out))
   have HNW := qH (fun k (hk : wm.heap.size ≤ k) => hg2.out.newer hk)
   have HWN := qH hwn
   have HG6 := qH (HG5.out.step (aB wn (.cells #[.int .i64 2, .slice a8 m c8] 118)))
   have HA6 := qH (HA5.out.mono (aB wn (.cells #[.int .i64 2, .slice a8 m c8] 118)))
   have HI6 := qH (HI5.out.mono (aB wn (.cells #[.int .i64 2, .slice a8 m c8] 118)))
   have r0 := (hs9.c 0 0)
   have r1 := (hs9.c 0 1)
   rw [← hwn] at r0 r1
   clear hwn
   refine iF ?_
   rw [← HWN.out]
   go_wp2_with (at_builtin; refine bW _ rfl _ _ _ rfl Tv rfl HA6.out HI6.out (fun z h1 h2 => by have h3 := h1.2; have h4 := h2.1; omega) ⟨wn.heap.size, 0, none⟩ 1 rfl (E8 (aA (heap_alloc_new _ _)) (aA (heap_alloc_new _ _))) (by rw [hn2.out]; have := HNL.out; omega) ?_; simp only [hn2.out, HAP.out]; intro a9 c9 w9 jG vg)
   have Ux := qH (HG6.out.snoc jG vg (fun k hk => hk.1) (fun k hk => HNW.out k (by have := hk.1; omega)))
   have HN9 := qH (show (ng (size, rs) (V, cs) j ++ jy (size, rs) (V, cs) j (i + 1)).length = n + 1 by rw [← HAP.out, List.length_append, hn2.out]; rfl)
   clear jG vg
   go_wp2_with fail
   go_roundw
   case rel => exact ⟨i + 1, n + 1, c9, a9, by omega, by go_num, rfl, HN9.out, Ux.out⟩
   simp [intOf]; omega
 have hqI : (q : Int) < (CG size : Int) := by omega
 have hcmp : (q : Int) < IntKind.i64.wrap (size * size) := by rw [HWR.out]; exact hqI
 have hmq : m ≤ q := by rw [← hm.out]; exact JF _ _ _ _
 have HDQ := qH (HDG.out q P6)
 have h1 := Int.emod_nonneg (q : Int) (by omega : size ≠ 0)
 have h2 := Int.emod_lt_of_pos (q : Int) hss
 have h3 : 0 ≤ (q : Int) / size := Int.ediv_nonneg (by omega) (by omega)
 have h4 : (q : Int) / size ≤ q := Int.ediv_le_self _ (by omega)
 go_upto_region 10 with fail
 refine iT (fun w' => cI w' wm.heap.size 0 2 ∧ cV w' wm.heap.size 1 (.slice a8 m c8) ∧ cI w' tb 0 size ∧ cV w' tb 1 (.slice at0 rs.length ct0) ∧ cI w' xb 0 V ∧ cV w' xb 1 (.slice ax cs.length cx)) (.z [0,1,2,3,4,5,6,7,8,9,10] .nil) ?_ ?_
 · exact (hs4.drew).d2 0 0 0 1 (jc (hs4.drew).bel jr jD xc0 gJ:)
 have hs1 := hs4.drew
 have anC := qH (bM.mono PV.out (belowD _))
 clear PV
 have anD := qH (HBM.out.trans (((belowD _)).mono HBM.out.size))
 clear HBM
 clear aF aH bU cO bg bI
 have Uo : wr.heap.size ≤ (wr.drew).heap.size := by simp
 generalize wr.drew = wd4 at *
 refine aV ?_
 obtain ⟨aF, aH⟩ := hs1.c2 0 0 0 1
 obtain ⟨bU, cO, bg, bI⟩ := jc hs1.bel jr jD xc0 gJ
 refine iF ?_
 have HOY := qH (show Gm rs cs i j (eu size 2 (q : Int)) = cs.all (fun c => iJ (rs.getD c.1.toNat (0, [])).2 c.2 i j ((q : Int) / size) ((q : Int) % size)) by rw [HDQ.out]; rfl)
 have HSE := qH (show ji (Gm rs cs i j) size 2 (q + 1) = ji (Gm rs cs i j) size 2 q ++ (if cs.all (fun c => iJ (rs.getD c.1.toNat (0, [])).2 c.2 i j ((q : Int) / size) ((q : Int) % size)) then [[(q : Int) / size, (q : Int) % size]] else []) by rw [EO, HOY.out, HDQ.out])
 have HIA := qH (show I64 ((q : Int) / size) from jf _ h3 (by omega))
 have HIB := qH (show I64 ((q : Int) % size) from jf _ h1 (by omega))
 obtain ⟨wn, hwn⟩ : ∃ x, x = wd4 := ⟨_, rfl⟩
 have HSN := qH (show St w (wm.heap.size + 1) wn _ from by rw [hwn]; exact hs1)
 have HAN := qH (show bM _ 28 wn (.slice a8 m c8) (ji (Gm rs cs i j) size 2 q) from by rw [hwn]; exact anC.out)
 have Yw := qH (show Below wm.heap.size wm wn from by rw [hwn]; exact anD.out)
 have azd : wr.heap.size ≤ wn.heap.size := by rw [hwn]; omega
 have HWN := qH hwn
 clear hacc hst
 go_wp2_with fail
 rw [← HWN.out]
 clear hwn HDQ HOY
 generalize (q : Int) / size = VA at *
 generalize (q : Int) % size = VB at *
 go_loopw [12, 13] (fun bv kv wl => ∃ (k : Nat) (b : Bool), k ≤ cs.length ∧ bv = .bool b ∧ kv = .int .i64 k ∧ Hid (Below wn.heap.size wn wl) ∧ Hid ((b = true → ∀ p (hp : p < cs.length), p < k → iJ (rs.getD cs[p].1.toNat (0, [])).2 cs[p].2 i j VA VB = true) ∧ (b = false → cs.all (fun c => iJ (rs.getD c.1.toNat (0, [])).2 c.2 i j VA VB) = false))) (fun _ kv _ => cs.length - (intOf kv).toNat)
 case atStart => exact ⟨0, true, Nat.zero_le _, rfl, rfl, Below.refl _ _, fun _ p hp h => absurd h (Nat.not_lt_zero _), fun h => (by cases h)⟩
 obtain ⟨k, b, hk, rfl, rfl, hbl, hb⟩ := hrel
 have hs5 := HSN.out.step hbl.out
 have ajM := qH (Yw.out.trans (hbl.out.mono Yw.out.size))
 have aze := hbl.out.size
 have azf := Yw.out.size
 have awc := HSN.out.hi
 have qh := hbl
 have atI := ajM
 obtain ⟨aF, aH⟩ := hs5.c2 0 0 0 1
 obtain ⟨bU, cO, bg, bI⟩ := jc hs5.bel jr jD xc0 gJ
 have Yw := atI
 cases b
 · by_cases hkl : k < cs.length
   · have QH : (k : Int) < cs.length := by omega
     have xw := qH hs5
     have Et := qH (show bM (fun z => wm.heap.size + 1 ≤ z ∧ z < wr.heap.size) 28 wr (.slice a8 m c8) (ji (Gm rs cs i j) size 2 (q + 1)) by rw [HSE.out, hb.out.2 rfl]; simpa using (HAN.out.mono hbl.out).wk (fun z hz => ⟨hz.1, by have := hz.2; have := hbl.out.size; omega⟩))
     have HM9 := qH (show (ji (Gm rs cs i j) size 2 (q + 1)).length = m by rw [HSE.out, hb.out.2 rfl]; simpa using hm.out)
     have QI := qH Yw.out
     clear hb
     go_wp2_with fail
     go_roundw
     case rel => exact ⟨q + 1, m, c8, a8, by omega, by go_num, HM9.out, QI.out, xw.out, Et.out⟩
     simp [intOf]; omega
   have QH : ¬ ((k : Int) < cs.length) := by omega
   have xw := qH hs5
   have Et := qH (show bM (fun z => wm.heap.size + 1 ≤ z ∧ z < wr.heap.size) 28 wr (.slice a8 m c8) (ji (Gm rs cs i j) size 2 (q + 1)) by rw [HSE.out, hb.out.2 rfl]; simpa using (HAN.out.mono hbl.out).wk (fun z hz => ⟨hz.1, by have := hz.2; have := hbl.out.size; omega⟩))
   have HM9 := qH (show (ji (Gm rs cs i j) size 2 (q + 1)).length = m by rw [HSE.out, hb.out.2 rfl]; simpa using hm.out)
   have QI := qH Yw.out
   clear hb
   go_wp2_with fail
   go_roundw
   case rel => exact ⟨q + 1, m, c8, a8, by omega, by go_num, HM9.out, QI.out, xw.out, Et.out⟩
   simp [intOf]; omega
 by_cases hkl : k < cs.length
 rotate_left
 · have QH : ¬ ((k : Int) < cs.length) := by omega
   have ael := qH (show cs.all (fun c => iJ (rs.getD c.1.toNat (0, [])).2 c.2 i j VA VB) = true from ae8 (fun p hp => hb.out.1 rfl p hp (by omega)))
   have HS := qH (show ji (Gm rs cs i j) size 2 q ++ [[VA, VB]] = ji (Gm rs cs i j) size 2 (q + 1) by rw [HSE.out, ael.out]; rfl)
   have HA6 := qH ((HAN.out.mono hbl.out).mono ((aB wr (.cells #[.int .i64 VA, .int .i64 VB] 2)).trans ((aB (wr.alloc (.cells #[.int .i64 VA, .int .i64 VB] 2)) (.cells #[.slice (some ⟨wr.heap.size, 0, none⟩) 2 2] 28)).mono (by simp))))
   have HI6 := qH ((ae7 wr 2 HIA.out HIB.out).mono (aB (wr.alloc (.cells #[.int .i64 VA, .int .i64 VB] 2)) (.cells #[.slice (some ⟨wr.heap.size, 0, none⟩) 2 2] 28)))
   have HNB := qH (show ((wr.alloc (.cells #[.int .i64 VA, .int .i64 VB] 2)).alloc (.cells #[.slice (some ⟨wr.heap.size, 0, none⟩) 2 2] 28)).heap[wr.heap.size + 1]? = some (.cells #[.slice (some ⟨wr.heap.size, 0, none⟩) 2 2] 28 (0, 0)) from by
    have h := heap_alloc_new (wr.alloc (.cells #[.int .i64 VA, .int .i64 VB] 2)) (.cells #[.slice (some ⟨wr.heap.size, 0, none⟩) 2 2] 28)
    rwa [show (wr.alloc (.cells #[.int .i64 VA, .int .i64 VB] 2)).heap.size = wr.heap.size + 1 by simp] at h)
   have HS7 := qH ((hs5.step (aB wr (.cells #[.int .i64 VA, .int .i64 VB] 2))).step (aB (wr.alloc (.cells #[.int .i64 VA, .int .i64 VB] 2)) (.cells #[.slice (some ⟨wr.heap.size, 0, none⟩) 2 2] 28)))
   have HB7 := qH (ajM.out.trans (((aB wr (.cells #[.int .i64 VA, .int .i64 VB] 2)).trans ((aB (wr.alloc (.cells #[.int .i64 VA, .int .i64 VB] 2)) (.cells #[.slice (some ⟨wr.heap.size, 0, none⟩) 2 2] 28)).mono (by simp))).mono ajM.out.size))
   clear hb
   go_wp2_with (at_builtin; refine bW _ rfl _ _ _ rfl oq rfl HA6.out HI6.out (fun z h1 h2 => by have h3 := h1.2; omega) ⟨wr.heap.size + 1, 0, none⟩ 1 rfl (qB (aA HNB.out)) (by rw [hm.out]; omega) ?_; simp only [hm.out, HS.out]; intro a9 c9 w9 jG vg; have hs9 := HS7.out.lU vg (fun z hz => by have := hz.1; omega) (fun x hx hA => by have h1 := hA.1; simp at hx; subst hx; simp only at h1; omega); have hf9 := hs9.aC 0 rfl 1; have hc9 := hs9.c 0 1)
   have Y3 := vg.size
   have HQ := qH (hs9.set (p := []) (by simp <;> omega) 1 (.slice a9 (m + 1) c9))
   have QI := qH ((HB7.out.trans (vg.below (B := wm.heap.size) (fun z hz => by have := hz.1; omega) (by simp; omega))).setCell (p := ⟨wm.heap.size, 1, none⟩) (by simp) (.slice a9 (m + 1) c9))
   have Et := qH (show bM (fun z => wm.heap.size + 1 ≤ z ∧ z < (w9.setCell ⟨wm.heap.size, 1, none⟩ (.slice a9 (m + 1) c9)).heap.size) 28 (w9.setCell ⟨wm.heap.size, 1, none⟩ (.slice a9 (m + 1) c9)) (.slice a9 (m + 1) c9) (ji (Gm rs cs i j) size 2 (q + 1)) from
    ((jG.tight.wk (C := fun z => wm.heap.size + 1 ≤ z ∧ z < w9.heap.size) (fun z hz => ⟨by
     rcases hz.1 with h | h | h
     · exact h.1
     · have h9 : z = wr.heap.size := h
       omega
     · rw [h]; simp; omega, hz.2⟩)).setCell (.slice a9 (m + 1) c9) (fun h => by have := h.1; omega)).wk (fun z hz => by simpa [World.setCell] using hz))
   have HM9 := qH (show (ji (Gm rs cs i j) size 2 (q + 1)).length = m + 1 by rw [← HS.out, List.length_append, hm.out]; rfl)
   clear hs9 jG vg Y3
   go_wp2_with fail
   go_roundw
   case rel => exact ⟨q + 1, m + 1, c9, a9, by omega, by go_num, HM9.out, QI.out, HQ.out, Et.out⟩
   simp [intOf]; omega
 have QH : (k : Int) < cs.length := by omega
 obtain ⟨nr, hcn, hnr, hyl, -, -⟩ := HFC.out k hkl
 obtain ⟨bc, oc, u0, u1, rfl, p0, p1, hy⟩ := dP rfl PW.out k hkl
 have hyz := au rfl hy
 obtain ⟨rfl, _⟩ := aG hyz.1
 obtain ⟨a1, c1, rfl, _⟩ := ah hyz.2
 have qU := qH hyz.2
 have pW := qH (fun (h : iJ (rs.getD cs[k].1.toNat (0, [])).2 cs[k].2 i j VA VB = true) => show ∀ p (hp : p < cs.length), p < k + 1 → iJ (rs.getD cs[p].1.toNat (0, [])).2 cs[p].2 i j VA VB = true from fun p hp hpk => by
  rcases Nat.lt_or_ge p k with h1 | h1
  · exact hb.out.1 rfl p hp h1
  · obtain rfl : p = k := by omega
    exact h)
 have RX := qH (fun (h : iJ (rs.getD cs[k].1.toNat (0, [])).2 cs[k].2 i j VA VB = false) => ajK (q := fun c => iJ (rs.getD c.1.toNat (0, [])).2 c.2 i j VA VB) hkl h)
 simp only [hcn, Int.toNat_natCast] at pW RX
 rw [hcn] at p0
 have D9 := qH hyl
 have HNR := qH hnr
 clear hy hyz hcn hyl hnr hb
 generalize cs[k] = CK at *
 obtain ⟨cki, sc⟩ := CK
 simp only at p0 p1 qU D9 pW RX
 clear aF aH bU cO bg bI
 obtain ⟨aF, aH⟩ := hs5.c2 0 0 0 1
 obtain ⟨bU, cO, bg, bI, pF, qx⟩ := uZ hs5.bel jr jD xc0 gJ p0 p1
 go_wp2_with fail
 refine (Vz rs nr sc i j VA VB nr tb bc (oc + k * 2) _ _ _ (Rd.mono HR.out hs5.bel) (Rd.mono qU.out hs5.bel) (qC hs5.bel jD) (qC hs5.bel p0) (qC hs5.bel p1) HNR.out D9.out).mono ?_
 rintro e w5 ⟨rfl, AZ⟩
 have Fz : wr.heap.size ≤ w5.heap.size := hZ AZ
 have hs6 := hs5.step AZ
 have agv := qH (qh.out.trans ((AZ).mono qh.out.size))
 clear qh
 clear Yw
 clear aF aH bU cO bg bI pF qx
 obtain ⟨aF, aH⟩ := hs6.c2 0 0 0 1
 obtain ⟨bU, cO, bg, bI, pF, qx⟩ := uZ hs6.bel jr jD xc0 gJ p0 p1
 cases ht : iJ (rs.getD nr (0, [])).2 sc i j VA VB
 · have H9 := qH (RX.out ht)
   clear ht
   go_wp2_with fail
   go_roundw
   case rel => exact ⟨k + 1, false, by omega, rfl, by go_num, agv.out, fun h => (by cases h), fun _ => H9.out⟩
   simp [intOf]; omega
 have H9 := qH (pW.out ht)
 clear ht
 go_wp2_with fail
 go_roundw
 case rel => exact ⟨k + 1, true, by omega, rfl, by go_num, agv.out, fun _ => H9.out, fun h => (by cases h)⟩
 simp [intOf]; omega
end Go.Proofs.YtoblfnoaepbhfaaGreat
