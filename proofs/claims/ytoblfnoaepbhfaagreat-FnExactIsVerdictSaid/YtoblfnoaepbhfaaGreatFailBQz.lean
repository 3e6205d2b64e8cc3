import Derived.Test.YtoblfnoaepbhfaaGreatTmplBQz
import Derived.Test.YtoblfnoaepbhfaaGreatArcMBQz
import Derived.Test.YtoblfnoaepbhfaaGreatKeepBQz
import Derived.Test.YtoblfnoaepbhfaaGreatRowBQz
import Derived.Laws.CopyOwn
set_option linter.unusedSimpArgs false
set_option linter.unusedVariables false
set_option maxHeartbeats 4000000
set_option maxRecDepth 100000
namespace Go.Proofs.YtoblfnoaepbhfaaGreat
open Go.Proofs.Tryz
open Go.RowKit Go.Shelf Go.IntWalk
open Rep (Rd Own sz)
theorem abI (l m : List Int) (v0 v1 : Value) (w : World) (r0 : Rd w [v0] l) (r1 : Rd w [v1] m) :
 Calls prog 322 #[v0, v1] w fun e w' => e = .returned (.int .i64 (cmpL l m)) ∧ w = w' := by
 obtain ⟨a, c, rfl, h0⟩ := ah r0
 obtain ⟨a', c', rfl, h1⟩ := ah r1
 have HR := qH r0
 have HM := qH r1
 clear r0 r1 h0 h1
 go_enter func322, ntmps322
 go_wp2_with fail
 refine (LZ l m _ _ _ HR.out HM.out).mono ?_
 rintro e w1 ⟨rfl, rfl⟩
 go_wp2_with fail
 go_ret
 exact ⟨rfl, rfl⟩
theorem YI (x : List (List Int)) (t : List Int) (v0 v1 : Value) (w : World) (r0 : Rd w [v0] x) (r1 : Rd w [v1] t) (hi : Inc x) (hl : x.length ≤ 1000000) :
 Calls prog 321 #[v0, v1, .func (.func 322) #[] #[]] w fun e w' => ∃ k : Int, e = .returned (.tuple #[.int .i64 k, .bool (jH x t)]) ∧ w = w' := by
 obtain ⟨a, c, rfl, h0⟩ := ah r0
 obtain ⟨a', c', rfl, h1⟩ := ah r1
 have HR := qH h0
 have HM := qH r1
 have HI := qH hi
 clear r0 r1 h0 h1 hi
 have eg : ∀ args w, (callFunc 322 args).run prog w = .ok (.enter 322 args) w := enters_of func322 (by kernel_rfl) rfl
 go_enter func321, ntmps321
 go_wp2_with fail
 go_loop [9, 10] (fun i j => ∃ (p q : Nat), p ≤ q ∧ q ≤ x.length ∧ i = .int .i64 p ∧ j = .int .i64 q ∧ Hid (∀ k, k < p → cmpL (x.getD k []) t < 0) ∧ Hid (∀ k, q ≤ k → k < x.length → 0 ≤ cmpL (x.getD k []) t)) (fun i j => (intOf j).toNat - (intOf i).toNat)
 case atStart => exact ⟨0, x.length, Nat.zero_le _, Nat.le_refl _, rfl, rfl, fun k hk => absurd hk (Nat.not_lt_zero _), fun k h1 h2 => absurd h2 (by omega)⟩
 obtain ⟨p, q, hpq, hq, rfl, rfl, hlo, hhi⟩ := hrel
 by_cases hlt : p < q
 rotate_left
 · obtain rfl : p = q := by omega
   have HS := qH (search_end HI.out hq hlo.out hhi.out)
   by_cases hp : p < x.length
   rotate_left
   · obtain rfl : p = x.length := by omega
     have HS2 := qH (show jH x t = false by rw [HS.out, decide_eq_false hp]; rfl)
     go_wp2_with fail
     refine bodyPost_ret (v := .tuple #[.int .i64 x.length, .bool false]) (by simp [results, results321, go_sem]) rfl (by first | exact ⟨_, by rw [HS2.out], rfl⟩ | exact ⟨⟨_, by rw [HS2.out]⟩, rfl⟩)
   obtain ⟨b, o, u0, rfl, q0, hx⟩ := bF rfl HR.out p hp
   have HX := qH hx
   obtain ⟨a0, c0, rfl, _⟩ := ah hx
   clear hx
   go_wp2_with fail
   refine (abI x[p] t _ _ _ HX.out HM.out).mono ?_
   rintro e w1 ⟨rfl, rfl⟩
   have HS2 := qH (show jH x t = (cmpL x[p] t == 0) by
    rw [HS.out, decide_eq_true hp, show x.getD p [] = x[p] by simp [List.getD, hp], Bool.true_and]
    by_cases h : cmpL x[p] t = 0 <;> simp [h])
   generalize cmpL x[p] t = C at *
   go_wp2_with fail
   refine bodyPost_ret (v := .tuple #[.int .i64 p, .bool (C == 0)]) (by simp [results, results321, go_sem]) rfl (by first | exact ⟨_, by rw [HS2.out], rfl⟩ | exact ⟨⟨_, by rw [HS2.out]⟩, rfl⟩)
 have hh : (p + q) / 2 < q := by omega
 have hh2 : p ≤ (p + q) / 2 := by omega
 generalize hmid : (p + q) / 2 = h at *
 have hhl : h < x.length := by omega
 obtain ⟨b, o, u0, rfl, q0, hx⟩ := bF rfl HR.out h hhl
 have HX := qH hx
 obtain ⟨a0, c0, rfl, _⟩ := ah hx
 clear hx
 go_wp2_with fail
 refine (abI x[h] t _ _ _ HX.out HM.out).mono ?_
 rintro e w1 ⟨rfl, rfl⟩
 have eh : x.getD h [] = x[h] := by simp [List.getD, hhl]
 by_cases hc : cmpL x[h] t < 0
 · have HLO := qH (Yr HI.out hhl (by rw [eh]; exact hc))
   clear eh
   generalize cmpL x[h] t = C at *
   go_wp2_with fail
   go_round
   case rel => exact ⟨h + 1, q, by omega, hq, by congr 1; omega, rfl, HLO.out, hhi.out⟩
   simp [intOf]; omega
 have HHI := qH (Yt HI.out (by rw [eh]; exact hc))
 have hc0 : 0 ≤ cmpL x[h] t := by omega
 clear eh
 generalize cmpL x[h] t = C at *
 go_wp2_with fail
 go_round
 case rel => exact ⟨p, h, hh2, by omega, rfl, by congr 1; omega, hlo.out, HHI.out⟩
 simp [intOf]; omega
theorem XJ (r : bH) (t : List Int) (v0 v1 va : Value) (w : World) (hr : Rd w [v0, v1] r) (ht : Rd w [va] t) (hi : Inc r.2) (hl : r.2.length ≤ 1000000) :
 Calls prog 255 #[.agg #[v0, v1], va] w fun e w' => e = .returned (.bool (jH r.2 t)) ∧ Below w.heap.size w w' := by
 obtain ⟨ar, l⟩ := r
 have z := au rfl hr
 obtain ⟨rfl, _⟩ := aG z.1
 have HL := qH z.2
 obtain ⟨a, c, rfl, _⟩ := ah z.2
 have HT := qH ht
 obtain ⟨a2, c2, rfl, _⟩ := ah ht
 have HI := qH hi
 simp only at hl
 clear hr z ht hi
 have hs1 := (St.start w).alloc #[.int .i64 ar, .slice a l.length c] 118 (n := w.heap.size) (by simp)
 obtain ⟨aF, aH⟩ := hs1.c2 0 0 0 1
 go_enter func255, ntmps255
 go_wp2_with fail
 refine (YI l t _ _ _ (Rd.mono HL.out hs1.bel) (Rd.mono HT.out hs1.bel) HI.out hl).mono ?_
 rintro e w1 ⟨k, rfl, rfl⟩
 generalize hH : jH l t = H at *
 have HH := qH hH
 clear hH
 go_wp2_with fail
 go_ret
 exact ⟨ak HH.out.symm, hs1.bel⟩
theorem JE (r : bH) (t : List Int) (pb po : Nat) (v1 va : Value) (w : World) (hr : Rd w [v1] r.2) (hc : w.cell? ⟨pb, po + 1, none⟩ = some v1) (ht : Rd w [va] t) :
 Calls prog 310 #[.pointer (some ⟨pb, po, none⟩), va] w fun e w' => e = .returned (.bool (jH r.2 t)) ∧ Below w.heap.size w w' := by
 obtain ⟨ar, l⟩ := r
 simp only at hr ⊢
 obtain ⟨a, c, rfl, h0⟩ := ah hr
 have hb0 := (aN h0).2
 unfold maxLen at hb0
 have HR := qH h0
 have HT := qH ht
 obtain ⟨a2, c2, rfl, _⟩ := ah ht
 clear hr h0 ht
 have hc_ := qC (St.start w).bel hc
 go_enter func310, ntmps310
 go_wp2_with fail
 go_loopw [5] (fun i wl => ∃ k : Nat, k ≤ l.length ∧ i = .int .i64 k ∧ Hid (Below w.heap.size w wl) ∧ Hid (∀ j (hj : j < l.length), j < k → l[j] ≠ t)) (fun i _ => l.length - (intOf i).toNat)
 case atStart => exact ⟨0, Nat.zero_le _, rfl, Below.refl _ _, fun j _ hj => absurd hj (Nat.not_lt_zero _)⟩
 obtain ⟨k, hk, rfl, hbl, hn⟩ := hrel
 have hsr := (St.start w).step hbl.out
 have hc_ := qC hsr.bel hc
 clear hbl
 by_cases hlt : k < l.length
 rotate_left
 · obtain rfl : k = l.length := by omega
   have HQ := qH (show jH l t = false by
    unfold jH
    rw [← Bool.not_eq_true, List.contains_iff_mem]
    intro hm
    obtain ⟨j, hj, e⟩ := List.getElem_of_mem hm
    exact hn.out j hj hj e)
   go_wp2_with fail
   go_ret
   exact ⟨ak HQ.out.symm, hsr.bel⟩
 obtain ⟨b, o, u0, rfl, q0, hx⟩ := bF rfl HR.out k hlt
 have HX := qH hx
 obtain ⟨a0, c0, rfl, _⟩ := ah hx
 clear hx
 clear hc_
 obtain ⟨hc_, dW⟩ := iQ hsr.bel hc q0
 go_wp2_with fail
 refine (XT l[k] t _ _ _ (Rd.mono HX.out hsr.bel) (Rd.mono HT.out hsr.bel)).mono ?_
 rintro e w1 ⟨rfl, n1, rfl⟩
 by_cases he : l[k] = t
 · rw [decide_eq_true he]
   have HQ := qH (show jH l t = true by unfold jH; rw [List.contains_iff_mem, ← he]; exact List.getElem_mem hlt)
   clear he
   go_wp2_with fail
   go_ret
   exact ⟨ak HQ.out.symm, hsr.bel.trans ((dQ _ _).mono hsr.bel.size)⟩
 rw [decide_eq_false he]
 have HQ := qH he
 clear he
 go_wp2_with fail
 go_roundw
 case rel =>
  refine ⟨k + 1, by omega, by go_num, hsr.bel.trans ((dQ _ _).mono hsr.bel.size), fun j hj hjk => ?_⟩
  rcases Nat.lt_or_ge j k with h | h
  · exact hn.out j hj h
  obtain rfl : j = k := by omega
  exact HQ.out
 simp [intOf]; omega
def fU (vals places : List Int) : List Int := places.map (fun v => vals.getD v.toNat 0)
theorem abJ (vals places : List Int) (vv vp : Value) (w : World) (hv : Rd w [vv] vals) (hp : Rd w [vp] places) (hn : places.length ≤ 1000000) (hi : ∀ v, v ∈ places → 0 ≤ v ∧ v < vals.length) :
 Calls prog 293 #[vv, vp] w fun e w' => ∃ v', e = .returned v' ∧ aQ w.heap.size w' [v'] (fU vals places) ∧ Below w.heap.size w w' := by
 obtain ⟨av, cv, rfl, _⟩ := ah hv
 obtain ⟨ap, cp, rfl, _⟩ := ah hp
 have HV := qH hv
 have HP := qH hp
 have HI := qH hi
 clear hv hp hi
 have HM := qH (mJ (α := Int) w 2)
 go_enter func293, ntmps293
 go_wp2_with fail
 go_loopw [5, 11] (fun oo i wl => ∃ (k : Nat) (ao : Option Addr) (co : Nat), k ≤ places.length ∧ i = .int .i64 k ∧ oo = .slice ao k co ∧ Hid (Below w.heap.size w wl) ∧ Hid (Acc w.heap.size wl.heap.size 2 wl (.slice ao k co) ((fU vals places).take k))) (fun _ i _ => places.length - (intOf i).toNat)
 case atStart => exact ⟨0, _, _, Nat.zero_le _, rfl, rfl, aB _ _, by simpa [Hid] using HM.out⟩
 clear HM
 obtain ⟨k, ao, co, hk, rfl, rfl, hbl, hac⟩ := hrel
 have hsr := (St.start w).step hbl.out
 have PV := hac
 have hb0 := hbl.out.size
 by_cases hlt : k < places.length
 rotate_left
 · obtain rfl : k = places.length := by omega
   have hnl : ¬ ((places.length : Int) < places.length) := by omega
   have lu := qH hbl.out
   have Oy := qH (show aQ w.heap.size wr [.slice ao places.length co] (fU vals places) by
    have h := hac.out
    rw [List.take_of_length_le (by simp [fU])] at h
    exact h.fresh)
   go_wp2_with fail
   go_ret
   exact ⟨_, rfl, Oy.out, lu.out⟩
 have hkl : (k : Int) < places.length := by omega
 obtain ⟨b, o, rfl, qk, _⟩ := aI (Rd.mono HP.out hsr.bel) k hlt
 have hvr := HI.out _ (List.getElem_mem hlt)
 obtain ⟨m, hm⟩ : ∃ m : Nat, places[k] = (m : Int) := ⟨(places[k]).toNat, by omega⟩
 have hml : m < vals.length := by omega
 have asK : (m : Int) < vals.length := by omega
 obtain ⟨b2, o2, rfl, qm, hI⟩ := aI (Rd.mono HV.out hsr.bel) m hml
 have hcl : k < (fU vals places).length := by simpa [fU] using hlt
 have J4 := qH (show (fU vals places).take (k + 1) = (fU vals places).take k ++ [vals[m]] by
  rw [List.take_succ_eq_append_getElem hcl]
  congr 2
  simp only [fU, List.getElem_map]
  rw [hm, Int.toNat_natCast, List.getD, List.getElem?_eq_getElem hml]
  rfl)
 have YC := qH (show ((fU vals places).take k).length = k by rw [List.length_take]; omega)
 have HI2 := qH hI
 have qh := qH hbl.out
 rw [hm] at qk
 clear hm hvr hI
 generalize vals[m] = X at *
 go_wp2_with (at_builtin; go_loud (refine dS _ rfl _ _ _ rfl eH rfl (Acc.mono PV.out (aB _ (.cells #[.int .i64 X] 2))) (by omega) (by simp) ⟨wr.heap.size, 0, none⟩ 1 rfl (ns := [X]) (qB (aA (heap_alloc_new _ _))) (fun b hb => by simp at hb; subst hb; exact HI2.out) (by rw [YC.out]; simp; omega) ?_); simp only [YC.out, ← J4.out]; intro a9 c9 w9 jG vg hK9)
 have Et := qH jG
 have QI := qH (qh.out.trans ((aB wr (.cells #[.int .i64 X] 2)).mono qh.out.size) |>.trans vg)
 clear jG vg hK9
 go_wp2_with fail
 go_roundw
 case rel => exact ⟨k + 1, a9, c9, hlt, by go_num, rfl, QI.out, Et.out⟩
 simp [intOf]; omega
theorem aeP (vals places : List Int) (vv vp : Value) (w : World) (hv : Rd w [vv] vals) (hp : Rd w [vp] places) (hn : places.length ≤ 1000000) (hi : ∀ v, v ∈ places → 0 ≤ v ∧ v < vals.length) :
 Calls prog 329 #[vv, vp] w fun e w' => ∃ v', e = .returned v' ∧ aQ w.heap.size w' [v'] (fU vals places) ∧ Below w.heap.size w w' := by
 obtain ⟨av, cv, rfl, _⟩ := ah hv
 obtain ⟨ap, cp, rfl, _⟩ := ah hp
 have HV := qH hv
 have HP := qH hp
 have HI := qH hi
 clear hv hp hi
 have HM := qH (mJ (α := Int) w 2)
 go_enter func329, ntmps329
 go_wp2_with fail
 go_loopw [5, 6] (fun oo i wl => ∃ (k : Nat) (ao : Option Addr) (co : Nat), k ≤ places.length ∧ i = .int .i64 k ∧ oo = .slice ao k co ∧ Hid (Below w.heap.size w wl) ∧ Hid (Acc w.heap.size wl.heap.size 2 wl (.slice ao k co) ((fU vals places).take k))) (fun _ i _ => places.length - (intOf i).toNat)
 case atStart => exact ⟨0, _, _, Nat.zero_le _, rfl, rfl, aB _ _, by simpa [Hid] using HM.out⟩
 clear HM
 obtain ⟨k, ao, co, hk, rfl, rfl, hbl, hac⟩ := hrel
 have hsr := (St.start w).step hbl.out
 have PV := hac
 have hb0 := hbl.out.size
 by_cases hlt : k < places.length
 rotate_left
 · obtain rfl : k = places.length := by omega
   have hnl : ¬ ((places.length : Int) < places.length) := by omega
   have lu := qH hbl.out
   have Oy := qH (show aQ w.heap.size wr [.slice ao places.length co] (fU vals places) by
    have h := hac.out
    rw [List.take_of_length_le (by simp [fU])] at h
    exact h.fresh)
   go_wp2_with fail
   go_ret
   exact ⟨_, rfl, Oy.out, lu.out⟩
 have hkl : (k : Int) < places.length := by omega
 obtain ⟨b, o, rfl, qk, _⟩ := aI (Rd.mono HP.out hsr.bel) k hlt
 have hvr := HI.out _ (List.getElem_mem hlt)
 obtain ⟨m, hm⟩ : ∃ m : Nat, places[k] = (m : Int) := ⟨(places[k]).toNat, by omega⟩
 have hml : m < vals.length := by omega
 have asK : (m : Int) < vals.length := by omega
 obtain ⟨b2, o2, rfl, qm, hI⟩ := aI (Rd.mono HV.out hsr.bel) m hml
 have hcl : k < (fU vals places).length := by simpa [fU] using hlt
 have J4 := qH (show (fU vals places).take (k + 1) = (fU vals places).take k ++ [vals[m]] by
  rw [List.take_succ_eq_append_getElem hcl]
  congr 2
  simp only [fU, List.getElem_map]
  rw [hm, Int.toNat_natCast, List.getD, List.getElem?_eq_getElem hml]
  rfl)
 have YC := qH (show ((fU vals places).take k).length = k by rw [List.length_take]; omega)
 have HI2 := qH hI
 have qh := qH hbl.out
 rw [hm] at qk
 clear hm hvr hI
 generalize vals[m] = X at *
 go_wp2_with (at_builtin; go_loud (refine dS _ rfl _ _ _ rfl eH rfl (Acc.mono PV.out (aB _ (.cells #[.int .i64 X] 2))) (by omega) (by simp) ⟨wr.heap.size, 0, none⟩ 1 rfl (ns := [X]) (qB (aA (heap_alloc_new _ _))) (fun b hb => by simp at hb; subst hb; exact HI2.out) (by rw [YC.out]; simp; omega) ?_); simp only [YC.out, ← J4.out]; intro a9 c9 w9 jG vg hK9)
 have Et := qH jG
 have QI := qH (qh.out.trans ((aB wr (.cells #[.int .i64 X] 2)).mono qh.out.size) |>.trans vg)
 clear jG vg hK9
 go_wp2_with fail
 go_roundw
 case rel => exact ⟨k + 1, a9, c9, hlt, by go_num, rfl, QI.out, Et.out⟩
 simp [intOf]; omega
structure asL (t : dB) (vars : Int) (c : nI) (n : Nat) : Prop where
 rel : c.1 = (n : Int)
 lt : n < t.2.length
 inc : Inc (t.2.getD n (0, [])).2
 cnt : (t.2.getD n (0, [])).2.length ≤ 256
 sc : ∀ v, v ∈ c.2 → 0 ≤ v ∧ v < vars
 four : c.2.length ≤ 4
theorem XK {t : dB} {x : Inst} (h : cu t x = true) {c : nI} (hc : c ∈ x.2) : ∃ n, asL t x.1 c n := by
 obtain ⟨k, hk, rfl⟩ := List.getElem_of_mem hc
 obtain ⟨n, h1, h2, _, h4, h5⟩ := xH h hk
 have hr := (dV (aX h).1).2.2 _ (List.getElem_mem h2)
 have hg : t.2.getD n (0, []) = t.2[n] := by rw [List.getD, List.getElem?_eq_getElem h2]; rfl
 exact ⟨n, h1, h2, by rw [hg]; exact AL hr, by rw [hg]; exact (vV hr).2, h4, h5⟩
def oI (t : dB) (vals : List Int) (c : nI) : Bool := jH (t.2.getD c.1.toNat (0, [])).2 (fU vals c.2)
def xI (t : dB) (x : Inst) (vals : List Int) : Int := dN (fun c => !oI t vals c) x.2
theorem Rw (t : dB) (x : Inst) (vals : List Int) (tb vb : Nat) (vr vv : Value) (w : World) (hok : cu t x = true) (hl : (vals.length : Int) = x.1) (hr : Rd w [vr] t.2) (hv : Rd w [vv] vals) (hc1 : w.cell? ⟨tb, 1, none⟩ = some vr) (hcv : w.cell? ⟨vb, 0, none⟩ = some vv) :
 L6 292 #[.pointer (some ⟨tb, 0, none⟩), .pointer (some ⟨vb, 0, none⟩)] w x.2 (fun c => !oI t vals c) := by
 intro W c u0 u1 hb hx hmem
 obtain ⟨n, hf⟩ := XK hok hmem
 obtain ⟨g1, gv⟩ := iQ hb hc1 hcv
 have HV := qH (Rd.mono hv hb)
 have hrW := Rd.mono hr hb
 clear hc1 hcv hr hv hb hmem
 show Calls prog 292 #[_, .pointer (some ⟨tb, 0, none⟩), .pointer (some ⟨vb, 0, none⟩)] W _
 obtain ⟨size, rs⟩ := t
 obtain ⟨ci, sc⟩ := c
 obtain ⟨h1, h2, h3, h4, h5, h6⟩ := hf
 simp only at h1 h2 h3 h4 h5 h6 hrW
 subst h1
 have z := au rfl hx
 obtain ⟨rfl, _⟩ := aG z.1
 have qU := qH z.2
 obtain ⟨a2, c2, rfl, _⟩ := ah z.2
 obtain ⟨av, cv, rfl, _⟩ := ah HV.out
 obtain ⟨a, cc, rfl, hrr⟩ := ah hrW
 obtain ⟨b, o, r0, r1, rfl, q0, q1, hy⟩ := dP rfl hrr n h2
 have hg : rs.getD n (0, []) = rs[n] := by rw [List.getD, List.getElem?_eq_getElem h2]; rfl
 have HQ := qH (show oI (size, rs) vals ((n : Int), sc) = jH rs[n].2 (fU vals sc) by unfold oI; rw [Int.toNat_natCast]; simp only [hg])
 rw [hg] at h3 h4
 have HY := qH hy
 have hy0 := au rfl hy
 obtain ⟨rfl, _⟩ := aG hy0.1
 obtain ⟨a3, c3, rfl, _⟩ := ah hy0.2
 have HIN := qH h3
 have HCT := qH h4
 have HS := qH (show ∀ v, v ∈ sc → 0 ≤ v ∧ v < (vals.length : Int) from fun v hv => by have := h5 v hv; omega)
 have h2I : (n : Int) < rs.length := by omega
 clear hx z hrW hrr hy hy0 h3 h4 h5 hg hl
 generalize rs[n] = RN at *
 obtain ⟨ra, rt⟩ := RN
 simp only at q0 q1 HY
 have lg := qC (St.start W).bel g1
 clear lg
 obtain ⟨lg, gv_⟩ := iQ (St.start W).bel g1 gv
 clear lg gv_
 obtain ⟨lg, gv_, dW⟩ := fQ (St.start W).bel g1 gv q0
 clear lg gv_ dW
 obtain ⟨lg, gv_, dW, dO⟩ := jc (St.start W).bel g1 gv q0 q1
 have hs2 := (St.start W).alloc #[.int .i64 n, .slice a2 sc.length c2] 150 (n := W.heap.size) (by simp)
 clear lg gv_ dW dO
 obtain ⟨aF, aH⟩ := hs2.c2 0 0 0 1
 obtain ⟨lg, gv_, dW, dO⟩ := jc hs2.bel g1 gv q0 q1
 go_enter func292, ntmps292
 go_upto_region 1 with fail
 refine iT (fun w' => cI w' W.heap.size 0 n ∧ cV w' W.heap.size 1 (.slice a2 sc.length c2) ∧ cV w' tb 1 (.slice (some ⟨b, o, none⟩) rs.length cc) ∧ cV w' vb 0 (.slice av vals.length cv) ∧ cI w' b (o + n * 2) ra ∧ cV w' b (o + n * 2 + 1) (.slice a3 rt.length c3)) (.z [0,1,2,3,4,5,6,7,8] (.hard 9 (.hard 10 (.z [11,12] .nil)))) ?_ ?_
 · exact (hs2.drew).d2 0 0 0 1 (jc (hs2.drew).bel g1 gv q0 q1:)
 have hs3 := hs2.drew
 clear aF aH lg gv_ dW dO
 have Uo : W.heap.size + 1 ≤ ((W.alloc (.cells #[.int .i64 n, .slice a2 sc.length c2] 150)).drew).heap.size := by simp
 generalize (W.alloc (.cells #[.int .i64 n, .slice a2 sc.length c2] 150)).drew = wd4 at *
 refine aV ?_
 refine gX fun K hK => ?_
 go_wp2_with (go_at_call 293; refine (abJ vals sc _ _ _ (Rd.mono HV.out hs3.bel) (Rd.mono qU.out hs3.bel) (by omega) HS.out).mono ?_; rintro e w5 ⟨v9, rfl, yQ, AZ⟩)
 have Fz : wd4.heap.size ≤ w5.heap.size := hZ AZ
 have hs6 := hs3.step AZ
 obtain ⟨a9, c9, rfl, _⟩ := ah yQ.rd
 have HC9 := qH yQ
 clear yQ
 refine ⟨(hs6.d2 0 0 0 1 (jc hs6.bel g1 gv q0 q1:)), ?_⟩
 refine aV ?_
 refine gX fun K hK => ?_
 go_wp2_with (go_at_call 255; refine (XJ (ra, rt) (fU vals sc) _ _ _ _ (Rd.mono HY.out hs6.bel) (aQ.rd HC9.out) HIN.out (Nat.le_trans HCT.out (by decide))).mono ?_; rintro e w7 ⟨rfl, AY⟩)
 have Xj : w5.heap.size ≤ w7.heap.size := hZ AY
 have hs8 := hs6.step AY
 clear HC9
 refine ⟨(hs8.d2 0 0 0 1 (jc hs8.bel g1 gv q0 q1:)), ?_⟩
 refine aV ?_
 obtain ⟨aF, aH⟩ := hs8.c2 0 0 0 1
 obtain ⟨lg, gv_, dW, dO⟩ := jc hs8.bel g1 gv q0 q1
 refine iF ?_
 go_wp2_with fail
 go_ret
 exact ⟨ak (by rw [HQ.out]), hs8.bel⟩
theorem YJ (t : dB) (x : Inst) (vals : List Int) (t0 t1 x0 x1 vv : Value) (w : World) (ht : Rd w [t0, t1] t) (hx : Rd w [x0, x1] x) (hv : Rd w [vv] vals) (hok : cu t x = true) (hl : (vals.length : Int) = x.1) :
 Calls prog 172 #[.agg #[t0, t1], .agg #[x0, x1], vv] w fun e w' => e = .returned (.int .i64 (xI t x vals)) ∧ Below w.heap.size w w' := by
 obtain ⟨size, rs⟩ := t
 obtain ⟨vars, cs⟩ := x
 have zt := au rfl ht
 obtain ⟨rfl, _⟩ := aG zt.1
 obtain ⟨at0, ct0, rfl, _⟩ := ah zt.2
 have zx := au rfl hx
 obtain ⟨rfl, _⟩ := aG zx.1
 obtain ⟨ax, cx, rfl, _⟩ := ah zx.2
 obtain ⟨av, cv, rfl, _⟩ := ah hv
 have HR := qH zt.2
 have PW := qH zx.2
 have HV := qH hv
 have vW := qH hok
 have HL := qH hl
 clear ht hx hv zt zx hok hl
 have eg : ∀ args w, (callFunc 292 args).run prog w = .ok (.enter 292 args) w := enters_of func292 (by kernel_rfl) rfl
 have hs10 := (St.start w).alloc #[.int .i64 size, .slice at0 rs.length ct0] 42 (n := w.heap.size) (by simp)
 have hs11 := hs10.alloc #[.int .i64 vars, .slice ax cs.length cx] 46 (n := w.heap.size + 1) (by simp)
 have kT := hs11.alloc #[.slice av vals.length cv] 28 (n := w.heap.size + 1 + 1) (by simp)
 obtain ⟨aF, aH, aJ, aK, aW⟩ := kT.c5 0 0 0 1 1 0 1 1 2 0
 go_enter func172, ntmps172
 go_wp2_with fail
 refine (Fh cs _ 292 _ _ _ (Rd.mono PW.out kT.bel) eg (Rw (size, rs) (vars, cs) vals (w.heap.size) (w.heap.size + 1 + 1) _ _ _ vW.out HL.out (Rd.mono HR.out kT.bel) (Rd.mono HV.out kT.bel) (kT.c 0 1) (kT.c 2 0))).mono ?_
 rintro e w13 ⟨rfl, Rx⟩
 have ai5 : w.heap.size + 1 + 1 + 1 ≤ w13.heap.size := hZ Rx
 have eU := kT.step Rx
 clear aF aH aJ aK aW
 obtain ⟨aF, aH, aJ, aK, aW⟩ := eU.c5 0 0 0 1 1 0 1 1 2 0
 go_wp2_with fail
 go_ret
 exact ⟨rfl, eU.bel⟩
theorem Vs (rs : List bH) (vals : List Int) (n : Nat) (sc : List Int) (tb cb co : Nat) (vr vs vv : Value) (w : World) (hr : Rd w [vr] rs) (hs : Rd w [vs] sc) (hv : Rd w [vv] vals)
 (tc : w.cell? ⟨tb, 1, none⟩ = some vr) (p0 : w.cell? ⟨cb, co, none⟩ = some (.int .i64 n)) (p1 : w.cell? ⟨cb, co + 1, none⟩ = some vs) (hn : n < rs.length) (h4 : sc.length ≤ 4) (hi : ∀ v, v ∈ sc → 0 ≤ v ∧ v < vals.length) :
 Calls prog 288 #[.pointer (some ⟨tb, 0, none⟩), .pointer (some ⟨cb, co, none⟩), vv] w fun e w' => e = .returned (.bool (jH (rs.getD n (0, [])).2 (fU vals sc))) ∧ Below w.heap.size w w' := by
 have qU := qH hs
 have HV := qH hv
 obtain ⟨a2, c2, rfl, _⟩ := ah hs
 obtain ⟨av, cv, rfl, _⟩ := ah hv
 obtain ⟨a, cc, rfl, hrr⟩ := ah hr
 obtain ⟨b, o, r0, r1, rfl, q0, q1, hy⟩ := dP rfl hrr n hn
 rw [show rs.getD n (0, []) = rs[n] by rw [List.getD, List.getElem?_eq_getElem hn]; rfl]
 have hy0 := au rfl hy
 obtain ⟨rfl, _⟩ := aG hy0.1
 have HY := qH hy0.2
 obtain ⟨a3, c3, rfl, _⟩ := ah hy0.2
 have HI := qH hi
 have hnI : (n : Int) < rs.length := by omega
 clear hr hs hv hrr hy hy0 hi
 generalize rs[n] = RN at *
 obtain ⟨ra, rt⟩ := RN
 simp only at q0 q1 HY
 have qg := qC (St.start w).bel tc
 clear qg
 obtain ⟨qg, pF⟩ := iQ (St.start w).bel tc p0
 clear qg pF
 obtain ⟨qg, pF, qx⟩ := fQ (St.start w).bel tc p0 p1
 clear qg pF qx
 obtain ⟨qg, pF, qx, dW⟩ := jc (St.start w).bel tc p0 p1 q0
 clear qg pF qx dW
 obtain ⟨qg, pF, qx, dW, dO⟩ := zI (St.start w).bel tc p0 p1 q0 q1
 go_enter func288, ntmps288
 go_upto_region 1 with fail
 refine iT (fun w' => cV w' tb 1 (.slice (some ⟨b, o, none⟩) rs.length cc) ∧ cI w' cb co n ∧ cV w' cb (co + 1) (.slice a2 sc.length c2) ∧ cI w' b (o + n * 2) ra ∧ cV w' b (o + n * 2 + 1) (.slice a3 rt.length c3)) (.z [0,1,2,3,4,5,6,7,8,9,10,11,12,13] (.hard 14 (.hard 15 (.float 16 .nil)))) ?_ ?_
 · exact ⟨qC ((St.start w).drew).bel tc, qC ((St.start w).drew).bel p0, qC ((St.start w).drew).bel p1, qC ((St.start w).drew).bel q0, qC ((St.start w).drew).bel q1⟩
 have nZ := (St.start w).drew
 clear qg pF qx dW dO
 have GI : w.heap.size ≤ (w.drew).heap.size := by simp
 generalize w.drew = I9 at *
 refine aV ?_
 refine gX fun K hK => ?_
 go_wp2_with (go_at_call 329; refine (aeP vals sc _ _ _ (Rd.mono HV.out nZ.bel) (Rd.mono qU.out nZ.bel) (by omega) HI.out).mono ?_; rintro e PU ⟨v9, rfl, yQ, Aa⟩)
 have Vb : I9.heap.size ≤ PU.heap.size := hZ Aa
 have jP := nZ.step Aa
 obtain ⟨a9, c9, rfl, _⟩ := ah yQ.rd
 have HC9 := qH yQ
 clear yQ
 refine ⟨(zI jP.bel tc p0 p1 q0 q1:), ?_⟩
 refine aV ?_
 refine gX fun K hK => ?_
 go_wp2_with (go_at_call 310; refine (JE (ra, rt) (fU vals sc) b (o + n * 2) _ _ _ (Rd.mono HY.out jP.bel) (qC jP.bel q1) (aQ.rd HC9.out)).mono ?_; rintro e YZ ⟨rfl, vZ⟩)
 have Vt : PU.heap.size ≤ YZ.heap.size := hZ vZ
 have jC := jP.step vZ
 clear HC9
 refine ⟨(zI jC.bel tc p0 p1 q0 q1:), ?_⟩
 refine aV ?_
 obtain ⟨qg, pF, qx, dW, dO⟩ := zI jC.bel tc p0 p1 q0 q1
 refine iF ?_
 go_wp2_with fail
 go_ret
 exact ⟨rfl, jC.bel⟩
theorem Pm (t : dB) (x : Inst) (vals : List Int) (tb xb : Nat) (t0 t1 x0 x1 vv : Value) (w : World) (ht : Rd w [t0, t1] t) (hx : Rd w [x0, x1] x) (hv : Rd w [vv] vals) (hok : cu t x = true) (hl : (vals.length : Int) = x.1)
 (tc : w.cell? ⟨tb, 1, none⟩ = some t1) (xc : w.cell? ⟨xb, 1, none⟩ = some x1) :
 Calls prog 166 #[.pointer (some ⟨tb, 0, none⟩), .pointer (some ⟨xb, 0, none⟩), vv] w fun e w' => e = .returned (.int .i64 (xI t x vals)) ∧ Below w.heap.size w w' := by
 obtain ⟨size, rs⟩ := t
 obtain ⟨vars, cs⟩ := x
 simp only at hl
 have zt := au rfl ht
 obtain ⟨rfl, _⟩ := aG zt.1
 obtain ⟨at0, ct0, rfl, _⟩ := ah zt.2
 have zx := au rfl hx
 obtain ⟨rfl, _⟩ := aG zx.1
 obtain ⟨ax, cx, rfl, hcs⟩ := ah zx.2
 obtain ⟨av, cv, rfl, _⟩ := ah hv
 have hcl := (aX hok).2.2.1
 simp only at hcl
 have HR := qH zt.2
 have PW := qH hcs
 have HV := qH hv
 have HFC := qH (fun (k : Nat) (hk : k < cs.length) => XK hok (show cs[k] ∈ cs from List.getElem_mem hk))
 have HL := qH hl
 have HQ := qH (show xI (size, rs) (vars, cs) vals = dN (fun c => !oI (size, rs) vals c) cs from rfl)
 clear ht hx hv zt zx hcs hok hl
 have qg := qC (St.start w).bel tc
 clear qg
 obtain ⟨qg, xc_⟩ := iQ (St.start w).bel tc xc
 go_enter func166, ntmps166
 go_wp2_with fail
 go_loopw [7] (fun i wl => ∃ k : Nat, k ≤ cs.length ∧ i = .int .i64 k ∧ Hid (Below w.heap.size w wl) ∧ Hid (∀ j (hj : j < cs.length), j < k → (!oI (size, rs) vals cs[j]) = false)) (fun i _ => cs.length - (intOf i).toNat)
 case atStart => exact ⟨0, Nat.zero_le _, rfl, Below.refl _ _, fun j hj h => absurd h (Nat.not_lt_zero _)⟩
 obtain ⟨k, hk, rfl, hbl, hr⟩ := hrel
 have hs1 := (St.start w).step hbl.out
 obtain ⟨qg, xc_⟩ := iQ hs1.bel tc xc
 have HB := hbl
 by_cases hlt : k < cs.length
 rotate_left
 · obtain rfl : k = cs.length := by omega
   have hnl : ¬ ((cs.length : Int) < cs.length) := by omega
   have H9 := qH (show xI (size, rs) (vars, cs) vals = -1 by rw [HQ.out]; exact nM hr.out)
   have lu := qH HB.out
   go_wp2_with fail
   go_ret
   exact ⟨aU H9.out.symm, lu.out⟩
 have hkl : (k : Int) < cs.length := by omega
 obtain ⟨n, hf⟩ := HFC.out k hlt
 obtain ⟨b, o, u0, u1, rfl, p0, p1, hy⟩ := dP rfl PW.out k hlt
 have hyz := au rfl hy
 obtain ⟨rfl, _⟩ := aG hyz.1
 obtain ⟨a1, c1, rfl, _⟩ := ah hyz.2
 have qU := qH hyz.2
 have pW := qH (fun (h : (!oI (size, rs) vals cs[k]) = false) => show ∀ j (hj : j < cs.length), j < k + 1 → (!oI (size, rs) vals cs[j]) = false from fun j hj hjk => by
  rcases Nat.lt_or_ge j k with h1 | h1
  · exact hr.out j hj h1
  · obtain rfl : j = k := by omega
    exact h)
 have HYS := qH (fun (h : (!oI (size, rs) vals cs[k]) = true) => nK (q := fun c => !oI (size, rs) vals c) hlt hr.out h)
 have HHC := qH (show oI (size, rs) vals cs[k] = jH (rs.getD n (0, [])).2 (fU vals cs[k].2) by unfold oI; rw [hf.rel, Int.toNat_natCast])
 obtain ⟨h1, h2, _, _, h5, h6⟩ := hf
 rw [h1] at p0
 have HS2 := qH (show ∀ v, v ∈ cs[k].2 → 0 ≤ v ∧ v < (vals.length : Int) from fun v hv => by have h9 := h5 v hv; have h8 := HL.out; (try simp only at h9); omega)
 clear hy hyz h1 h5
 generalize cs[k] = CK at *
 obtain ⟨cki, sc⟩ := CK
 simp only at p0 p1 h2 h6 qU HHC HS2
 clear qg xc_
 obtain ⟨qg, xc_, pF, qx⟩ := jc hs1.bel tc xc p0 p1
 go_wp2_with fail
 refine (Vs rs vals n sc tb b (o + k * 2) _ _ _ _ (Rd.mono HR.out hs1.bel) (Rd.mono qU.out hs1.bel) (Rd.mono HV.out hs1.bel) (qC hs1.bel tc) (qC hs1.bel p0) (qC hs1.bel p1) h2 h6 HS2.out).mono ?_
 rintro e w5 ⟨rfl, hb5⟩
 have Pn := qH (HB.out.trans (hb5.mono HB.out.size))
 clear hb5
 rw [← HHC.out]
 cases hh : oI (size, rs) vals (cki, sc)
 · have H9 := qH (show xI (size, rs) (vars, cs) vals = (k : Int) by rw [HQ.out]; exact HYS.out (by rw [hh]; rfl))
   clear hh
   go_wp2_with fail
   go_ret
   exact ⟨aU H9.out.symm, Pn.out⟩
 have H9 := qH (pW.out (by rw [hh]; rfl))
 clear hh
 go_wp2_with fail
 go_roundw
 case rel => exact ⟨k + 1, by omega, by go_num, Pn.out, H9.out⟩
 simp [intOf]; omega
structure abK (g n k : Nat) (a : Int) (w : World) : Prop where
 get : ∃ (cur : Array Value) (e : TypeId), w.heap[g]? = some (.cells cur e (0, 0)) ∧ n ≤ cur.size ∧ ∀ i, i < k → cur[i]? = some (.int .i64 a)
theorem abK.mono {g n k : Nat} {a : Int} {w w' : World} (h : abK g n k a w) (hb : Below w.heap.size w w') : abK g n k a w' := by
 obtain ⟨cur, e, h1, h2⟩ := h.get
 exact ⟨cur, e, by rw [hb.block g (Array.getElem?_eq_some_iff.1 h1).1]; exact h1, h2⟩
theorem abK.fresh {g n c : Nat} {a : Int} {w : World} (h : abK g n n a w) (hI : I64 a) (hn : n ≤ c) (hc : c ≤ maxLen) {lo : Nat} (hg : lo ≤ g) : aQ lo w [.slice (some ⟨g, 0, none⟩) n c] (List.replicate n a) := by
 obtain ⟨cur, e, h1, h2, h3⟩ := h.get
 refine ⟨[g], ⟨_, rfl, .inr ⟨g, 0, c, cur, e, List.replicate n [], by simp, by simpa using hn, hc, h1, by simp, by simp, fun i hi => ?_⟩⟩, by simp, fun k hk => by simp at hk; omega⟩
 have hin : i < n := by simpa using hi
 refine ⟨[], [.int .i64 a], by simp [hin], ⟨rfl, by simp, by simpa using hI⟩, fun k hk => ?_⟩
 obtain rfl : k = 0 := by simp at hk; omega
 simpa [sz] using h3 i hin
end Go.Proofs.YtoblfnoaepbhfaaGreat
