import Derived.Test.YtoblfnoaepbhfaaGreatSysBQz
import Derived.Test.YtoblfnoaepbhfaaGreatRowBQz
import Derived.Test.YtoblfnoaepbhfaaGreatBaseQz
set_option linter.unusedSimpArgs false
set_option linter.unusedVariables false
set_option maxHeartbeats 8000000
set_option maxRecDepth 100000
namespace Go.Proofs.YtoblfnoaepbhfaaGreat
open Go.Proofs.Tryz
open Go.RowKit Go.Shelf Go.IntWalk
open Rep (Rd Own sz)
theorem Acc.form {α : Type} [Rep α] {B H : Nat} {e : TypeId} {w : World} {v : Value} {l : List α} (h : Acc B H e w v l) (hl : 0 < l.length) : ∃ g c, v = .slice (some ⟨g, 0, none⟩) l.length c ∧ B ≤ g ∧ g < H := by
 obtain ⟨xs, cZ, h1, h2, h3, h4, h5⟩ := h
 rcases h1.2 with ⟨rfl, h0⟩ | ⟨g, cap, cur, rfl, hg, hh, hc, hm, hs, ht⟩
 · omega
 exact ⟨g, cap, rfl, h4 g (by simp [Value.ownBlock])⟩
theorem Yi {α : Type} {d : α} {l : List α} {i j : Nat} (hi : i < l.length) (hj : j < l.length) {r : α} (h : r ∈ fH d l i j) : r ∈ l := by
 unfold fH at h
 rcases List.mem_or_eq_of_mem_set h with h | h
 · rcases List.mem_or_eq_of_mem_set h with h | h
   · exact h
   rw [h]; simp [List.getD, hj]
 rw [h]; simp [List.getD, hi]
theorem getD_at {α : Type} {l : List α} {i : Nat} {d : α} (h : i < l.length) : l.getD i d = l[i] := by simp [List.getD, h]
theorem Qx {p n : Int} {U m : Nat} {r : pR} (hp : 0 < p) (h : IG p U m r) : IG p U m (bZ p n r) := by
 refine ⟨by simp [bZ, AU, FX, h.1], by simp [bZ, AU, FX, h.2.1], ?_, ?_⟩
 · unfold bZ AU; simp only; rw [ug rfl]; exact Aq hp (fun a b => a + _ * b) _ _
 unfold bZ AU; simp only; rw [ug rfl]; exact Aq hp (fun a b => a + _ * b) _ _
theorem Yj (n : Int) (w : World) : Calls prog 163 #[.int .i64 n] w fun e w' => e = .returned (.int .i64 n) ∧ w = w' := by
 go_enter func163, ntmps163
 go_wp2
 go_ret
 exact ⟨rfl, rfl⟩
theorem take_snoc {α : Type} (l : List α) (j : Nat) (h : j < l.length) : l.take (j + 1) = l.take j ++ [l[j]] := List.take_succ_eq_append_getElem h
theorem Uc (n : Nat) (l : List nG) (j : Nat) (h : j < l.length) : iO n 0 (l.take (j + 1)) = iO n 0 (l.take j) ++ [(l[j].1 ++ [l[j].2], (List.replicate n 0).set j 1)] := by
 rw [take_snoc l j h, Il]
 simp only [List.length_take, Nat.zero_add, Nat.min_eq_left (Nat.le_of_lt h)]
theorem Yk (x : Sys) (v0 v1 v2 : Value) (w : World) (hx : Rd w [v0, v1, v2] x) (hok : yY x = true) :
 Calls prog 159 #[.agg #[v0, v1, v2]] w fun e w' => ∃ vr vb, e = .returned (.tuple #[vr, vb]) ∧ aQ w.heap.size w' [vr] (oU x).1 ∧ aQ w.heap.size w' [vb] (oU x).2 ∧ Below w.heap.size w w' := by
 obtain ⟨p, u, l⟩ := x
 have z := au rfl hx
 obtain ⟨rfl, _⟩ := aG z.1
 have z2 := au rfl z.2
 obtain ⟨rfl, _⟩ := aG z2.1
 have RL := qH z2.2
 obtain ⟨a, c, rfl, _⟩ := ah RL.out
 clear hx z z2
 obtain ⟨hp, hu, hl, he⟩ := Lr hok
 have HE := qH he
 clear hok he
 obtain ⟨U, rfl⟩ : ∃ U : Nat, u = U := ⟨u.toNat, by omega⟩
 have hp0 : 2 ≤ p := by omega
 have hp3 : p ≤ 3 := by omega
 have hs := (St.start w).alloc #[.int .i64 p, .int .i64 U, .slice a l.length c] 61 rfl
 go_enter func159, ntmps159
 go_wp2_with fail
 go_loopw [4, 18] (fun r4 i wr => ∃ (j g4 c4 : Nat), j ≤ l.length ∧ i = .int .i64 j ∧ r4 = .slice (some ⟨g4, 0, none⟩) j c4 ∧ Hid (St w (w.heap.size + 1) wr [(w.heap.size, #[.int .i64 p, .int .i64 U, .slice a l.length c], 61)]) ∧ Hid (Acc (w.heap.size + 1) wr.heap.size 223 wr r4 (iO l.length 0 (l.take j)))) (fun _ i _ => l.length - (intOf i).toNat)
 case atStart =>
  have hac := (mJ (α := pR) (w.alloc (.cells #[.int .i64 p, .int .i64 U, .slice a l.length c] 61)) 223)
  refine ⟨0, _, _, Nat.zero_le _, rfl, rfl, hs.step (aB _ _), ?_⟩
  simpa [Hid, iO] using hac
 obtain ⟨j, g4, c4, hj, rfl, rfl, hst, hac⟩ := hrel
 have hlj : (iO l.length 0 (l.take j)).length = j := by rw [yC]; simp; omega
 have q2 := hst.out.c 0 2
 by_cases hlt : j < l.length
 · obtain ⟨bl, ol, y0, y1, rfl, f00, f01, hx⟩ := dL rfl RL.out j hlt
   have adK : (iO l.length 0 (l.take (j + 1))).length = j + 1 := by rw [yC]; simp; omega
   obtain ⟨f0, f1⟩ := iQ hst.out.bel f00 f01
   have hge := qH (HE.out l[j] (List.getElem_mem hlt))
   have hstep := qH (Uc l.length l j hlt)
   have ZU := qH hx
   clear hx f00 f01
   generalize l[j] = E at *
   obtain ⟨El, Er⟩ := E
   have ze := au rfl ZU.out
   have RE := qH (Rd.mono ze.1 hst.out.bel)
   obtain ⟨ae, ce, rfl, _⟩ := ah ze.1
   obtain ⟨rfl, hIr⟩ := aG ze.2
   obtain ⟨gE1, gE2, gE3⟩ := nV hge.out
   simp only at gE1 gE2 gE3
   have hU : El.length ≤ 12 := by omega
   clear ze ZU hge gE1 gE2
   have hq := (St.start wr).alloc #[.slice ae El.length ce, .int .i64 Er] 200 rfl
   have hsz : w.heap.size + 1 ≤ wr.heap.size := hst.out.hi
   have qq := (hst.out.step (aB wr (.cells #[.slice ae El.length ce, .int .i64 Er] 200))).c 0 2
   go_wp2_with (at_make; refine bV _ rfl _ _ 28 rfl eH (0 : Int) iL l.length (by omega) rfl rfl ?_)
   intro w2 hown2 hb2 hz2
   have hq2 := hq.qA hb2
   obtain ⟨g', o', c', hv, hps, hc, hf, hI, hset⟩ := oN hown2 j (by simpa using hlt)
   simp only [Value.slice.injEq, Option.some.injEq, Addr.mk.injEq, and_true] at hv
   obtain ⟨⟨rfl, rfl⟩, -, rfl⟩ := hv
   rw [Nat.zero_add] at hc hf hset
   have apP := qH (hset 1 ⟨by decide, by decide⟩)
   clear hset hown2 hps
   have hq3 := hq2.sK (aP.but ((aP.refl [wr.heap.size + 1] w2).setCell (p := ⟨wr.heap.size + 1, j, none⟩) (by simp) (.int .i64 1))) (fun k hk => by simp at hk; omega) (fun x hx hp => by simp at hx hp; rcases hx with rfl; simp at hp)
   have hz3 : (w2.setCell ⟨wr.heap.size + 1, j, none⟩ (.int .i64 1)).heap.size = wr.heap.size + 2 := by simp [World.setCell]; simpa using hz2
   have hqd := hq3.drew
   have hv := St.start (w2.setCell ⟨wr.heap.size + 1, j, none⟩ (.int .i64 1)).drew
   have alj := qH (jg (w' := (w2.setCell ⟨wr.heap.size + 1, j, none⟩ (.int .i64 1)).drew) apP.out rfl)
   have alk := qH (hac.out.mono hqd.bel)
   clear q2 qq
   go_wp2_with fail
   refine trR (fun w' => cV w' wr.heap.size 0 (.slice ae El.length ce) ∧ cI w' wr.heap.size 1 Er) (.z [0,1,2,4,5,8] (.mF 3 (.hard 6 (.hard 7 (.float 9 (.hard 10 (.hard 11 (.float 12 .nil)))))) 6 (.hard 3 (.hard 7 (.float 9 (.hard 10 (.hard 11 (.float 12 .nil)))))))) ?_ ?_
   · exact hqd.c2 0 0 0 1
   refine vK ?_
   refine uz ?_ ?_
   · refine wW fun K hK => ?_
     go_wp2_with (go_at_call 121; refine (jm El _ _ (Rd.mono RE.out hqd.bel) (by omega)).mono ?_; rintro e w4 ⟨b4, rfl, Iz, hb4⟩)
     have hq5 := hqd.step hb4
     have hv5 := hv.step hb4
     obtain ⟨m4, n4, rfl, _⟩ := Acc.len Iz
     refine ⟨(hq5.c2 0 0 0 1), ?_⟩
     refine vK ?_
     refine wW fun K hK => ?_
     go_wp2_with fail
     have Oa := hq5.step (aB _ (.cells #[.int .i64 Er] 2))
     have ag8 := hv5.step (aB _ (.cells #[.int .i64 Er] 2))
     refine ⟨(Oa.c2 0 0 0 1), ?_⟩
     refine vK ?_
     refine wW fun K hK => ?_
     refine iq _ _ _ _ rfl eH rfl (Iz.mono (aB _ (.cells #[.int .i64 Er] 2))) (Aw hIr) (by first | (simp; done) | (have Zx := hb4.size; simp at Zx ⊢; omega)) (by simp) ⟨w4.heap.size, 0, none⟩ 1 rfl (fun z u hz => by
      cases z with
      | zero => simp at hz; subst hz; exact (aA (heap_alloc_new w4 _))
      | succ z => simp at hz) (by omega) ?_
     intro a5 c5 w5 PO ZV _
     have hq6 := Oa.qA (ZV.mono (by simp [hz3]))
     have hv6 := ag8.qA (ZV.mono (by simp))
     refine hK _ _ ⟨(hq6.c2 0 0 0 1), ?_⟩
     refine vK ?_
     refine wW fun K hK => ?_
     go_wp2_with fail
     have BQ := aB w5 (.cells #[.slice a5 (El.length + 1) c5, .slice (some ⟨wr.heap.size + 1, 0, none⟩) l.length l.length] 223)
     have hq7 := hq6.step BQ
     have hv7 := hv6.step BQ
     refine ⟨(hq7.c2 0 0 0 1), ?_⟩
     refine vK ?_
     refine wW fun K hK => ?_
     obtain ⟨ps5, ho5, hn5, hk5⟩ := (PO.mono BQ).zB
     have IN : Ip (fun k => wr.heap.size + 2 ≤ k) _ [.slice a5 (El.length + 1) c5] (El ++ [Er]) := ⟨ps5, ⟨_, rfl, ho5⟩, hn5, fun k hk => by have h := (hk5 k hk).1; have h3 := hz3; simp at h h3; omega⟩
     have IB : Ip (fun k => k = wr.heap.size + 1) _ [.slice (some ⟨wr.heap.size + 1, 0, none⟩) l.length l.length] ((List.replicate l.length (0 : Int)).set j 1) := ⟨[wr.heap.size + 1], ⟨_, rfl, bK alj.out hv7.bel⟩, by simp, by simp⟩
     have IY := vO (C := fun k => wr.heap.size ≤ k) IN IB (fun k h1 h2 => by omega) (fun k h => by omega) (fun k h => by omega)
     refine iq _ _ _ _ rfl Za rfl (alk.out.mono hv7.bel) IY hsz (by have h := hv7.hi; have h3 := hz3; simp at h h3 ⊢; omega) ⟨w5.heap.size, 0, none⟩ 1 rfl (fun z u hz => by
      match z with
      | 0 => simp at hz; subst hz; exact aA (heap_alloc_new w5 _)
      | 1 => simp at hz; subst hz; exact aA (heap_alloc_new w5 _)
      | z + 2 => simp at hz) (by rw [hlj]; omega) ?_
     intro a8 c8 w8 F6 JZ hK8
     rw [hlj] at F6 ⊢
     rw [← hstep.out] at F6
     obtain ⟨g8, c9, e8, _⟩ := F6.form (by rw [adK]; omega)
     simp only [Value.slice.injEq] at e8
     obtain ⟨rfl, -, rfl⟩ := e8
     have hkk := hK8 wr.heap.size (Nat.le_refl _) (Nat.lt_of_lt_of_le (hq7.box _ (List.mem_of_getElem? (i := 0) rfl)).2.1 hq7.hi)
     refine hK _ _ ⟨⟨uw (hq7.c 0 0) hkk, uw (hq7.c 0 1) hkk⟩, ?_⟩
     refine vK ?_
     refine XV ?_
     go_wp2_with fail
     go_roundw
     case rel => exact ⟨j + 1, g8, c8, hlt, by go_num, rfl, (hst.out.qA (hq7.bel.mono hsz)).qA JZ, F6⟩
     simp [intOf]; omega
   refine wW fun K hK => ?_
   go_wp2_with fail
   have hq5 := hqd.step (aB _ (.cells #[.int .i64 Er] 2))
   have hv5 := hv.step (aB _ (.cells #[.int .i64 Er] 2))
   refine ⟨(hq5.c2 0 0 0 1), ?_⟩
   refine vK ?_
   refine wW fun K hK => ?_
   go_wp2_with (go_at_call 121; refine (jm El _ _ (Rd.mono RE.out hq5.bel) (by omega)).mono ?_; rintro e w4 ⟨b4, rfl, Iz, hb4⟩)
   have Oa := hq5.step hb4
   have ag8 := hv5.step hb4
   obtain ⟨m4, n4, rfl, _⟩ := Acc.len Iz
   refine ⟨(Oa.c2 0 0 0 1), ?_⟩
   refine vK ?_
   refine wW fun K hK => ?_
   refine iq _ _ _ _ rfl eH rfl Iz (Aw hIr) (by first | (simp; done) | (have Zx := hb4.size; simp at Zx ⊢; omega)) (by simp) ⟨wr.heap.size + 2, 0, none⟩ 1 rfl (fun z u hz => by
    cases z with
    | zero => simp at hz; subst hz; exact (qC hb4 (aA (iV _ _ (by simpa using hz3))))
    | succ z => simp at hz) (by omega) ?_
   intro a5 c5 w5 PO ZV _
   have hq6 := Oa.qA (ZV.mono (by simp [hz3]))
   have hv6 := ag8.qA (ZV.mono (by simp))
   refine hK _ _ ⟨(hq6.c2 0 0 0 1), ?_⟩
   refine vK ?_
   refine wW fun K hK => ?_
   go_wp2_with fail
   have BQ := aB w5 (.cells #[.slice a5 (El.length + 1) c5, .slice (some ⟨wr.heap.size + 1, 0, none⟩) l.length l.length] 223)
   have hq7 := hq6.step BQ
   have hv7 := hv6.step BQ
   refine ⟨(hq7.c2 0 0 0 1), ?_⟩
   refine vK ?_
   refine wW fun K hK => ?_
   obtain ⟨ps5, ho5, hn5, hk5⟩ := (PO.mono BQ).zB
   have IN : Ip (fun k => wr.heap.size + 2 ≤ k) _ [.slice a5 (El.length + 1) c5] (El ++ [Er]) := ⟨ps5, ⟨_, rfl, ho5⟩, hn5, fun k hk => by have h := (hk5 k hk).1; have h3 := hz3; simp at h h3; omega⟩
   have IB : Ip (fun k => k = wr.heap.size + 1) _ [.slice (some ⟨wr.heap.size + 1, 0, none⟩) l.length l.length] ((List.replicate l.length (0 : Int)).set j 1) := ⟨[wr.heap.size + 1], ⟨_, rfl, bK alj.out hv7.bel⟩, by simp, by simp⟩
   have IY := vO (C := fun k => wr.heap.size ≤ k) IN IB (fun k h1 h2 => by omega) (fun k h => by omega) (fun k h => by omega)
   refine iq _ _ _ _ rfl Za rfl (alk.out.mono hv7.bel) IY hsz (by have h := hv7.hi; have h3 := hz3; simp at h h3 ⊢; omega) ⟨w5.heap.size, 0, none⟩ 1 rfl (fun z u hz => by
    match z with
    | 0 => simp at hz; subst hz; exact aA (heap_alloc_new w5 _)
    | 1 => simp at hz; subst hz; exact aA (heap_alloc_new w5 _)
    | z + 2 => simp at hz) (by rw [hlj]; omega) ?_
   intro a8 c8 w8 F6 JZ hK8
   rw [hlj] at F6 ⊢
   rw [← hstep.out] at F6
   obtain ⟨g8, c9, e8, _⟩ := F6.form (by rw [adK]; omega)
   simp only [Value.slice.injEq] at e8
   obtain ⟨rfl, -, rfl⟩ := e8
   have hkk := hK8 wr.heap.size (Nat.le_refl _) (Nat.lt_of_lt_of_le (hq7.box _ (List.mem_of_getElem? (i := 0) rfl)).2.1 hq7.hi)
   refine hK _ _ ⟨⟨uw (hq7.c 0 0) hkk, uw (hq7.c 0 1) hkk⟩, ?_⟩
   refine vK ?_
   refine XV ?_
   go_wp2_with fail
   go_roundw
   case rel => exact ⟨j + 1, g8, c8, hlt, by go_num, rfl, (hst.out.qA (hq7.bel.mono hsz)).qA JZ, F6⟩
   simp [intOf]; omega
 obtain rfl : j = l.length := by omega
 rw [List.take_length] at hac
 have KF := qH (fun k (hk : k ≤ U) => Qs hp HE.out k hk)
 have Oc := hst.out.step (aB wr (.cells #[] 2))
 have q1 := Oc.c 0 1
 have hab := mJ (α := Int) wr 2
 have hgr : w.heap.size + 1 ≤ wr.heap.size := hst.out.hi
 obtain ⟨ps0, ho0, hn0, hb0⟩ := (hac.out.mono (aB wr (.cells #[] 2))).zB
 have IP0 : Ip (fun k => w.heap.size + 1 ≤ k ∧ k < wr.heap.size + 1 ∧ k ≠ wr.heap.size) (wr.alloc (.cells #[] 2)) [.slice (some ⟨g4, 0, none⟩) l.length c4] (iO l.length 0 l) := ⟨ps0, ⟨_, rfl, ho0⟩, hn0, fun k hk => by have := hb0 k hk; omega⟩
 go_wp2_with fail
 go_loopw [8, 46] (fun r8 i wl => ∃ (k gb cb : Nat), k ≤ U ∧ i = .int .i64 k ∧ r8 = .slice (some ⟨gb, 0, none⟩) (dK (fM p) (iO l.length 0 l) k).2.length cb ∧ Hid (St w (w.heap.size + 1) wl [(w.heap.size, #[.int .i64 p, .int .i64 U, .slice a l.length c], 61)]) ∧ Hid (Acc gb (gb + 1) 2 wl (.slice (some ⟨gb, 0, none⟩) (dK (fM p) (iO l.length 0 l) k).2.length cb) (dK (fM p) (iO l.length 0 l) k).2) ∧ Hid (w.heap.size + 1 ≤ gb ∧ gb < wl.heap.size) ∧
  Hid (Ip (fun z => w.heap.size + 1 ≤ z ∧ z < wl.heap.size ∧ z ≠ gb) wl [.slice (some ⟨g4, 0, none⟩) l.length c4] ((dK (fM p) (iO l.length 0 l) k).1))) (fun _ i _ => U - (intOf i).toNat)
 case atStart => exact ⟨0, wr.heap.size, 0, Nat.zero_le _, rfl, rfl, Oc, hab, by simp [Hid]; omega, IP0.wk (fun k h => by simp; omega)⟩
 obtain ⟨k, gb, cb, hk, rfl, rfl, hsl, hbs, hgb, Df⟩ := hrel
 by_cases hlt : k < U
 rotate_left
 · obtain rfl : k = U := by omega
   go_wp2_with fail
   refine bodyPost_ret (v := .tuple #[.slice (some ⟨g4, 0, none⟩) l.length c4, .slice (some ⟨gb, 0, none⟩) (dK (fM p) (iO l.length 0 l) k).2.length cb]) (by simp [results, results159, go_sem]) rfl ⟨_, _, rfl, ?_, ?_, hsl.out.bel⟩
   · have h : aQ w.heap.size _ _ _ := Df.out.wk (B := fun z => w.heap.size ≤ z) (fun z h => by have := h.1; omega)
     unfold oU
     simp only [Int.toNat_natCast]
     exact h
   have h := hbs.out.fresh.lower (lo' := w.heap.size) (by have := hgb.out.1; omega)
   unfold oU
   simp only [Int.toNat_natCast]
   exact h
 obtain ⟨wB, hwB⟩ : ∃ x, x = wr := ⟨_, rfl⟩
 subst hwB
 obtain ⟨fL, fB, fG⟩ := KF.out k hk
 have hnext := qH (show dK (fM p) (iO l.length 0 l) (k + 1) = jV (fM p) k (dK (fM p) (iO l.length 0 l) k) from rfl)
 generalize dK (fM p) (iO l.length 0 l) k = ST at *
 obtain ⟨R, bs⟩ := ST
 have hbs := qH (show Acc gb (gb + 1) 2 wB (.slice (some ⟨gb, 0, none⟩) bs.length cb) bs from hbs.out)
 have Df := qH (show Ip (fun z => w.heap.size + 1 ≤ z ∧ z < wB.heap.size ∧ z ≠ gb) wB [.slice (some ⟨g4, 0, none⟩) l.length c4] R from Df.out)
 simp only at fL fB fG
 have FL := qH fL
 have FG := qH fG
 clear fL fG
 have hub := hsl.out.alloc #[.int .i64 k] 2 rfl
 have Z5 := qH (Df.out.mono (aB wB (.cells #[.int .i64 k] 2)))
 have adL := qH (hbs.out.mono (aB wB (.cells #[.int .i64 k] 2)))
 obtain ⟨a9, c9, e9, hr9⟩ := ah Z5.out.rd
 simp only [Value.slice.injEq] at e9
 obtain ⟨rfl, -, rfl⟩ := e9
 have hc9 := hr9.1
 have hc8 := hr9.2.1
 unfold maxLen at hc8
 rw [FL.out] at hc9
 have hrd := qH (show Rd (wB.alloc (.cells #[.int .i64 k] 2)) [.slice (some ⟨g4, bs.length * 2, none⟩) (l.length - bs.length) (c4 - bs.length)] (R.drop bs.length) from
  ⟨_, _, by rw [List.length_drop, FL.out], by have h := Ye hr9 bs.length (by rw [FL.out]; exact fB); rw [Nat.zero_add] at h; exact h⟩)
 clear hr9
 have eg : ∀ args w, (callFunc 283 args).run prog w = .ok (.enter 283 args) w := enters_of func283 (by kernel_rfl) rfl
 go_wp2_with fail
 · have HCC := qH h
   clear h
   have hcl : l.length ≤ bs.length := by have := HCC.out; omega
   have apT := qH (show Rd (wB.alloc (.cells #[.int .i64 k] 2)) [.slice (some ⟨g4, 0, none⟩) (l.length - bs.length) 0] (R.drop bs.length) from by
    have e0 : R.drop bs.length = [] := List.drop_eq_nil_of_le (by rw [FL.out]; omega)
    have e1 : l.length - bs.length = 0 := by omega
    rw [e0, e1]; exact ⟨_, 0, rfl, by simp, by simp, fun i hi => by simp at hi⟩)
   have hfi : (R.drop bs.length).findIdx? (fun r : pR => r.1.getD k 0 != 0) = none := by
    rw [List.drop_eq_nil_of_le (by rw [FL.out]; omega)]; rfl
   have hRl : R.length ≤ bs.length := by rw [FL.out]; exact hcl
   clear hcl
   refine (zS (R.drop bs.length) _ 283 _ (fun r => r.1.getD k 0 != 0) _ apT.out eg (Fb _ wB.heap.size k _ (hub.c 1 0) (fun r hr => by have h := FG.out r (List.mem_of_mem_drop hr); have h1 := h.1; omega))).mono ?_
   rintro e w1 ⟨he0, hb1⟩
   have aln := hub.step hb1
   have Ud := qH (Z5.out.mono hb1)
   have Z7 := qH (adL.out.mono hb1)
   have hzl : wB.heap.size + 1 ≤ w1.heap.size := by have := hb1.size; simpa using this
   clear Z5 adL Df hbs
   have hm1 : dN (fun r : pR => r.1.getD k 0 != 0) (R.drop bs.length) = -1 := by unfold dN; rw [hfi]
   have hsame := qH (show dK (fM p) (iO l.length 0 l) (k + 1) = (R, bs) by
    rw [hnext.out]; unfold jV; show (match (R.drop bs.length).findIdx? (fun r => r.1.getD k 0 != 0) with | none => _ | some i => _) = _; rw [hfi])
   rw [hm1] at he0
   subst he0
   clear hfi hm1
   go_wp2_with fail
   rw [← HCC.out]
   go_roundw
   case rel =>
    refine ⟨k + 1, gb, cb, hlt, by go_num, ?_⟩
    rw [hsame.out]
    exact ⟨by rw [HCC.out], (hsl.out.step (aB wB (.cells #[.int .i64 k] 2))).step hb1, Z7.out, by have := hgb.out; simp [Hid]; omega, Ud.out.wk (fun z h => by omega)⟩
   simp [intOf]; omega
 clear h
 refine (zS (R.drop bs.length) _ 283 _ (fun r => r.1.getD k 0 != 0) _ hrd.out eg (Fb _ wB.heap.size k _ (hub.c 1 0) (fun r hr => by have h := FG.out r (List.mem_of_mem_drop hr); have h1 := h.1; omega))).mono ?_
 rintro e w1 ⟨he0, hb1⟩
 have aln := hub.step hb1
 have Ud := qH (Z5.out.mono hb1)
 have Z7 := qH (adL.out.mono hb1)
 have hzl : wB.heap.size + 1 ≤ w1.heap.size := by have := hb1.size; simpa using this
 clear Z5 adL Df hbs
 cases hfi : (R.drop bs.length).findIdx? (fun r => r.1.getD k 0 != 0) with
 | none =>
  have hm1 : dN (fun r : pR => r.1.getD k 0 != 0) (R.drop bs.length) = -1 := by unfold dN; rw [hfi]
  have hsame := qH (show dK (fM p) (iO l.length 0 l) (k + 1) = (R, bs) by
   rw [hnext.out]; unfold jV; show (match (R.drop bs.length).findIdx? (fun r => r.1.getD k 0 != 0) with | none => _ | some i => _) = _; rw [hfi])
  rw [hm1] at he0
  subst he0
  clear hfi hm1
  go_wp2_with fail
  go_roundw
  case rel =>
   refine ⟨k + 1, gb, cb, hlt, by go_num, ?_⟩
   rw [hsame.out]
   exact ⟨rfl, (hsl.out.step (aB wB (.cells #[.int .i64 k] 2))).step hb1, Z7.out, by have := hgb.out; simp [Hid]; omega, Ud.out.wk (fun z h => by omega)⟩
  simp [intOf]; omega
 | some i =>
  have hi1 := Dc hfi
  simp only [List.length_drop] at hi1
  rw [FL.out] at hi1
  have hm1 : dN (fun r : pR => r.1.getD k 0 != 0) (R.drop bs.length) = i := by unfold dN; rw [hfi]
  have hsame := qH (show dK (fM p) (iO l.length 0 l) (k + 1) = (wF (fM p) k R bs.length i, bs ++ [(k : Int)]) by
   rw [hnext.out]; unfold jV; show (match (R.drop bs.length).findIdx? (fun r => r.1.getD k 0 != 0) with | none => _ | some i => _) = _; rw [hfi])
  rw [hm1] at he0
  subst he0
  clear hfi hm1
  obtain ⟨D, hD⟩ : ∃ D, D = bs.length + i := ⟨_, rfl⟩
  have hsum : (bs.length : Int) + (i : Int) = (D : Int) := by omega
  have hwD : IntKind.i64.wrap (D : Int) = (D : Int) := i64_in _ (by omega)
  have hDl : D < l.length := by omega
  have hDd : bs.length ≤ D := by omega
  have HD := qH hD
  clear hD
  obtain ⟨v0, v1, k0, k1, hrv, hfz, hPg, hgl⟩ := BO rfl Ud.out bs.length (by rw [FL.out]; omega)
  obtain ⟨u0, u1, m0, m1, hru, -, -, -⟩ := BO rfl Ud.out D (by rw [FL.out]; omega)
  have zv := au rfl hrv
  obtain ⟨av0, cv0, rfl, _⟩ := ah zv.1
  obtain ⟨av1, cv1, rfl, _⟩ := ah zv.2
  have zu := au rfl hru
  obtain ⟨au0, cu0, rfl, _⟩ := ah zu.1
  obtain ⟨au1, cu1, rfl, _⟩ := ah zu.2
  clear zv zu hrv hru
  generalize apU : (R[bs.length]'(by rw [FL.out]; omega)).1.length = Lv0 at *
  generalize apV : (R[bs.length]'(by rw [FL.out]; omega)).2.length = Lv1 at *
  generalize apW : (R[D]'(by rw [FL.out]; omega)).1.length = Lu0 at *
  generalize apX : (R[D]'(by rw [FL.out]; omega)).2.length = Lu1 at *
  clear apU apV apW apX
  have z0 := hfz (bs.length * 2)
  have z1 := hfz (bs.length * 2 + 1)
  have z2 := hfz (D * 2)
  have z3 := hfz (D * 2 + 1)
  have hi2 : (bs.length : Int) < l.length := by omega
  have hi3 : (D : Int) < l.length := by omega
  have hIP := qH (ZW rfl Ud.out (fM p).dflt bs.length D (by rw [FL.out]; omega) (by rw [FL.out]; omega) k0 k1 m0 m1)
  go_upto_region 16 with fail
  go_cut [46] from 46 to 129 (fun x46 wx => x46 = .int .i64 k ∧ Hid (aP [g4] w1 wx) ∧ Hid (Ip (fun z => w.heap.size + 1 ≤ z ∧ z < wB.heap.size ∧ z ≠ gb) wx [.slice (some ⟨g4, 0, none⟩) l.length c4] (fH (fM p).dflt R bs.length D)))
  case first =>
   rcases Nat.eq_or_lt_of_le hDd with hq | hq
   · subst hq
     have e0 := k0.symm.trans m0
     have e1 := k1.symm.trans m1
     simp only [Option.some.injEq, Value.slice.injEq] at e0 e1
     obtain ⟨rfl, rfl, rfl⟩ := e0
     obtain ⟨rfl, rfl, rfl⟩ := e1
     clear m0 m1 z2 z3
     refine wp_region_noPanic (tC (fun w' => cV w' g4 (bs.length * 2) (.slice av0 Lv0 cv0) ∧ cV w' g4 (bs.length * 2 + 1) (.slice av1 Lv1 cv1)) [0, 1, 2, 3, 4, 5, 6, 7, 8, 9, 10, 12, 13, 14] [(11, 0), (15, 0), (16, 0), (17, 2), (18, 0), (19, 2)] (by kernel_rfl) (by kernel_rfl) (by kernel_rfl) rfl (fun _ _ _ _ _ h => h) ?_)
     (repeat (apply Gx rfl (by rfl); (· (intro w'; go_simp <;> with_reducible rfl)); (try simp only [Act.put, sI, sZ, sS])))
     refine NC ?_ ?_
     · exact ⟨k0, k1⟩
     refine ebF ?_
     refine Ap rfl (by rfl) (fun K hK => ?_)
     go_wp2_with fail
     refine ⟨fun _ => True, trivial, ?_⟩
     refine ebF ?_
     refine Ap rfl (by rfl) (fun K hK => ?_)
     go_wp2_with fail
     refine ⟨fun _ => True, trivial, ?_⟩
     refine ND (NoPanic.normal ?_)
     go_wp2_with fail
     go_meet
     exact ⟨rfl, ((((aP.refl [g4] w1).setCell (p := ⟨g4, bs.length * 2, none⟩) (by simp) (.slice av0 Lv0 cv0)).setCell (p := ⟨g4, bs.length * 2 + 1, none⟩) (by simp) (.slice av1 Lv1 cv1)).setCell (p := ⟨g4, bs.length * 2, none⟩) (by simp) (.slice av0 Lv0 cv0)).setCell (p := ⟨g4, bs.length * 2 + 1, none⟩) (by simp) (.slice av1 Lv1 cv1) |>.drewN 1, hIP.out.frame (fun _ _ _ => rfl)⟩
   have hq2 : ¬ D = bs.length := by omega
   have hq3 : ¬ bs.length = D := by omega
   refine wp_region_noPanic (tC (fun w' => cV w' g4 (bs.length * 2) (.slice av0 Lv0 cv0) ∧ cV w' g4 (bs.length * 2 + 1) (.slice av1 Lv1 cv1) ∧ cV w' g4 (D * 2) (.slice au0 Lu0 cu0) ∧ cV w' g4 (D * 2 + 1) (.slice au1 Lu1 cu1)) [0, 1, 2, 3, 4, 5, 6, 7, 8, 9, 10, 12, 13, 14] [(11, 0), (15, 0), (16, 0), (17, 2), (18, 0), (19, 2)] (by kernel_rfl) (by kernel_rfl) (by kernel_rfl) rfl (fun _ _ _ _ _ h => h) ?_)
   (repeat (apply Gx rfl (by rfl); (· (intro w'; go_simp <;> with_reducible rfl)); (try simp only [Act.put, sI, sZ, sS])))
   refine NC ?_ ?_
   · exact ⟨k0, k1, m0, m1⟩
   refine ebF ?_
   refine Ap rfl (by rfl) (fun K hK => ?_)
   go_wp2_with fail
   refine ⟨fun _ => True, trivial, ?_⟩
   refine ebF ?_
   refine Ap rfl (by rfl) (fun K hK => ?_)
   go_wp2_with fail
   refine ⟨fun _ => True, trivial, ?_⟩
   refine ND (NoPanic.normal ?_)
   go_wp2_with fail
   go_meet
   exact ⟨rfl, ((((aP.refl [g4] w1).setCell (p := ⟨g4, bs.length * 2, none⟩) (by simp) (.slice au0 Lu0 cu0)).setCell (p := ⟨g4, bs.length * 2 + 1, none⟩) (by simp) (.slice au1 Lu1 cu1)).setCell (p := ⟨g4, D * 2, none⟩) (by simp) (.slice av0 Lv0 cv0)).setCell (p := ⟨g4, D * 2 + 1, none⟩) (by simp) (.slice av1 Lv1 cv1) |>.drewN 1, hIP.out.frame (fun _ _ _ => rfl)⟩
  obtain ⟨rfl, hon, alu⟩ := hcut
  have aha := hPg
  have adM : (fH (fM p).dflt R bs.length D).length = l.length := by rw [tK]; exact FL.out
  have ahb : ∀ r, r ∈ fH (fM p).dflt R bs.length D → IG p U l.length r := fun r hr => FG.out r (Yi (by rw [FL.out]; omega) (by rw [FL.out]; exact hDl) hr)
  have Ue := qH (show wF (fM p) k R bs.length i = kL (dh (fM p) k bs.length (bZ p (((fH (fM p).dflt R bs.length D).getD bs.length (fM p).dflt).1.getD k 0) ((fH (fM p).dflt R bs.length D).getD bs.length (fM p).dflt))) ((fH (fM p).dflt R bs.length D).set bs.length (bZ p (((fH (fM p).dflt R bs.length D).getD bs.length (fM p).dflt).1.getD k 0) ((fH (fM p).dflt R bs.length D).getD bs.length (fM p).dflt))) l.length by
   have h := LD (dh (fM p) k bs.length (bZ p (((fH (fM p).dflt R bs.length D).getD bs.length (fM p).dflt).1.getD k 0) ((fH (fM p).dflt R bs.length D).getD bs.length (fM p).dflt))) ((fH (fM p).dflt R bs.length D).set bs.length (bZ p (((fH (fM p).dflt R bs.length D).getD bs.length (fM p).dflt).1.getD k 0) ((fH (fM p).dflt R bs.length D).getD bs.length (fM p).dflt)))
   rw [List.length_set, adM] at h
   rw [h, HD.out]; rfl)
  have awD := hon
  generalize fH (fM p).dflt R bs.length D = R1 at *
  have hdl : bs.length < R1.length := by rw [adM]; omega
  have eg0 : R1.getD bs.length (fM p).dflt = R1[bs.length] := getD_at hdl
  rw [eg0] at Ue
  have gR := ahb R1[bs.length] (List.getElem_mem hdl)
  obtain ⟨p0, p1, j0, j1, hrp, hfp, -, -⟩ := BO rfl alu.out bs.length hdl
  have apZ := qH adM
  have ap2 := qH ahb
  generalize hP : R1[bs.length] = P at *
  clear hP adM ahb eg0
  obtain ⟨gP1, gP2, gP3, gP4⟩ := gR
  have zp := au rfl hrp
  have HRP := qH hrp
  obtain ⟨ap0, cp0, alx, _⟩ := ah zp.1
  obtain ⟨ap1, cp1, aly, _⟩ := ah zp.2
  rw [gP1] at alx
  rw [gP2] at aly
  subst alx aly
  obtain ⟨b5, o5, rfl, nk, _⟩ := aI zp.1 k (by rw [gP1]; omega)
  have eN : P.1.getD k 0 = P.1[k]'(by rw [gP1]; omega) := by simp [List.getD, show k < P.1.length by rw [gP1]; omega]
  rw [eN] at Ue
  have gN := gP3.get k (by rw [gP1]; omega)
  generalize P.1[k]'(by rw [gP1]; omega) = N at *
  clear eN zp hrp
  have alz := aln.sK (aP.but hon.out) (fun z hz => by simp at hz; subst hz; exact Nat.le_of_succ_le aha.1) (fun x hx hp => by simp at hx hp; rcases hx with rfl | rfl <;> simp at hp <;> omega)
  have ap5 := qH (Z7.out.frame (w' := wc) (fun z h1 h2 => hon.out.block z (by simp; omega)))
  have GP1 := qH gP1
  have GP2 := qH gP2
  have GP3 := qH gP3
  have GP4 := qH gP4
  clear gP1 gP2 gP3 gP4 k0 k1 m0 m1 z0 z1 z2 z3 hfz hIP Ud Z7
  obtain ⟨t0, t1⟩ := alz.c2 0 0 1 0
  have y0 := hfp (bs.length * 2)
  have y1 := hfp (bs.length * 2 + 1)
  have hkU : (k : Int) < (U : Int) + 1 := by omega
  have hwz : wc.heap.size = w1.heap.size := hon.out.size
  go_wp2_with fail
  refine BG (fun w' => cV w' g4 (bs.length * 2) (.slice (some ⟨b5, o5, none⟩) (U + 1) cp0) ∧ cV w' g4 (bs.length * 2 + 1) (.slice ap1 l.length cp1) ∧ cI w' w.heap.size 0 p ∧ cI w' wB.heap.size 0 k ∧ cI w' b5 (o5 + k) N) [(0, 0), (1, 0), (2, 0), (3, 0), (4, 0), (5, 0), (6, 0), (7, 0), (8, 0), (9, 0), (10, 0), (11, 0), (12, 0), (13, 0), (14, 0), (15, 0), (16, 1), (17, 1), (18, 0), (19, 2)] ?_ ?_
  · exact ⟨j0, j1, t0, t1, nk⟩
  refine nH ?_
  refine wU fun K hK => ?_
  go_wp2_with (go_at_call 163; refine (Yj N _).mono ?_; rintro e w5 ⟨rfl, rfl⟩)
  refine ⟨⟨j0, j1, t0, t1, nk⟩, ?_⟩
  refine nH ?_
  refine wU fun K hK => ?_
  go_wp2_with (go_at_call 162; refine (adD p N P _ _ _ (Rd.mono HRP.out (belowD wc)) (by rw [GP1.out]; omega) (by rw [GP2.out]; omega) hp0 hp3 (by omega) (by omega) GP3.out GP4.out).mono ?_; rintro e w5 ⟨o0, o1, rfl, fr, hb5⟩)
  have GX : IG p U l.length (bZ p N P) := Qx (by omega) ⟨GP1.out, GP2.out, GP3.out, GP4.out⟩
  have hq5 := ((St.start wc).drew).step hb5
  have adN := (alz.drew).step hb5
  have alA := qH (ap5.out.mono hq5.bel)
  have ip5 := qH (alu.out.mono hq5.bel)
  have iv5 := qH (Ip.ZG fr.iv)
  have zo := au rfl fr.rd
  obtain ⟨a6, c6, e6, _⟩ := ah zo.1
  obtain ⟨a7, c7, e7, _⟩ := ah zo.2
  rw [GX.1] at e6
  rw [GX.2.1] at e7
  subst e6 e7
  obtain ⟨j0', j1'⟩ := iQ hq5.bel j0 j1
  refine ⟨⟨j0', j1', adN.c 0 0, adN.c 1 0, qC hq5.bel nk⟩, ?_⟩
  have ap6 : bs.length < R1.length := hdl
  obtain ⟨-, -, -, -, -, hf5, -, -⟩ := BO rfl ip5.out bs.length ap6
  have y0' := hf5 (bs.length * 2)
  have y1' := hf5 (bs.length * 2 + 1)
  clear zo fr y0 y1 t0 t1
  have GXX := qH GX
  clear GX
  have hz5 := hb5.size
  have hz5 : wc.heap.size ≤ w5.heap.size := hz5
  refine nH ?_
  refine XU fun K hK => ?_
  go_wp2_with fail
  refine elN ?_
  have ip6 := qH ((WO rfl ip5.out bs.length hdl iv5.out (fun z h1 h2 => by have h3 : wc.heap.size ≤ z := h2.1; omega)).wk (B := fun z => w.heap.size + 1 ≤ z ∧ z < w5.heap.size ∧ z ≠ gb) (fun z h => by
   rcases h with h | h
   · exact ⟨h.1, by omega, h.2.2⟩
   · have h3 : wc.heap.size ≤ z := h.1
     have := hgb.out
     exact ⟨by omega, h.2, by omega⟩))
  have adP := ((aP.refl [g4] w5).setCell (p := ⟨g4, bs.length * 2, none⟩) (by simp) (.slice a6 (U + 1) c6)).setCell (p := ⟨g4, bs.length * 2 + 1, none⟩) (by simp) (.slice a7 l.length c7)
  have ap8 := adN.sK (aP.but adP) (fun z hz => by simp at hz; subst hz; exact Nat.le_of_succ_le aha.1) (fun x hx hp => by simp at hx hp; rcases hx with rfl | rfl <;> simp at hp <;> omega)
  have ap9 := qH (alA.out.frame (fun z h1 h2 => adP.block z (by simp; omega)))
  have aqa := qH adP.size
  clear alA ip5 iv5 adP adN hf5 j0' j1' y0' y1'
  go_wp2_with fail
  go_loopw [97] (fun i w3 => ∃ j : Nat, j ≤ l.length ∧ i = .int .i64 j ∧ Hid (St w (wB.heap.size + 1) w3 [(w.heap.size, #[.int .i64 p, .int .i64 U, .slice a l.length c], 61), (wB.heap.size, #[.int .i64 k], 2)]) ∧ Hid (Acc gb (gb + 1) 2 w3 (.slice (some ⟨gb, 0, none⟩) bs.length cb) bs) ∧ Hid (Ip (fun z => w.heap.size + 1 ≤ z ∧ z < w3.heap.size ∧ z ≠ gb) w3 [.slice (some ⟨g4, 0, none⟩) l.length c4] (kL (dh (fM p) k bs.length (bZ p N P)) (R1.set bs.length (bZ p N P)) j))) (fun i _ => l.length - (intOf i).toNat)
  case atStart =>
   refine ⟨0, Nat.zero_le _, rfl, ap8, ap9.out, ?_⟩
   rw [IE]
   exact ip6.out.wk (fun z h => ⟨h.1, by rw [aqa.out]; exact h.2.1, h.2.2⟩)
  obtain ⟨j, hj, rfl, hs3, hb3, Df⟩ := hrel
  by_cases hlt3 : j < l.length
  rotate_left
  · obtain rfl : j = l.length := by omega
    rw [← Ue.out] at Df
    have BQ := aB wr (.cells #[.int .i64 k] 2)
    have ub := hs3.out.c 1 0
    have awG : gb + 1 ≤ wr.heap.size := by have := hgb.out; have := hs3.out.hi; omega
    have aqb := qH (hb3.out.mono BQ)
    go_wp2_with (refine wpList_plain rfl (fun K hK => Ij _ _ _ _ rfl eH rfl aqb.out (by simp; omega) ⟨by omega, by omega⟩ ⟨wr.heap.size, 0, none⟩ 1 rfl (aA (heap_alloc_new wr _)) (by omega) ?_); intro g' c' w7 hgg Z8 Oe aqc; refine hK _ _ ?_)
    go_wp2_with fail
    go_roundw
    case rel =>
     refine ⟨k + 1, g', c', hlt, by go_num, ?_⟩
     rw [hsame.out]
     have awH := hgb.out
     have hz7 := Oe.size
     simp at hz7 hgg
     refine ⟨by simp, ?_, by simpa [Hid] using Z8, ⟨by rcases hgg with h | h <;> omega, aqc⟩, ?_⟩
     · exact ((hs3.out.step BQ).sK Oe (fun z hz => by simp at hz; subst hz; omega) (fun x hx hp => by simp at hx hp; rcases hx with rfl | rfl <;> simp at hp <;> omega)).low (by omega) (by omega) (fun x hx => by simp at hx; subst hx; simp)
     refine ((Df.out.mono BQ).frame (fun z h1 h2 => Oe.block z h2 (by simp; exact h1.2.2))).wk (fun z h => ⟨h.1, by omega, by rcases hgg with h | h <;> omega⟩)
    simp [intOf]; omega
  have hjX : j < (R1.set bs.length (bZ p N P)).length := by rw [List.length_set, apZ.out]; exact hlt3
  have hjm : j < (kL (dh (fM p) k bs.length (bZ p N P)) (R1.set bs.length (bZ p N P)) j).length := by rw [tN]; exact hjX
  have hdm : bs.length < (kL (dh (fM p) k bs.length (bZ p N P)) (R1.set bs.length (bZ p N P)) j).length := by rw [tN, List.length_set]; exact hdl
  have hmg := Eo (dh (fM p) k bs.length (bZ p N P)) (R1.set bs.length (bZ p N P)) j hjX hjm
  have hms := qH (BM (dh (fM p) k bs.length (bZ p N P)) (R1.set bs.length (bZ p N P)) j hjX)
  have hdX : bs.length < (R1.set bs.length (bZ p N P)).length := by rw [List.length_set]; exact hdl
  have hfx : dh (fM p) k bs.length (bZ p N P) bs.length (R1.set bs.length (bZ p N P))[bs.length] = (R1.set bs.length (bZ p N P))[bs.length] := by unfold dh; rw [if_pos rfl]
  have hmd := LG (dh (fM p) k bs.length (bZ p N P)) (R1.set bs.length (bZ p N P)) j bs.length (by rw [List.length_set]; exact hdl) hfx hdm
  rw [List.getElem_set_self] at hmd
  have gQ : IG p U l.length (R1.set bs.length (bZ p N P))[j] := by
   rcases List.mem_or_eq_of_mem_set (List.getElem_mem hjX) with h | h
   · exact ap2.out _ h
   rw [h]; exact GXX.out
  have hsk : Hid (j = bs.length → kL (dh (fM p) k bs.length (bZ p N P)) (R1.set bs.length (bZ p N P)) (j + 1) = kL (dh (fM p) k bs.length (bZ p N P)) (R1.set bs.length (bZ p N P)) j) := qH (fun h => BN _ _ j hjX (by subst h; exact hfx))
  have hel : Hid (¬ j = bs.length → dh (fM p) k bs.length (bZ p N P) j (R1.set bs.length (bZ p N P))[j] = AU p (p - (R1.set bs.length (bZ p N P))[j].1.getD k 0) (R1.set bs.length (bZ p N P))[j] (bZ p N P)) := qH (fun h => by unfold dh; rw [if_neg h]; rfl)
  obtain ⟨q0, q1, x0, x1, hrq, hfq, hq4, -⟩ := BO rfl Df.out j hjm
  obtain ⟨d0, d1, x2, x3, adQ, -, -, -⟩ := BO rfl Df.out bs.length hdm
  rw [hmg] at hrq
  rw [hmd] at adQ
  clear hmg hmd hfx
  generalize (R1.set bs.length (bZ p N P))[j] = Q at *
  obtain ⟨gQ1, gQ2, gQ3, gQ4⟩ := gQ
  have HRQ := qH hrq
  have HRD := qH adQ
  have zq := au rfl hrq
  obtain ⟨aq0, cq0, eq0, _⟩ := ah zq.1
  obtain ⟨aq1, cq1, eq1, _⟩ := ah zq.2
  rw [gQ1] at eq0
  rw [gQ2] at eq1
  subst eq0 eq1
  have zd := au rfl adQ
  obtain ⟨ad0, cd0, ed0, _⟩ := ah zd.1
  obtain ⟨ad1, cd1, ed1, _⟩ := ah zd.2
  rw [GXX.out.1] at ed0
  rw [GXX.out.2.1] at ed1
  subst ed0 ed1
  obtain ⟨b6, o6, rfl, nq, _⟩ := aI zq.1 k (by rw [gQ1]; omega)
  have eQ : Q.1.getD k 0 = Q.1[k]'(by rw [gQ1]; omega) := by simp [List.getD, show k < Q.1.length by rw [gQ1]; omega]
  rw [eQ] at hel
  have gM := gQ3.get k (by rw [gQ1]; omega)
  generalize Q.1[k]'(by rw [gQ1]; omega) = M at *
  have GQ1 := qH gQ1
  have GQ2 := qH gQ2
  have GQ3 := qH gQ3
  have GQ4 := qH gQ4
  clear eQ zq zd hrq adQ gQ1 gQ2 gQ3 gQ4
  have hjl : (j : Int) < l.length := by omega
  by_cases hjd : j = bs.length
  · have aqk := qH (hsk.out hjd)
    subst hjd
    go_wp2_with fail
    go_roundw
    case rel =>
     refine ⟨bs.length + 1, hlt3, by go_num, ?_⟩
     rw [aqk.out]
     exact ⟨hs3.out.step (aB _ _), hb3.out.mono (aB _ _), (Df.out.mono (aB _ _)).wk (fun z h => ⟨h.1, by simp; omega, h.2.2⟩)⟩
    simp [intOf]; omega
  have ahc := qH (hel.out hjd)
  have hjn : ((j : Int) != bs.length) = true := by simp; omega
  have hqA := ((St.start wr).alloc #[.slice (some ⟨b6, o6, none⟩) (U + 1) cq0, .slice aq1 l.length cq1] 223 rfl).drew
  have hsA := (hs3.out.step (aB wr (.cells #[.slice (some ⟨b6, o6, none⟩) (U + 1) cq0, .slice aq1 l.length cq1] 223))).drew
  have hw1 : IntKind.i64.wrap (p - M) = p - M := i64_in _ (by omega)
  have awO : (k : Int) < (U : Int) + 1 := by omega
  clear hjd
  go_wp2_with fail
  refine BG (fun w' => cV w' wr.heap.size 0 (.slice (some ⟨b6, o6, none⟩) (U + 1) cq0) ∧ cV w' wr.heap.size 1 (.slice aq1 l.length cq1) ∧ cI w' w.heap.size 0 p ∧ cI w' wB.heap.size 0 k ∧ cV w' g4 (bs.length * 2) (.slice ad0 (U + 1) cd0) ∧ cV w' g4 (bs.length * 2 + 1) (.slice ad1 l.length cd1) ∧ cI w' b6 (o6 + k) M) [(0, 0), (1, 0), (2, 0), (3, 0), (4, 0), (5, 0), (6, 0), (7, 0), (8, 0), (9, 0), (10, 0), (11, 0), (12, 0), (13, 0), (14, 0), (15, 0), (16, 0), (17, 1), (18, 0), (19, 2)] ?_ ?_
  · exact ⟨hqA.c 0 0, hqA.c 0 1, hsA.c 0 0, hsA.c 1 0, qC hqA.bel x2, qC hqA.bel x3, qC hqA.bel nq⟩
  refine nH ?_
  refine wU fun K hK => ?_
  go_wp2_with (go_at_call 284; refine (yD p (p - M) Q (bZ p N P) _ _ _ _ _ (Rd.mono HRQ.out hqA.bel) (Rd.mono HRD.out hqA.bel) (by rw [GQ1.out]; omega) (by rw [GQ2.out]; omega) hp0 hp3 (by omega) (by omega) GQ3.out GQ4.out GXX.out.2.2.1 GXX.out.2.2.2 (by rw [GQ1.out, GXX.out.1]; exact Nat.le_refl _) (by rw [GQ2.out, GXX.out.2.1]; exact Nat.le_refl _)).mono ?_; rintro e w6 ⟨o2, o3, rfl, fr6, hb6⟩)
  rw [← ahc.out] at fr6
  have XQ := hqA.step hb6
  have hsB := hsA.step hb6
  have awP := hjX
  have eL1 : (dh (fM p) k bs.length (bZ p N P) j Q).1.length = U + 1 := by rw [ahc.out]; simp [AU, FX, GQ1.out, GXX.out.1]
  have eL2 : (dh (fM p) k bs.length (bZ p N P) j Q).2.length = l.length := by rw [ahc.out]; simp [AU, FX, GQ2.out, GXX.out.2.1]
  have zr := au rfl fr6.rd
  obtain ⟨a2, c2, e2, _⟩ := ah zr.1
  obtain ⟨a3, c3, e3, _⟩ := ah zr.2
  rw [eL1] at e2
  rw [eL2] at e3
  subst e2 e3
  have ip7 := qH (Df.out.mono XQ.bel)
  have iv7 := qH (Ip.ZG fr6.iv)
  have x0' := qC XQ.bel x0
  have aql := qH (hb3.out.mono XQ.bel)
  obtain ⟨r0, r1, x0', x1', -, hf7, hg7, -⟩ := BO rfl ip7.out j hjm
  have y0' := hf7 (j * 2)
  have y1' := hf7 (j * 2 + 1)
  refine ⟨⟨XQ.c 0 0, XQ.c 0 1, hsB.c 0 0, hsB.c 1 0, qC XQ.bel x2, qC XQ.bel x3, qC XQ.bel nq⟩, ?_⟩
  clear eL1 eL2 zr fr6 hf7
  have hzz : wr.heap.size + 1 ≤ w6.heap.size := by have := hb6.size; simpa using this
  refine nH ?_
  refine XU fun K hK => ?_
  go_wp2_with fail
  refine elN ?_
  go_wp2_with fail
  go_roundw
  case rel =>
   have ahd := ((aP.refl [g4] w6).setCell (p := ⟨g4, j * 2, none⟩) (by simp) (.slice a2 (U + 1) c2)).setCell (p := ⟨g4, j * 2 + 1, none⟩) (by simp) (.slice a3 l.length c3)
   have ip8 := WO rfl ip7.out j hjm iv7.out (fun z h1 h2 => by have h3 : _ ≤ z := h2.1; simp at h3; omega)
   rw [hms.out] at ip8
   refine ⟨j + 1, hlt3, by go_num, ?_, ?_, ?_⟩
   · exact hsB.sK (aP.but ahd) (fun z hz => by simp at hz; subst hz; exact Nat.le_of_succ_le aha.1) (fun x hx hp => by simp at hx hp; rcases hx with rfl | rfl <;> simp at hp <;> omega)
   · exact aql.out.frame (fun z h1 h2 => ahd.block z (by simp; omega))
   refine ip8.wk (fun z h => ?_)
   have hs7 := ahd.size
   rcases h with h | h
   · exact ⟨h.1, by omega, h.2.2⟩
   have h3 : _ ≤ z := h.1
   simp at h3
   have := hgb.out
   have := hs3.out.hi
   exact ⟨by omega, by omega, by omega⟩
  simp [intOf]; omega
end Go.Proofs.YtoblfnoaepbhfaaGreat
