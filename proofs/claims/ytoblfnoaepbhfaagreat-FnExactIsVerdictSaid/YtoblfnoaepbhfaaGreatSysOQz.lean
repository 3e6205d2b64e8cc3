import Derived.Test.YtoblfnoaepbhfaaGreatEqBQz
set_option linter.unusedSimpArgs false
set_option linter.unusedVariables false
set_option maxHeartbeats 16000000
set_option maxRecDepth 100000
namespace Go.Proofs.YtoblfnoaepbhfaaGreat
open Go.Proofs.Tryz
open Go.RowKit Go.Shelf Go.IntWalk
open Rep (Rd Own sz)
theorem aa1 {α : Type} [Rep α] (hα : sz α = 2) {A : Nat → Prop} {w : World} {g o n c : Nat} {l : List α} (h : Ip A w [.slice (some ⟨g, o, none⟩) n c] l) (j : Nat) (hj : j < l.length) :
 ∃ v0 v1, w.cell? ⟨g, o + j * 2, none⟩ = some v0 ∧ w.cell? ⟨g, o + j * 2 + 1, none⟩ = some v1 ∧ Ip A w [v0, v1] l[j] := by
 obtain ⟨ps, ho, hn, hA⟩ := h
 rcases jS ho with ⟨rfl, _⟩ | ⟨g', o', c', cur, e, cZ, hv, _, _, hg, rfl, hp, hel⟩
 · simp at hj
 simp only [Value.slice.injEq, Option.some.injEq, Addr.mk.injEq, and_true] at hv
 obtain ⟨⟨rfl, rfl⟩, _, rfl⟩ := hv
 obtain ⟨p, vs, h1, h2, h3⟩ := hel j hj
 have hl := Rep.dI (Rep.bP h2)
 rw [hα] at hl h3
 obtain ⟨v0, v1, rfl⟩ : ∃ v0 v1, vs = [v0, v1] := by
  match vs, hl with
  | [a, b], _ => exact ⟨a, b, rfl⟩
 have hpm : ∀ k, k ∈ p → k ∈ List.flatten cZ := fun k hk => List.mem_flatten.2 ⟨p, List.mem_of_getElem? h1, hk⟩
 refine ⟨v0, v1, ?_, ?_, p, h2, (List.pairwise_flatten.1 (List.nodup_cons.1 hn).2).1 _ (List.mem_of_getElem? h1), fun k hk => hA k (List.mem_cons_of_mem _ (hpm k hk))⟩
 · rw [aA hg]; have := h3 0 (by simp); simpa using this
 rw [aA hg]; have := h3 1 (by simp); simpa using this
theorem aa2 {α β : Type} [Rep α] [Rep β] (hα : sz α = 1) {A : Nat → Prop} {w : World} {v : Value} {vs : List Value} {x : α × β} (h : Ip A w (v :: vs) x) : Ip A w [v] x.1 := by
 obtain ⟨ps, ho, hn, hA⟩ := h
 obtain ⟨p, q, rfl, h1, _⟩ := pK hα ho
 exact ⟨p, h1, (List.nodup_append.1 hn).1, fun k hk => hA k (by simp [hk])⟩
theorem aa3 {α β : Type} [Rep α] [Rep β] {lo : Nat} {w : World} {v : Value} {vs : List Value} {x : α × β} (hα : sz α = 1) (h : aQ lo w (v :: vs) x) : aQ lo w vs x.2 := by
 obtain ⟨ps, h1, h2, h3⟩ := h
 obtain ⟨p, q, rfl, _, h5⟩ := pK hα h1
 exact ⟨q, h5, (List.nodup_append.1 h2).2.1, fun k hk => h3 k (by simp [hk])⟩
theorem ah1 (p u : Int) (a : Option Addr) (n c : Nat) (w : World) : (Instr.field 61 (.agg #[.int .i64 p, .int .i64 u, .slice a n c]) 2).run prog w = .ok (.slice a n c) w := by kernel_rfl
def gW (t : dB) (V : Nat) (cs : List nI) (k : Nat) (sc : List Int) (E : List nG) (j : Nat) : List nG := fK t V cs k ++ (E.map (vX t.1 V sc)).take j
theorem yR (t : dB) (V : Nat) (cs : List nI) (k : Nat) (sc : List Int) (E : List nG) : gW t V cs k sc E 0 = fK t V cs k := by unfold gW; simp
theorem Jm {t : dB} {V : Nat} {cs : List nI} {k : Nat} {sc : List Int} {E : List nG} {j : Nat} (h : j < E.length) : gW t V cs k sc E (j + 1) = gW t V cs k sc E j ++ [vX t.1 V sc E[j]] := by
 unfold gW
 rw [List.take_succ_eq_append_getElem (by simpa using h), List.getElem_map, List.append_assoc]
theorem MI (t : dB) (V : Nat) (cs : List nI) (k : Nat) (sc : List Int) (E : List nG) : gW t V cs k sc E E.length = fK t V cs k ++ E.map (vX t.1 V sc) := by
 unfold gW
 rw [List.take_of_length_le (by simp)]
theorem OH (t : dB) (x : Inst) (tb : Nat) (t0 t1 : Value) (w : World) (ht : Rd w [t0, t1] t) (hok : cu t x = true) (hp : sW t.1 = true) (h0 : w.cell? ⟨tb, 0, none⟩ = some t0) (h1 : w.cell? ⟨tb, 1, none⟩ = some t1) :
 L6 149 #[.pointer (some ⟨tb, 0, none⟩)] w x.2 (fun c => !kN t.1 (lC t c)) := by
 intro W c u0 u1 hb hx hmem
 obtain ⟨g0, g1⟩ := iQ hb h0 h1
 obtain ⟨hrk, hci, _⟩ := Jj hok c hmem
 have HT := qH (Rd.mono ht hb)
 have Ti := qH hrk
 have KD := qH hp
 obtain ⟨size, rs⟩ := t
 obtain ⟨ci, sc⟩ := c
 simp only at hci
 obtain ⟨n, rfl⟩ : ∃ n : Nat, ci = (n : Int) := ⟨ci.toNat, by omega⟩
 have hn : n < rs.length := by omega
 have Xz := qH (show lC (size, rs) ((n : Int), sc) = rs[n] by unfold lC; simp only [Int.toNat_natCast]; rw [List.getD, List.getElem?_eq_getElem hn]; rfl)
 show Calls prog 149 #[_, .pointer (some ⟨tb, 0, none⟩)] W (fun e w' => e = .returned (.bool (!kN size (lC (size, rs) ((n : Int), sc)))) ∧ _)
 rw [Xz.out] at Ti ⊢
 simp only at Ti KD
 have zx := au rfl hx
 obtain ⟨rfl, _⟩ := aG zx.1
 obtain ⟨ax, cx, rfl, _⟩ := ah zx.2
 have zt := au rfl HT.out
 obtain ⟨rfl, _⟩ := aG zt.1
 obtain ⟨at0, ct0, rfl, _⟩ := ah zt.2
 obtain ⟨br, Bq, r0, r1, rfl, q0, q1, hr⟩ := dL rfl zt.2 n hn
 have HR := qH hr
 clear hx zx zt ht hb h0 h1 hmem hok hrk hr Xz
 generalize rs[n] = RL at *
 obtain ⟨ar, tl⟩ := RL
 have zr := au rfl HR.out
 obtain ⟨rfl, _⟩ := aG zr.1
 obtain ⟨ar0, cr0, rfl, _⟩ := ah zr.2
 clear zr
 have hni : (n : Int) < rs.length := by omega
 have kH := qC (St.start W).bel g0
 clear kH
 obtain ⟨kH, lg⟩ := iQ (St.start W).bel g0 g1
 clear kH lg
 obtain ⟨kH, lg, dW⟩ := fQ (St.start W).bel g0 g1 q0
 clear kH lg dW
 obtain ⟨kH, lg, dW, dO⟩ := jc (St.start W).bel g0 g1 q0 q1
 have hs1 := (St.start W).alloc #[.int .i64 n, .slice ax sc.length cx] 150 (n := W.heap.size) (by simp)
 clear kH lg dW dO
 obtain ⟨aF, aH⟩ := hs1.c2 0 0 0 1
 obtain ⟨kH, lg, dW, dO⟩ := jc hs1.bel g0 g1 q0 q1
 go_enter func149, ntmps149
 go_upto_region 1 with fail
 refine iT (fun w' => cI w' W.heap.size 0 n ∧ cV w' W.heap.size 1 (.slice ax sc.length cx) ∧ cI w' tb 0 size ∧ cV w' tb 1 (.slice (some ⟨br, Bq, none⟩) rs.length ct0) ∧ cI w' br (Bq + n * 2) ar ∧ cV w' br (Bq + n * 2 + 1) (.slice ar0 tl.length cr0)) (.z [0,1,2,3,4,5,6,7] (.hard 8 (.z [9,10] .nil))) ?_ ?_
 · exact (hs1.drew).d2 0 0 0 1 (jc (hs1.drew).bel g0 g1 q0 q1:)
 have hs2 := hs1.drew
 clear aF aH kH lg dW dO
 have aa4 : W.heap.size + 1 ≤ ((W.alloc (.cells #[.int .i64 n, .slice ax sc.length cx] 150)).drew).heap.size := by simp
 generalize (W.alloc (.cells #[.int .i64 n, .slice ax sc.length cx] 150)).drew = wd3 at *
 refine aV ?_
 refine gX fun K hK => ?_
 go_wp2_with (go_at_call 150; refine (QO size (ar, tl) _ _ _ (Rd.mono HR.out hs2.bel) KD.out Ti.out).mono ?_; rintro e w4 ⟨rfl, aa5⟩)
 have amg : wd3.heap.size ≤ w4.heap.size := hZ aa5
 have hs5 := hs2.step aa5
 refine ⟨(hs5.d2 0 0 0 1 (jc hs5.bel g0 g1 q0 q1:)), ?_⟩
 refine aV ?_
 obtain ⟨aF, aH⟩ := hs5.c2 0 0 0 1
 obtain ⟨kH, lg, dW, dO⟩ := jc hs5.bel g0 g1 q0 q1
 refine iF ?_
 go_wp2_with fail
 go_ret
 exact ⟨rfl, hs5.bel⟩
theorem UN (t : dB) (x : Inst) (t0 t1 x0 x1 : Value) (w : World) (ht : Rd w [t0, t1] t) (hx : Rd w [x0, x1] x) (hok : cu t x = true) :
 Calls prog 82 #[.agg #[t0, t1], .agg #[x0, x1]] w fun e w' => ∃ u0 u1 u2, e = .returned (.tuple #[.agg #[u0, u1, u2], .int .i64 (pq t x).2]) ∧ aQ w.heap.size w' [u0, u1, u2] (pq t x).1 ∧ Below w.heap.size w w' := by
 have hV := (aX hok).2.1
 have hcl := (aX hok).2.2.1
 have hs1 := (dV (aX hok).1).1
 have Xz := qH (Jj hok)
 obtain ⟨size, rs⟩ := t
 obtain ⟨vars, cs⟩ := x
 simp only at hV hcl hs1
 obtain ⟨V, rfl⟩ : ∃ V : Nat, vars = (V : Int) := ⟨vars.toNat, by omega⟩
 have vW := qH hok
 have HT := qH ht
 have PW := qH (au rfl hx).2
 have HRS := qH (au rfl ht).2
 have zt := au rfl ht
 obtain ⟨rfl, _⟩ := aG zt.1
 obtain ⟨at0, ct0, rfl, _⟩ := ah zt.2
 have zx := au rfl hx
 obtain ⟨rfl, _⟩ := aG zx.1
 obtain ⟨ax, cx, rfl, _⟩ := ah zx.2
 have eg : ∀ args w, (callFunc 149 args).run prog w = .ok (.enter 149 args) w := enters_of func149 (by kernel_rfl) rfl
 clear hok ht hx zt zx
 have hs6 := (St.start w).alloc #[.int .i64 size, .slice at0 rs.length ct0] 42 (n := w.heap.size) (by simp)
 have hs7 := hs6.alloc #[.int .i64 V, .slice ax cs.length cx] 46 (n := w.heap.size + 1) (by simp)
 have hs8 := hs7.alloc #[.int .i64 0, .int .i64 0, .slice none 0 0] 61 (n := w.heap.size + 1 + 1) (by simp)
 obtain ⟨aF, aH, aJ, aK, aW, aY, bn⟩ := hs8.c7 0 0 0 1 1 0 1 1 2 0 2 1 2 2
 go_enter func82, ntmps82
 go_wp2_with fail
 refine (KZ size _).mono ?_
 rintro e w9 ⟨rfl, rfl⟩
 cases h1 : sW size
 · have H1 := qH (show pq (size, rs) ((V : Int), cs) = ((0, 0, []), 4) by unfold pq; simp only; rw [h1]; rfl)
   clear h1
   have UL := hs8.aC 2 rfl 0
   have UM := hs8.aC 2 rfl 1
   have aa6 := hs8.aC 2 rfl 2
   go_wp2_with fail
   have x0 := (hs8.c 2 0)
   have x1 := (hs8.c 2 1)
   have x2 := (hs8.c 2 2)
   refine bodyPost_ret (v := .tuple #[.agg #[.int .i64 0, .int .i64 0, .slice none 0 0], .int .i64 4]) (by simp [results, results82, go_sem, x0, x1, x2]) rfl ⟨_, _, _, by rw [H1.out], ?_, hs8.bel⟩
   rw [H1.out]; exact ⟨[], xu, by simp, by simp⟩
 have KD := qH h1
 clear h1
 go_wp2_with fail
 refine (uO cs _ 149 _ (fun c => !kN size (lC (size, rs) c)) _ (Rd.mono PW.out hs8.bel) eg (OH (size, rs) ((V : Int), cs) (w.heap.size) _ _ _ (Rd.mono HT.out hs8.bel) vW.out KD.out (hs8.c 0 0) (hs8.c 0 1))).mono ?_
 rintro e w1 ⟨rfl, hb1⟩
 have afV : w.heap.size + 1 + 1 + 1 ≤ w1.heap.size := hZ hb1
 have hs10 := hs8.step hb1
 clear aF aH aJ aK aW aY bn
 obtain ⟨aF, aH, aJ, aK, aW, aY, bn⟩ := hs10.c7 0 0 0 1 1 0 1 1 2 0 2 1 2 2
 cases h2 : cs.any (fun c => !kN size (lC (size, rs) c))
 rotate_left
 · have H1 := qH (show pq (size, rs) ((V : Int), cs) = ((0, 0, []), 4) by
    have h3 := mM cs (fun c => kN size (lC (size, rs) c))
    rw [h2] at h3
    unfold pq Cc
    simp only
    rw [KD.out, ← h3]; rfl)
   clear h2
   have UL := hs10.aC 2 rfl 0
   have UM := hs10.aC 2 rfl 1
   have aa6 := hs10.aC 2 rfl 2
   go_wp2_with fail
   have hs11 := hs10.set (p := [_, _]) (by simp <;> omega) 0 (.int .i64 0)
   have kT := hs11.set (p := [_, _]) (by simp <;> omega) 1 (.int .i64 0)
   have fV := kT.set (p := [_, _]) (by simp <;> omega) 2 (.slice none 0 0)
   have x0 := (fV.c 2 0)
   have x1 := (fV.c 2 1)
   have x2 := (fV.c 2 2)
   refine bodyPost_ret (v := .tuple #[.agg #[.int .i64 0, .int .i64 0, .slice none 0 0], .int .i64 4]) (by simp [results, results82, go_sem, x0, x1, x2]) rfl ⟨_, _, _, by rw [H1.out], ?_, fV.bel⟩
   rw [H1.out]; exact ⟨[], xu, by simp, by simp⟩
 have h3 := mM cs (fun c => kN size (lC (size, rs) c))
 rw [h2] at h3
 have Oy := qH (show ∀ c, c ∈ cs → kN size (lC (size, rs) c) = true from List.all_eq_true.1 h3.symm)
 have H1 := qH (show pq (size, rs) ((V : Int), cs) = (if 24 < (fK (size, rs) V cs cs.length).length then ((0, 0, []), 3) else ((size, (V : Int), fK (size, rs) V cs cs.length), 0)) by
  unfold pq Cc
  simp only
  rw [KD.out, ← h3]; rfl)
 have HSL := qH (fun k (hk : k ≤ cs.length) => EG (t := (size, rs)) (V := V) (cs := cs) KD.out (fun c hc => ⟨(Xz.out c hc).1, Oy.out c hc⟩) k hk)
 clear h2 h3
 have hlo1 := hs10.hi
 have p0 := (hs10.c 0 0)
 have p1 := (hs10.c 1 0)
 have eU := hs10.alloc #[.int .i64 size, .int .i64 V, .slice none 0 0] 61 (n := w1.heap.size) (by simp)
 clear aF aH aJ aK aW aY bn
 obtain ⟨aF, aH, aJ, aK, aW, aY, bn, dM⟩ := eU.c8 0 0 0 1 1 0 1 1 2 0 2 1 2 2 3 0
 obtain ⟨fF, gY⟩ := eU.c2 3 1 3 2
 have HS1 := qH eU
 go_wp2_with fail
 go_loopw [33] (fun kv wl => ∃ (k : Nat) (va : Option Addr) (vc : Nat), k ≤ cs.length ∧ kv = .int .i64 k ∧ Hid (St w (w1.heap.size + 1) wl [(w.heap.size, #[.int .i64 size, .slice at0 rs.length ct0], 42), (w.heap.size + 1, #[.int .i64 V, .slice ax cs.length cx], 46), (w.heap.size + 1 + 1, #[.int .i64 0, .int .i64 0, .slice none 0 0], 61), (w1.heap.size, #[.int .i64 size, .int .i64 V, .slice va (fK (size, rs) V cs k).length vc], 61)]) ∧ Hid (bM (fun z => w1.heap.size + 1 ≤ z ∧ z < wl.heap.size) 200 wl (.slice va (fK (size, rs) V cs k).length vc) (fK (size, rs) V cs k))) (fun kv _ => cs.length - (intOf kv).toNat)
 case atStart => exact ⟨0, none, 0, Nat.zero_le _, rfl, HS1.out, bM.nil _ _ _⟩
 clear HS1
 obtain ⟨k, va, vc, hk, rfl, hst, hac⟩ := hrel
 obtain ⟨wK, rfl⟩ : ∃ x, x = wr := ⟨_, rfl⟩
 have hs2 := hst.out
 have hlo := hs2.hi
 obtain ⟨aF, aH, aJ, aK, aW, aY, bn, dM⟩ := hs2.c8 0 0 0 1 1 0 1 1 2 0 2 1 2 2 3 0
 obtain ⟨fF, gY⟩ := hs2.c2 3 1 3 2
 by_cases hlt : k < cs.length
 rotate_left
 · have hke : k = cs.length := by omega
   have hnk : ¬ ((k : Int) < cs.length) := by omega
   have hIs : I64 size := jf _ (by omega) (by omega)
   have hIV : I64 (V : Int) := jf _ (by omega) (by omega)
   rw [← hke] at H1
   clear hke
   by_cases h24 : 24 < (fK (size, rs) V cs k).length
   · have ah2 : (24 : Int) < (fK (size, rs) V cs k).length := by omega
     have H2 := qH (show pq (size, rs) ((V : Int), cs) = ((0, 0, []), 3) by rw [H1.out, if_pos h24])
     clear h24
     have UL := hs2.aC 2 rfl 0
     have UM := hs2.aC 2 rfl 1
     have aa6 := hs2.aC 2 rfl 2
     go_wp2_with fail
     have hs62 := hs2.set (p := [_, _]) (by simp <;> omega) 0 (.int .i64 0)
     have hs63 := hs62.set (p := [_, _]) (by simp <;> omega) 1 (.int .i64 0)
     have Yx := hs63.set (p := [_, _]) (by simp <;> omega) 2 (.slice none 0 0)
     have x0 := (Yx.c 2 0)
     have x1 := (Yx.c 2 1)
     have x2 := (Yx.c 2 2)
     refine bodyPost_ret (v := .tuple #[.agg #[.int .i64 0, .int .i64 0, .slice none 0 0], .int .i64 3]) (by simp [results, results82, go_sem, x0, x1, x2]) rfl ⟨_, _, _, by rw [H2.out], ?_, Yx.bel⟩
     rw [H2.out]; exact ⟨[], xu, by simp, by simp⟩
   have ah2 : ¬ ((24 : Int) < (fK (size, rs) V cs k).length) := by omega
   have H2 := qH (show pq (size, rs) ((V : Int), cs) = ((size, (V : Int), fK (size, rs) V cs k), 0) by rw [H1.out, if_neg h24])
   have D8 := qH (LX (lo := w1.heap.size + 1) hIs hIV (hac.out.wk (fun z hz => hz.1)))
   clear h24
   have UL := hs2.aC 2 rfl 0
   have UM := hs2.aC 2 rfl 1
   have aa6 := hs2.aC 2 rfl 2
   go_wp2_with fail
   have ah3 := hs2.set (p := [_, _]) (by simp <;> omega) 0 (.int .i64 size)
   have Yz := ah3.set (p := [_, _]) (by simp <;> omega) 1 (.int .i64 V)
   have QS := Yz.set (p := [_, _]) (by simp <;> omega) 2 (.slice va (fK (size, rs) V cs k).length vc)
   have x0 := (QS.c 2 0)
   have x1 := (QS.c 2 1)
   have x2 := (QS.c 2 2)
   refine bodyPost_ret (v := .tuple #[.agg #[.int .i64 size, .int .i64 V, .slice va (fK (size, rs) V cs k).length vc], .int .i64 0]) (by simp [results, results82, go_sem, x0, x1, x2]) rfl ⟨_, _, _, by rw [H2.out], ?_, QS.bel⟩
   rw [H2.out]
   exact (((D8.out.setCell (a := ⟨w.heap.size + 1 + 1, 0, none⟩) (by (try simp) <;> omega) _).setCell (a := ⟨w.heap.size + 1 + 1, 1, none⟩) (by (try simp) <;> omega) _).setCell (a := ⟨w.heap.size + 1 + 1, 2, none⟩) (by (try simp) <;> omega) _).lower (by omega)
 have QH : (k : Int) < cs.length := by omega
 obtain ⟨bc, oc, c0, c1, ec, vk, qc1, hrc⟩ := dL rfl PW.out k hlt
 subst ec
 obtain ⟨hrk, hci, AX⟩ := Xz.out _ (List.getElem_mem hlt)
 have hSU := Cb (size, rs) V cs k hlt
 have UJ := Oy.out _ (List.getElem_mem hlt)
 generalize cs[k] = CK at *
 obtain ⟨ci, sc⟩ := CK
 simp only at hci AX
 obtain ⟨n, rfl⟩ : ∃ n : Nat, ci = (n : Int) := ⟨ci.toNat, by omega⟩
 have hn : n < rs.length := by omega
 have hni : (n : Int) < rs.length := by omega
 have hra : lC (size, rs) ((n : Int), sc) = rs[n] := by unfold lC; simp only [Int.toNat_natCast]; rw [List.getD, List.getElem?_eq_getElem hn]; rfl
 have hcE : QX (size, rs) V ((n : Int), sc) = (QV size rs[n]).2.2.map (vX size V sc) := by unfold QX; rw [hra]
 rw [hra] at hrk AX UJ
 (try simp only at hrk UJ)
 obtain ⟨br, Bq, r0, r1, er, vw, vC, hrr⟩ := dL rfl HRS.out n hn
 subst er
 generalize rs[n] = RL at *
 obtain ⟨ar, tl⟩ := RL
 obtain ⟨N, _, _, hEF, hE4, hEO⟩ := GL KD.out hrk UJ
 generalize jO size (ar, tl).1.toNat (ar, tl).2 N = E at *
 simp only at AX hEF hEO
 rw [hEF] at hcE
 simp only at hcE
 have zc := au rfl hrc
 obtain ⟨rfl, _⟩ := aG zc.1
 obtain ⟨Tq, OI, rfl, _⟩ := ah zc.2
 have zr := au rfl hrr
 obtain ⟨rfl, _⟩ := aG zr.1
 obtain ⟨arx, crx, rfl, _⟩ := ah zr.2
 have qU := qH zc.2
 have Yq := qH hrr
 have Ti := qH hrk
 have HAK := qH UJ
 have HEF := qH hEF
 have HEO := qH hEO
 have Y5 := qH (iR AX)
 have Oh := qH (show fK (size, rs) V cs (k + 1) = fK (size, rs) V cs k ++ E.map (vX size V sc) by rw [hSU, hcE])
 have hAR := (gV hrk).2.1
 simp only at hAR
 clear hrc hrr hrk AX UJ hSU hcE hra hEF hEO zc zr hci
 clear aF aH aJ aK aW aY bn dM fF gY
 have QY := hac
 clear hac
 have p4 := (hs2.c 1 1)
 have p5 := (qC hs2.bel vk)
 have p6 := (qC hs2.bel qc1)
 have nZ := hs2.alloc #[.int .i64 n, .slice Tq sc.length OI] 150 (n := wK.heap.size) (by simp)
 have XA := qH (bM.mono QY.out (aB _ (.cells #[.int .i64 n, .slice Tq sc.length OI] 150)))
 clear QY
 obtain ⟨aF, aH, aJ, aK, aW, aY, bn, dM⟩ := nZ.c8 0 0 0 1 1 0 1 1 2 0 2 1 2 2 3 0
 obtain ⟨fF, gY, nP, qQ⟩ := nZ.c4 3 1 3 2 4 0 4 1
 obtain ⟨mQ, mV, mW, mX⟩ := jc nZ.bel vk qc1 vw vC
 go_upto_region 7 with fail
 refine iT (fun w' => cI w' w.heap.size 0 size ∧ cV w' w.heap.size 1 (.slice (some ⟨br, Bq, none⟩) rs.length ct0) ∧ cI w' (w.heap.size + 1) 0 V ∧ cV w' (w.heap.size + 1) 1 (.slice (some ⟨bc, oc, none⟩) cs.length cx) ∧ cI w' (w.heap.size + 1 + 1) 0 0 ∧ cI w' (w.heap.size + 1 + 1) 1 0 ∧ cV w' (w.heap.size + 1 + 1) 2 (.slice none 0 0) ∧ cI w' w1.heap.size 0 size ∧ cI w' w1.heap.size 1 V ∧ cV w' w1.heap.size 2 (.slice va (fK (size, rs) V cs k).length vc) ∧ cI w' wK.heap.size 0 n ∧ cV w' wK.heap.size 1 (.slice Tq sc.length OI) ∧ cI w' bc (oc + k * 2) n ∧ cV w' bc (oc + k * 2 + 1) (.slice Tq sc.length OI) ∧ cI w' br (Bq + n * 2) ar ∧ cV w' br (Bq + n * 2 + 1) (.slice arx tl.length crx)) (.z [0,1,2,3,4,5,6,7,11] (.hard 8 (.z [9,10] .nil))) ?_ ?_
 · exact (nZ.drew).d4 0 0 0 1 1 0 1 1 ((nZ.drew).d8 2 0 2 1 2 2 3 0 3 1 3 2 4 0 4 1 (jc (nZ.drew).bel vk qc1 vw vC:))
 have Eu := nZ.drew
 have XB := qH (bM.mono XA.out (belowD _))
 clear XA
 clear aF aH aJ aK aW aY bn dM fF gY nP qQ mQ mV mW mX
 have WZ : wK.heap.size + 1 ≤ ((wK.alloc (.cells #[.int .i64 n, .slice Tq sc.length OI] 150)).drew).heap.size := by simp
 generalize (wK.alloc (.cells #[.int .i64 n, .slice Tq sc.length OI] 150)).drew = zU at *
 refine aV ?_
 refine gX fun K hK => ?_
 go_wp2_with (go_at_call 151; refine (KA size (ar, tl) _ _ _ (Rd.mono Yq.out Eu.bel) KD.out Ti.out HAK.out).mono ?_; rintro e w20 ⟨a9, n9, c9, rfl, yQ, aa7⟩)
 have arw : zU.heap.size ≤ w20.heap.size := hZ aa7
 have qw := Eu.step aa7
 have Dv := qH (bM.mono XB.out aa7)
 clear XB
 rw [HEF.out] at yQ
 have yQ := aa3 rfl (aa3 rfl yQ)
 obtain ⟨a8, c8, e8, _⟩ := ah yQ.rd
 simp only [Value.slice.injEq] at e8
 obtain ⟨rfl, rfl, rfl⟩ := e8
 have HE := qH (aQ.ip yQ)
 have hfd : ∀ w : World, (Instr.field 61 (.agg #[.int .i64 size, .int .i64 ar, .slice a9 E.length c9]) 2).run prog w = .ok (.slice a9 E.length c9) w := fun w => ah1 _ _ _ _ _ w
 clear yQ
 refine ⟨(qw.d4 0 0 0 1 1 0 1 1 (qw.d8 2 0 2 1 2 2 3 0 3 1 3 2 4 0 4 1 (jc qw.bel vk qc1 vw vC:))), ?_⟩
 refine aV ?_
 obtain ⟨aF, aH, aJ, aK, aW, aY, bn, dM⟩ := qw.c8 0 0 0 1 1 0 1 1 2 0 2 1 2 2 3 0
 obtain ⟨fF, gY, nP, qQ⟩ := qw.c4 3 1 3 2 4 0 4 1
 obtain ⟨mQ, mV, mW, mX⟩ := jc qw.bel vk qc1 vw vC
 refine iF ?_
 have ava : w20.heap.size ≤ (w20).heap.size := by simp
 generalize w20 = wB at *
 have HSB := qH (qw.low (B' := wK.heap.size + 1) (bx' := [(w.heap.size, #[.int .i64 size, .slice (some ⟨br, Bq, none⟩) rs.length ct0], 42), (w.heap.size + 1, #[.int .i64 V, .slice (some ⟨bc, oc, none⟩) cs.length cx], 46), (w.heap.size + 1 + 1, #[.int .i64 0, .int .i64 0, .slice none 0 0], 61), (w1.heap.size, #[.int .i64 size, .int .i64 V, .slice va (fK (size, rs) V cs k).length vc], 61), (wK.heap.size, #[.int .i64 n, .slice Tq sc.length OI], 150)]) (by omega) (by omega) (fun x hx => by simp only [List.mem_cons, List.not_mem_nil, or_false] at hx; rcases hx with rfl | rfl | rfl | rfl | rfl <;> (refine ⟨?_, ?_⟩ <;> (try simp) <;> (try omega))))
 have HAB := qH ((Dv.out).wk (C := fun z => w1.heap.size + 1 ≤ z ∧ z ≠ wK.heap.size ∧ (z < wK.heap.size ∨ wB.heap.size ≤ z) ∧ z < wB.heap.size) (fun z hz => by (try simp only at hz); omega))
 have HEB := qH ((HE.out).wk (B := fun z => wK.heap.size + 1 ≤ z ∧ z < wB.heap.size) (fun z hz => by (try simp only at hz); omega))
 clear Dv
 clear HE
 have axX : wK.heap.size + 1 ≤ wB.heap.size := by omega
 go_wp2_with fail
 go_loopw [48] (fun jv wl => ∃ (j : Nat) (va : Option Addr) (vc : Nat), j ≤ E.length ∧ jv = .int .i64 j ∧ Hid (St w (wK.heap.size + 1) wl [(w.heap.size, #[.int .i64 size, .slice (some ⟨br, Bq, none⟩) rs.length ct0], 42), (w.heap.size + 1, #[.int .i64 V, .slice (some ⟨bc, oc, none⟩) cs.length cx], 46), (w.heap.size + 1 + 1, #[.int .i64 0, .int .i64 0, .slice none 0 0], 61), (w1.heap.size, #[.int .i64 size, .int .i64 V, .slice va (gW (size, rs) V cs k sc E j).length vc], 61), (wK.heap.size, #[.int .i64 n, .slice Tq sc.length OI], 150)]) ∧ Hid (wB.heap.size ≤ wl.heap.size) ∧
  Hid (bM (fun z => w1.heap.size + 1 ≤ z ∧ z ≠ wK.heap.size ∧ (z < wK.heap.size ∨ wB.heap.size ≤ z) ∧ z < wl.heap.size) 200 wl (.slice va (gW (size, rs) V cs k sc E j).length vc) (gW (size, rs) V cs k sc E j)) ∧ Hid (Ip (fun z => wK.heap.size + 1 ≤ z ∧ z < wB.heap.size) wl [.slice a9 E.length c9] E)) (fun jv _ => E.length - (intOf jv).toNat)
 case atStart => exact ⟨0, va, vc, Nat.zero_le _, rfl, by rw [yR]; exact HSB.out, Nat.le_refl _, by rw [yR]; exact HAB.out, HEB.out⟩
 clear HSB HAB HEB
 obtain ⟨j, vb, vd, hj, rfl, hst2, hzB, UO, hE2⟩ := hrel
 obtain ⟨wJ, rfl⟩ : ∃ x, x = wr := ⟨_, rfl⟩
 have hzB := hzB.out
 have hs4 := hst2.out
 have hlo2 := hs4.hi
 have arz : (gW (size, rs) V cs k sc E j).length ≤ 200 := by
  have h1 := HSL.out k hk
  unfold gW
  rw [List.length_append, List.length_take, List.length_map]
  omega
 obtain ⟨aF, aH, aJ, aK, aW, aY, bn, dM⟩ := hs4.c8 0 0 0 1 1 0 1 1 2 0 2 1 2 2 3 0
 obtain ⟨fF, gY, nP, qQ⟩ := hs4.c4 3 1 3 2 4 0 4 1
 obtain ⟨mQ, mV, mW, mX⟩ := jc hs4.bel vk qc1 vw vC
 by_cases hlt2 : j < E.length
 rotate_left
 · have hje : j = E.length := by omega
   have hnj : ¬ ((j : Int) < E.length) := by omega
   have AO := qH (show gW (size, rs) V cs k sc E j = fK (size, rs) V cs (k + 1) by rw [hje, Oh.out, MI])
   clear hje
   have ah4 := UO
   have Jd := hs4.low (B' := w1.heap.size + 1) (bx' := [(w.heap.size, #[.int .i64 size, .slice (some ⟨br, Bq, none⟩) rs.length ct0], 42), (w.heap.size + 1, #[.int .i64 V, .slice (some ⟨bc, oc, none⟩) cs.length cx], 46), (w.heap.size + 1 + 1, #[.int .i64 0, .int .i64 0, .slice none 0 0], 61), (w1.heap.size, #[.int .i64 size, .int .i64 V, .slice vb (gW (size, rs) V cs k sc E j).length vd], 61)]) (by omega) (by (try simp) <;> omega) (fun x hx => by simp only [List.mem_cons, List.not_mem_nil, or_false] at hx; rcases hx with rfl | rfl | rfl | rfl <;> (refine ⟨?_, ?_⟩ <;> (try simp) <;> (try omega)))
   go_wp2_with fail
   go_roundw
   case rel =>
    refine ⟨k + 1, vb, vd, hlt, by go_num, ?_, ?_⟩
    · rw [← AO.out]; exact Jd
    rw [← AO.out]; exact ah4.out.wk (fun z hz => ⟨hz.1, hz.2.2.2⟩)
   simp [intOf]; omega
 have hjI : (j : Int) < E.length := by omega
 obtain ⟨be, oe, ee⟩ : ∃ be oe, a9 = some ⟨be, oe, none⟩ := (dL rfl hE2.out.rd j hlt2).elim (fun be h => h.elim (fun oe h => h.elim (fun _ h => h.elim (fun _ h => ⟨be, oe, h.1⟩))))
 subst ee
 obtain ⟨v0, v1, qe0, qe1, UQ⟩ := aa1 rfl hE2.out j hlt2
 have aa8 := HEO.out _ (List.getElem_mem hlt2)
 have hTK := Jm (t := (size, rs)) (V := V) (cs := cs) (k := k) (sc := sc) hlt2
 generalize E[j] = EJ at *
 obtain ⟨L, R⟩ := EJ
 have ze := au rfl UQ.rd
 obtain ⟨rfl, hIR⟩ := aG ze.2
 obtain ⟨aL, cL, rfl, _⟩ := ah ze.1
 have HLI := qH (aa2 rfl UQ)
 have J4 := qH (show gW (size, rs) V cs k sc E (j + 1) = gW (size, rs) V cs k sc E j ++ [(dG size V sc L sc.length, R)] from hTK)
 have FC := qH (nV (U := ar.toNat) (by rw [Int.toNat_of_nonneg (by omega)]; exact aa8))
 have UR := UO
 have HE2 := hE2
 clear ze UQ aa8 hTK UO hE2
 have p7 := qe0
 have p8 := qe1
 have nR := hs4.alloc #[.slice aL L.length cL, .int .i64 R] 200 (n := wJ.heap.size) (by simp)
 have GU := qH (bM.mono UR.out (aB _ (.cells #[.slice aL L.length cL, .int .i64 R] 200)))
 clear UR
 have OJ := qH (Ip.mono HE2.out (aB _ (.cells #[.slice aL L.length cL, .int .i64 R] 200)))
 clear HE2
 have OL := qH (Ip.mono HLI.out (aB _ (.cells #[.slice aL L.length cL, .int .i64 R] 200)))
 clear HLI
 clear aF aH aJ aK aW aY bn dM fF gY nP qQ mQ mV mW mX
 obtain ⟨aF, aH, aJ, aK, aW, aY, bn, dM⟩ := nR.c8 0 0 0 1 1 0 1 1 2 0 2 1 2 2 3 0
 obtain ⟨fF, gY, nP, qQ, Gi, UU⟩ := nR.c6 3 1 3 2 4 0 4 1 5 0 5 1
 obtain ⟨mQ, mV, mW, mX⟩ := jc nR.bel vk qc1 vw vC
 go_upto_region 10 with fail
 clear p7 p8 qe0 qe1
 have avd : wJ.heap.size + 1 ≤ ((wJ.alloc (.cells #[.slice aL L.length cL, .int .i64 R] 200))).heap.size := by simp
 generalize (wJ.alloc (.cells #[.slice aL L.length cL, .int .i64 R] 200)) = wC at *
 have qh := qH (Below.refl wC.heap.size wC)
 go_cut [11] from 52 to 57 (fun x11 wx => ∃ g gM : Nat, x11 = .pointer (some ⟨g, 0, none⟩) ∧ Hid (St w wx.heap.size wx [(w.heap.size, #[.int .i64 size, .slice (some ⟨br, Bq, none⟩) rs.length ct0], 42), (w.heap.size + 1, #[.int .i64 V, .slice (some ⟨bc, oc, none⟩) cs.length cx], 46), (w.heap.size + 1 + 1, #[.int .i64 0, .int .i64 0, .slice none 0 0], 61), (w1.heap.size, #[.int .i64 size, .int .i64 V, .slice vb (gW (size, rs) V cs k sc E j).length vd], 61), (wK.heap.size, #[.int .i64 n, .slice Tq sc.length OI], 150), (wJ.heap.size, #[.slice aL L.length cL, .int .i64 R], 200), (g, #[.slice (some ⟨gM, 0, none⟩) V V, .int .i64 R], 200)]) ∧ Hid (bY [gM] wx (.slice (some ⟨gM, 0, none⟩) V V) (List.replicate V (0 : Int))) ∧ Hid (Below wC.heap.size wC wx ∧ g ≠ gM ∧ wC.heap.size ≤ g ∧ wC.heap.size ≤ gM ∧ g < wx.heap.size ∧ gM < wx.heap.size))
 case first =>
  refine iT (fun w' => cI w' w.heap.size 0 size ∧ cV w' w.heap.size 1 (.slice (some ⟨br, Bq, none⟩) rs.length ct0) ∧ cI w' (w.heap.size + 1) 0 V ∧ cV w' (w.heap.size + 1) 1 (.slice (some ⟨bc, oc, none⟩) cs.length cx) ∧ cI w' (w.heap.size + 1 + 1) 0 0 ∧ cI w' (w.heap.size + 1 + 1) 1 0 ∧ cV w' (w.heap.size + 1 + 1) 2 (.slice none 0 0) ∧ cI w' w1.heap.size 0 size ∧ cI w' w1.heap.size 1 V ∧ cV w' w1.heap.size 2 (.slice vb (gW (size, rs) V cs k sc E j).length vd) ∧ cI w' wK.heap.size 0 n ∧ cV w' wK.heap.size 1 (.slice Tq sc.length OI) ∧ cV w' wJ.heap.size 0 (.slice aL L.length cL) ∧ cI w' wJ.heap.size 1 R ∧ cI w' bc (oc + k * 2) n ∧ cV w' bc (oc + k * 2 + 1) (.slice Tq sc.length OI) ∧ cI w' br (Bq + n * 2) ar ∧ cV w' br (Bq + n * 2 + 1) (.slice arx tl.length crx)) (.z [0,1,3,4] (.mF 2 (.float 5 (.hard 6 (.last 7 .nil))) 6 (.hard 2 (.float 5 (.last 7 .nil))))) ?_ ?_
  · exact (nR.drew).d6 0 0 0 1 1 0 1 1 2 0 2 1 ((nR.drew).d8 2 2 3 0 3 1 3 2 4 0 4 1 5 0 5 1 (jc (nR.drew).bel vk qc1 vw vC:))
  have lZ := nR.drew
  have GV := qH (bM.mono GU.out (belowD _))
  clear GU
  have OO := qH (Ip.mono OJ.out (belowD _))
  clear OJ
  have OQ := qH (Ip.mono OL.out (belowD _))
  clear OL
  have wI := qH (qh.out.trans (((belowD _)).mono qh.out.size))
  clear qh
  clear aF aH aJ aK aW aY bn dM fF gY nP qQ Gi UU mQ mV mW mX
  have XC : wC.heap.size ≤ (wC.drew).heap.size := by simp
  generalize wC.drew = zi at *
  refine aV ?_
  refine zH ?_ ?_
  · refine gX fun K hK => ?_
    refine jA _ _ _ 28 rfl eH (0 : Int) iL V (by omega) rfl rfl ?_
    intro wM jF uM hzM
    have YX : Hid (bY [zi.heap.size] wM (.slice (some ⟨zi.heap.size, 0, none⟩) V V) (List.replicate V (0 : Int))) := qH (by simpa using jF)
    have hgM : zi.heap.size < wM.heap.size := by rw [hzM]; simp
    clear jF hzM
    have W9 : zi.heap.size ≤ wM.heap.size := hZ uM
    have vF := lZ.step uM
    have aes := qH (bM.mono GV.out uM)
    clear GV
    have ah7 := qH (Ip.mono OO.out uM)
    clear OO
    have ah8 := qH (Ip.mono OQ.out uM)
    clear OQ
    have UW := qH (wI.out.trans ((uM).mono wI.out.size))
    clear wI
    refine hK _ _ ⟨(vF.d6 0 0 0 1 1 0 1 1 2 0 2 1 (vF.d8 2 2 3 0 3 1 3 2 4 0 4 1 5 0 5 1 (jc vF.bel vk qc1 vw vC:))), ?_⟩
    refine aV ?_
    refine gX fun K hK => ?_
    go_wp2_with fail
    have l7 := vF.alloc #[.slice none 0 0, .int .i64 0] 200 (n := wM.heap.size) (by simp)
    clear aes
    clear ah7
    clear ah8
    have ah9 := qH (UW.out.trans (((aB _ (.cells #[.slice none 0 0, .int .i64 0] 200))).mono UW.out.size))
    clear UW
    have aia := qH (bK YX.out (aB _ (.cells #[.slice none 0 0, .int .i64 0] 200)))
    clear YX
    have QA : wM.heap.size + 1 ≤ ((wM.alloc (.cells #[.slice none 0 0, .int .i64 0] 200))).heap.size := by simp
    generalize (wM.alloc (.cells #[.slice none 0 0, .int .i64 0] 200)) = wA at *
    refine ⟨(l7.d6 0 0 0 1 1 0 1 1 2 0 2 1 (l7.d8 2 2 3 0 3 1 3 2 4 0 4 1 5 0 5 1 (jc l7.bel vk qc1 vw vC:))), ?_⟩
    refine aV ?_
    refine JY fun K hK => ?_
    obtain ⟨aF, aH, aJ, aK, aW, aY, bn, dM⟩ := l7.c8 0 0 0 1 1 0 1 1 2 0 2 1 2 2 3 0
    obtain ⟨fF, gY, nP, qQ, Gi, UU, aa9, abb⟩ := l7.c8 3 1 3 2 4 0 4 1 5 0 5 1 6 0 6 1
    obtain ⟨mQ, mV, mW, mX⟩ := jc l7.bel vk qc1 vw vC
    have f0 := (l7.aC 6 rfl 0)
    have f1 := (l7.aC 6 rfl 1)
    have PS := (l7.box (wM.heap.size, #[.slice none 0 0, .int .i64 0], 200) (by simp)).2.1
    simp only at PS
    have hq := (l7.set (p := [_, _, _, _, _, _]) (by simp <;> omega) 0 (.slice (some ⟨zi.heap.size, 0, none⟩) V V)).set (p := [_, _, _, _, _, _]) (by simp <;> omega) 1 (.int .i64 R)
    go_wp2_with fail
    refine iF ?_
    go_wp2_with fail
    go_meet
    have ho := ((aP.refl [wM.heap.size] wA).setCell (p := ⟨wM.heap.size, 0, none⟩) (by simp) (.slice (some ⟨zi.heap.size, 0, none⟩) V V)).setCell (p := ⟨wM.heap.size, 1, none⟩) (by simp) (.int .i64 R)
    refine ⟨wM.heap.size, zi.heap.size, rfl, (hq.up hq.hi (Nat.le_refl _)).sub (fun x hx => ?_), dZ aia.out ho (fun k h1 h2 => by simp at h1 h2; omega), ah9.out.trans (ho.below (by simp; omega)), by omega, by omega, by omega, by rw [ho.size]; omega, by rw [ho.size]; omega⟩
    simp only [List.mem_cons, List.not_mem_nil, or_false] at hx
    rcases hx with rfl | rfl | rfl | rfl | rfl | rfl | rfl <;> simp
  refine gX fun K hK => ?_
  go_wp2_with fail
  have wQ := lZ.alloc #[.slice none 0 0, .int .i64 0] 200 (n := zi.heap.size) (by simp)
  have aeu := qH (bM.mono GV.out (aB _ (.cells #[.slice none 0 0, .int .i64 0] 200)))
  clear GV
  have aib := qH (Ip.mono OO.out (aB _ (.cells #[.slice none 0 0, .int .i64 0] 200)))
  clear OO
  have aic := qH (Ip.mono OQ.out (aB _ (.cells #[.slice none 0 0, .int .i64 0] 200)))
  clear OQ
  have UY := qH (wI.out.trans (((aB _ (.cells #[.slice none 0 0, .int .i64 0] 200))).mono wI.out.size))
  clear wI
  have QA : zi.heap.size + 1 ≤ ((zi.alloc (.cells #[.slice none 0 0, .int .i64 0] 200))).heap.size := by simp
  generalize (zi.alloc (.cells #[.slice none 0 0, .int .i64 0] 200)) = wA at *
  refine ⟨(wQ.d6 0 0 0 1 1 0 1 1 2 0 2 1 (wQ.d8 2 2 3 0 3 1 3 2 4 0 4 1 5 0 5 1 (jc wQ.bel vk qc1 vw vC:))), ?_⟩
  refine aV ?_
  refine gX fun K hK => ?_
  refine jA _ _ _ 28 rfl eH (0 : Int) iL V (by omega) rfl rfl ?_
  intro wM jF uM hzM
  have YX : Hid (bY [wA.heap.size] wM (.slice (some ⟨wA.heap.size, 0, none⟩) V V) (List.replicate V (0 : Int))) := qH (by simpa using jF)
  have hgM : wA.heap.size < wM.heap.size := by rw [hzM]; simp
  clear jF hzM
  have W9 : wA.heap.size ≤ wM.heap.size := hZ uM
  have ku := wQ.step uM
  clear aeu
  clear aib
  clear aic
  have aie := qH (UY.out.trans ((uM).mono UY.out.size))
  clear UY
  refine hK _ _ ⟨(ku.d6 0 0 0 1 1 0 1 1 2 0 2 1 (ku.d8 2 2 3 0 3 1 3 2 4 0 4 1 5 0 5 1 (jc ku.bel vk qc1 vw vC:))), ?_⟩
  refine aV ?_
  refine JY fun K hK => ?_
  obtain ⟨aF, aH, aJ, aK, aW, aY, bn, dM⟩ := ku.c8 0 0 0 1 1 0 1 1 2 0 2 1 2 2 3 0
  obtain ⟨fF, gY, nP, qQ, Gi, UU, aa9, abb⟩ := ku.c8 3 1 3 2 4 0 4 1 5 0 5 1 6 0 6 1
  obtain ⟨mQ, mV, mW, mX⟩ := jc ku.bel vk qc1 vw vC
  have f0 := (ku.aC 6 rfl 0)
  have f1 := (ku.aC 6 rfl 1)
  have PS := (ku.box (zi.heap.size, #[.slice none 0 0, .int .i64 0], 200) (by simp)).2.1
  simp only at PS
  have hq := (ku.set (p := [_, _, _, _, _, _]) (by simp <;> omega) 0 (.slice (some ⟨wA.heap.size, 0, none⟩) V V)).set (p := [_, _, _, _, _, _]) (by simp <;> omega) 1 (.int .i64 R)
  go_wp2_with fail
  refine iF ?_
  go_wp2_with fail
  go_meet
  have ho := ((aP.refl [zi.heap.size] wM).setCell (p := ⟨zi.heap.size, 0, none⟩) (by simp) (.slice (some ⟨wA.heap.size, 0, none⟩) V V)).setCell (p := ⟨zi.heap.size, 1, none⟩) (by simp) (.int .i64 R)
  refine ⟨zi.heap.size, wA.heap.size, rfl, (hq.up hq.hi (Nat.le_refl _)).sub (fun x hx => ?_), dZ YX.out ho (fun k h1 h2 => by simp at h1 h2; omega), aie.out.trans (ho.below (by simp; omega)), by omega, by omega, by omega, by rw [ho.size]; omega, by rw [ho.size]; omega⟩
  simp only [List.mem_cons, List.not_mem_nil, or_false] at hx
  rcases hx with rfl | rfl | rfl | rfl | rfl | rfl | rfl <;> simp
 obtain ⟨g, gM, rfl, OT, abd, hxC⟩ := hcut
 obtain ⟨hbC, ahk, hg1, hg2, hg3, hg4⟩ := hxC.out
 have hzC := hbC.size
 have HA3 := qH ((GU.out).mono hbC)
 have YA := qH ((OJ.out).mono hbC)
 have HL3 := qH ((OL.out).mono hbC)
 clear GU
 clear OJ
 clear OL
 clear qh
 obtain ⟨aF, aH, aJ, aK, aW, aY, bn, dM⟩ := OT.out.c8 0 0 0 1 1 0 1 1 2 0 2 1 2 2 3 0
 obtain ⟨fF, gY, nP, qQ, Gi, UU, aa9, abb⟩ := OT.out.c8 3 1 3 2 4 0 4 1 5 0 5 1 6 0 6 1
 obtain ⟨mQ, mV, mW, mX⟩ := jc OT.out.bel vk qc1 vw vC
 have HS3 := qH (show bY [gM] wc (.slice (some ⟨gM, 0, none⟩) V V) (dG size V sc L 0) from abd.out)
 clear hbC
 go_wp2_with fail
 go_loopw [61] (fun iv wl => ∃ i : Nat, i ≤ sc.length ∧ iv = .int .i64 i ∧ Hid (But [gM] wc wl) ∧ Hid (bY [gM] wl (.slice (some ⟨gM, 0, none⟩) V V) (dG size V sc L i))) (fun iv _ => sc.length - (intOf iv).toNat)
 case atStart => exact ⟨0, Nat.zero_le _, rfl, But.refl _ _, HS3.out⟩
 clear HS3 abd
 obtain ⟨i, hi, rfl, Em, how⟩ := hrel
 have hzT := Em.out.size
 have hs6 := OT.out.sK Em.out (fun k hk => by simp at hk; omega) (fun x hx => by simp only [List.mem_cons, List.not_mem_nil, or_false] at hx ⊢; rcases hx with rfl | rfl | rfl | rfl | rfl | rfl | rfl <;> (try simp only) <;> omega)
 have hbP := Em.out.lU (A := fun z => z = gM) (fun k hk => by simpa using hk)
 obtain ⟨aF, aH, aJ, aK, aW, aY, bn, dM⟩ := hs6.c8 0 0 0 1 1 0 1 1 2 0 2 1 2 2 3 0
 obtain ⟨fF, gY, nP, qQ, Gi, UU, aa9, abb⟩ := hs6.c8 3 1 3 2 4 0 4 1 5 0 5 1 6 0 6 1
 obtain ⟨mQ, mV, mW, mX⟩ := jc hs6.bel vk qc1 vw vC
 by_cases hlt3 : i < sc.length
 rotate_left
 · obtain rfl : i = sc.length := by omega
   have hnl : ¬ ((sc.length : Int) < sc.length) := by omega
   have HA4 := qH (HA3.out.lU hbP (fun k h1 h2 => by (try simp only at h1 h2); omega))
   have HE4 := qH (YA.out.lU hbP (fun k h1 h2 => by (try simp only at h1 h2); omega))
   have HKE := qH (show Ip (fun z => z = gM) wr [.slice (some ⟨gM, 0, none⟩) V V, .int .i64 R] ((dG size V sc L sc.length, R) : nG) from vO (A := fun z => z = gM) (B := fun _ => False) ⟨[gM], ⟨_, rfl, how.out⟩, by simp, fun k hk => by simpa using hk⟩ ⟨[], ⟨rfl, rfl, hIR⟩, by simp, by simp⟩ (fun k _ h => h) (fun k h => h) (fun k h => h.elim))
   have q9 := (hs6.c 6 0)
   have q10 := (hs6.c 6 1)
   have q11 := (hs6.c 3 2)
   have arD := hs6.low (B' := wK.heap.size + 1) (bx' := [(w.heap.size, #[.int .i64 size, .slice (some ⟨br, Bq, none⟩) rs.length ct0], 42), (w.heap.size + 1, #[.int .i64 V, .slice (some ⟨bc, oc, none⟩) cs.length cx], 46), (w.heap.size + 1 + 1, #[.int .i64 0, .int .i64 0, .slice none 0 0], 61), (w1.heap.size, #[.int .i64 size, .int .i64 V, .slice vb (gW (size, rs) V cs k sc E j).length vd], 61), (wK.heap.size, #[.int .i64 n, .slice Tq sc.length OI], 150)]) (by omega) (by (try simp) <;> omega) (fun x hx => by simp only [List.mem_cons, List.not_mem_nil, or_false] at hx; rcases hx with rfl | rfl | rfl | rfl | rfl <;> (refine ⟨?_, ?_⟩ <;> (try simp) <;> (try omega)))
   have zA := aB wr (.cells #[.slice (some ⟨gM, 0, none⟩) V V, .int .i64 R] 200)
   have xw := qH (arD.step zA)
   have abe := J4
   clear hbP
   go_wp2_with (at_builtin; refine bW _ rfl _ _ _ rfl BA rfl (bM.mono HA4.out (aB _ _)) (Ip.mono HKE.out (aB _ _)) (fun z h1 h2 => by (try simp only at h1 h2); omega) ⟨wr.heap.size, 0, none⟩ 1 rfl (E8 (aA (heap_alloc_new _ _)) (aA (heap_alloc_new _ _))) (by omega) ?_; intro a7 c7 w7 Z8 Oe; have hs8 := xw.out.lU Oe (fun z hz => by have := hz.1; omega) (fun x hx hA => by have h1 := hA.1; have h2 := hA.2.1; have h3 := hA.2.2; simp only [List.mem_cons, List.not_mem_nil, or_false] at hx; rcases hx with rfl | rfl | rfl | rfl | rfl <;> (try simp only at h1 h2 h3) <;> omega); have q2 := hs8.c 3 2; have f2 := hs8.aC 3 rfl 2)
   have hz7 := Oe.size
   have Y3 : wr.heap.size < w7.heap.size := by (try simp at hz7); omega
   have HA8 := qH ((bM.setCell (b := w1.heap.size) (o := 2) Z8.tight (.slice a7 ((gW (size, rs) V cs k sc E j).length + 1) c7) (by intro jG; (try simp at jG); omega)).wk (C := fun z => w1.heap.size + 1 ≤ z ∧ z ≠ wK.heap.size ∧ (z < wK.heap.size ∨ wB.heap.size ≤ z) ∧ z < w7.heap.size) (fun z hz => by
    have h2 := hz.2
    rcases hz.1 with h | h | h
    · (try simp only at h); omega
    · (try simp only at h); omega
    · simp at h; omega))
   have HE8 := qH (Ip.setCell (b := w1.heap.size) (o := 2) ((HE4.out.mono zA).lU Oe (fun k h1 h2 => by (try simp only at h1 h2); omega)) (.slice a7 ((gW (size, rs) V cs k sc E j).length + 1) c7) (by intro jG; (try simp only at jG); omega))
   have HQ8 := qH (hs8.set (p := [_, _, _]) (by simp <;> omega) 2 (.slice a7 ((gW (size, rs) V cs k sc E j).length + 1) c7))
   have HSZ := qH (show (w7.setCell ⟨w1.heap.size, 2, none⟩ (.slice a7 ((gW (size, rs) V cs k sc E j).length + 1) c7)).heap.size = w7.heap.size by simp [World.setCell])
   go_wp2_with fail
   go_roundw
   case measure => simp [intOf]; omega
   refine ⟨j + 1, a7, c7, hlt2, by go_num, ?_, ?_, ?_, HE8.out⟩
   · rw [abe.out, List.length_append]; exact HQ8.out
   · show _ ≤ _; rw [HSZ.out]; omega
   rw [abe.out, List.length_append]; exact HA8.out.wk (fun z hz => by rw [HSZ.out]; exact hz)
 have hiI : (i : Int) < sc.length := by omega
 have aif := Y5.out.1
 have hLl : L.length = ar.toNat := FC.out.1
 have hiL : i < L.length := by omega
 have axZ : (i : Int) < L.length := by omega
 have hsb : sc.length ≤ 4 := by omega
 clear aif hLl
 have hLR := qH (HL3.out.lU hbP (fun k h1 h2 => by (try simp only at h1 h2); omega)).rd
 obtain ⟨bS, oS, eS, qS, _⟩ := aI ((Rd.mono qU.out hs6.bel)) i hlt3
 subst eS
 obtain ⟨bL, oL, eL, qL, _⟩ := aI hLR.out i hiL
 subst eL
 have hv := Y5.out.2 i hlt3
 have hA := FC.out.2.1.get i hiL
 have hSD : sc.getD i 0 = sc[i] := by rw [List.getD, List.getElem?_eq_getElem hlt3]; rfl
 have hLD : L.getD i 0 = L[i] := by rw [List.getD, List.getElem?_eq_getElem hiL]; rfl
 have hss : dG size V sc L (i + 1) = (dG size V sc L i).set (sc.getD i 0).toNat (((dG size V sc L i).getD (sc.getD i 0).toNat 0 + L.getD i 0) % size) := rfl
 rw [hSD, hLD] at hss
 obtain ⟨vn, hvn⟩ : ∃ vn : Nat, sc[i] = (vn : Int) := ⟨sc[i].toNat, by omega⟩
 rw [hvn] at hss qS hv
 rw [Int.toNat_natCast] at hss
 generalize L[i] = A at *
 have hvV : vn < (dG size V sc L i).length := by rw [yO]; omega
 have hvI : (vn : Int) < V := by omega
 obtain ⟨g', o', c', hv', hps, hcd, hf0, _⟩ := lF how.out vn hvV
 simp only [Value.slice.injEq, Option.some.injEq, Addr.mk.injEq] at hv'
 obtain ⟨⟨rfl, rfl, -⟩, -, rfl⟩ := hv'
 have hO := (yP (show 0 < size by omega) V sc L i).get vn hvV
 have hOD : (dG size V sc L i).getD vn 0 = (dG size V sc L i)[vn] := by rw [List.getD, List.getElem?_eq_getElem hvV]; rfl
 rw [hOD] at hss hcd
 have HSS := qH hss
 generalize (dG size V sc L i)[vn] = OLD at *
 rw [Nat.zero_add] at hcd hf0
 have hw1 : IntKind.i64.wrap (OLD + A) = OLD + A := i64_in _ (by omega)
 have hT : (OLD + A).tmod size = (OLD + A) % size := Int.tmod_eq_emod_of_nonneg (by omega)
 have hm0 := Int.emod_nonneg (OLD + A) (show size ≠ 0 by omega)
 have hm1 := Int.emod_lt_of_pos (OLD + A) (show 0 < size by omega)
 have hp1 : size ≠ 0 := by omega
 have hw2 : IntKind.i64.wrap ((OLD + A) % size) = (OLD + A) % size := i64_in _ (by omega)
 have HNI := qH (show I64 ((OLD + A) % size) from jf _ (by omega) (by omega))
 have HOW := how
 clear hss hSD hLD hOD hO hps how
 go_upto_region 14 with fail
 refine iT (fun w' => cI w' w.heap.size 0 size ∧ cV w' w.heap.size 1 (.slice (some ⟨br, Bq, none⟩) rs.length ct0) ∧ cI w' (w.heap.size + 1) 0 V ∧ cV w' (w.heap.size + 1) 1 (.slice (some ⟨bc, oc, none⟩) cs.length cx) ∧ cI w' (w.heap.size + 1 + 1) 0 0 ∧ cI w' (w.heap.size + 1 + 1) 1 0 ∧ cV w' (w.heap.size + 1 + 1) 2 (.slice none 0 0) ∧ cI w' w1.heap.size 0 size ∧ cI w' w1.heap.size 1 V ∧ cV w' w1.heap.size 2 (.slice vb (gW (size, rs) V cs k sc E j).length vd) ∧ cI w' wK.heap.size 0 n ∧ cV w' wK.heap.size 1 (.slice (some ⟨bS, oS, none⟩) sc.length OI) ∧ cV w' wJ.heap.size 0 (.slice (some ⟨bL, oL, none⟩) L.length cL) ∧ cI w' wJ.heap.size 1 R ∧ cV w' g 0 (.slice (some ⟨gM, 0, none⟩) V V) ∧ cI w' g 1 R ∧ cI w' bc (oc + k * 2) n ∧ cV w' bc (oc + k * 2 + 1) (.slice (some ⟨bS, oS, none⟩) sc.length OI) ∧ cI w' br (Bq + n * 2) ar ∧ cV w' br (Bq + n * 2 + 1) (.slice arx tl.length crx) ∧ cI w' bS (oS + i) vn ∧ cI w' bL (oL + i) A ∧ cI w' gM vn OLD) (.z [0,1,2,3,4,5,6,7,8,9,10,11,12,13,14,15,16,17] (.last 18 .nil)) ?_ ?_
 · exact ⟨(hs6.drew).c 0 0, (hs6.drew).c 0 1, (hs6.drew).c 1 0, (hs6.drew).c 1 1, (hs6.drew).c 2 0, (hs6.drew).c 2 1, (hs6.drew).c 2 2, (hs6.drew).c 3 0, (hs6.drew).c 3 1, (hs6.drew).c 3 2, (hs6.drew).c 4 0, (hs6.drew).c 4 1, (hs6.drew).c 5 0, (hs6.drew).c 5 1, (hs6.drew).c 6 0, (hs6.drew).c 6 1, qC (hs6.drew).bel vk, qC (hs6.drew).bel qc1, qC (hs6.drew).bel vw, qC (hs6.drew).bel vC, qC (belowD _) qS, qC (belowD _) qL, qC (belowD _) hcd⟩
 have abf := hs6.drew
 have ave := qC (belowD _) qS
 clear qS
 have avf := qC (belowD _) qL
 clear qL
 have arH := qC (belowD _) hcd
 clear hcd
 have aii := qH (bK HOW.out (belowD _))
 clear HOW
 clear aF aH aJ aK aW aY bn dM fF gY nP qQ Gi UU aa9 abb mQ mV mW mX
 have aoC : wr.heap.size ≤ (wr.drew).heap.size := by simp
 generalize MJ : wr.drew = amq at *
 have aew := qH MJ
 clear MJ
 refine aV ?_
 refine JY fun K hK => ?_
 obtain ⟨aF, aH, aJ, aK, aW, aY, bn, dM⟩ := abf.c8 0 0 0 1 1 0 1 1 2 0 2 1 2 2 3 0
 obtain ⟨fF, gY, nP, qQ, Gi, UU, aa9, abb⟩ := abf.c8 3 1 3 2 4 0 4 1 5 0 5 1 6 0 6 1
 obtain ⟨mQ, mV, mW, mX⟩ := jc abf.bel vk qc1 vw vC
 obtain ⟨g', o', c', hv', hps, hcd2, hf2, hset⟩ := lF (aii.out) vn hvV
 simp only [Value.slice.injEq, Option.some.injEq, Addr.mk.injEq] at hv'
 obtain ⟨⟨rfl, rfl, -⟩, -, rfl⟩ := hv'
 have h9 := hset ((OLD + A) % size) HNI.out
 rw [Nat.zero_add] at h9 hf2
 rw [← HSS.out] at h9
 have H9 := qH h9
 have HBD := qH (show But [gM] wc amq from by rw [← aew.out]; exact Em.out.trans (Hq (belowD _)))
 clear h9 hset hcd2 hps hf0
 go_wp2_with fail
 refine iF ?_
 go_wp2_with fail
 go_roundw
 case rel => exact ⟨i + 1, hlt3, by go_num, HBD.out.trans ((aP.refl [gM] amq).setCell (p := ⟨gM, vn, none⟩) (by simp) _).but, H9.out⟩
 simp [intOf]; omega
end Go.Proofs.YtoblfnoaepbhfaaGreat
