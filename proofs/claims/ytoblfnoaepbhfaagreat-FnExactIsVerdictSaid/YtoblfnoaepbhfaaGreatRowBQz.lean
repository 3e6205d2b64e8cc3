import Derived.Test.YtoblfnoaepbhfaaGreatRowsBQz
import Derived.Test.YtoblfnoaepbhfaaGreatKindsQz
import Derived.Test.YtoblfnoaepbhfaaGreatSysBQz
set_option linter.unusedSimpArgs false
set_option linter.unusedVariables false
set_option maxHeartbeats 4000000
set_option maxRecDepth 100000
namespace Go.Proofs.YtoblfnoaepbhfaaGreat
open Go.Proofs.Tryz
open Go.RowKit Go.Shelf
open Rep (Rd Own sz)
def ZY (g : Nat) (cb : Array Value) (w : World) (l : List pR) (q : pR → Bool) : Prop :=
 ∀ (W : World) (x : pR) (u0 u1 : Value), Below w.heap.size w W → Rd W [u0, u1] x → x ∈ l → Calls prog g (#[.agg #[u0, u1]] ++ cb) W fun e w' => e = .returned (.bool (q x)) ∧ Below W.heap.size W w'
theorem zS (l : List pR) (v : Value) (g : Nat) (cb : Array Value) (q : pR → Bool) (w : World) (r : Rd w [v] l)
 (eg : ∀ args w, (callFunc g args).run prog w = .ok (.enter g args) w) (hby : ZY g cb w l q) :
 Calls prog 282 #[v, .func (.func g) #[] cb] w fun e w' => e = .returned (.int .i64 (dN q l)) ∧ Below w.heap.size w w' := by
 obtain ⟨a, c, rfl, h⟩ := ah r
 clear r
 have hb := (aN h).2
 unfold maxLen at hb
 generalize hn : l.length = n at *
 have HN := qH hn
 have HH := qH h
 have CO := qH hby
 clear hn h hby
 go_enter func282, ntmps282
 go_wp2_with fail
 go_loopw [8] (fun i wr => ∃ k : Nat, k ≤ n ∧ i = .int .i64 k ∧ Hid (Below w.heap.size w wr) ∧ Hid (∀ j (hj : j < l.length), j < k → q l[j] = false)) (fun i _ => n - (intOf i).toNat)
 case atStart => exact ⟨0, Nat.zero_le _, rfl, Below.refl _ _, fun j _ hj => absurd hj (Nat.not_lt_zero _)⟩
 obtain ⟨k, hk, rfl, hbl, hr⟩ := hrel
 by_cases hlt : k < n
 rotate_left
 · obtain rfl : k = n := by omega
   go_wp2_with fail
   go_ret
   refine ⟨aU ?_, hbl.out⟩
   rw [nM (fun j hj _ => hr.out j hj (by have := HN.out; omega))]
 have k1 : k < l.length := by rw [HN.out]; exact hlt
 obtain ⟨b, o, u0, u1, rfl, q0, q1, hx⟩ := dP rfl (aS hbl.out HH.out) k k1
 have HX := qH hx
 clear hx
 go_wp2_with fail
 go_at_fn g
 refine (CO.out _ l[k] _ _ hbl.out HX.out (List.getElem_mem k1)).mono ?_
 rintro e w1 ⟨rfl, hb1⟩
 cases hq : q l[k]
 rotate_left
 · have HQ := qH hq
   clear hq
   go_wp2_with fail
   go_ret
   exact ⟨aU (nK k1 (fun j hj h => hr.out j hj h) HQ.out).symm, hbl.out.trans (hb1.mono hbl.out.size)⟩
 have HQ := qH hq
 clear hq
 go_wp2_with fail
 go_roundw
 case rel =>
  refine ⟨k + 1, by omega, by go_num, hbl.out.trans (hb1.mono hbl.out.size), ?_⟩
  intro j hj hjk
  rcases Nat.lt_or_ge j k with h | h
  · exact hr.out j hj h
  obtain rfl : j = k := by omega
  exact HQ.out
 simp [intOf]; omega
theorem Ye {α : Type} [Rep α] {w : World} {b o c : Nat} {l : List α} (h : Bz w (some ⟨b, o, none⟩) c l) (d : Nat) (hd : d ≤ l.length) : Bz w (some ⟨b, o + d * sz α, none⟩) (c - d) (l.drop d) := by
 refine ⟨by simp; have := h.1; omega, by have := h.2.1; omega, fun i hi => ?_⟩
 have hi' : d + i < l.length := by simp at hi; omega
 obtain ⟨b', o', vs, e, hr, hc⟩ := h.2.2 (d + i) hi'
 simp only [Option.some.injEq, Addr.mk.injEq, and_true] at e
 obtain ⟨rfl, rfl⟩ := e
 refine ⟨b, _, vs, rfl, by simpa using hr, ?_⟩
 rw [show o + d * sz α + i * sz α = o + (d + i) * sz α by rw [Nat.add_mul]; omega]
 exact hc
theorem Fb (w : World) (b u : Nat) (l : List pR) (hc : w.cell? ⟨b, 0, none⟩ = some (.int .i64 u)) (hl : ∀ r, r ∈ l → u < r.1.length ∧ r.1.length ≤ 1000000) : ZY 283 #[.pointer (some ⟨b, 0, none⟩)] w l (fun r => r.1.getD u 0 != 0) := by
 intro W x u0 u1 hb hr hm
 obtain ⟨hu, hx6⟩ := hl x hm
 have hcW := qC hb hc
 show Calls prog 283 #[_, .pointer (some ⟨b, 0, none⟩)] W _
 obtain ⟨xl, xb⟩ := x
 have z := au rfl hr
 obtain ⟨a, c, rfl, _⟩ := ah z.1
 obtain ⟨a', c', rfl, _⟩ := ah z.2
 simp only at hu hx6
 have hs := (St.start W).alloc #[.slice a xl.length c, .slice a' xb.length c'] 223 rfl
 obtain ⟨b2, o2, rfl, hc2, _⟩ := aI z.1 u hu
 obtain ⟨hc3, hc4⟩ := iQ hs.bel hc2 hcW
 have e1 : xl.getD u 0 = xl[u] := by simp [List.getD, hu]
 have E1 := qH e1
 clear e1 z hr hm
 have Zc : (u : Int) < xl.length := by omega
 generalize hA : xl[u] = A at *
 have HA := qH hA
 clear hA
 go_enter func283, ntmps283
 go_wp2_with fail
 first
  | (go_quiet (fail); go_wp2_with fail; go_ret; exact ⟨ak (by first | rw [HA.out] | (show _ = (xl.getD u 0 != 0); rw [E1.out])), hs.bel.trans ((dQ _ _).mono hs.bel.size)⟩)
  | (go_ret; exact ⟨ak (by first | rw [HA.out] | (show _ = (xl.getD u 0 != 0); rw [E1.out])), hs.bel⟩)
theorem Dl (w : World) (l : List pR) (hl : ∀ r, r ∈ l → 0 < r.1.length ∧ r.1.length ≤ 1000000) : ZY 285 #[] w l jY := by
 intro W x u0 u1 hb hr hm
 obtain ⟨hu, hx6⟩ := hl x hm
 show Calls prog 285 #[_] W _
 have z := au rfl hr
 obtain ⟨a, c, rfl, _⟩ := ah z.1
 obtain ⟨a', c', rfl, _⟩ := ah z.2
 have HR := qH hr
 clear z hr hm
 have hs := (St.start W).alloc #[.slice a x.1.length c, .slice a' x.2.length c'] 223 rfl
 go_enter func285, ntmps285
 go_wp2_with fail
 refine (Qn x _ _ _ (Rd.mono HR.out hs.bel) hu hx6).mono ?_
 rintro e w1 ⟨rfl, hb1⟩
 have hs1 := hs.step hb1
 obtain ⟨k0, k1⟩ := hs1.c2 0 0 0 1
 cases hn : Ld x.1
 · have HN := qH hn
   clear hn
   go_wp2_with fail
   go_ret
   exact ⟨ak (by simp [jY, HN.out]), hs1.bel⟩
 have HN := qH hn
 clear hn
 go_wp2_with fail
 refine (N8 x _ _ _ (Rd.mono HR.out hs1.bel) hu hx6).mono ?_
 rintro e w2 ⟨rfl, hb2⟩
 go_wp2_with fail
 go_ret
 exact ⟨ak (by simp [jY, HN.out]), (hs1.step hb2).bel⟩
theorem FZ (l : List pR) (v : Value) (w : World) (r : Rd w [v] l) (hl : ∀ r, r ∈ l → 0 < r.1.length ∧ r.1.length ≤ 1000000) :
 Calls prog 160 #[v] w fun e w' => ∃ (a0 : Option Addr) (n0 c0 : Nat) (a1 : Option Addr) (n1 c1 : Nat), e = .returned (.tuple #[.agg #[.slice a0 n0 c0, .slice a1 n1 c1], .bool (decide (0 ≤ dN jY l))]) ∧ Below w.heap.size w w' ∧ ∀ i (h : i < l.length), dN jY l = i → Rd w' [.slice a0 n0 c0, .slice a1 n1 c1] l[i] := by
 obtain ⟨a, c, rfl, h⟩ := ah r
 have hb := (aN h).2
 unfold maxLen at hb
 have HR := qH r
 clear r h
 have eg : ∀ args w, (callFunc 285 args).run prog w = .ok (.enter 285 args) w := enters_of func285 (by kernel_rfl) rfl
 have hs := (St.start w).alloc #[.slice none 0 0, .slice none 0 0] 223 rfl
 go_enter func160, ntmps160
 go_wp2_with fail
 refine (zS l _ 285 _ _ _ (Rd.mono HR.out hs.bel) eg (Dl _ l hl)).mono ?_
 rintro e w1 ⟨he0, hb1⟩
 have hs1 := hs.step hb1
 obtain ⟨k0, k1⟩ := hs1.c2 0 0 0 1
 have g0 := hs1.aC 0 rfl 0
 have g1 := hs1.aC 0 rfl 1
 have hlo := qK jY l
 by_cases hf : dN jY l < 0
 · have HF := qH hf
   have hd : Hid (decide (0 ≤ dN jY l) = false) := qH (by simpa using hf)
   have x1 := hs1.set (p := []) (by simp) 0 (.slice none 0 0)
   have x2 := x1.set (p := []) (by simp) 1 (.slice none 0 0)
   have hm1 : dN jY l = -1 := by omega
   rw [hm1] at he0
   subst he0
   clear hf hm1
   go_wp2_with fail
   refine bodyPost_ret (v := .tuple #[.agg #[.slice none 0 0, .slice none 0 0], .bool false]) (by simp [results, results160, go_sem, k0, k1, g0, g1]) rfl ⟨none, 0, 0, none, 0, 0, by rw [hd.out], x2.bel, fun i hi he => ?_⟩
   have := HF.out
   omega
 have hd : Hid (decide (0 ≤ dN jY l) = true) := qH (by simpa using hf)
 obtain ⟨i, hi, hi2⟩ : ∃ i : Nat, dN jY l = i ∧ i < l.length := by
  unfold dN at hf ⊢
  cases h : l.findIdx? jY with
  | none => rw [h] at hf; exact absurd (by decide : (-1 : Int) < 0) hf
  | some i => exact ⟨i, rfl, Dc h⟩
 have HI := qH hi
 rw [hi] at he0
 subst he0
 obtain ⟨b, o, u0, u1, rfl, f0, f1, hx⟩ := dL rfl (Rd.mono HR.out hs1.bel) i hi2
 have z := au rfl hx
 obtain ⟨a0, c0, rfl, _⟩ := ah z.1
 obtain ⟨a1, c1, rfl, _⟩ := ah z.2
 have hil : (i : Int) < l.length := by omega
 have x1 := hs1.set (p := []) (by simp) 0 (.slice a0 l[i].1.length c0)
 have x2 := x1.set (p := []) (by simp) 1 (.slice a1 l[i].2.length c1)
 clear hf hi z hx hlo
 have HR0 := qH (dL rfl HR.out i hi2)
 go_wp2_with fail
 refine bodyPost_ret (v := .tuple #[.agg #[.slice a0 l[i].1.length c0, .slice a1 l[i].2.length c1], .bool true]) (by simp [results, results160, go_sem, k0, k1, g0, g1]) rfl ⟨_, _, _, _, _, _, by rw [hd.out], x2.bel, fun i' hi' he => ?_⟩
 obtain rfl : i = i' := by have := HI.out; omega
 obtain ⟨b', o', y0, y1, e', g0', g1', hy⟩ := HR0.out
 simp only [Option.some.injEq, Addr.mk.injEq, and_true] at e'
 obtain ⟨rfl, rfl⟩ := e'
 obtain ⟨t0, t1⟩ := iQ hs1.bel g0' g1'
 rw [f0] at t0
 rw [f1] at t1
 simp only [Option.some.injEq] at t0 t1
 subst t0 t1
 exact Rd.mono hy x2.bel
theorem F5 {P : Program} {w : World} {base : Nat} {t ty e : TypeId} {i : TypeInfo} {size : Nat} (ht : P.underlying t = some (.slice e)) (hi : P.info? e = some i)
 {v : Value} {n : Nat} {xs : List Value} (hown : w.ownsRow base e size v n xs) (a : Option Addr) (c : Nat) :
 (Builtin.append_ #[t, t] ty #[v, .slice a 0 c]).run P w = .ok v w := by
 rcases hown.2 with ⟨rfl, rfl⟩ | ⟨g, cap, cur, rfl, _, _, hnc, _⟩
 · cases a <;> simp [Builtin.append_, run_underlying ht, sizeOf, typeInfo, hi, Builtin.lenOf, Builtin.firstCells, loadCells, loadCellsFrom]
 cases a <;> simp [Builtin.append_, run_underlying ht, sizeOf, typeInfo, hi, Builtin.lenOf, Builtin.firstCells, hnc, storeCells, loadCells, loadCellsFrom]
theorem BP {P : Program} (w : World) {ops : Array Oper} {rest : List Oper} {o : Oper} {a : Act} {Q : Exit → Act → World → Prop} (hgd : o.guard = none) (s x : Operand) (t : TypeId)
 (ho : o.op = .call { callee := .builtin .append, args := #[s, x], argTypes := #[t, t] }) {e : TypeId} {α : Type} [Rep α] {z : Value} {bytes : Nat} (E : iK P t e α z bytes) {B H : Nat} {v : Value} {l : List α}
 (hs : a.eval s = v) (hacc : Acc B H e w v l) (ad : Option Addr) (c : Nat) (hx : a.eval x = .slice ad 0 c)
 (h : wpList P ops Q rest (a.put o.dst v) w) : wpList P ops Q (o :: rest) a w := by
 refine wpList_plain hgd fun K hK => ?_
 obtain ⟨i, hi, _⟩ := E.info
 obtain ⟨xs, cZ, h1, _⟩ := hacc
 have hr := F5 (P := P) (ty := o.type) E.und hi h1 ad c
 unfold Oper.wp execOp
 simp only [ho, resolve, invoke, builtin, Sem.run_bind, Sem.run_pure, Result.andThen_ok, List.map_toArray, List.map_cons, List.map_nil, hs, hx, hr]
 exact hK _ _ h
theorem uK (l : List Int) (v : Value) (w : World) (r : Rd w [v] l) (hl : l.length ≤ 1073741824) :
 Calls prog 220 #[v] w fun e w' => ∃ v', e = .returned v' ∧ Acc w.heap.size w'.heap.size 2 w' v' l ∧ Below w.heap.size w w' := by
 obtain ⟨a, c, rfl, h⟩ := ah r
 have HR := qH h
 clear r h
 have hacc : Acc w.heap.size (w.heap.size + 1) 2 (w.alloc (.cells #[] 2)) (.slice (some ⟨w.heap.size, 0, none⟩) 0 0) ([] : List Int) := mJ w 2
 cases l with
 | nil =>
  go_enter func220, ntmps220
  go_wp2_with (refine BP _ rfl _ _ _ rfl eH rfl hacc a c rfl ?_)
  go_wp2_with fail
  go_ret
  exact ⟨_, rfl, by simpa using hacc, aB _ _⟩
 | cons n0 l0 =>
  obtain ⟨b, o, -, rfl, -, -⟩ := HR.out.2.2 0 (by simp)
  generalize n0 :: l0 = l at *
  have hnews : ∀ j u, (iM l)[j]? = some u → w.cell? ((⟨b, o, none⟩ : Addr).add j) = some u ∧ I64 (l.getD j 0) := by
   intro j u hu
   have hj : j < l.length := by have := (List.getElem?_eq_some_iff.1 hu).1; simpa [iM] using this
   obtain ⟨b', o', e, hc, hI⟩ := eF HR.out j hj
   simp only [Option.some.injEq, Addr.mk.injEq] at e
   obtain ⟨rfl, rfl, -⟩ := e
   have hadd : ((⟨b, o, none⟩ : Addr).add j) = ⟨b, o + j, none⟩ := by unfold Addr.add; split <;> simp_all
   rw [hadd, hc]
   refine ⟨?_, hI⟩
   rw [← hu]; simp [iM, hj, List.getD]
  have hI : ∀ a, a ∈ l → I64 a := by
   intro a ha
   obtain ⟨j, hj, rfl⟩ := List.getElem_of_mem ha
   have := (hnews j _ (List.getElem?_eq_getElem (by simpa [iM] using hj))).2
   simpa [List.getD, hj] using this
  have hn2 : ∀ j u, (iM l)[j]? = some u → (w.alloc (.cells #[] 2)).cell? ((⟨b, o, none⟩ : Addr).add j) = some u := fun j u hu => qC (aB _ _) (hnews j u hu).1
  go_enter func220, ntmps220
  go_wp2_with (refine dS _ rfl _ _ _ rfl eH rfl hacc (Nat.le_succ _) (by simp) ⟨b, o, none⟩ c rfl hn2 hI (by simpa using hl) ?_; intro a' c' w' hA hB _)
  simp only [List.length_nil, Nat.zero_add, List.nil_append] at hA ⊢
  go_wp2_with fail
  go_ret
  exact ⟨_, rfl, hA, (aB _ _).trans hB⟩
theorem Yf {rows : List dF} {done k : Nat} (hd : done ≤ k) (hk : k < rows.length) (h0 : ∀ j (hj : j < rows.length), done ≤ j → j < k → (rows[j].2.1 != 0) = false) (h1 : (rows[k].2.1 != 0) = true) : iI rows done = k := by
 have : (rows.drop done).findIdx? (fun r => r.2.1 != 0) = some (k - done) := by
  rw [List.findIdx?_eq_some_iff_getElem]
  refine ⟨by simp; omega, ?_, fun j hj => ?_⟩
  · simp only [List.getElem_drop, show done + (k - done) = k by omega]; exact h1
  simp only [List.getElem_drop]
  simpa using h0 (done + j) (by omega) (by omega) (by omega)
 unfold iI; rw [this]
 simp only
 omega
theorem Yg {rows : List dF} {done : Nat} (h0 : ∀ j (hj : j < rows.length), done ≤ j → (rows[j].2.1 != 0) = false) : iI rows done = -1 := by
 have : (rows.drop done).findIdx? (fun r => r.2.1 != 0) = none := by
  rw [List.findIdx?_eq_none_iff]
  intro r hr
  obtain ⟨j, hj, rfl⟩ := List.getElem_of_mem hr
  simp only [List.getElem_drop]
  exact h0 (done + j) (by simp at hj; omega) (by omega)
 unfold iI; rw [this]
theorem Ua (l : List dF) (v : Value) (done : Nat) (w : World) (r : Rd w [v] l) (hd : done ≤ l.length) (hl : l.length ≤ 1000000) :
 Calls prog 155 #[v, .int .i64 done] w fun e w' => e = .returned (.int .i64 (iI l done)) ∧ w = w' := by
 obtain ⟨a, c, rfl, h⟩ := ah r
 have HR := qH r
 clear r h
 go_enter func155, ntmps155
 go_wp2_with fail
 go_loopw [5] (fun i wr => ∃ k : Nat, done ≤ k ∧ k ≤ l.length ∧ i = .int .i64 k ∧ wr = w ∧ Hid (∀ j (hj : j < l.length), done ≤ j → j < k → (l[j].2.1 != 0) = false)) (fun i _ => l.length - (intOf i).toNat)
 case atStart => exact ⟨done, Nat.le_refl _, hd, rfl, rfl, fun j _ h1 h2 => by omega⟩
 obtain ⟨k, hdk, hk, rfl, rfl, hr⟩ := hrel
 by_cases hlt : k < l.length
 rotate_left
 · obtain rfl : k = l.length := by omega
   go_wp2_with fail
   go_ret
   refine ⟨aU ?_, rfl⟩
   rw [Yg (fun j hj h1 => hr.out j hj h1 hj)]
 obtain ⟨b', o', u0, u1, u2, rfl, q0, q1, q2, hx⟩ := zF rfl HR.out k hlt
 have z := au rfl (au rfl hx).2
 obtain ⟨rfl, _⟩ := aG z.1
 have hkl : (k : Int) < l.length := by omega
 clear z hx
 cases hq : (l[k].2.1 != 0)
 rotate_left
 · have HQ := qH hq
   go_wp2_with fail
   go_ret
   exact ⟨aU (Yf hdk hlt (fun j hj h1 h2 => hr.out j hj h1 h2) HQ.out).symm, rfl⟩
 have HQ := qH hq
 go_wp2_with fail
 go_roundw
 case rel =>
  refine ⟨k + 1, by omega, by omega, by go_num, trivial, ?_⟩
  intro j hj h1 hjk
  rcases Nat.lt_or_ge j k with h | h
  · exact hr.out j hj h1 h
  obtain rfl : j = k := by omega
  exact HQ.out
 simp [intOf]; omega
theorem II {cur : Array Value} {q : Nat} {v0 v2 : Value} (x : Value) (h0 : cur[q]? = some v0) (h2 : cur[q + 2]? = some v2) : kQ cur q [v0, x, v2] = cur.setIfInBounds (q + 1) x := by
 rw [EU _ h0]
 show kQ (cur.setIfInBounds (q + 1) x) (q + 1 + 1) [v2] = _
 rw [EU _ (by rw [Array.getElem?_setIfInBounds_ne (by omega)]; exact h2)]
 rfl
theorem ag5 {A : Nat → Prop} {w : World} {g n c : Nat} {l : List dF} (h : Ip A w [.slice (some ⟨g, 0, none⟩) n c] l) (j : Nat) (hj : j < l.length) :
 ∃ cur e p0 p2 v0 v2, yX w g (j * 3) cur e p0 p2 v0 v2 l[j] ∧ (∀ k, k ∈ p0 ++ p2 → A k) ∧ A g ∧
  ∀ (w' : World) (x : Int) (r' : dF), yX w' g (j * 3) (cur.setIfInBounds (j * 3 + 1) (.int .i64 x)) e p0 p2 v0 v2 r' → r'.2.1 = x → I64 x → aP (g :: (p0 ++ p2)) w w' → Ip A w' [.slice (some ⟨g, 0, none⟩) n c] (l.set j r') := by
 obtain ⟨ps, ho, hn, hA⟩ := h
 obtain ⟨g', o, c', cur, e, p, vs, hv, hblk, hO, hc, Zb, hgn, hpn, hpp, hput⟩ := Ht (jS ho) hn j hj
 simp only [Value.slice.injEq, Option.some.injEq, Addr.mk.injEq, and_true] at hv
 obtain ⟨⟨rfl, rfl⟩, rfl, rfl⟩ := hv
 have hl := Rep.dI (Rep.bP hO)
 obtain ⟨v0, v1, v2, rfl⟩ : ∃ v0 v1 v2, vs = [v0, v1, v2] := by
  match vs, hl with
  | [a, b, c], _ => exact ⟨a, b, c, rfl⟩
 obtain ⟨p0, q0, rfl, hO0, hO1⟩ := pK rfl hO
 obtain ⟨p1, p2, rfl, hO1, hO2⟩ := pK rfl hO1
 obtain ⟨rfl, rfl, hI⟩ := Zd hO1
 simp only [List.nil_append] at hgn hpn hpp hput
 have e3 : 0 + j * sz dF = j * 3 := by rw [Nat.zero_add]; rfl
 have k0 : cur[j * 3]? = some v0 := by have := hc 0 (by simp); rw [e3] at this; simpa using this
 have k1 : cur[j * 3 + 1]? = some (.int .i64 l[j].2.1) := by have := hc 1 (by simp); rw [e3] at this; simpa using this
 have k2 : cur[j * 3 + 2]? = some v2 := by have := hc 2 (by simp); rw [e3] at this; simpa using this
 rw [List.nodup_append] at hpn
 refine ⟨cur, e, p0, p2, v0, v2, ⟨hblk, k0, k1, k2, jS hO0, jS hO2, fun h => hgn (by simp [h]), fun h => hgn (by simp [h]), fun k h1 h2 => hpn.2.2 k h1 k h2 rfl⟩, fun k hk => hA k (hpp k hk), hA g Zb, ?_⟩
 intro w' x r' hr hx hIx hon
 refine ⟨ps, ⟨_, rfl, hput w' [v0, .int .i64 x, v2] r' ?_ ?_ (fun k h1 h2 h3 => hon.block k (by simp only [List.mem_cons, not_or]; exact ⟨h3, h2⟩))⟩, hn, hA⟩
 · rw [e3, II _ k0 k2]; exact hr.blk
 obtain ⟨r0, r1, r2⟩ := r'
 have hx : r1 = x := hx
 subst hx
 exact lS ⟨v0, rfl, hr.Qq⟩ (lS (p := []) ⟨rfl, rfl, hIx⟩ ⟨v2, rfl, hr.ag1⟩)
theorem Z4 {α : Type} [Rep α] (hα : sz α = 3) {A : Nat → Prop} {w : World} {g n c : Nat} {l : List α} (h : Ip A w [.slice (some ⟨g, 0, none⟩) n c] l) (d : α) (i j : Nat) (hil : i < l.length) (hjl : j < l.length) {v0 v1 v2 u0 u1 u2 : Value}
 (c0 : w.cell? ⟨g, i * 3, none⟩ = some v0) (c1 : w.cell? ⟨g, i * 3 + 1, none⟩ = some v1) (c2 : w.cell? ⟨g, i * 3 + 2, none⟩ = some v2) (d0 : w.cell? ⟨g, j * 3, none⟩ = some u0) (d1 : w.cell? ⟨g, j * 3 + 1, none⟩ = some u1) (d2 : w.cell? ⟨g, j * 3 + 2, none⟩ = some u2) :
 Ip A ((((((w.setCell ⟨g, i * 3, none⟩ u0).setCell ⟨g, i * 3 + 1, none⟩ u1).setCell ⟨g, i * 3 + 2, none⟩ u2).setCell ⟨g, j * 3, none⟩ v0).setCell ⟨g, j * 3 + 1, none⟩ v1).setCell ⟨g, j * 3 + 2, none⟩ v2) [.slice (some ⟨g, 0, none⟩) n c] (fH d l i j) := by
 have := WH h d i j hil hjl (vi := [v0, v1, v2]) (vj := [u0, u1, u2]) (by rw [hα]; rfl) (by rw [hα]; rfl)
  (fun k hk => by
   rw [hα] at hk ⊢
   rw [Nat.zero_add]
   match k, hk with
   | 0, _ => simpa using c0
   | 1, _ => simpa using c1
   | 2, _ => simpa using c2)
  (fun k hk => by
   rw [hα] at hk ⊢
   rw [Nat.zero_add]
   match k, hk with
   | 0, _ => simpa using d0
   | 1, _ => simpa using d1
   | 2, _ => simpa using d2)
 rw [hα, Nat.zero_add, Nat.zero_add] at this
 exact this
theorem Yh {α : Type} [Rep α] {ps : List Nat} {w : World} {v : Value} {l : List α} (h : bY ps w v l) (hn : ps.Nodup) (j : Nat) (hj : j < l.length) (d : Nat) (hd : d < l.length) (hjd : d ≠ j) :
 ∃ g o c cur e p vs q us, v = .slice (some ⟨g, o, none⟩) l.length c ∧ w.heap[g]? = some (.cells cur e (0, 0)) ∧ Own p w vs l[j] ∧ (∀ k, k < vs.length → cur[o + j * sz α + k]? = vs[k]?) ∧
  g ∈ ps ∧ g ∉ p ∧ p.Nodup ∧ (∀ k, k ∈ p → k ∈ ps) ∧
  Own q w us l[d] ∧ (∀ k, k < us.length → cur[o + d * sz α + k]? = us[k]?) ∧ g ∉ q ∧ (∀ k, k ∈ q → k ∉ p) ∧
  ∀ (w' : World) (vs' : List Value) (y : α), w'.heap[g]? = some (.cells (kQ cur (o + j * sz α) vs') e (0, 0)) → Own p w' vs' y → (∀ k, k ∈ ps → k ∉ p → k ≠ g → w'.heap[k]? = w.heap[k]?) → bY ps w' v (l.set j y) := by
 have hh := h
 rcases h with ⟨rfl, _⟩ | ⟨g, o, c, cur, e, cZ, rfl, h1, h2, h3, rfl, h5, h6⟩
 · exact absurd hj (Nat.not_lt_zero _)
 obtain ⟨p, vs, hp, hO, hc⟩ := h6 j hj
 obtain ⟨q, us, hq, hOq, hcq⟩ := h6 d hd
 have hjp : j < cZ.length := by omega
 have hpj : cZ[j] = p := by rw [List.getElem?_eq_getElem hjp] at hp; simpa using hp
 have hwhole : cZ = cZ.take j ++ p :: cZ.drop (j + 1) := by
  conv => lhs; rw [← List.take_append_drop j cZ, List.drop_eq_getElem_cons hjp, hpj]
 have hmem : ∀ k, k ∈ p → k ∈ List.flatten cZ := fun k hk => List.mem_flatten.2 ⟨p, List.mem_of_getElem? hp, hk⟩
 have hgn := (List.nodup_cons.1 hn).1
 have hfn := (List.nodup_cons.1 hn).2
 have hdis : ∀ i q, i ≠ j → cZ[i]? = some q → ∀ k, k ∈ q → k ∉ p := by
  intro i q hij hq k hk hkp
  rw [hwhole, List.flatten_append, List.flatten_cons] at hfn
  simp only [List.nodup_append, List.mem_append] at hfn
  obtain ⟨_, ⟨_, _, n3⟩, n4⟩ := hfn
  rcases Nat.lt_or_gt_of_ne hij with hlt | hlt
  · refine n4 k (List.mem_flatten.2 ⟨q, ?_, hk⟩) k (.inl hkp) rfl
    refine List.mem_iff_getElem?.2 ⟨i, ?_⟩
    rw [List.getElem?_take_of_lt hlt]; exact hq
  refine n3 k hkp k (List.mem_flatten.2 ⟨q, ?_, hk⟩) rfl
  refine List.mem_iff_getElem?.2 ⟨i - (j + 1), ?_⟩
  rw [List.getElem?_drop, show j + 1 + (i - (j + 1)) = i by omega]; exact hq
 obtain ⟨g', o', c', cur', e', p', vs', hv', hb', Y7, hc', m1, m2, m3, m4, m5⟩ := Ht hh hn j hj
 simp only [Value.slice.injEq, Option.some.injEq, Addr.mk.injEq, and_true] at hv'
 obtain ⟨⟨rfl, rfl⟩, -, rfl⟩ := hv'
 rw [h3] at hb'
 simp only [Option.some.injEq, Obj.cells.injEq, and_true] at hb'
 obtain ⟨rfl, rfl⟩ := hb'
 refine ⟨g, o, c, cur, e, p, vs, q, us, rfl, h3, hO, hc, m1, fun hk => hgn (hmem g hk), ?_, fun k hk => List.mem_cons_of_mem _ (hmem k hk), hOq, hcq, fun hk => hgn (List.mem_flatten.2 ⟨q, List.mem_of_getElem? hq, hk⟩), hdis d q hjd hq, ?_⟩
 · rw [hwhole, List.flatten_append, List.flatten_cons] at hfn
   simp only [List.nodup_append] at hfn
   exact hfn.2.1.1
 intro w' vs' y hg hy hk
 have apq := Rep.dI (Rep.bP hy)
 refine .inr ⟨g, o, c, _, e, cZ, by simp, by simpa using h1, h2, hg, rfl, by simpa using h5, fun i hi => ?_⟩
 simp only [List.length_set] at hi
 by_cases hij : j = i
 · subst hij
   refine ⟨p, vs', hp, by simpa using hy, fun k hk' => oM vs' _ k cur hk' ?_⟩
   have hvl := Rep.dI (Rep.bP hO)
   have := hc k (by omega)
   rw [List.getElem?_eq_getElem (by omega)] at this
   exact (Array.getElem?_eq_some_iff.1 this).1
 obtain ⟨q, us, hq, hOq, hcq⟩ := h6 i hi
 have Zc := Rep.dI (Rep.bP hOq)
 refine ⟨q, us, hq, ?_, fun k hk' => ?_⟩
 · simp only [List.getElem_set_ne hij]
   refine Rep.dY (fun k hkq => hk k (List.mem_cons_of_mem _ (List.mem_flatten.2 ⟨q, List.mem_of_getElem? hq, hkq⟩)) (hdis i q (Ne.symm hij) hq k hkq) ?_) hOq
   rintro rfl
   exact hgn (List.mem_flatten.2 ⟨q, List.mem_of_getElem? hq, hkq⟩)
 rw [jX]
 · exact hcq k hk'
 have hks : k < sz α := by omega
 rcases Nat.lt_or_gt_of_ne hij with hlt | hlt
 · right
   have : (j + 1) * sz α ≤ i * sz α := Nat.mul_le_mul_right _ hlt
   rw [Nat.add_mul] at this
   omega
 left
 have := Eb (s := sz α) hlt hks
 omega
theorem Ub {α : Type} (O : NW α) (u : Nat) (R : List α) (bs : List Int) (q : Nat) (h0 : bs.length ≤ q) (hq : q < R.length) (hz : ∀ j (hj : j < R.length), bs.length ≤ j → j < q → O.get R[j] u = 0) (hn : O.get R[q] u ≠ 0) :
 jV O u (R, bs) = (kL (dh O u bs.length (O.scale R[q] (O.get R[q] u))) ((fH O.dflt R bs.length q).set bs.length (O.scale R[q] (O.get R[q] u))) R.length, bs ++ [(u : Int)]) := by
 have hf : (R.drop bs.length).findIdx? (fun r => O.get r u != 0) = some (q - bs.length) := by
  rw [List.findIdx?_eq_some_iff_getElem]
  refine ⟨by simp; omega, ?_, fun j hj => ?_⟩
  · simp only [List.getElem_drop, bne_iff_ne]
    have : bs.length + (q - bs.length) = q := by omega
    simp only [this]
    exact hn
  simp only [List.getElem_drop, bne_iff_ne, ne_eq, Decidable.not_not]
  exact hz _ (by omega) (by omega) (by omega)
 unfold jV
 show (match (R.drop bs.length).findIdx? (fun r => O.get r u != 0) with | none => _ | some i => _) = _
 rw [hf]
 show (wF O u R bs.length (q - bs.length), bs ++ [(u : Int)]) = _
 have e : bs.length + (q - bs.length) = q := by omega
 have hg : R.getD q O.dflt = R[q] := by simp [List.getD, hq]
 have h := LD (dh O u bs.length (O.scale R[q] (O.get R[q] u))) ((fH O.dflt R bs.length q).set bs.length (O.scale R[q] (O.get R[q] u)))
 simp only [List.length_set, tK] at h
 rw [h]
 unfold wF
 simp only [e, Gz O.dflt R bs.length q (by omega) hq, hg]
theorem yX.same {w w' : World} {b o : Nat} {cur : Array Value} {e : TypeId} {p0 p2 : List Nat} {v0 v2 : Value} {r : dF} (h : yX w b o cur e p0 p2 v0 v2 r) (hb : w'.heap = w.heap) : yX w' b o cur e p0 p2 v0 v2 r :=
 ⟨by rw [hb]; exact h.blk, h.c0, h.c1, h.c2, jg h.Qq hb, jg h.ag1 hb, h.n0, h.n2, h.dis⟩
theorem adI {A : Nat → Prop} {w : World} {g n c : Nat} {l : List dF} (h : Ip A w [.slice (some ⟨g, 0, none⟩) n c] l) (j : Nat) (hj : j < l.length) (d : Nat) (hd : d < l.length) (hjd : d ≠ j) :
 ∃ cur e p0 p2 v0 v2 u0 u2, yX w g (j * 3) cur e p0 p2 v0 v2 l[j] ∧ (∀ k, k ∈ p0 ++ p2 → A k) ∧ A g ∧
  (∀ (w' : World) (x : Int), aP (g :: (p0 ++ p2)) w w' → w'.heap[g]? = some (.cells (cur.setIfInBounds (j * 3 + 1) (.int .i64 x)) e (0, 0)) → WL w' g (d * 3) u0 u2 l[d]) ∧
  ∀ (w' : World) (x : Int) (r' : dF), yX w' g (j * 3) (cur.setIfInBounds (j * 3 + 1) (.int .i64 x)) e p0 p2 v0 v2 r' → r'.2.1 = x → I64 x → aP (g :: (p0 ++ p2)) w w' → Ip A w' [.slice (some ⟨g, 0, none⟩) n c] (l.set j r') := by
 obtain ⟨ps, ho, hn, hA⟩ := h
 obtain ⟨g', o, c', cur, e, p, vs, q, us, hv, hblk, hO, hc, Zb, hgn, hpn, hpp, hOq, hcq, hgq, hqp, hput⟩ := Yh (jS ho) hn j hj d hd hjd
 simp only [Value.slice.injEq, Option.some.injEq, Addr.mk.injEq, and_true] at hv
 obtain ⟨⟨rfl, rfl⟩, rfl, rfl⟩ := hv
 have hl := Rep.dI (Rep.bP hO)
 have hlq := Rep.dI (Rep.bP hOq)
 obtain ⟨v0, v1, v2, rfl⟩ : ∃ v0 v1 v2, vs = [v0, v1, v2] := by
  match vs, hl with
  | [a, b, c], _ => exact ⟨a, b, c, rfl⟩
 obtain ⟨u0, u1, u2, rfl⟩ : ∃ v0 v1 v2, us = [v0, v1, v2] := by
  match us, hlq with
  | [a, b, c], _ => exact ⟨a, b, c, rfl⟩
 obtain ⟨p0, q0, rfl, hO0, hO1⟩ := pK rfl hO
 obtain ⟨p1, p2, rfl, hO1, hO2⟩ := pK rfl hO1
 obtain ⟨rfl, rfl, hI⟩ := Zd hO1
 simp only [List.nil_append] at hgn hpn hpp hput hqp
 have e3 : 0 + j * sz dF = j * 3 := by rw [Nat.zero_add]; rfl
 have e3d : 0 + d * sz dF = d * 3 := by rw [Nat.zero_add]; rfl
 have k0 : cur[j * 3]? = some v0 := by have := hc 0 (by simp); rw [e3] at this; simpa using this
 have k1 : cur[j * 3 + 1]? = some (.int .i64 l[j].2.1) := by have := hc 1 (by simp); rw [e3] at this; simpa using this
 have k2 : cur[j * 3 + 2]? = some v2 := by have := hc 2 (by simp); rw [e3] at this; simpa using this
 have t0 : cur[d * 3]? = some u0 := by have := hcq 0 (by simp); rw [e3d] at this; simpa using this
 have t1 : cur[d * 3 + 1]? = some u1 := by have := hcq 1 (by simp); rw [e3d] at this; simpa using this
 have t2 : cur[d * 3 + 2]? = some u2 := by have := hcq 2 (by simp); rw [e3d] at this; simpa using this
 rw [List.nodup_append] at hpn
 refine ⟨cur, e, p0, p2, v0, v2, u0, u2, ⟨hblk, k0, k1, k2, jS hO0, jS hO2, fun h => hgn (by simp [h]), fun h => hgn (by simp [h]), fun k h1 h2 => hpn.2.2 k h1 k h2 rfl⟩, fun k hk => hA k (hpp k hk), hA g Zb, ?_, ?_⟩
 · intro w' x hon hb
   have hR : Rd w' [u0, u1, u2] l[d] := Rep.bP (Own.only hOq hon (fun k hk hk2 => by
    rcases List.mem_cons.1 hk2 with rfl | hk2
    · exact hgq hk
    · exact hqp k hk hk2))
   have z := au rfl hR
   have z2 := au rfl z.2
   obtain ⟨rfl, _⟩ := aG z2.1
   refine ⟨?_, ?_, ?_, z.1, z2.2⟩
   · rw [aA hb, Array.getElem?_setIfInBounds_ne (by omega)]; exact t0
   · rw [aA hb, Array.getElem?_setIfInBounds_ne (by omega)]; exact t1
   rw [aA hb, Array.getElem?_setIfInBounds_ne (by omega)]; exact t2
 intro w' x r' hr hx hIx hon
 refine ⟨ps, ⟨_, rfl, hput w' [v0, .int .i64 x, v2] r' ?_ ?_ (fun k h1 h2 h3 => hon.block k (by simp only [List.mem_cons, not_or]; exact ⟨h3, h2⟩))⟩, hn, hA⟩
 · rw [e3, II _ k0 k2]; exact hr.blk
 obtain ⟨r0, r1, r2⟩ := r'
 have hx : r1 = x := hx
 subst hx
 exact lS ⟨v0, rfl, hr.Qq⟩ (lS (p := []) ⟨rfl, rfl, hIx⟩ ⟨v2, rfl, hr.ag1⟩)
open Go.IntWalk
theorem adJ (p k : Int) (r : dF) (b o : Nat) (cur : Array Value) (e : TypeId) (p0 p2 : List Nat) (v0 v2 : Value) (w : World) (hr : yX w b o cur e p0 p2 v0 v2 r)
 (hp0 : 2 ≤ p) (hp : p ≤ 3) (hk0 : 0 ≤ k) (hk : k ≤ 100) (gr : wz p r.1) (gr1 : 0 ≤ r.2.1 ∧ r.2.1 < p) (gr2 : wz p r.2.2) :
 Calls prog 157 #[.pointer (some ⟨b, o, none⟩), .int .i64 k, .int .i64 p] w fun en w' => en = .returned (.tuple #[]) ∧ yX w' b o (cur.setIfInBounds (o + 1) (.int .i64 (jM p k r).2.1)) e p0 p2 v0 v2 (jM p k r) ∧ aP (b :: (p0 ++ p2)) w w' := by
 obtain ⟨rl, rr, rb⟩ := r
 have hrow := hr
 obtain ⟨hblk, hc0, hc1, hc2, ho0, ho2, hn0, hn2, hd⟩ := hr
 obtain ⟨a0, c0, rfl, hm0⟩ := Aj ho0
 obtain ⟨a2, c2, rfl, hm2⟩ := Aj ho2
 unfold maxLen at hm0 hm2
 simp only at gr gr1 gr2  hm0 hm2 hc1
 have BLK := qH hblk
 have HC0 := qH hc0
 have HC1 := qH hc1
 have HC2 := qH hc2
 have O0 := qH ho0
 have O2 := qH ho2
 have GR := qH gr
 have GR2 := qH gr2
 have ob : o + 1 < cur.size := (Array.getElem?_eq_some_iff.1 hc1).1
 clear hblk hc0 hc1 hc2 ho0 ho2 gr gr2 hrow
 have hp1 : p ≠ 0 := by omega
 have hp2 : (p == 0) = false := by simpa using hp1
 go_enter func157, ntmps157
 go_wp2_with fail
 go_loopw [6] (fun i wr => ∃ j : Nat, j ≤ rl.length ∧ i = .int .i64 j ∧ Hid (aP (b :: (p0 ++ p2)) w wr) ∧ Hid (wr.heap[b]? = some (.cells (cur) e (0, 0))) ∧ Hid (bY p0 wr (.slice a0 rl.length c0) (mD (fun a _ => a * k % p) rl rl j)) ∧ Hid (bY p2 wr (.slice a2 rb.length c2) (rb))) (fun i _ => rl.length - (intOf i).toNat)
 case atStart => exact ⟨0, Nat.zero_le _, rfl, aP.refl _ _, BLK.out, by simpa [Hid, qE] using O0.out, O2.out⟩
 obtain ⟨j, hj, rfl, hon, hbk, hme, hot⟩ := hrel
 have q0 : wr.cell? ⟨b, o, none⟩ = some (.slice a0 rl.length c0) := by rw [aA hbk.out]; exact HC0.out
 by_cases hlt : j < rl.length
 · have hlq : j < rl.length := hlt
   obtain ⟨g', o', c', hv, hps, hc, hf, hI, hset⟩ := oN hme.out j (by rw [gG _ _ _ _ (by omega) (by omega)]; omega)
   rw [gG _ _ _ _ (by omega) (by omega)] at hv
   simp only [Value.slice.injEq] at hv
   obtain ⟨rfl, -, rfl⟩ := hv
   rw [uf _ _ _ _ hlt (by omega)] at hc hI
   have gA := GR.out.get j hlt
   have hz := qH (qF (fun a _ => a * k % p) rl rl j hlt hlq)
   have Ir := qH hset
   have X7 := qH hps
   clear hset hps
   generalize rl[j] = A at *
   have hm := oO gA gA hp hk0 hk
   rw [Int.mul_comm] at hm
   have hw1 : IntKind.i64.wrap (A * k) = A * k := i64_in _ (by omega)
   have hT : (A * k).tmod p = A * k % p := Int.tmod_eq_emod_of_nonneg (by omega)
   have hE0 := Int.emod_nonneg (A * k) hp1
   have hE1 := Int.emod_lt_of_pos (A * k) (show 0 < p by omega)
   have hw2 : IntKind.i64.wrap (A * k % p) = A * k % p := i64_in _ (by omega)
   have hN := Ir.out (A * k % p) ⟨by omega, by omega⟩
   rw [hz.out] at hN
   have HN := qH hN
   clear hN
   have hjr : (j : Int) < rl.length := by omega
   go_wp2_with fail
   refine BG (fun w' => cV w' b o (.slice (some ⟨g', o', none⟩) rl.length c0) ∧ cI w' g' (o' + j) A) [(0, 0), (1, 0), (2, 0), (3, 0), (4, 0), (5, 0), (6, 0), (7, 0), (8, 0), (9, 0), (10, 0), (11, 0), (12, 0), (13, 0), (14, 0), (15, 0), (16, 0), (17, 2)] ?_ ?_
   · exact ⟨q0, hc⟩
   refine nH ?_
   refine XU fun K hK => ?_
   go_wp2_with fail
   refine elN ?_
   go_wp2_with fail
   go_roundw
   case rel =>
    have hg : g' ∈ p0 := by rw [X7.out]; simp
    have hgb : g' ≠ b := fun h => hn0 (h ▸ hg)
    have hgo : ∀ z, z ∈ p2 → z ∉ [g'] := fun z hz hz2 => by obtain rfl : z = g' := (by simpa using hz2); exact hd z hg hz
    have hst := (aP.refl [g'] wr.drew).setCell (p := ⟨g', o' + j, none⟩) (by simp) (.int .i64 (A * k % p))
    refine ⟨j + 1, by omega, by go_num, ?_, ?_, ?_, ?_⟩
    · exact (hon.out.drewN 1).trans (hst.mono (fun z hz => by obtain rfl : z = g' := (by simpa using hz); simp [hg]))
    · exact (hst.block b (by simp; exact fun h => hgb h.symm)).trans hbk.out
    · exact jg HN.out rfl
    exact dZ (jg (w' := wr.drew) hot.out rfl) hst hgo
   simp [intOf]; omega
 obtain rfl : j = rl.length := by omega
 have ON := hon
 have BK := hbk
 have K0 := hme
 have K2 := hot
 clear hon hbk hme hot
 have q2 : wr.cell? ⟨b, o + 1, none⟩ = some (.int .i64 rr) := by rw [aA BK.out]; exact HC1.out
 have f2 : wr.frozen? ⟨b, o + 1, none⟩ = false := aO BK.out
 have hm := oO gr1 gr1 hp hk0 hk
 rw [Int.mul_comm] at hm
 have hw1 : IntKind.i64.wrap (rr * k) = rr * k := i64_in _ (by omega)
 have hT : (rr * k).tmod p = rr * k % p := Int.tmod_eq_emod_of_nonneg (by omega)
 have hE0 := Int.emod_nonneg (rr * k) hp1
 have hE1 := Int.emod_lt_of_pos (rr * k) (show 0 < p by omega)
 have hw2 : IntKind.i64.wrap (rr * k % p) = rr * k % p := i64_in _ (by omega)
 go_wp2_with fail
 have hst : aP [b] wr (wr.setCell ⟨b, o + 1, none⟩ (.int .i64 (rr * k % p))) := ((aP.refl [b] wr).setCell (p := ⟨b, o + 1, none⟩) (by simp) (.int .i64 (rr * k % p)))
 have BK' : Hid ((wr.setCell ⟨b, o + 1, none⟩ (.int .i64 (rr * k % p))).heap[b]? = some (.cells (cur.setIfInBounds (o + 1) (.int .i64 (rr * k % p))) e (0, 0))) := aZ _ _ _ _ _ _ _ BK.out
 have ON' : Hid (aP (b :: (p0 ++ p2)) w (wr.setCell ⟨b, o + 1, none⟩ (.int .i64 (rr * k % p)))) := ON.out.trans (hst.mono (fun z hz => by obtain rfl : z = b := (by simpa using hz); simp))
 have K0' := qH (dZ K0.out hst (fun z hz hz2 => by obtain rfl : z = b := (by simpa using hz2); exact hn0 hz))
 have K2' := qH (dZ K2.out hst (fun z hz hz2 => by obtain rfl : z = b := (by simpa using hz2); exact hn2 hz))
 clear BK ON K0 K2 hst q2 f2
 have BK := BK'
 have ON := ON'
 have K0 := K0'
 have K2 := K2'
 clear BK' ON' K0' K2'
 generalize (wr.setCell ⟨b, o + 1, none⟩ (.int .i64 (rr * k % p))) = WR at *
 go_wp2_with fail
 go_loopw [7] (fun i wr => ∃ j : Nat, j ≤ rb.length ∧ i = .int .i64 j ∧ Hid (aP (b :: (p0 ++ p2)) w wr) ∧ Hid (wr.heap[b]? = some (.cells (cur.setIfInBounds (o + 1) (.int .i64 (rr * k % p))) e (0, 0))) ∧ Hid (bY p2 wr (.slice a2 rb.length c2) (mD (fun a _ => a * k % p) rb rb j)) ∧ Hid (bY p0 wr (.slice a0 rl.length c0) (mD (fun a _ => a * k % p) rl rl rl.length))) (fun i _ => rb.length - (intOf i).toNat)
 case atStart => exact ⟨0, Nat.zero_le _, rfl, ON.out, BK.out, by simpa [Hid, qE] using K2.out, K0.out⟩
 obtain ⟨j, hj, rfl, hon, hbk, hme, hot⟩ := hrel
 have q0 : wr.cell? ⟨b, o + 2, none⟩ = some (.slice a2 rb.length c2) := by rw [aA hbk.out]; rw [Array.getElem?_setIfInBounds_ne (by omega)]; exact HC2.out
 by_cases hlt : j < rb.length
 rotate_left
 · obtain rfl : j = rb.length := by omega
   go_wp2_with fail
   refine bodyPost_end (v := .tuple #[]) (by simp [results, results157, go_sem]) rfl ⟨rfl, ⟨hbk.out, ?_, ?_, ?_, ?_, ?_, hn0, hn2, hd⟩, hon.out⟩
   · rw [Array.getElem?_setIfInBounds_ne (by omega)]; exact HC0.out
   · rw [Array.getElem?_setIfInBounds_self_of_lt ob]
   · rw [Array.getElem?_setIfInBounds_ne (by omega)]; exact HC2.out
   · have h := hot.out
     rw [Ak _ _ _ (Nat.le_refl _)] at h
     exact h
   have h := hme.out
   rw [Ak _ _ _ (Nat.le_refl _)] at h
   exact h
 have hlq : j < rb.length := hlt
 obtain ⟨g', o', c', hv, hps, hc, hf, hI, hset⟩ := oN hme.out j (by rw [gG _ _ _ _ (by omega) (by omega)]; omega)
 rw [gG _ _ _ _ (by omega) (by omega)] at hv
 simp only [Value.slice.injEq] at hv
 obtain ⟨rfl, -, rfl⟩ := hv
 rw [uf _ _ _ _ hlt (by omega)] at hc hI
 have gA := GR2.out.get j hlt
 have hz := qH (qF (fun a _ => a * k % p) rb rb j hlt hlq)
 have Ir := qH hset
 have X7 := qH hps
 clear hset hps
 generalize rb[j] = A at *
 have hm := oO gA gA hp hk0 hk
 rw [Int.mul_comm] at hm
 have hw1 : IntKind.i64.wrap (A * k) = A * k := i64_in _ (by omega)
 have hT : (A * k).tmod p = A * k % p := Int.tmod_eq_emod_of_nonneg (by omega)
 have hE0 := Int.emod_nonneg (A * k) hp1
 have hE1 := Int.emod_lt_of_pos (A * k) (show 0 < p by omega)
 have hw2 : IntKind.i64.wrap (A * k % p) = A * k % p := i64_in _ (by omega)
 have hN := Ir.out (A * k % p) ⟨by omega, by omega⟩
 rw [hz.out] at hN
 have HN := qH hN
 clear hN
 have hjr : (j : Int) < rb.length := by omega
 go_wp2_with fail
 refine BG (fun w' => cV w' b (o + 2) (.slice (some ⟨g', o', none⟩) rb.length c2) ∧ cI w' g' (o' + j) A) [(0, 0), (1, 0), (2, 0), (3, 0), (4, 0), (5, 0), (6, 0), (7, 0), (8, 0), (9, 0), (10, 0), (11, 0), (12, 0), (13, 0), (14, 0), (15, 0), (16, 0), (17, 2)] ?_ ?_
 · exact ⟨q0, hc⟩
 refine nH ?_
 refine XU fun K hK => ?_
 go_wp2_with fail
 refine elN ?_
 go_wp2_with fail
 go_roundw
 case rel =>
  have hg : g' ∈ p2 := by rw [X7.out]; simp
  have hgb : g' ≠ b := fun h => hn2 (h ▸ hg)
  have hgo : ∀ z, z ∈ p0 → z ∉ [g'] := fun z hz hz2 => by obtain rfl : z = g' := (by simpa using hz2); exact hd z hz hg
  have hst := (aP.refl [g'] wr.drew).setCell (p := ⟨g', o' + j, none⟩) (by simp) (.int .i64 (A * k % p))
  refine ⟨j + 1, by omega, by go_num, ?_, ?_, ?_, ?_⟩
  · exact (hon.out.drewN 1).trans (hst.mono (fun z hz => by obtain rfl : z = g' := (by simpa using hz); simp [hg]))
  · exact (hst.block b (by simp; exact fun h => hgb h.symm)).trans hbk.out
  · exact jg HN.out rfl
  exact dZ (jg (w' := wr.drew) hot.out rfl) hst hgo
 simp [intOf]; omega
end Go.Proofs.YtoblfnoaepbhfaaGreat
