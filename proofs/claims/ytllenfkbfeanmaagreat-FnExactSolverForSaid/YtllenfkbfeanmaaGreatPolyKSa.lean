/-
  CONTRACTS: the search for polymorphisms, the program's side: the first one of a kind.
-/
import Derived.Test.YtllenfkbfeanmaaGreatPolyJSa
import Derived.Test.YtllenfkbfeanmaaGreatPolyFSa
import Derived.Test.YtllenfkbfeanmaaGreatPolyLSa
namespace Go.Proofs.YtllenfkbfeanmaaGreat
open Go.RowKit Go.Shelf Go.IntWalk
open Rep (Rd Own sz)
set_option linter.unusedSimpArgs false
set_option linter.unusedVariables false

theorem op_of_full {t : Tmpl} {m n : Nat} {l : List Int} (ht : tmplOk t = true) (hm : 1 ≤ m ∧ m ≤ 3) (hn : t.1 ^ m = (n : Int)) (hl : l.length = n) (hv : Val t.1 l) : opOk t.1 ((m : Int), l) = true := by
  have hs := (tmplOk_get ht).1
  simp only [opOk, Bool.and_eq_true, Int.toNat_natCast]
  refine ⟨⟨inB_mk (by omega), inB_mk (by omega)⟩, ?_⟩
  simp only [valsOk, Bool.and_eq_true, decide_eq_true_eq, List.all_eq_true]
  exact ⟨by rw [hn]; omega, fun x hx => inB_mk (by have := hv x hx; omega)⟩
/-- What the search's caller keeps in mind: the test, the result's place. -/
structure Minds (isb ob tb kb : Nat) (size K : Int) (w : World) : Prop where
  is : w.cell? ⟨isb, 0, none⟩ = some (.func (.func 131) #[] #[.pointer (some ⟨tb, 0, none⟩), .pointer (some ⟨kb, 0, none⟩)])
  size : w.cell? ⟨tb, 0, none⟩ = some (.int .i64 size)
  kind : w.cell? ⟨kb, 0, none⟩ = some (.int .i64 K)
  out : ∃ ty, w.heap[ob]? = some (.cells #[.int .i64 0, .slice none 0 0] ty (0, 0))
theorem Minds.keep {isb ob tb kb H xb : Nat} {size K : Int} {w w' : World} (h : Minds isb ob tb kb size K w) (hb : ButP (fun z => z = xb ∨ H ≤ z) w w') (h1 : isb ≠ xb ∧ ob ≠ xb ∧ tb ≠ xb ∧ kb ≠ xb) (h2 : isb < H ∧ ob < H ∧ tb < H ∧ kb < H) : Minds isb ob tb kb size K w' := by
  obtain ⟨ty, h3⟩ := h.out
  exact ⟨cellB hb h.is (by omega), cellB hb h.size (by omega), cellB hb h.kind (by omega), ty, by rw [hb.block ob (Array.getElem?_eq_some_iff.1 h3).1 (by omega)]; exact h3⟩
set_option maxRecDepth 100000 in
set_option maxHeartbeats 4000000 in
theorem first1_c (size K : Int) (isK : OpT → Bool) (tb kb : Nat) (f : OpT) (v0 v1 : Value) (w : World) (hf : Rd w [v0, v1] f) (hok : opOk size f = true) (c0 : w.cell? ⟨tb, 0, none⟩ = some (.int .i64 size)) (ck : w.cell? ⟨kb, 0, none⟩ = some (.int .i64 K))
    (HK : ∀ (f : OpT) (v0 v1 : Value) (w : World), Rd w [v0, v1] f → opOk size f = true → Calls Tryz.prog 132 #[.int .i64 size, .agg #[v0, v1], .int .i64 K] w fun e w' => e = .returned (.bool (isK f)) ∧ Below w.heap.size w w') :
    Calls Tryz.prog 131 #[.agg #[v0, v1], .pointer (some ⟨tb, 0, none⟩), .pointer (some ⟨kb, 0, none⟩)] w fun e w' => e = .returned (.bool (isK f)) ∧ Below w.heap.size w w' := by
  have HF := Lib.hid hf
  have HOK := Lib.hid hok
  have HKK := Lib.hid HK
  obtain ⟨ar, ts⟩ := f
  have zf := rd_cons rfl hf
  obtain ⟨rfl, _⟩ := rd_i1 zf.1
  obtain ⟨af, cf, rfl, _⟩ := rd_list zf.2
  clear hf hok HK zf
  have c0_ := cellL (St.start w).bel c0
  clear c0_
  have c0_ := cellL (St.start w).bel c0
  have ck_ := cellL (St.start w).bel ck
  have hs1 := (St.start w).alloc #[.int .i64 ar, .slice af ts.length cf] 34 (n := w.heap.size) (by simp)
  clear c0_ ck_
  have k0_0 := hs1.cellAt 0 rfl 0 rfl
  have k0_1 := hs1.cellAt 0 rfl 1 rfl
  have c0_ := cellL hs1.bel c0
  have ck_ := cellL hs1.bel ck
  go_enter Tryz.func131, Tryz.ntmps131
  go_wp2_with fail
  refine (HKK.out _ _ _ _ (Rd.mono HF.out hs1.bel) HOK.out).mono ?_
  rintro e w2 ⟨rfl, hbw2⟩
  have hz_w2 : w.heap.size + 1 ≤ w2.heap.size := by have h9 := hbw2.size; (try simp at h9); omega
  have hs3 := hs1.step hbw2
  clear k0_0 k0_1 c0_ ck_
  have k0_0 := hs3.cellAt 0 rfl 0 rfl
  have k0_1 := hs3.cellAt 0 rfl 1 rfl
  have c0_ := cellL hs3.bel c0
  have ck_ := cellL hs3.bel ck
  go_wp2_with fail
  go_ret
  exact ⟨rfl, hs3.bel⟩
set_option maxRecDepth 100000 in
set_option maxHeartbeats 4000000 in
theorem firstOf1_by (t : Tmpl) (K : Int) (isK : OpT → Bool) (isb ob tb kb H n m : Nat) (hok : tmplOk t = true) (hm : 1 ≤ m ∧ m ≤ 3) (hn : t.1 ^ m = (n : Int)) (hob : isb < H ∧ ob < H ∧ tb < H ∧ kb < H)
    (HK : ∀ (f : OpT) (v0 v1 : Value) (w : World), Rd w [v0, v1] f → opOk t.1 f = true → Calls Tryz.prog 132 #[.int .i64 t.1, .agg #[v0, v1], .int .i64 K] w fun e w' => e = .returned (.bool (isK f)) ∧ Below w.heap.size w w') :
    YieldC 161 #[.pointer (some ⟨isb, 0, none⟩), .pointer (some ⟨ob, 0, none⟩)] ob H n m t.1 (fun l => isK ((m : Int), l)) (Minds isb ob tb kb t.1 K) := by
  intro l v w hI hH hl hv fr
  have HOP := Lib.hid (op_of_full hok hm hn hl hv)
  have HKK := Lib.hid HK
  have HFR := Lib.hid (fresh_intO2 (p := (m : Int)) ⟨by omega, by omega⟩ fr)
  obtain ⟨a9, c9, rfl, _⟩ := rd_list fr.rd
  have i0 := hI.is
  have i1 := hI.size
  have i2 := hI.kind
  obtain ⟨oty, hout⟩ := hI.out
  have o0 : w.cell? ⟨ob, 0, none⟩ = some (.int .i64 0) := by rw [cell_at_block hout]; rfl
  have o1 : w.cell? ⟨ob, 1, none⟩ = some (.slice none 0 0) := by rw [cell_at_block hout]; rfl
  have HOUT := Lib.hid hout
  have hobw : ob < w.heap.size := (Array.getElem?_eq_some_iff.1 hout).1
  have eg : ∀ args w, (callFunc 131 args).run Tryz.prog w = .ok (.enter 131 args) w := enters_of Tryz.func131 (by kernel_rfl) rfl
  clear hI fr hl hv HK hok hout
  refine ⟨fun hk => ?_, fun hk => ?_⟩
  · have HKQ := Lib.hid hk
    clear hk
    show Calls Tryz.prog 161 #[.agg #[_, _], .pointer (some ⟨isb, 0, none⟩), .pointer (some ⟨ob, 0, none⟩)] w _
    have hs4 := (St.start w).alloc #[.int .i64 m, .slice a9 l.length c9] 34 (n := w.heap.size) (by simp)
    have i0_5 := cellL (belowA _ (.cells #[.int .i64 m, .slice a9 l.length c9] 34)) i0
    clear i0
    have i1_6 := cellL (belowA _ (.cells #[.int .i64 m, .slice a9 l.length c9] 34)) i1
    clear i1
    have i2_7 := cellL (belowA _ (.cells #[.int .i64 m, .slice a9 l.length c9] 34)) i2
    clear i2
    have HFR_8 := Lib.hid (Fresh.mono HFR.out (belowA _ (.cells #[.int .i64 m, .slice a9 l.length c9] 34)))
    clear HFR
    have k0_0 := hs4.cellAt 0 rfl 0 rfl
    have k0_1 := hs4.cellAt 0 rfl 1 rfl
    go_enter Tryz.func161, Tryz.ntmps161
    go_wp2_with fail
    go_at_fn 131
    refine (first1_c t.1 K isK tb kb ((m : Int), l) _ _ _ (Fresh.rd HFR_8.out) HOP.out i1_6 i2_7 HKK.out).mono ?_
    rintro e w5 ⟨rfl, hb5⟩
    rw [HKQ.out]
    have hz_w5 : w.heap.size + 1 ≤ w5.heap.size := by have h9 := hb5.size; (try simp at h9); omega
    have hs9 := hs4.step hb5
    have i0_10 := cellL hb5 i0_5
    clear i0_5
    have i1_11 := cellL hb5 i1_6
    clear i1_6
    have i2_12 := cellL hb5 i2_7
    clear i2_7
    have HFR_13 := Lib.hid (Fresh.mono HFR_8.out hb5)
    clear HFR_8
    clear k0_0 k0_1
    have k0_0 := hs9.cellAt 0 rfl 0 rfl
    have k0_1 := hs9.cellAt 0 rfl 1 rfl
    go_wp2_with fail
    go_ret
    exact ⟨rfl, hs9.bel⟩
  · have HKQ := Lib.hid hk
    clear hk
    show Calls Tryz.prog 161 #[.agg #[_, _], .pointer (some ⟨isb, 0, none⟩), .pointer (some ⟨ob, 0, none⟩)] w _
    have hs14 := (St.start w).alloc #[.int .i64 m, .slice a9 l.length c9] 34 (n := w.heap.size) (by simp)
    have i0_15 := cellL (belowA _ (.cells #[.int .i64 m, .slice a9 l.length c9] 34)) i0
    clear i0
    have i1_16 := cellL (belowA _ (.cells #[.int .i64 m, .slice a9 l.length c9] 34)) i1
    clear i1
    have i2_17 := cellL (belowA _ (.cells #[.int .i64 m, .slice a9 l.length c9] 34)) i2
    clear i2
    have o0_18 := cellL (belowA _ (.cells #[.int .i64 m, .slice a9 l.length c9] 34)) o0
    clear o0
    have o1_19 := cellL (belowA _ (.cells #[.int .i64 m, .slice a9 l.length c9] 34)) o1
    clear o1
    have HFR_20 := Lib.hid (Fresh.mono HFR.out (belowA _ (.cells #[.int .i64 m, .slice a9 l.length c9] 34)))
    clear HFR
    have k0_0 := hs14.cellAt 0 rfl 0 rfl
    have k0_1 := hs14.cellAt 0 rfl 1 rfl
    go_enter Tryz.func161, Tryz.ntmps161
    go_wp2_with fail
    go_at_fn 131
    refine (first1_c t.1 K isK tb kb ((m : Int), l) _ _ _ (Fresh.rd HFR_20.out) HOP.out i1_16 i2_17 HKK.out).mono ?_
    rintro e w5 ⟨rfl, hb5⟩
    rw [HKQ.out]
    have hz_w5 : w.heap.size + 1 ≤ w5.heap.size := by have h9 := hb5.size; (try simp at h9); omega
    have hs21 := hs14.step hb5
    have i0_22 := cellL hb5 i0_15
    clear i0_15
    have i1_23 := cellL hb5 i1_16
    clear i1_16
    have i2_24 := cellL hb5 i2_17
    clear i2_17
    have o0_25 := cellL hb5 o0_18
    clear o0_18
    have o1_26 := cellL hb5 o1_19
    clear o1_19
    have HFR_27 := Lib.hid (Fresh.mono HFR_20.out hb5)
    clear HFR_20
    clear k0_0 k0_1
    have k0_0 := hs21.cellAt 0 rfl 0 rfl
    have k0_1 := hs21.cellAt 0 rfl 1 rfl
    have hb : w5.heap[ob]? = some (.cells #[.int .i64 0, .slice none 0 0] oty (0, 0)) := by rw [hs21.bel.block ob hobw]; exact HOUT.out
    have ff0 : w5.frozen? ⟨ob, 0, none⟩ = false := free_at_block hb
    have ff1 : w5.frozen? ⟨ob, 1, none⟩ = false := free_at_block hb
    have HB5 := Lib.hid (butp_set (b := ob) (o := 1) (butp_set (b := ob) (o := 0) (ButP.of hs21.bel : ButP (fun z => z = ob ∨ w.heap.size ≤ z) _ _) (.int .i64 m) (.inl rfl)) (.slice a9 l.length c9) (.inl rfl))
    have hb1 := heap_setCell_at w5 ob 0 (.int .i64 m) _ _ _ hb
    have hb2 := heap_setCell_at (w5.setCell ⟨ob, 0, none⟩ (.int .i64 m)) ob 1 (.slice a9 l.length c9) _ _ _ hb1
    have HHIT := Lib.hid (show Hit ob H ((w5.setCell ⟨ob, 0, none⟩ (.int .i64 m)).setCell ⟨ob, 1, none⟩ (.slice a9 l.length c9)) ((m : Int), l) from ⟨_, _, by rw [cell_at_block hb2]; rfl, by rw [cell_at_block hb2]; rfl, (HFR_27.out.setCell (by (try simp only); omega) _).setCell (by (try simp only); omega) _⟩)
    clear hb hb1 hb2
    go_wp2_with fail
    go_ret
    exact ⟨rfl, HB5.out, HHIT.out⟩

/-- What the first one that is found answers. -/
def firstOfR (m : Nat) : PolyR → Int × OpT
  | .hit l => (0, ((m : Int), l))
  | .out => (7, (0, []))
  | .dry _ => (6, (0, []))
theorem firstF_dfs {t : Tmpl} {m n SZ : Nat} {isK : OpT → Bool} (hok : tmplOk t = true) (hmany : manyTo t m t.2.length ≤ 4000) (hn : t.1 ^ m = (n : Int)) (hsz : t.1 = (SZ : Int)) : firstF t m isK = firstOfR m (dfs (fun l => isK ((m : Int), l)) (fitL t m) SZ n [] 0) := by
  have h1 := pow_ge1 (tmplOk_get hok).1.1 m
  have h2 : (t.1 ^ m).toNat = n := by omega
  have h3 : t.1.toNat = SZ := by omega
  unfold firstF
  rw [if_neg (by rw [hok]; decide), if_neg (by omega)]
  unfold firstR
  rw [h2, h3]
  cases dfs (fun l => isK ((m : Int), l)) (fitL t m) SZ n [] 0 <;> rfl
set_option maxRecDepth 100000 in
set_option maxHeartbeats 4000000 in
theorem firstOf_c (t : Tmpl) (m n xb cb lo hi SZ tb kb : Nat) (es ec tr : TypeId) (K : Int) (isK : OpT → Bool) (w : World) (hok : tmplOk t = true) (hsz : t.1 = (SZ : Int)) (hm : 1 ≤ m ∧ m ≤ 3) (hn : t.1 ^ m = (n : Int)) (hn64 : n ≤ 64)
    (hF : ∀ H, hi ≤ H → FindR lo hi H w t m xb cb n es ec tr 2 [] 0) (hhi : hi ≤ w.heap.size) (c0 : w.cell? ⟨tb, 0, none⟩ = some (.int .i64 t.1)) (ck : w.cell? ⟨kb, 0, none⟩ = some (.int .i64 K)) (htk : tb ≠ xb ∧ kb ≠ xb)
    (HK : ∀ (f : OpT) (v0 v1 : Value) (w : World), Rd w [v0, v1] f → opOk t.1 f = true → Calls Tryz.prog 132 #[.int .i64 t.1, .agg #[v0, v1], .int .i64 K] w fun e w' => e = .returned (.bool (isK f)) ∧ Below w.heap.size w w') :
    Calls Tryz.prog 130 #[.pointer (some ⟨xb, 0, none⟩), .func (.func 131) #[] #[.pointer (some ⟨tb, 0, none⟩), .pointer (some ⟨kb, 0, none⟩)]] w fun e w' =>
      ∃ v0 v1, e = .returned (.tuple #[.agg #[v0, v1], .int .i64 (firstOfR m (dfs (fun l => isK ((m : Int), l)) (fitL t m) SZ n [] 0)).1]) ∧ Fresh w.heap.size w' [v0, v1] (firstOfR m (dfs (fun l => isK ((m : Int), l)) (fitL t m) SZ n [] 0)).2 ∧ ButP (fun z => z = xb ∨ w.heap.size ≤ z) w w' := by
  have HF := Lib.hid hF
  have hxlt := (hF hi (Nat.le_refl _)).xlt
  have hfd := (hF hi (Nat.le_refl _)).fdis
  have htbl := World.block_lt_of_cell? w _ c0
  have hkbl := World.block_lt_of_cell? w _ ck
  simp only at htbl hkbl
  have HKK := Lib.hid HK
  have HOK := Lib.hid hok
  have HSZ := Lib.hid hsz
  have HN := Lib.hid hn
  have es9 : ∀ args w, (callFunc 161 args).run Tryz.prog w = .ok (.enter 161 args) w := enters_of Tryz.func161 (by kernel_rfl) rfl
  clear hF HK hok hsz hn
  obtain ⟨R, hR⟩ : ∃ R, R = dfs (fun l => isK ((m : Int), l)) (fitL t m) SZ n [] 0 := ⟨_, rfl⟩
  rw [← hR]
  have HR := Lib.hid hR
  clear hR
  have hs28 := (St.start w).alloc #[.func (.func 131) #[] #[.pointer (some ⟨tb, 0, none⟩), .pointer (some ⟨kb, 0, none⟩)]] 156 (n := w.heap.size) (by simp)
  have c0_29 := cellL (belowA _ (.cells #[.func (.func 131) #[] #[.pointer (some ⟨tb, 0, none⟩), .pointer (some ⟨kb, 0, none⟩)]] 156)) c0
  clear c0
  have ck_30 := cellL (belowA _ (.cells #[.func (.func 131) #[] #[.pointer (some ⟨tb, 0, none⟩), .pointer (some ⟨kb, 0, none⟩)]] 156)) ck
  clear ck
  have k0_0 := hs28.cellAt 0 rfl 0 rfl
  have hs31 := hs28.alloc #[.int .i64 0, .slice none 0 0] 34 (n := w.heap.size + 1) (by simp)
  have c0_32 := cellL (belowA _ (.cells #[.int .i64 0, .slice none 0 0] 34)) c0_29
  clear c0_29
  have ck_33 := cellL (belowA _ (.cells #[.int .i64 0, .slice none 0 0] 34)) ck_30
  clear ck_30
  clear k0_0
  have k0_0 := hs31.cellAt 0 rfl 0 rfl
  have k1_0 := hs31.cellAt 1 rfl 0 rfl
  have k1_1 := hs31.cellAt 1 rfl 1 rfl
  have hs34 := hs31.alloc #[.int .i64 0, .slice none 0 0] 34 (n := w.heap.size + 1 + 1) (by simp)
  have c0_35 := cellL (belowA _ (.cells #[.int .i64 0, .slice none 0 0] 34)) c0_32
  clear c0_32
  have ck_36 := cellL (belowA _ (.cells #[.int .i64 0, .slice none 0 0] 34)) ck_33
  clear ck_33
  clear k0_0 k1_0 k1_1
  have k0_0 := hs34.cellAt 0 rfl 0 rfl
  have k1_0 := hs34.cellAt 1 rfl 0 rfl
  have k1_1 := hs34.cellAt 1 rfl 1 rfl
  have k2_0 := hs34.cellAt 2 rfl 0 rfl
  have k2_1 := hs34.cellAt 2 rfl 1 rfl
  go_enter Tryz.func130, Tryz.ntmps130
  go_upto_region 2 with fail
  have hz_wS : w.heap.size + 1 + 1 + 1 ≤ ((((w.alloc (.cells #[.func (.func 131) #[] #[.pointer (some ⟨tb, 0, none⟩), .pointer (some ⟨kb, 0, none⟩)]] 156)).alloc (.cells #[.int .i64 0, .slice none 0 0] 34)).alloc (.cells #[.int .i64 0, .slice none 0 0] 34))).heap.size := by simp
  generalize hgen_wS : (((w.alloc (.cells #[.func (.func 131) #[] #[.pointer (some ⟨tb, 0, none⟩), .pointer (some ⟨kb, 0, none⟩)]] 156)).alloc (.cells #[.int .i64 0, .slice none 0 0] 34)).alloc (.cells #[.int .i64 0, .slice none 0 0] 34)) = wS at *
  clear hgen_wS
  have hzS : w.heap.size + 1 + 1 + 1 ≤ wS.heap.size := hs34.hi
  have HFS := Lib.hid ((HF.out wS.heap.size (by omega)).mono hs34.bel)
  have HMI := Lib.hid (show Minds w.heap.size (w.heap.size + 1 + 1) tb kb t.1 K wS from ⟨(hs34.cellAt 0 rfl 0 rfl), c0_35, ck_36, _, (hs34.box (w.heap.size + 1 + 1, #[.int .i64 0, .slice none 0 0], 34) (by simp)).2.2⟩)
  have HRB := Lib.hid (hs34.box (w.heap.size + 1, #[.int .i64 0, .slice none 0 0], 34) (by simp)).2.2
  have HBS := Lib.hid (show ButP (fun z => z = xb ∨ w.heap.size ≤ z) w wS from ButP.of hs34.bel)
  go_wp2_with fail
  refine (search_c t m n xb cb lo hi wS.heap.size (w.heap.size + 1 + 1) 161 SZ es ec tr _ (fun l => isK ((m : Int), l)) (Minds w.heap.size (w.heap.size + 1 + 1) tb kb t.1 K) HOK.out HSZ.out hn64 hm.2 (by omega) es9
    (firstOf1_by t K isK w.heap.size (w.heap.size + 1 + 1) tb kb wS.heap.size n m HOK.out hm HN.out (by omega) HKK.out)
    (fun w1 w2 h hb => h.keep hb (by omega) (by omega)) n [] 0 wS HFS.out (by simp) (fun a h => by cases h) (by omega) (Nat.le_refl _) HMI.out).mono ?_
  rintro e w5 ⟨rfl, hS⟩
  rw [← HR.out] at hS ⊢
  clear HR
  have hRB : w5.heap[w.heap.size + 1]? = some (.cells #[.int .i64 0, .slice none 0 0] 34 (0, 0)) := (hS.1.block _ (by omega) (by omega)).trans HRB.out
  have r0 : w5.cell? ⟨w.heap.size + 1, 0, none⟩ = some (.int .i64 0) := by rw [cell_at_block hRB]; rfl
  have r1 : w5.cell? ⟨w.heap.size + 1, 1, none⟩ = some (.slice none 0 0) := by rw [cell_at_block hRB]; rfl
  have f0 : w5.frozen? ⟨w.heap.size + 1, 0, none⟩ = false := free_at_block hRB
  have f1 : w5.frozen? ⟨w.heap.size + 1, 1, none⟩ = false := free_at_block hRB
  have HRB5 := Lib.hid hRB
  have HB5 := Lib.hid (HBS.out.trans hS.1 (fun z hz => by omega))
  have HS := Lib.hid hS
  clear hS hRB
  cases R with
  | dry s =>
    rw [show codeR (.dry s) = 0 from rfl]
    have hb1 := heap_setCell_at w5 (w.heap.size + 1) 0 (.int .i64 0) _ _ _ HRB5.out
    have hb2 := heap_setCell_at _ (w.heap.size + 1) 1 (.slice none 0 0) _ _ _ hb1
    have x0 : ((w5.setCell ⟨w.heap.size + 1, 0, none⟩ (.int .i64 0)).setCell ⟨w.heap.size + 1, 1, none⟩ (.slice none 0 0)).cell? ⟨w.heap.size + 1, 0, none⟩ = some (.int .i64 0) := by rw [cell_at_block hb2]; rfl
    have x1 : ((w5.setCell ⟨w.heap.size + 1, 0, none⟩ (.int .i64 0)).setCell ⟨w.heap.size + 1, 1, none⟩ (.slice none 0 0)).cell? ⟨w.heap.size + 1, 1, none⟩ = some (.slice none 0 0) := by rw [cell_at_block hb2]; rfl
    have HBX := Lib.hid (butp_set (b := w.heap.size + 1) (o := 1) (butp_set (b := w.heap.size + 1) (o := 0) HB5.out (.int .i64 0) (by omega)) (.slice none 0 0) (by omega))
    clear hb1 hb2
    go_wp2_with fail
    exact bodyPost_ret (v := .tuple #[.agg #[.int .i64 0, .slice none 0 0], .int .i64 6]) (by simp [results, Tryz.results130, go_sem, x0, x1]) rfl ⟨_, _, rfl, fresh_intO2 ⟨by decide, by decide⟩ fresh_nil_list, HBX.out⟩
  | out =>
    rw [show codeR .out = 7 from rfl]
    have hb1 := heap_setCell_at w5 (w.heap.size + 1) 0 (.int .i64 0) _ _ _ HRB5.out
    have hb2 := heap_setCell_at _ (w.heap.size + 1) 1 (.slice none 0 0) _ _ _ hb1
    have x0 : ((w5.setCell ⟨w.heap.size + 1, 0, none⟩ (.int .i64 0)).setCell ⟨w.heap.size + 1, 1, none⟩ (.slice none 0 0)).cell? ⟨w.heap.size + 1, 0, none⟩ = some (.int .i64 0) := by rw [cell_at_block hb2]; rfl
    have x1 : ((w5.setCell ⟨w.heap.size + 1, 0, none⟩ (.int .i64 0)).setCell ⟨w.heap.size + 1, 1, none⟩ (.slice none 0 0)).cell? ⟨w.heap.size + 1, 1, none⟩ = some (.slice none 0 0) := by rw [cell_at_block hb2]; rfl
    have HBX := Lib.hid (butp_set (b := w.heap.size + 1) (o := 1) (butp_set (b := w.heap.size + 1) (o := 0) HB5.out (.int .i64 0) (by omega)) (.slice none 0 0) (by omega))
    clear hb1 hb2
    go_wp2_with fail
    exact bodyPost_ret (v := .tuple #[.agg #[.int .i64 0, .slice none 0 0], .int .i64 7]) (by simp [results, Tryz.results130, go_sem, x0, x1]) rfl ⟨_, _, rfl, fresh_intO2 ⟨by decide, by decide⟩ fresh_nil_list, HBX.out⟩
  | hit l =>
    rw [show codeR (.hit l) = -1 from rfl]
    obtain ⟨_, _, v0, v1, o0, o1, hfr⟩ := HS.out
    have zf := rd_cons rfl hfr.rd
    obtain ⟨rfl, _⟩ := rd_i1 zf.1
    obtain ⟨af, cf, rfl, _⟩ := rd_list zf.2
    have hb1 := heap_setCell_at w5 (w.heap.size + 1) 0 (.int .i64 m) _ _ _ HRB5.out
    have hb2 := heap_setCell_at _ (w.heap.size + 1) 1 (.slice af l.length cf) _ _ _ hb1
    have x0 : ((w5.setCell ⟨w.heap.size + 1, 0, none⟩ (.int .i64 m)).setCell ⟨w.heap.size + 1, 1, none⟩ (.slice af l.length cf)).cell? ⟨w.heap.size + 1, 0, none⟩ = some (.int .i64 m) := by rw [cell_at_block hb2]; rfl
    have x1 : ((w5.setCell ⟨w.heap.size + 1, 0, none⟩ (.int .i64 m)).setCell ⟨w.heap.size + 1, 1, none⟩ (.slice af l.length cf)).cell? ⟨w.heap.size + 1, 1, none⟩ = some (.slice af l.length cf) := by rw [cell_at_block hb2]; rfl
    have HBX := Lib.hid (butp_set (b := w.heap.size + 1) (o := 1) (butp_set (b := w.heap.size + 1) (o := 0) HB5.out (.int .i64 m) (by omega)) (.slice af l.length cf) (by omega))
    have HFX := Lib.hid (((hfr.setCell (a := ⟨w.heap.size + 1, 0, none⟩) (by (try simp only); omega) (.int .i64 m)).setCell (a := ⟨w.heap.size + 1, 1, none⟩) (by (try simp only); omega) (.slice af l.length cf)).lower (lo' := w.heap.size) (by omega))
    clear hb1 hb2 hfr zf HS
    go_wp2_with fail
    exact bodyPost_ret (v := .tuple #[.agg #[.int .i64 m, .slice af l.length cf], .int .i64 0]) (by simp [results, Tryz.results130, go_sem, x0, x1]) rfl ⟨_, _, rfl, HFX.out, HBX.out⟩

theorem isKd_c (k : Int) (w : World) : Calls Tryz.prog 127 #[.int .i64 k] w fun e w' => e = .returned (.bool (inB k 1 10)) ∧ w = w' := by
  go_enter Tryz.func127, Tryz.ntmps127
  go_wp2_with fail
  refine (within_c k 1 10 _).mono ?_
  rintro e w1 ⟨rfl, rfl⟩
  go_wp2_with fail
  go_ret
  exact ⟨rfl, rfl⟩
set_option maxRecDepth 100000 in
set_option maxHeartbeats 4000000 in
theorem searchFault_c (t : Tmpl) (m : Nat) (t0 t1 : Value) (w : World) (ht : Rd w [t0, t1] t) (hm : 1 ≤ m ∧ m ≤ 3) :
    Calls Tryz.prog 126 #[.agg #[t0, t1], .int .i64 m] w fun e w' => e = .returned (.int .i64 (okC (tmplOk t))) ∧ Below w.heap.size w w' := by
  have HT := Lib.hid ht
  obtain ⟨Q, hQ⟩ : ∃ Q, Q = tmplOk t := ⟨_, rfl⟩
  rw [← hQ]
  have HQ := Lib.hid hQ
  obtain ⟨size, rs⟩ := t
  have zt := rd_cons rfl ht
  obtain ⟨rfl, hI⟩ := rd_i1 zt.1
  obtain ⟨at0, ct0, rfl, _⟩ := rd_list zt.2
  clear ht hQ zt
  have hs37 := (St.start w).alloc #[.int .i64 size, .slice at0 rs.length ct0] 26 (n := w.heap.size) (by simp)
  have k0_0 := hs37.cellAt 0 rfl 0 rfl
  have k0_1 := hs37.cellAt 0 rfl 1 rfl
  go_enter Tryz.func126, Tryz.ntmps126
  go_wp2_with fail
  refine (ValidTemplate_c (size, rs) _ _ _ (Rd.mono HT.out hs37.bel)).mono ?_
  rintro e w38 ⟨rfl, hbw38⟩
  have hz_w38 : w.heap.size + 1 ≤ w38.heap.size := by have h9 := hbw38.size; (try simp at h9); omega
  have hs39 := hs37.step hbw38
  clear k0_0 k0_1
  have k0_0 := hs39.cellAt 0 rfl 0 rfl
  have k0_1 := hs39.cellAt 0 rfl 1 rfl
  rw [← HQ.out]
  have HI := Lib.hid (show inB (m : Int) 1 3 = true from inB_mk (by omega))
  cases Q with
  | true =>
    go_wp2_with fail
    refine (isOpArity_c (m : Int) _).mono ?_
    rintro e w40 ⟨rfl, rfl⟩
    rw [HI.out]
    go_wp2_with fail
    go_ret
    exact ⟨rfl, hs39.bel⟩
  | false =>
    go_wp2_with fail
    go_ret
    exact ⟨rfl, hs39.bel⟩
set_option maxRecDepth 100000 in
set_option maxHeartbeats 16000000 in
theorem FirstPolymorphism_c (t : Tmpl) (m : Nat) (K : Int) (isK : OpT → Bool) (t0 t1 : Value) (w : World) (ht : Rd w [t0, t1] t) (hm : 1 ≤ m ∧ m ≤ 3) (hK : 1 ≤ K ∧ K ≤ 10)
    (HK : ∀ (f : OpT) (v0 v1 : Value) (w : World), Rd w [v0, v1] f → opOk t.1 f = true → Calls Tryz.prog 132 #[.int .i64 t.1, .agg #[v0, v1], .int .i64 K] w fun e w' => e = .returned (.bool (isK f)) ∧ Below w.heap.size w w') :
    Calls Tryz.prog 62 #[.agg #[t0, t1], .int .i64 m, .int .i64 K] w fun e w' => ∃ v0 v1, e = .returned (.tuple #[.agg #[v0, v1], .int .i64 (firstF t m isK).1]) ∧ Fresh w.heap.size w' [v0, v1] (firstF t m isK).2 ∧ Below w.heap.size w w' := by
  have HKK := Lib.hid HK
  have HT := Lib.hid ht
  obtain ⟨FF, hFF⟩ : ∃ FF, FF = firstF t m isK := ⟨_, rfl⟩
  rw [← hFF]
  have HFF := Lib.hid hFF
  clear hFF
  obtain ⟨size, rs⟩ := t
  have zt := rd_cons rfl ht
  obtain ⟨rfl, hI⟩ := rd_i1 zt.1
  obtain ⟨at0, ct0, rfl, _⟩ := rd_list zt.2
  clear ht zt HK
  have hs41 := (St.start w).alloc #[.int .i64 size, .slice at0 rs.length ct0] 26 (n := w.heap.size) (by simp)
  have k0_0 := hs41.cellAt 0 rfl 0 rfl
  have k0_1 := hs41.cellAt 0 rfl 1 rfl
  have hs42 := hs41.alloc #[.int .i64 K] 2 (n := w.heap.size + 1) (by simp)
  clear k0_0 k0_1
  have k0_0 := hs42.cellAt 0 rfl 0 rfl
  have k0_1 := hs42.cellAt 0 rfl 1 rfl
  have k1_0 := hs42.cellAt 1 rfl 0 rfl
  have hs43 := hs42.alloc #[.int .i64 0, .slice none 0 0] 34 (n := w.heap.size + 1 + 1) (by simp)
  clear k0_0 k0_1 k1_0
  have k0_0 := hs43.cellAt 0 rfl 0 rfl
  have k0_1 := hs43.cellAt 0 rfl 1 rfl
  have k1_0 := hs43.cellAt 1 rfl 0 rfl
  have k2_0 := hs43.cellAt 2 rfl 0 rfl
  have k2_1 := hs43.cellAt 2 rfl 1 rfl
  go_enter Tryz.func62, Tryz.ntmps62
  go_wp2_with fail
  refine (searchFault_c (size, rs) m _ _ _ (Rd.mono HT.out hs43.bel) hm).mono ?_
  rintro e w44 ⟨rfl, hbw44⟩
  have hz_w44 : w.heap.size + 1 + 1 + 1 ≤ w44.heap.size := by have h9 := hbw44.size; (try simp at h9); omega
  have hs45 := hs43.step hbw44
  clear k0_0 k0_1 k1_0 k2_0 k2_1
  have k0_0 := hs45.cellAt 0 rfl 0 rfl
  have k0_1 := hs45.cellAt 0 rfl 1 rfl
  have k1_0 := hs45.cellAt 1 rfl 0 rfl
  have k2_0 := hs45.cellAt 2 rfl 0 rfl
  have k2_1 := hs45.cellAt 2 rfl 1 rfl
  by_cases hok : tmplOk (size, rs) = true
  · rw [show okC (tmplOk (size, rs)) = 0 by rw [hok]; rfl]
    have HOK := Lib.hid hok
    have hs : 1 ≤ size ∧ size ≤ 4 := (tmplOk_get hok).1
    have HKI := Lib.hid (show inB K 1 10 = true from inB_mk hK)
    have hcp := capTo_le (size, rs) m rs.length
    have hrl := (tmplOk_get hok).2.1
    simp only at hrl
    go_wp2_with fail
    refine (isKd_c K _).mono ?_
    rintro e w46 ⟨rfl, rfl⟩
    rw [HKI.out]
    clear hok
    by_cases hmany : manyTo (size, rs) m rs.length ≤ 4000
    · have hcap : capTo (size, rs) m rs.length ≤ 4000 := by omega
      have HMANY := Lib.hid hmany
      clear hmany
      have hcapI : ¬ ((4000 : Int) < capTo (size, rs) m rs.length) := by omega
      obtain ⟨n, hn⟩ : ∃ n : Nat, size ^ m = (n : Int) := ⟨(size ^ m).toNat, by have := pow_ge1 hs.1 m; omega⟩
      have HN := Lib.hid hn
      have hn64 : n ≤ 64 := by have := pow64_cases hs hm hn; omega
      obtain ⟨SZ, hSZ⟩ : ∃ SZ : Nat, size = (SZ : Int) := ⟨size.toNat, by omega⟩
      have HSZ := Lib.hid hSZ
      have HFD := Lib.hid (firstF_dfs (isK := isK) HOK.out HMANY.out HN.out HSZ.out)
      clear hn hSZ hcp
      go_wp2_with fail
      refine (manyLooks_c (size, rs) m _ _ _ (Rd.mono HT.out hs45.bel) HOK.out hm).mono ?_
      rintro e w47 ⟨rfl, hbw47⟩
      have hz_w47 : w44.heap.size ≤ w47.heap.size := by have h9 := hbw47.size; (try simp at h9); omega
      have hs48 := hs45.step hbw47
      clear k0_0 k0_1 k1_0 k2_0 k2_1
      have k0_0 := hs48.cellAt 0 rfl 0 rfl
      have k0_1 := hs48.cellAt 0 rfl 1 rfl
      have k1_0 := hs48.cellAt 1 rfl 0 rfl
      have k2_0 := hs48.cellAt 2 rfl 0 rfl
      have k2_1 := hs48.cellAt 2 rfl 1 rfl
      go_wp2_with fail
      refine (newFinder_c (size, rs) m n _ _ _ (Rd.mono HT.out hs48.bel) HOK.out hm HN.out HMANY.out).mono ?_
      rintro e w49 ⟨xb, rfl, hbw49, hxb, cb, lo, hfn⟩
      have hz_w49 : w47.heap.size ≤ w49.heap.size := by have h9 := hbw49.size; (try simp at h9); omega
      have hs50 := hs48.step hbw49
      clear k0_0 k0_1 k1_0 k2_0 k2_1
      have k0_0 := hs50.cellAt 0 rfl 0 rfl
      have k0_1 := hs50.cellAt 0 rfl 1 rfl
      have k1_0 := hs50.cellAt 1 rfl 0 rfl
      have k2_0 := hs50.cellAt 2 rfl 0 rfl
      have k2_1 := hs50.cellAt 2 rfl 1 rfl
      have HFN := Lib.hid hfn
      clear hfn
      go_wp2_with fail
      refine (firstOf_c (size, rs) m n xb cb lo _ SZ (w.heap.size) (w.heap.size + 1) _ _ _ K isK _ HOK.out HSZ.out hm HN.out hn64 HFN.out (Nat.le_refl _) (hs50.cellAt 0 rfl 0 rfl) (hs50.cellAt 1 rfl 0 rfl) (by omega) HKK.out).mono ?_
      rintro e w9 ⟨v0, v1, rfl, hfr, hb9⟩
      rw [← HFD.out, ← HFF.out] at hfr ⊢
      clear HFD HFF
      obtain ⟨fc, fa, ft⟩ := FF
      simp only at hfr ⊢
      have zf := rd_cons rfl hfr.rd
      obtain ⟨rfl, _⟩ := rd_i1 zf.1
      obtain ⟨af, cf, rfl, _⟩ := rd_list zf.2
      have HFR := Lib.hid hfr
      have hs9 := hs50.butP hb9 (fun z hz => by omega) (fun x hx hA => by simp only [List.cons_append, List.nil_append, List.mem_cons, List.not_mem_nil, or_false] at hx; rcases hx with rfl | rfl | rfl <;> (try simp only at hA) <;> omega)
      have hz9 := hb9.size
      clear hfr zf hb9 HFN
      clear k0_0 k0_1 k1_0 k2_0 k2_1
      have k0_0 := hs9.cellAt 0 rfl 0 rfl
      have k0_1 := hs9.cellAt 0 rfl 1 rfl
      have k1_0 := hs9.cellAt 1 rfl 0 rfl
      have k2_0 := hs9.cellAt 2 rfl 0 rfl
      have k2_1 := hs9.cellAt 2 rfl 1 rfl
      have f2_0 := hs9.freeAt 2 rfl 0
      have f2_1 := hs9.freeAt 2 rfl 1
      go_wp2_with fail
      have HFX := Lib.hid (((HFR.out.lower (lo' := w.heap.size + 1 + 1 + 1) (by omega)).setCell (a := ⟨w.heap.size + 1 + 1, 0, none⟩) (by (try simp only); omega) (.int .i64 fa)).setCell (a := ⟨w.heap.size + 1 + 1, 1, none⟩) (by (try simp only); omega) (.slice af ft.length cf) |>.lower (lo' := w.heap.size) (by omega))
      have hs51 := hs9.set (p := [_, _]) (by simp <;> omega) 0 (.int .i64 fa)
      have hs52 := hs51.set (p := [_, _]) (by simp <;> omega) 1 (.slice af ft.length cf)
      have x0 := (hs52.cellAt 2 rfl 0 rfl)
      have x1 := (hs52.cellAt 2 rfl 1 rfl)
      exact bodyPost_ret (v := .tuple #[.agg #[.int .i64 fa, .slice af ft.length cf], .int .i64 fc]) (by simp [results, Tryz.results62, go_sem, x0, x1]) rfl ⟨_, _, rfl, HFX.out, hs52.bel⟩
    · have hcapI : (4000 : Int) < capTo (size, rs) m rs.length := by omega
      obtain rfl : FF = (3, (0, [])) := HFF.out.trans (by unfold firstF; rw [if_neg (by rw [HOK.out]; decide), if_pos (by simp only; omega)])
      clear HFF hmany hcp
      go_wp2_with fail
      refine (manyLooks_c (size, rs) m _ _ _ (Rd.mono HT.out hs45.bel) HOK.out hm).mono ?_
      rintro e w53 ⟨rfl, hbw53⟩
      have hz_w53 : w44.heap.size ≤ w53.heap.size := by have h9 := hbw53.size; (try simp at h9); omega
      have hs54 := hs45.step hbw53
      clear k0_0 k0_1 k1_0 k2_0 k2_1
      have k0_0 := hs54.cellAt 0 rfl 0 rfl
      have k0_1 := hs54.cellAt 0 rfl 1 rfl
      have k1_0 := hs54.cellAt 1 rfl 0 rfl
      have k2_0 := hs54.cellAt 2 rfl 0 rfl
      have k2_1 := hs54.cellAt 2 rfl 1 rfl
      have f2_0 := hs54.freeAt 2 rfl 0
      have f2_1 := hs54.freeAt 2 rfl 1
      go_wp2_with fail
      have hs55 := hs54.set (p := [_, _]) (by simp <;> omega) 0 (.int .i64 0)
      have hs56 := hs55.set (p := [_, _]) (by simp <;> omega) 1 (.slice none 0 0)
      have x0 := (hs56.cellAt 2 rfl 0 rfl)
      have x1 := (hs56.cellAt 2 rfl 1 rfl)
      exact bodyPost_ret (v := .tuple #[.agg #[.int .i64 0, .slice none 0 0], .int .i64 3]) (by simp [results, Tryz.results62, go_sem, x0, x1]) rfl ⟨_, _, rfl, fresh_intO2 ⟨by decide, by decide⟩ fresh_nil_list, hs56.bel⟩
  · have hok2 : tmplOk (size, rs) = false := by simpa using hok
    obtain rfl : FF = (1, (0, [])) := HFF.out.trans (by unfold firstF; rw [if_pos hok2])
    clear HFF
    rw [show okC (tmplOk (size, rs)) = 1 by rw [hok2]; rfl]
    clear hok hok2
    have f2_0 := hs45.freeAt 2 rfl 0
    have f2_1 := hs45.freeAt 2 rfl 1
    go_wp2_with fail
    have hs57 := hs45.set (p := [_, _]) (by simp <;> omega) 0 (.int .i64 0)
    have hs58 := hs57.set (p := [_, _]) (by simp <;> omega) 1 (.slice none 0 0)
    have x0 := (hs58.cellAt 2 rfl 0 rfl)
    have x1 := (hs58.cellAt 2 rfl 1 rfl)
    exact bodyPost_ret (v := .tuple #[.agg #[.int .i64 0, .slice none 0 0], .int .i64 1]) (by simp [results, Tryz.results62, go_sem, x0, x1]) rfl ⟨_, _, rfl, fresh_intO2 ⟨by decide, by decide⟩ fresh_nil_list, hs58.bel⟩

end Go.Proofs.YtllenfkbfeanmaaGreat

