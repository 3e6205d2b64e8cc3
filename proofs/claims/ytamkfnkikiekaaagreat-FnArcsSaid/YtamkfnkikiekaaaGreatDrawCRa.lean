/-
  CONTRACTS of drawing (the reference's side): a template and an instance, one of them bent.
-/
import Derived.Test.YtamkfnkikiekaaaGreatDrawBRa
namespace Go.Proofs.YtamkfnkikiekaaaGreat
open Go.RowKit Go.Shelf Go.IntWalk
open Rep (Rd Own sz)
set_option linter.unusedSimpArgs false
set_option linter.unusedVariables false

theorem AccS.butL {α : Type} [Rep α] {A : Nat → Prop} {e : TypeId} {w w' : World} {v : Value} {l : List α} (h : AccS A e w v l) {ps : List Nat} (hb : But ps w w') (hp : ∀ k, k ∈ ps → ¬ A k) : AccS A e w' v l :=
  h.butP (C := fun k => k ∈ ps) (hb.butP (fun k hk => hk)) (fun k hA hk => hp k hk hA)
theorem AccS.tight {α : Type} [Rep α] {A : Nat → Prop} {e : TypeId} {w : World} {v : Value} {l : List α} (h : AccS A e w v l) : AccS (fun k => A k ∧ k < w.heap.size) e w v l := by
  obtain ⟨xs, ps, h1, h2, h3, h4⟩ := h
  exact ⟨xs, ps, h1, fun k hk => ⟨⟨(h2 k hk).1, (h2 k hk).2.1⟩, (h2 k hk).2⟩, fun k hk => ⟨h3 k hk, (h3 k hk).2⟩, h4⟩
theorem Firm.mono {α : Type} [Rep α] {lo : Nat} {w w' : World} {vs : List Value} {x : α} (h : Firm lo w vs x) (hb : Below w.heap.size w w') : Firm lo w' vs x := h.go hb.size (fun k _ hk => hb.block k hk)
theorem Firm.setCell {α : Type} [Rep α] {lo : Nat} {w : World} {vs : List Value} {x : α} {b o : Nat} (h : Firm lo w vs x) (u : Value) (hb : b < lo) : Firm lo (w.setCell ⟨b, o, none⟩ u) vs x :=
  h.go (by simp [World.setCell]) (fun k hk _ => Below.heap_setCell _ _ _ _ (fun e => by simp only at e; omega))
theorem wp_append_accS {P : Program} (w : World) {o : Oper} {a : Act} {K : Act → World → Prop} {Q : Exit → Act → World → Prop} (s x : Operand) (t : TypeId)
    (ho : o.op = .call { callee := .builtin .append, args := #[s, x], argTypes := #[t, t] }) {e : TypeId} {α : Type} [Rep α] {z : Value} {bytes : Nat} (E : ElemT P t e α z bytes) {v : Value} {l : List α} {A : Nat → Prop}
    (hs : a.eval s = v) (hacc : AccS A e w v l) {y : α} {vs : List Value} {q : List Nat} (hy : Own q w vs y) (hq : ∀ k, k ∈ q → A k ∧ k < w.heap.size ∧ k ∉ v.ownBlock.toList)
    (ad : Addr) (c : Nat) (hx : a.eval x = .slice (some ad) 1 c) (hnews : ∀ j u, vs[j]? = some u → w.cell? (ad.add j) = some u) (hlen : l.length + 1 ≤ 1073741824)
    (h : ∀ a' c' w', AccS (fun k => A k ∨ k = w.heap.size) e w' (.slice a' (l.length + 1) c') (l ++ [y]) → ButP A w w' → K (a.put o.dst (.slice a' (l.length + 1) c')) w') : o.wp P a w K Q := by
  obtain ⟨xs, ps, h1, h2, h3, h4⟩ := hacc
  refine wp_append_row w s x t ho E hs h1 (Rep.rd_len (Own.rd hy)) (Rep.rd_one (Own.rd hy)) ad c hx hnews hlen (fun g' c' w' hg hrow hb hlt => ?_)
  have hps : ∀ k, k ∈ ps ++ q → k ∉ v.ownBlock.toList := fun k hk hm => by
    rcases List.mem_append.1 hk with hk | hk
    · exact (h2 k hm).2.2 hk
    · exact (hq k hk).2.2 hm
  refine h _ c' w' ⟨xs ++ vs, ps ++ q, by simpa using hrow, fun k hk => ?_, fun k hk => ?_, fun i hi => ?_⟩ (hb.butP (fun k hk => (h2 k hk).1))
  · simp only [Value.ownBlock, Option.toList_some, List.mem_singleton] at hk
    subst hk
    rcases hg with hg | hg
    · have hm : k ∈ v.ownBlock.toList := by simp [hg]
      exact ⟨.inl (h2 k hm).1, hlt, fun hk => hps k hk hm⟩
    · refine ⟨.inr hg, hlt, fun hk => ?_⟩
      rcases List.mem_append.1 hk with hk | hk
      · have := (h3 k hk).2; omega
      · have := (hq k hk).2.1; omega
  · rcases List.mem_append.1 hk with hk | hk
    · exact ⟨.inl (h3 k hk).1, by have := (h3 k hk).2; have := hb.size; omega⟩
    · exact ⟨.inl (hq k hk).1, by have := (hq k hk).2.1; have := hb.size; omega⟩
  · have hlx : xs.length = l.length * sz α := h1.1
    rcases Nat.lt_or_ge i l.length with hil | hil
    · obtain ⟨p, us, hp, hO, hc⟩ := h4 i hil
      refine ⟨p, us, fun k hk => List.mem_append.2 (.inl (hp k hk)), ?_, fun k hk => ?_⟩
      · rw [List.getElem_append_left hil]
        exact Own.but hO hb (fun k hk hm => hps k (List.mem_append.2 (.inl (hp k hk))) hm)
      · have hk2 : k < sz α := by have := Rep.rd_len (Own.rd hO); omega
        have hb2 : i * sz α + k < l.length * sz α := by
          have h6 : (i + 1) * sz α ≤ l.length * sz α := Nat.mul_le_mul_right _ hil
          rw [Nat.add_mul] at h6
          omega
        rw [List.getElem?_append_left (by omega)]
        exact hc k hk
    · have hie : i = l.length := by simp at hi; omega
      subst hie
      refine ⟨q, vs, fun k hk => List.mem_append.2 (.inr hk), ?_, fun k hk => ?_⟩
      · simp only [List.getElem_append_right (Nat.le_refl _), Nat.sub_self, List.getElem_cons_zero]
        exact Own.but hy hb (fun k hk hm => hps k (List.mem_append.2 (.inr hk)) hm)
      · rw [List.getElem?_append_right (by omega), hlx, Nat.add_sub_cancel_left]
set_option maxRecDepth 100000 in
set_option maxHeartbeats 16000000 in
theorem l05Bent_c (L B b k : Nat) (w : World) (h : Src L B w b k) (hB : B ≤ w.heap.size) (hk : k ≤ 400000000) :
    Calls Tryz.prog 40 #[.pointer (some ⟨b, 0, none⟩)] w fun e w' => ∃ (s U : Int) (v v2 : Value), e = .returned (.tuple #[.agg #[.int .i64 s, v], .agg #[.int .i64 U, v2]]) ∧ ∃ (rs : List RelT) (l : List OpT), Firm w.heap.size w' [.int .i64 s, v] ((s, rs) : Tmpl) ∧ Firm w.heap.size w' [.int .i64 U, v2] ((U, l) : Inst) ∧ Src L B w' b (k + 50000) ∧ But [b] w w' := by
  have hbw := h.lt
  have HSR := Lib.hid h
  have HBT := Lib.hid (But.refl [b] w)
  clear h
  have hs1 := (St.start w).alloc #[.int .i64 0, .slice none 0 0] 26 (n := w.heap.size) (by simp)
  have HSR_2 := Lib.hid (Src.mono HSR.out (belowA _ (.cells #[.int .i64 0, .slice none 0 0] 26)))
  clear HSR
  have k0_0 := hs1.cellAt 0 rfl 0 rfl
  have k0_1 := hs1.cellAt 0 rfl 1 rfl
  have hs3 := hs1.alloc #[.int .i64 0, .slice none 0 0] 29 (n := w.heap.size + 1) (by simp)
  have HSR_4 := Lib.hid (Src.mono HSR_2.out (belowA _ (.cells #[.int .i64 0, .slice none 0 0] 29)))
  clear HSR_2
  clear k0_0 k0_1
  have k0_0 := hs3.cellAt 0 rfl 0 rfl
  have k0_1 := hs3.cellAt 0 rfl 1 rfl
  have k1_0 := hs3.cellAt 1 rfl 0 rfl
  have k1_1 := hs3.cellAt 1 rfl 1 rfl
  go_enter Tryz.func40, Tryz.ntmps40
  go_wp2_with fail
  have hs5 := hs3.alloc #[.int .i64 2, .int .i64 2, .int .i64 3, .int .i64 3, .int .i64 4] 2 (n := w.heap.size + 1 + 1) (by simp)
  have HSR_6 := Lib.hid (Src.mono HSR_4.out (belowA _ (.cells #[.int .i64 2, .int .i64 2, .int .i64 3, .int .i64 3, .int .i64 4] 2)))
  clear HSR_4
  clear k0_0 k0_1 k1_0 k1_1
  have k0_0 := hs5.cellAt 0 rfl 0 rfl
  have k0_1 := hs5.cellAt 0 rfl 1 rfl
  have k1_0 := hs5.cellAt 1 rfl 0 rfl
  have k1_1 := hs5.cellAt 1 rfl 1 rfl
  have k2_0 := hs5.cellAt 2 rfl 0 rfl
  have k2_1 := hs5.cellAt 2 rfl 1 rfl
  have k2_2 := hs5.cellAt 2 rfl 2 rfl
  have k2_3 := hs5.cellAt 2 rfl 3 rfl
  have k2_4 := hs5.cellAt 2 rfl 4 rfl
  have HLI := Lib.hid (fresh_ilits [2, 2, 3, 3, 4] (lo := w.heap.size) (hs5.box (w.heap.size + 1 + 1, #[.int .i64 2, .int .i64 2, .int .i64 3, .int .i64 3, .int .i64 4], 2) (by simp)).2.2 (by (try simp); omega) (small_i64 (by decide)) (by simp))
  go_wp2_with fail
  refine (among_c [2, 2, 3, 3, 4] _ w.heap.size L B b k _ HSR_6.out (by omega) HLI.out (by omega) (by simp) (by simp)).mono ?_
  rintro e w7 ⟨SZ, rfl, hsz, hrw7, hbw7⟩
  obtain ⟨wz8, hs9, hz_wz8, hy_wz8, hc_wz8⟩ := hs5.cut hbw7 (by intro k hk; simp only [List.mem_singleton] at hk; omega)
  have hz_w7 : w.heap.size + 1 + 1 + 1 ≤ w7.heap.size := by have h9 := hbw7.size; (try simp at h9); omega
  have HSR_10 := Lib.hid hrw7
  clear HSR_6
  have HBT_11 := Lib.hid (HBT.out.trans hc_wz8)
  clear HBT
  clear hrw7 hc_wz8
  clear k0_0 k0_1 k1_0 k1_1 k2_0 k2_1 k2_2 k2_3 k2_4
  have k0_0 := hs9.cellAt 0 rfl 0 rfl
  have k0_1 := hs9.cellAt 0 rfl 1 rfl
  have k1_0 := hs9.cellAt 1 rfl 0 rfl
  have k1_1 := hs9.cellAt 1 rfl 1 rfl
  have k2_0 := hs9.cellAt 2 rfl 0 rfl
  have k2_1 := hs9.cellAt 2 rfl 1 rfl
  have k2_2 := hs9.cellAt 2 rfl 2 rfl
  have k2_3 := hs9.cellAt 2 rfl 3 rfl
  have k2_4 := hs9.cellAt 2 rfl 4 rfl
  have hs4 : 2 ≤ SZ ∧ SZ ≤ 4 := by simp at hsz; omega
  clear hsz HLI
  go_wp2_with fail
  refine (l01TemplateDrawn_c SZ L B b (k + 1) _ HSR_10.out (by (try simp); omega) (by omega) (by omega)).mono ?_
  rintro e w12 ⟨v9, rfl, l9, fr9, ok9, hl3, hrw12, hbw12⟩
  obtain ⟨wz13, hs14, hz_wz13, hy_wz13, hc_wz13⟩ := hs9.cut hbw12 (by intro k hk; simp only [List.mem_singleton] at hk; omega)
  have hz_w12 : w7.heap.size ≤ w12.heap.size := by have h9 := hbw12.size; (try simp at h9); omega
  have HSR_15 := Lib.hid hrw12
  clear HSR_10
  have HBT_16 := Lib.hid (HBT_11.out.trans hc_wz13)
  clear HBT_11
  clear hrw12 hc_wz13
  clear k0_0 k0_1 k1_0 k1_1 k2_0 k2_1 k2_2 k2_3 k2_4
  have k0_0 := hs14.cellAt 0 rfl 0 rfl
  have k0_1 := hs14.cellAt 0 rfl 1 rfl
  have k1_0 := hs14.cellAt 1 rfl 0 rfl
  have k1_1 := hs14.cellAt 1 rfl 1 rfl
  have k2_0 := hs14.cellAt 2 rfl 0 rfl
  have k2_1 := hs14.cellAt 2 rfl 1 rfl
  have k2_2 := hs14.cellAt 2 rfl 2 rfl
  have k2_3 := hs14.cellAt 2 rfl 3 rfl
  have k2_4 := hs14.cellAt 2 rfl 4 rfl
  obtain ⟨a9, c9, rfl, _⟩ := fr9.len
  have HTF := Lib.hid (ip_icD (k := SZ) ⟨by omega, by omega⟩ (((fr9.tight).wk (C := fun z => w.heap.size + 1 + 1 ≤ z ∧ z < w12.heap.size) (fun z hz => ⟨by have := hz.1; omega, hz.2⟩)).ip))
  have HOK := Lib.hid ok9
  clear fr9 ok9
  have hs17 := hs14.alloc #[.int .i64 SZ, .slice a9 l9.length c9] 26 (n := w12.heap.size) (by simp)
  have HSR_18 := Lib.hid (Src.mono HSR_15.out (belowA _ (.cells #[.int .i64 SZ, .slice a9 l9.length c9] 26)))
  clear HSR_15
  have HTF_19 := Lib.hid (Ip.mono HTF.out (belowA _ (.cells #[.int .i64 SZ, .slice a9 l9.length c9] 26)))
  clear HTF
  clear k0_0 k0_1 k1_0 k1_1 k2_0 k2_1 k2_2 k2_3 k2_4
  have k0_0 := hs17.cellAt 0 rfl 0 rfl
  have k0_1 := hs17.cellAt 0 rfl 1 rfl
  have k1_0 := hs17.cellAt 1 rfl 0 rfl
  have k1_1 := hs17.cellAt 1 rfl 1 rfl
  have k2_0 := hs17.cellAt 2 rfl 0 rfl
  have k2_1 := hs17.cellAt 2 rfl 1 rfl
  have k2_2 := hs17.cellAt 2 rfl 2 rfl
  have k2_3 := hs17.cellAt 2 rfl 3 rfl
  have k2_4 := hs17.cellAt 2 rfl 4 rfl
  have k3_0 := hs17.cellAt 3 rfl 0 rfl
  have k3_1 := hs17.cellAt 3 rfl 1 rfl
  go_upto_region 2 with fail
  have hz_wT : w12.heap.size + 1 ≤ ((w12.alloc (.cells #[.int .i64 SZ, .slice a9 l9.length c9] 26))).heap.size := by simp
  generalize hgen_wT : (w12.alloc (.cells #[.int .i64 SZ, .slice a9 l9.length c9] 26)) = wT at *
  clear hgen_wT
  go_wp2_with fail
  refine (l05DrawnA_c 5 (SZ, l9) _ _ w12.heap.size (w.heap.size + 1 + 1) L B b (k + 1 + 10000) _ HSR_18.out (by (try simp); omega) (by omega) (by omega) (HTF_19.out.fresh (fun z hz => by (try simp only at hz); omega)) (by omega) (by omega) (hs17.cellAt 3 rfl 1 rfl) HOK.out).mono ?_
  rintro e w20 ⟨U, v2, rfl, l2, fr8, ok8, hU, hrw20, hbw20⟩
  obtain ⟨wz21, hs22, hz_wz21, hy_wz21, hc_wz21⟩ := hs17.cut hbw20 (by intro k hk; simp only [List.mem_singleton] at hk; omega)
  have hz_w20 : wT.heap.size ≤ w20.heap.size := by have h9 := hbw20.size; (try simp at h9); omega
  have HSR_23 := Lib.hid hrw20
  clear HSR_18
  have HBT_24 := Lib.hid (HBT_16.out.trans hc_wz21)
  clear HBT_16
  have HTF_25 := Lib.hid (Ip.butL HTF_19.out hbw20 (by intro k hk; simp only [List.mem_singleton] at hk; (try simp only); omega))
  clear HTF_19
  clear hrw20 hc_wz21
  clear k0_0 k0_1 k1_0 k1_1 k2_0 k2_1 k2_2 k2_3 k2_4 k3_0 k3_1
  have k0_0 := hs22.cellAt 0 rfl 0 rfl
  have k0_1 := hs22.cellAt 0 rfl 1 rfl
  have k1_0 := hs22.cellAt 1 rfl 0 rfl
  have k1_1 := hs22.cellAt 1 rfl 1 rfl
  have k2_0 := hs22.cellAt 2 rfl 0 rfl
  have k2_1 := hs22.cellAt 2 rfl 1 rfl
  have k2_2 := hs22.cellAt 2 rfl 2 rfl
  have k2_3 := hs22.cellAt 2 rfl 3 rfl
  have k2_4 := hs22.cellAt 2 rfl 4 rfl
  have k3_0 := hs22.cellAt 3 rfl 0 rfl
  have k3_1 := hs22.cellAt 3 rfl 1 rfl
  obtain ⟨a2, c2, rfl, _⟩ := fr8.len
  have HAC := Lib.hid ((fr8.tight).wk (C := fun z => w12.heap.size + 1 ≤ z ∧ z < w20.heap.size) (fun z hz => ⟨by have := hz.1; omega, hz.2⟩))
  clear fr8 ok8
  have hs26 := hs22.alloc #[.int .i64 U, .slice a2 l2.length c2] 29 (n := w20.heap.size) (by simp)
  have HSR_27 := Lib.hid (Src.mono HSR_23.out (belowA _ (.cells #[.int .i64 U, .slice a2 l2.length c2] 29)))
  clear HSR_23
  have HTF_28 := Lib.hid (Ip.mono HTF_25.out (belowA _ (.cells #[.int .i64 U, .slice a2 l2.length c2] 29)))
  clear HTF_25
  have HAC_29 := Lib.hid (AccP.mono HAC.out (belowA _ (.cells #[.int .i64 U, .slice a2 l2.length c2] 29)))
  clear HAC
  clear k0_0 k0_1 k1_0 k1_1 k2_0 k2_1 k2_2 k2_3 k2_4 k3_0 k3_1
  have k0_0 := hs26.cellAt 0 rfl 0 rfl
  have k0_1 := hs26.cellAt 0 rfl 1 rfl
  have k1_0 := hs26.cellAt 1 rfl 0 rfl
  have k1_1 := hs26.cellAt 1 rfl 1 rfl
  have k2_0 := hs26.cellAt 2 rfl 0 rfl
  have k2_1 := hs26.cellAt 2 rfl 1 rfl
  have k2_2 := hs26.cellAt 2 rfl 2 rfl
  have k2_3 := hs26.cellAt 2 rfl 3 rfl
  have k2_4 := hs26.cellAt 2 rfl 4 rfl
  have k3_0 := hs26.cellAt 3 rfl 0 rfl
  have k3_1 := hs26.cellAt 3 rfl 1 rfl
  have k4_0 := hs26.cellAt 4 rfl 0 rfl
  have k4_1 := hs26.cellAt 4 rfl 1 rfl
  go_wp2_with fail
  refine (pick_c 24 L B b (k + 1 + 10000 + 100) _ HSR_27.out (by omega) (by omega) (by omega)).mono ?_
  rintro e w30 ⟨PK, rfl, hp0, hp1, hrw30, hbw30⟩
  obtain ⟨wz31, hs32, hz_wz31, hy_wz31, hc_wz31⟩ := hs26.cut hbw30 (by intro k hk; simp only [List.mem_singleton] at hk; omega)
  have hz_w30 : w20.heap.size + 1 ≤ w30.heap.size := by have h9 := hbw30.size; (try simp at h9); omega
  have HSR_33 := Lib.hid hrw30
  clear HSR_27
  have HBT_34 := Lib.hid (HBT_24.out.trans hc_wz31)
  clear HBT_24
  have HTF_35 := Lib.hid (Ip.butL HTF_28.out hbw30 (by intro k hk; simp only [List.mem_singleton] at hk; (try simp only); omega))
  clear HTF_28
  have HAC_36 := Lib.hid (AccP.butL HAC_29.out hbw30 (by intro k hk; simp only [List.mem_singleton] at hk; omega))
  clear HAC_29
  clear hrw30 hc_wz31
  clear k0_0 k0_1 k1_0 k1_1 k2_0 k2_1 k2_2 k2_3 k2_4 k3_0 k3_1 k4_0 k4_1
  have k0_0 := hs32.cellAt 0 rfl 0 rfl
  have k0_1 := hs32.cellAt 0 rfl 1 rfl
  have k1_0 := hs32.cellAt 1 rfl 0 rfl
  have k1_1 := hs32.cellAt 1 rfl 1 rfl
  have k2_0 := hs32.cellAt 2 rfl 0 rfl
  have k2_1 := hs32.cellAt 2 rfl 1 rfl
  have k2_2 := hs32.cellAt 2 rfl 2 rfl
  have k2_3 := hs32.cellAt 2 rfl 3 rfl
  have k2_4 := hs32.cellAt 2 rfl 4 rfl
  have k3_0 := hs32.cellAt 3 rfl 0 rfl
  have k3_1 := hs32.cellAt 3 rfl 1 rfl
  have k4_0 := hs32.cellAt 4 rfl 0 rfl
  have k4_1 := hs32.cellAt 4 rfl 1 rfl
  have hU10 : (U : Int) ≤ 5 := hU.1
  by_cases e0 : PK = 0
  · subst e0
    go_wp2_with fail
    refine (l01TemplateBent_c L B b (k + 1 + 10000 + 100 + 1) _ HSR_33.out (by (try simp); omega) (by omega)).mono ?_
    rintro e w37 ⟨S3, V3, rfl, L3, fr3, hrw37, hbw37⟩
    obtain ⟨wz38, hs39, hz_wz38, hy_wz38, hc_wz38⟩ := hs32.cut hbw37 (by intro k hk; simp only [List.mem_singleton] at hk; omega)
    have hz_w37 : w30.heap.size ≤ w37.heap.size := by have h9 := hbw37.size; (try simp at h9); omega
    have HSR_40 := Lib.hid hrw37
    clear HSR_33
    have HBT_41 := Lib.hid (HBT_34.out.trans hc_wz38)
    clear HBT_34
    have HTF_42 := Lib.hid (Ip.butL HTF_35.out hbw37 (by intro k hk; simp only [List.mem_singleton] at hk; (try simp only); omega))
    clear HTF_35
    have HAC_43 := Lib.hid (AccP.butL HAC_36.out hbw37 (by intro k hk; simp only [List.mem_singleton] at hk; omega))
    clear HAC_36
    clear hrw37 hc_wz38
    clear k0_0 k0_1 k1_0 k1_1 k2_0 k2_1 k2_2 k2_3 k2_4 k3_0 k3_1 k4_0 k4_1
    have k0_0 := hs39.cellAt 0 rfl 0 rfl
    have k0_1 := hs39.cellAt 0 rfl 1 rfl
    have k1_0 := hs39.cellAt 1 rfl 0 rfl
    have k1_1 := hs39.cellAt 1 rfl 1 rfl
    have k2_0 := hs39.cellAt 2 rfl 0 rfl
    have k2_1 := hs39.cellAt 2 rfl 1 rfl
    have k2_2 := hs39.cellAt 2 rfl 2 rfl
    have k2_3 := hs39.cellAt 2 rfl 3 rfl
    have k2_4 := hs39.cellAt 2 rfl 4 rfl
    have k3_0 := hs39.cellAt 3 rfl 0 rfl
    have k3_1 := hs39.cellAt 3 rfl 1 rfl
    have k4_0 := hs39.cellAt 4 rfl 0 rfl
    have k4_1 := hs39.cellAt 4 rfl 1 rfl
    have HT3 := Lib.hid ((fr3.ip).wk (B := fun z => w20.heap.size + 1 ≤ z ∧ z < w37.heap.size) (fun z hz => by (try simp at hz); omega))
    have z3 := rd_cons rfl fr3.rd
    obtain ⟨_, hS3⟩ := rd_i1 z3.1
    obtain ⟨a3, c3, rfl, _⟩ := rd_list z3.2
    clear fr3 z3
    have f3_0 := hs39.freeAt 3 rfl 0
    have f3_1 := hs39.freeAt 3 rfl 1
    go_upto_region 13 with fail
    have hs44 := hs39.set (p := [_, _, _]) (by simp <;> omega) 0 (.int .i64 S3)
    have hs45 := hs44.set (p := [_, _, _]) (by simp <;> omega) 1 (.slice a3 L3.length c3)
    have HSR_46 := Lib.hid (Src.below (B := B) (Src.below (B := B) HSR_40.out ((Below.refl B _).setCell (p := ⟨w12.heap.size, 0, none⟩) (by (try simp) <;> omega) (.int .i64 S3))) ((Below.refl B _).setCell (p := ⟨w12.heap.size, 1, none⟩) (by (try simp) <;> omega) (.slice a3 L3.length c3)))
    clear HSR_40
    have HTF_47 := Lib.hid (Ip.setCell (b := w12.heap.size) (o := 1) (Ip.setCell (b := w12.heap.size) (o := 0) HTF_42.out (.int .i64 S3) (by intro hA9; (try simp only at hA9); omega)) (.slice a3 L3.length c3) (by intro hA9; (try simp only at hA9); omega))
    clear HTF_42
    have HAC_48 := Lib.hid (AccP.setCell (b := w12.heap.size) (o := 1) (AccP.setCell (b := w12.heap.size) (o := 0) HAC_43.out (.int .i64 S3) (by intro hA9; (try simp only at hA9); omega)) (.slice a3 L3.length c3) (by intro hA9; (try simp only at hA9); omega))
    clear HAC_43
    have HT3_49 := Lib.hid (Ip.setCell (b := w12.heap.size) (o := 1) (Ip.setCell (b := w12.heap.size) (o := 0) HT3.out (.int .i64 S3) (by intro hA9; (try simp only at hA9); omega)) (.slice a3 L3.length c3) (by intro hA9; (try simp only at hA9); omega))
    clear HT3
    clear k0_0 k0_1 k1_0 k1_1 k2_0 k2_1 k2_2 k2_3 k2_4 k3_0 k3_1 k4_0 k4_1
    have hz_wE : w37.heap.size ≤ (((w37.setCell ⟨w12.heap.size, 0, none⟩ (.int .i64 S3)).setCell ⟨w12.heap.size, 1, none⟩ (.slice a3 L3.length c3))).heap.size := by simp [World.setCell]
    generalize hgen_wE : ((w37.setCell ⟨w12.heap.size, 0, none⟩ (.int .i64 S3)).setCell ⟨w12.heap.size, 1, none⟩ (.slice a3 L3.length c3)) = wE at *
    clear hgen_wE
    have k0_0 := hs45.cellAt 0 rfl 0 rfl
    have k0_1 := hs45.cellAt 0 rfl 1 rfl
    have k1_0 := hs45.cellAt 1 rfl 0 rfl
    have k1_1 := hs45.cellAt 1 rfl 1 rfl
    have k2_0 := hs45.cellAt 2 rfl 0 rfl
    have k2_1 := hs45.cellAt 2 rfl 1 rfl
    have k2_2 := hs45.cellAt 2 rfl 2 rfl
    have k2_3 := hs45.cellAt 2 rfl 3 rfl
    have k2_4 := hs45.cellAt 2 rfl 4 rfl
    have k3_0 := hs45.cellAt 3 rfl 0 rfl
    have k3_1 := hs45.cellAt 3 rfl 1 rfl
    have k4_0 := hs45.cellAt 4 rfl 0 rfl
    have k4_1 := hs45.cellAt 4 rfl 1 rfl
    refine wp_region_noPanic (wp_region_tree4 (fun w' => w'.cell? ⟨w.heap.size + 1, 0, none⟩ = some (.int .i64 0) ∧ w'.cell? ⟨w.heap.size + 1, 1, none⟩ = some (.slice none 0 0) ∧ w'.cell? ⟨w.heap.size + 1 + 1, 0, none⟩ = some (.int .i64 2) ∧ w'.cell? ⟨w.heap.size + 1 + 1, 1, none⟩ = some (.int .i64 2) ∧ w'.cell? ⟨w.heap.size + 1 + 1, 2, none⟩ = some (.int .i64 3) ∧ w'.cell? ⟨w.heap.size + 1 + 1, 3, none⟩ = some (.int .i64 3) ∧ w'.cell? ⟨w.heap.size + 1 + 1, 4, none⟩ = some (.int .i64 4) ∧ w'.cell? ⟨w12.heap.size, 0, none⟩ = some (.int .i64 S3) ∧ w'.cell? ⟨w12.heap.size, 1, none⟩ = some (.slice a3 L3.length c3) ∧ w'.cell? ⟨w20.heap.size, 0, none⟩ = some (.int .i64 U) ∧ w'.cell? ⟨w20.heap.size, 1, none⟩ = some (.slice a2 l2.length c2)) (.float 0 (.float 1 (.hard 2 (.last 3 .nil)))) (by kernel_rfl) (by kernel_rfl) (by kernel_rfl) rfl ?_ (fun _ _ _ _ _ h => h) ?_)
    · exact ⟨(hs45.drew).cellAt 1 rfl 0 rfl, (hs45.drew).cellAt 1 rfl 1 rfl, (hs45.drew).cellAt 2 rfl 0 rfl, (hs45.drew).cellAt 2 rfl 1 rfl, (hs45.drew).cellAt 2 rfl 2 rfl, (hs45.drew).cellAt 2 rfl 3 rfl, (hs45.drew).cellAt 2 rfl 4 rfl, (hs45.drew).cellAt 3 rfl 0 rfl, (hs45.drew).cellAt 3 rfl 1 rfl, (hs45.drew).cellAt 4 rfl 0 rfl, (hs45.drew).cellAt 4 rfl 1 rfl⟩
    have hs50 := hs45.drew
    have HSR_51 := Lib.hid (Src.mono HSR_46.out (belowD _))
    clear HSR_46
    have HTF_52 := Lib.hid (Ip.mono HTF_47.out (belowD _))
    clear HTF_47
    have HAC_53 := Lib.hid (AccP.mono HAC_48.out (belowD _))
    clear HAC_48
    have HT3_54 := Lib.hid (Ip.mono HT3_49.out (belowD _))
    clear HT3_49
    clear k0_0 k0_1 k1_0 k1_1 k2_0 k2_1 k2_2 k2_3 k2_4 k3_0 k3_1 k4_0 k4_1
    have hz_wd55 : wE.heap.size ≤ (wE.drew).heap.size := by simp
    generalize hgen_wd55 : wE.drew = wd55 at *
    have HG_wd55 := Lib.hid hgen_wd55
    clear hgen_wd55
    (repeat (first | (apply t4_skip rfl (by rfl); try simp only [Act.put, List.setIfInBounds_toArray, List.set_cons_zero, List.set_cons_succ]) | (apply t4_float rfl (by rfl); (· (intro w' hS; go_simp <;> with_reducible rfl)); (try simp only [Act.put, List.setIfInBounds_toArray, List.set_cons_zero, List.set_cons_succ]))))
    refine t4_hard rfl (by rfl) (fun K hK => ?_)
    have k0_0 := hs50.cellAt 0 rfl 0 rfl
    have k0_1 := hs50.cellAt 0 rfl 1 rfl
    have k1_0 := hs50.cellAt 1 rfl 0 rfl
    have k1_1 := hs50.cellAt 1 rfl 1 rfl
    have k2_0 := hs50.cellAt 2 rfl 0 rfl
    have k2_1 := hs50.cellAt 2 rfl 1 rfl
    have k2_2 := hs50.cellAt 2 rfl 2 rfl
    have k2_3 := hs50.cellAt 2 rfl 3 rfl
    have k2_4 := hs50.cellAt 2 rfl 4 rfl
    have k3_0 := hs50.cellAt 3 rfl 0 rfl
    have k3_1 := hs50.cellAt 3 rfl 1 rfl
    have k4_0 := hs50.cellAt 4 rfl 0 rfl
    have k4_1 := hs50.cellAt 4 rfl 1 rfl
    have f0_0 := hs50.freeAt 0 rfl 0
    have f0_1 := hs50.freeAt 0 rfl 1
    go_wp2_with fail
    have hs56 := hs50.set (p := []) (by simp <;> omega) 0 (.int .i64 S3)
    have hs57 := hs56.set (p := []) (by simp <;> omega) 1 ((.slice a3 L3.length c3))
    have HSR_58 := Lib.hid (Src.below (B := B) (Src.below (B := B) HSR_51.out ((Below.refl B _).setCell (p := ⟨w.heap.size, 0, none⟩) (by (try simp) <;> omega) (.int .i64 S3))) ((Below.refl B _).setCell (p := ⟨w.heap.size, 1, none⟩) (by (try simp) <;> omega) ((.slice a3 L3.length c3))))
    clear HSR_51
    have HTF_59 := Lib.hid (Ip.setCell (b := w.heap.size) (o := 1) (Ip.setCell (b := w.heap.size) (o := 0) HTF_52.out (.int .i64 S3) (by intro hA9; (try simp only at hA9); omega)) ((.slice a3 L3.length c3)) (by intro hA9; (try simp only at hA9); omega))
    clear HTF_52
    have HAC_60 := Lib.hid (AccP.setCell (b := w.heap.size) (o := 1) (AccP.setCell (b := w.heap.size) (o := 0) HAC_53.out (.int .i64 S3) (by intro hA9; (try simp only at hA9); omega)) ((.slice a3 L3.length c3)) (by intro hA9; (try simp only at hA9); omega))
    clear HAC_53
    have HT3_61 := Lib.hid (Ip.setCell (b := w.heap.size) (o := 1) (Ip.setCell (b := w.heap.size) (o := 0) HT3_54.out (.int .i64 S3) (by intro hA9; (try simp only at hA9); omega)) ((.slice a3 L3.length c3)) (by intro hA9; (try simp only at hA9); omega))
    clear HT3_54
    clear k0_0 k0_1 k1_0 k1_1 k2_0 k2_1 k2_2 k2_3 k2_4 k3_0 k3_1 k4_0 k4_1
    have hz_wP : wd55.heap.size ≤ (((wd55.setCell ⟨w.heap.size, 0, none⟩ (.int .i64 S3)).setCell ⟨w.heap.size, 1, none⟩ ((.slice a3 L3.length c3)))).heap.size := by simp [World.setCell]
    generalize hgen_wP : ((wd55.setCell ⟨w.heap.size, 0, none⟩ (.int .i64 S3)).setCell ⟨w.heap.size, 1, none⟩ ((.slice a3 L3.length c3))) = wP at *
    clear hgen_wP
    have k0_0 := hs57.cellAt 0 rfl 0 rfl
    have k0_1 := hs57.cellAt 0 rfl 1 rfl
    have k1_0 := hs57.cellAt 1 rfl 0 rfl
    have k1_1 := hs57.cellAt 1 rfl 1 rfl
    have k2_0 := hs57.cellAt 2 rfl 0 rfl
    have k2_1 := hs57.cellAt 2 rfl 1 rfl
    have k2_2 := hs57.cellAt 2 rfl 2 rfl
    have k2_3 := hs57.cellAt 2 rfl 3 rfl
    have k2_4 := hs57.cellAt 2 rfl 4 rfl
    have k3_0 := hs57.cellAt 3 rfl 0 rfl
    have k3_1 := hs57.cellAt 3 rfl 1 rfl
    have k4_0 := hs57.cellAt 4 rfl 0 rfl
    have k4_1 := hs57.cellAt 4 rfl 1 rfl
    refine ⟨⟨hs57.cellAt 1 rfl 0 rfl, hs57.cellAt 1 rfl 1 rfl, hs57.cellAt 2 rfl 0 rfl, hs57.cellAt 2 rfl 1 rfl, hs57.cellAt 2 rfl 2 rfl, hs57.cellAt 2 rfl 3 rfl, hs57.cellAt 2 rfl 4 rfl, hs57.cellAt 3 rfl 0 rfl, hs57.cellAt 3 rfl 1 rfl, hs57.cellAt 4 rfl 0 rfl, hs57.cellAt 4 rfl 1 rfl⟩, ?_⟩
    (repeat (first | (apply t4_skip rfl (by rfl); try simp only [Act.put, List.setIfInBounds_toArray, List.set_cons_zero, List.set_cons_succ]) | (apply t4_float rfl (by rfl); (· (intro w' hS; go_simp <;> with_reducible rfl)); (try simp only [Act.put, List.setIfInBounds_toArray, List.set_cons_zero, List.set_cons_succ]))))
    refine t4_last rfl (by rfl) (fun K hK => ?_)
    clear k0_0 k0_1 k1_0 k1_1 k2_0 k2_1 k2_2 k2_3 k2_4 k3_0 k3_1 k4_0 k4_1
    have k0_0 := hs57.cellAt 0 rfl 0 rfl
    have k0_1 := hs57.cellAt 0 rfl 1 rfl
    have k1_0 := hs57.cellAt 1 rfl 0 rfl
    have k1_1 := hs57.cellAt 1 rfl 1 rfl
    have k2_0 := hs57.cellAt 2 rfl 0 rfl
    have k2_1 := hs57.cellAt 2 rfl 1 rfl
    have k2_2 := hs57.cellAt 2 rfl 2 rfl
    have k2_3 := hs57.cellAt 2 rfl 3 rfl
    have k2_4 := hs57.cellAt 2 rfl 4 rfl
    have k3_0 := hs57.cellAt 3 rfl 0 rfl
    have k3_1 := hs57.cellAt 3 rfl 1 rfl
    have k4_0 := hs57.cellAt 4 rfl 0 rfl
    have k4_1 := hs57.cellAt 4 rfl 1 rfl
    clear k0_0 k0_1 k1_0 k1_1 k2_0 k2_1 k2_2 k2_3 k2_4 k3_0 k3_1 k4_0 k4_1
    have k0_0 := hs57.cellAt 0 rfl 0 rfl
    have k0_1 := hs57.cellAt 0 rfl 1 rfl
    have k1_0 := hs57.cellAt 1 rfl 0 rfl
    have k1_1 := hs57.cellAt 1 rfl 1 rfl
    have k2_0 := hs57.cellAt 2 rfl 0 rfl
    have k2_1 := hs57.cellAt 2 rfl 1 rfl
    have k2_2 := hs57.cellAt 2 rfl 2 rfl
    have k2_3 := hs57.cellAt 2 rfl 3 rfl
    have k2_4 := hs57.cellAt 2 rfl 4 rfl
    have k3_0 := hs57.cellAt 3 rfl 0 rfl
    have k3_1 := hs57.cellAt 3 rfl 1 rfl
    have k4_0 := hs57.cellAt 4 rfl 0 rfl
    have k4_1 := hs57.cellAt 4 rfl 1 rfl
    have f1_0 := hs57.freeAt 1 rfl 0
    have f1_1 := hs57.freeAt 1 rfl 1
    go_wp2_with fail
    refine t4_nil (NoPanic.normal ?_)
    have hs62 := hs57.set (p := [_]) (by simp <;> omega) 0 (.int .i64 (U : Int))
    have hs63 := hs62.set (p := [_]) (by simp <;> omega) 1 ((.slice a2 l2.length c2))
    have HSR_64 := Lib.hid (Src.below (B := B) (Src.below (B := B) HSR_58.out ((Below.refl B _).setCell (p := ⟨w.heap.size + 1, 0, none⟩) (by (try simp) <;> omega) (.int .i64 (U : Int)))) ((Below.refl B _).setCell (p := ⟨w.heap.size + 1, 1, none⟩) (by (try simp) <;> omega) ((.slice a2 l2.length c2))))
    clear HSR_58
    have HTF_65 := Lib.hid (Ip.setCell (b := w.heap.size + 1) (o := 1) (Ip.setCell (b := w.heap.size + 1) (o := 0) HTF_59.out (.int .i64 (U : Int)) (by intro hA9; (try simp only at hA9); omega)) ((.slice a2 l2.length c2)) (by intro hA9; (try simp only at hA9); omega))
    clear HTF_59
    have HAC_66 := Lib.hid (AccP.setCell (b := w.heap.size + 1) (o := 1) (AccP.setCell (b := w.heap.size + 1) (o := 0) HAC_60.out (.int .i64 (U : Int)) (by intro hA9; (try simp only at hA9); omega)) ((.slice a2 l2.length c2)) (by intro hA9; (try simp only at hA9); omega))
    clear HAC_60
    have HT3_67 := Lib.hid (Ip.setCell (b := w.heap.size + 1) (o := 1) (Ip.setCell (b := w.heap.size + 1) (o := 0) HT3_61.out (.int .i64 (U : Int)) (by intro hA9; (try simp only at hA9); omega)) ((.slice a2 l2.length c2)) (by intro hA9; (try simp only at hA9); omega))
    clear HT3_61
    clear k0_0 k0_1 k1_0 k1_1 k2_0 k2_1 k2_2 k2_3 k2_4 k3_0 k3_1 k4_0 k4_1
    have hz_wQ : wP.heap.size ≤ (((wP.setCell ⟨w.heap.size + 1, 0, none⟩ (.int .i64 (U : Int))).setCell ⟨w.heap.size + 1, 1, none⟩ ((.slice a2 l2.length c2)))).heap.size := by simp [World.setCell]
    generalize hgen_wQ : ((wP.setCell ⟨w.heap.size + 1, 0, none⟩ (.int .i64 (U : Int))).setCell ⟨w.heap.size + 1, 1, none⟩ ((.slice a2 l2.length c2))) = wQ at *
    clear hgen_wQ
    have k0_0 := hs63.cellAt 0 rfl 0 rfl
    have k0_1 := hs63.cellAt 0 rfl 1 rfl
    have k1_0 := hs63.cellAt 1 rfl 0 rfl
    have k1_1 := hs63.cellAt 1 rfl 1 rfl
    have k2_0 := hs63.cellAt 2 rfl 0 rfl
    have k2_1 := hs63.cellAt 2 rfl 1 rfl
    have k2_2 := hs63.cellAt 2 rfl 2 rfl
    have k2_3 := hs63.cellAt 2 rfl 3 rfl
    have k2_4 := hs63.cellAt 2 rfl 4 rfl
    have k3_0 := hs63.cellAt 3 rfl 0 rfl
    have k3_1 := hs63.cellAt 3 rfl 1 rfl
    have k4_0 := hs63.cellAt 4 rfl 0 rfl
    have k4_1 := hs63.cellAt 4 rfl 1 rfl
    go_wp2_with fail
    have x0 := (hs63.cellAt 0 rfl 0 rfl)
    have x1 := (hs63.cellAt 0 rfl 1 rfl)
    have x2 := (hs63.cellAt 1 rfl 0 rfl)
    have x3 := (hs63.cellAt 1 rfl 1 rfl)
    exact bodyPost_ret (v := .tuple #[.agg #[.int .i64 S3, (.slice a3 L3.length c3)], .agg #[.int .i64 (U : Int), (.slice a2 l2.length c2)]]) (by simp [results, Tryz.results40, go_sem, x0, x1, x2, x3]) rfl ⟨S3, (U : Int), (.slice a3 L3.length c3), (.slice a2 l2.length c2), rfl, L3, l2, Fresh.firm ((HT3_67.out).fresh (lo := w.heap.size) (fun z hz => by have := hz.1; omega)), Firm.ic ⟨by omega, by omega⟩ (Fresh.firm (HAC_66.out.ip.fresh (lo := w.heap.size) (fun z hz => by have := hz.1; omega))), HSR_64.out.more (by omega), HBT_41.out.trans (but_of hs63.bel)⟩
  have n0 := eqb_no e0
  by_cases e1 : PK = 1
  · subst e1
    go_wp2_with fail
    have hs68 := hs32.alloc #[.int .i64 0, .int .i64 11, .int .i64 1] 2 (n := w30.heap.size) (by simp)
    have HSR_69 := Lib.hid (Src.mono HSR_33.out (belowA _ (.cells #[.int .i64 0, .int .i64 11, .int .i64 1] 2)))
    clear HSR_33
    have HTF_70 := Lib.hid (Ip.mono HTF_35.out (belowA _ (.cells #[.int .i64 0, .int .i64 11, .int .i64 1] 2)))
    clear HTF_35
    have HAC_71 := Lib.hid (AccP.mono HAC_36.out (belowA _ (.cells #[.int .i64 0, .int .i64 11, .int .i64 1] 2)))
    clear HAC_36
    clear k0_0 k0_1 k1_0 k1_1 k2_0 k2_1 k2_2 k2_3 k2_4 k3_0 k3_1 k4_0 k4_1
    have k0_0 := hs68.cellAt 0 rfl 0 rfl
    have k0_1 := hs68.cellAt 0 rfl 1 rfl
    have k1_0 := hs68.cellAt 1 rfl 0 rfl
    have k1_1 := hs68.cellAt 1 rfl 1 rfl
    have k2_0 := hs68.cellAt 2 rfl 0 rfl
    have k2_1 := hs68.cellAt 2 rfl 1 rfl
    have k2_2 := hs68.cellAt 2 rfl 2 rfl
    have k2_3 := hs68.cellAt 2 rfl 3 rfl
    have k2_4 := hs68.cellAt 2 rfl 4 rfl
    have k3_0 := hs68.cellAt 3 rfl 0 rfl
    have k3_1 := hs68.cellAt 3 rfl 1 rfl
    have k4_0 := hs68.cellAt 4 rfl 0 rfl
    have k4_1 := hs68.cellAt 4 rfl 1 rfl
    have k5_0 := hs68.cellAt 5 rfl 0 rfl
    have k5_1 := hs68.cellAt 5 rfl 1 rfl
    have k5_2 := hs68.cellAt 5 rfl 2 rfl
    have HLI := Lib.hid (fresh_ilits [0, 11, 1] (lo := w.heap.size) (hs68.box (w30.heap.size, #[.int .i64 0, .int .i64 11, .int .i64 1], 2) (by simp)).2.2 (by (try simp); omega) (small_i64 (by decide)) (by simp))
    go_wp2_with fail
    refine (among_c [0, 11, 1] _ w.heap.size L B b (k + 1 + 10000 + 100 + 1) _ HSR_69.out (by omega) HLI.out (by omega) (by simp) (by simp)).mono ?_
    rintro e w72 ⟨X0, rfl, hX0, hrw72, hbw72⟩
    obtain ⟨wz73, hs74, hz_wz73, hy_wz73, hc_wz73⟩ := hs68.cut hbw72 (by intro k hk; simp only [List.mem_singleton] at hk; omega)
    have hz_w72 : w30.heap.size + 1 ≤ w72.heap.size := by have h9 := hbw72.size; (try simp at h9); omega
    have HSR_75 := Lib.hid hrw72
    clear HSR_69
    have HBT_76 := Lib.hid (HBT_34.out.trans hc_wz73)
    clear HBT_34
    have HTF_77 := Lib.hid (Ip.butL HTF_70.out hbw72 (by intro k hk; simp only [List.mem_singleton] at hk; (try simp only); omega))
    clear HTF_70
    have HAC_78 := Lib.hid (AccP.butL HAC_71.out hbw72 (by intro k hk; simp only [List.mem_singleton] at hk; omega))
    clear HAC_71
    clear hrw72 hc_wz73
    clear k0_0 k0_1 k1_0 k1_1 k2_0 k2_1 k2_2 k2_3 k2_4 k3_0 k3_1 k4_0 k4_1 k5_0 k5_1 k5_2
    have k0_0 := hs74.cellAt 0 rfl 0 rfl
    have k0_1 := hs74.cellAt 0 rfl 1 rfl
    have k1_0 := hs74.cellAt 1 rfl 0 rfl
    have k1_1 := hs74.cellAt 1 rfl 1 rfl
    have k2_0 := hs74.cellAt 2 rfl 0 rfl
    have k2_1 := hs74.cellAt 2 rfl 1 rfl
    have k2_2 := hs74.cellAt 2 rfl 2 rfl
    have k2_3 := hs74.cellAt 2 rfl 3 rfl
    have k2_4 := hs74.cellAt 2 rfl 4 rfl
    have k3_0 := hs74.cellAt 3 rfl 0 rfl
    have k3_1 := hs74.cellAt 3 rfl 1 rfl
    have k4_0 := hs74.cellAt 4 rfl 0 rfl
    have k4_1 := hs74.cellAt 4 rfl 1 rfl
    have k5_0 := hs74.cellAt 5 rfl 0 rfl
    have k5_1 := hs74.cellAt 5 rfl 1 rfl
    have k5_2 := hs74.cellAt 5 rfl 2 rfl
    have hx4 : 0 ≤ X0 ∧ X0 ≤ 11 := by simp at hX0; omega
    clear hX0 HLI
    have f4_0 := hs74.freeAt 4 rfl 0
    have f4_1 := hs74.freeAt 4 rfl 1
    go_upto_region 13 with fail
    have hs79 := hs74.set (p := [_, _, _, _]) (by simp <;> omega) 0 (.int .i64 X0)
    have HSR_80 := Lib.hid (Src.below (B := B) HSR_75.out ((Below.refl B _).setCell (p := ⟨w20.heap.size, 0, none⟩) (by (try simp) <;> omega) (.int .i64 X0)))
    clear HSR_75
    have HTF_81 := Lib.hid (Ip.setCell (b := w20.heap.size) (o := 0) HTF_77.out (.int .i64 X0) (by intro hA9; (try simp only at hA9); omega))
    clear HTF_77
    have HAC_82 := Lib.hid (AccP.setCell (b := w20.heap.size) (o := 0) HAC_78.out (.int .i64 X0) (by intro hA9; (try simp only at hA9); omega))
    clear HAC_78
    clear k0_0 k0_1 k1_0 k1_1 k2_0 k2_1 k2_2 k2_3 k2_4 k3_0 k3_1 k4_0 k4_1 k5_0 k5_1 k5_2
    have hz_wE : w72.heap.size ≤ ((w72.setCell ⟨w20.heap.size, 0, none⟩ (.int .i64 X0))).heap.size := by simp [World.setCell]
    generalize hgen_wE : (w72.setCell ⟨w20.heap.size, 0, none⟩ (.int .i64 X0)) = wE at *
    clear hgen_wE
    have k0_0 := hs79.cellAt 0 rfl 0 rfl
    have k0_1 := hs79.cellAt 0 rfl 1 rfl
    have k1_0 := hs79.cellAt 1 rfl 0 rfl
    have k1_1 := hs79.cellAt 1 rfl 1 rfl
    have k2_0 := hs79.cellAt 2 rfl 0 rfl
    have k2_1 := hs79.cellAt 2 rfl 1 rfl
    have k2_2 := hs79.cellAt 2 rfl 2 rfl
    have k2_3 := hs79.cellAt 2 rfl 3 rfl
    have k2_4 := hs79.cellAt 2 rfl 4 rfl
    have k3_0 := hs79.cellAt 3 rfl 0 rfl
    have k3_1 := hs79.cellAt 3 rfl 1 rfl
    have k4_0 := hs79.cellAt 4 rfl 0 rfl
    have k4_1 := hs79.cellAt 4 rfl 1 rfl
    have k5_0 := hs79.cellAt 5 rfl 0 rfl
    have k5_1 := hs79.cellAt 5 rfl 1 rfl
    have k5_2 := hs79.cellAt 5 rfl 2 rfl
    refine wp_region_noPanic (wp_region_tree4 (fun w' => w'.cell? ⟨w.heap.size + 1, 0, none⟩ = some (.int .i64 0) ∧ w'.cell? ⟨w.heap.size + 1, 1, none⟩ = some (.slice none 0 0) ∧ w'.cell? ⟨w.heap.size + 1 + 1, 0, none⟩ = some (.int .i64 2) ∧ w'.cell? ⟨w.heap.size + 1 + 1, 1, none⟩ = some (.int .i64 2) ∧ w'.cell? ⟨w.heap.size + 1 + 1, 2, none⟩ = some (.int .i64 3) ∧ w'.cell? ⟨w.heap.size + 1 + 1, 3, none⟩ = some (.int .i64 3) ∧ w'.cell? ⟨w.heap.size + 1 + 1, 4, none⟩ = some (.int .i64 4) ∧ w'.cell? ⟨w12.heap.size, 0, none⟩ = some (.int .i64 SZ) ∧ w'.cell? ⟨w12.heap.size, 1, none⟩ = some (.slice a9 l9.length c9) ∧ w'.cell? ⟨w20.heap.size, 0, none⟩ = some (.int .i64 X0) ∧ w'.cell? ⟨w20.heap.size, 1, none⟩ = some (.slice a2 l2.length c2) ∧ w'.cell? ⟨w30.heap.size, 0, none⟩ = some (.int .i64 0) ∧ w'.cell? ⟨w30.heap.size, 1, none⟩ = some (.int .i64 11) ∧ w'.cell? ⟨w30.heap.size, 2, none⟩ = some (.int .i64 1)) (.float 0 (.float 1 (.hard 2 (.last 3 .nil)))) (by kernel_rfl) (by kernel_rfl) (by kernel_rfl) rfl ?_ (fun _ _ _ _ _ h => h) ?_)
    · exact ⟨(hs79.drew).cellAt 1 rfl 0 rfl, (hs79.drew).cellAt 1 rfl 1 rfl, (hs79.drew).cellAt 2 rfl 0 rfl, (hs79.drew).cellAt 2 rfl 1 rfl, (hs79.drew).cellAt 2 rfl 2 rfl, (hs79.drew).cellAt 2 rfl 3 rfl, (hs79.drew).cellAt 2 rfl 4 rfl, (hs79.drew).cellAt 3 rfl 0 rfl, (hs79.drew).cellAt 3 rfl 1 rfl, (hs79.drew).cellAt 4 rfl 0 rfl, (hs79.drew).cellAt 4 rfl 1 rfl, (hs79.drew).cellAt 5 rfl 0 rfl, (hs79.drew).cellAt 5 rfl 1 rfl, (hs79.drew).cellAt 5 rfl 2 rfl⟩
    have hs83 := hs79.drew
    have HSR_84 := Lib.hid (Src.mono HSR_80.out (belowD _))
    clear HSR_80
    have HTF_85 := Lib.hid (Ip.mono HTF_81.out (belowD _))
    clear HTF_81
    have HAC_86 := Lib.hid (AccP.mono HAC_82.out (belowD _))
    clear HAC_82
    clear k0_0 k0_1 k1_0 k1_1 k2_0 k2_1 k2_2 k2_3 k2_4 k3_0 k3_1 k4_0 k4_1 k5_0 k5_1 k5_2
    have hz_wd87 : wE.heap.size ≤ (wE.drew).heap.size := by simp
    generalize hgen_wd87 : wE.drew = wd87 at *
    have HG_wd87 := Lib.hid hgen_wd87
    clear hgen_wd87
    (repeat (first | (apply t4_skip rfl (by rfl); try simp only [Act.put, List.setIfInBounds_toArray, List.set_cons_zero, List.set_cons_succ]) | (apply t4_float rfl (by rfl); (· (intro w' hS; go_simp <;> with_reducible rfl)); (try simp only [Act.put, List.setIfInBounds_toArray, List.set_cons_zero, List.set_cons_succ]))))
    refine t4_hard rfl (by rfl) (fun K hK => ?_)
    have k0_0 := hs83.cellAt 0 rfl 0 rfl
    have k0_1 := hs83.cellAt 0 rfl 1 rfl
    have k1_0 := hs83.cellAt 1 rfl 0 rfl
    have k1_1 := hs83.cellAt 1 rfl 1 rfl
    have k2_0 := hs83.cellAt 2 rfl 0 rfl
    have k2_1 := hs83.cellAt 2 rfl 1 rfl
    have k2_2 := hs83.cellAt 2 rfl 2 rfl
    have k2_3 := hs83.cellAt 2 rfl 3 rfl
    have k2_4 := hs83.cellAt 2 rfl 4 rfl
    have k3_0 := hs83.cellAt 3 rfl 0 rfl
    have k3_1 := hs83.cellAt 3 rfl 1 rfl
    have k4_0 := hs83.cellAt 4 rfl 0 rfl
    have k4_1 := hs83.cellAt 4 rfl 1 rfl
    have k5_0 := hs83.cellAt 5 rfl 0 rfl
    have k5_1 := hs83.cellAt 5 rfl 1 rfl
    have k5_2 := hs83.cellAt 5 rfl 2 rfl
    have f0_0 := hs83.freeAt 0 rfl 0
    have f0_1 := hs83.freeAt 0 rfl 1
    go_wp2_with fail
    have hs88 := hs83.set (p := []) (by simp <;> omega) 0 (.int .i64 SZ)
    have hs89 := hs88.set (p := []) (by simp <;> omega) 1 ((.slice a9 l9.length c9))
    have HSR_90 := Lib.hid (Src.below (B := B) (Src.below (B := B) HSR_84.out ((Below.refl B _).setCell (p := ⟨w.heap.size, 0, none⟩) (by (try simp) <;> omega) (.int .i64 SZ))) ((Below.refl B _).setCell (p := ⟨w.heap.size, 1, none⟩) (by (try simp) <;> omega) ((.slice a9 l9.length c9))))
    clear HSR_84
    have HTF_91 := Lib.hid (Ip.setCell (b := w.heap.size) (o := 1) (Ip.setCell (b := w.heap.size) (o := 0) HTF_85.out (.int .i64 SZ) (by intro hA9; (try simp only at hA9); omega)) ((.slice a9 l9.length c9)) (by intro hA9; (try simp only at hA9); omega))
    clear HTF_85
    have HAC_92 := Lib.hid (AccP.setCell (b := w.heap.size) (o := 1) (AccP.setCell (b := w.heap.size) (o := 0) HAC_86.out (.int .i64 SZ) (by intro hA9; (try simp only at hA9); omega)) ((.slice a9 l9.length c9)) (by intro hA9; (try simp only at hA9); omega))
    clear HAC_86
    clear k0_0 k0_1 k1_0 k1_1 k2_0 k2_1 k2_2 k2_3 k2_4 k3_0 k3_1 k4_0 k4_1 k5_0 k5_1 k5_2
    have hz_wP : wd87.heap.size ≤ (((wd87.setCell ⟨w.heap.size, 0, none⟩ (.int .i64 SZ)).setCell ⟨w.heap.size, 1, none⟩ ((.slice a9 l9.length c9)))).heap.size := by simp [World.setCell]
    generalize hgen_wP : ((wd87.setCell ⟨w.heap.size, 0, none⟩ (.int .i64 SZ)).setCell ⟨w.heap.size, 1, none⟩ ((.slice a9 l9.length c9))) = wP at *
    clear hgen_wP
    have k0_0 := hs89.cellAt 0 rfl 0 rfl
    have k0_1 := hs89.cellAt 0 rfl 1 rfl
    have k1_0 := hs89.cellAt 1 rfl 0 rfl
    have k1_1 := hs89.cellAt 1 rfl 1 rfl
    have k2_0 := hs89.cellAt 2 rfl 0 rfl
    have k2_1 := hs89.cellAt 2 rfl 1 rfl
    have k2_2 := hs89.cellAt 2 rfl 2 rfl
    have k2_3 := hs89.cellAt 2 rfl 3 rfl
    have k2_4 := hs89.cellAt 2 rfl 4 rfl
    have k3_0 := hs89.cellAt 3 rfl 0 rfl
    have k3_1 := hs89.cellAt 3 rfl 1 rfl
    have k4_0 := hs89.cellAt 4 rfl 0 rfl
    have k4_1 := hs89.cellAt 4 rfl 1 rfl
    have k5_0 := hs89.cellAt 5 rfl 0 rfl
    have k5_1 := hs89.cellAt 5 rfl 1 rfl
    have k5_2 := hs89.cellAt 5 rfl 2 rfl
    refine ⟨⟨hs89.cellAt 1 rfl 0 rfl, hs89.cellAt 1 rfl 1 rfl, hs89.cellAt 2 rfl 0 rfl, hs89.cellAt 2 rfl 1 rfl, hs89.cellAt 2 rfl 2 rfl, hs89.cellAt 2 rfl 3 rfl, hs89.cellAt 2 rfl 4 rfl, hs89.cellAt 3 rfl 0 rfl, hs89.cellAt 3 rfl 1 rfl, hs89.cellAt 4 rfl 0 rfl, hs89.cellAt 4 rfl 1 rfl, hs89.cellAt 5 rfl 0 rfl, hs89.cellAt 5 rfl 1 rfl, hs89.cellAt 5 rfl 2 rfl⟩, ?_⟩
    (repeat (first | (apply t4_skip rfl (by rfl); try simp only [Act.put, List.setIfInBounds_toArray, List.set_cons_zero, List.set_cons_succ]) | (apply t4_float rfl (by rfl); (· (intro w' hS; go_simp <;> with_reducible rfl)); (try simp only [Act.put, List.setIfInBounds_toArray, List.set_cons_zero, List.set_cons_succ]))))
    refine t4_last rfl (by rfl) (fun K hK => ?_)
    clear k0_0 k0_1 k1_0 k1_1 k2_0 k2_1 k2_2 k2_3 k2_4 k3_0 k3_1 k4_0 k4_1 k5_0 k5_1 k5_2
    have k0_0 := hs89.cellAt 0 rfl 0 rfl
    have k0_1 := hs89.cellAt 0 rfl 1 rfl
    have k1_0 := hs89.cellAt 1 rfl 0 rfl
    have k1_1 := hs89.cellAt 1 rfl 1 rfl
    have k2_0 := hs89.cellAt 2 rfl 0 rfl
    have k2_1 := hs89.cellAt 2 rfl 1 rfl
    have k2_2 := hs89.cellAt 2 rfl 2 rfl
    have k2_3 := hs89.cellAt 2 rfl 3 rfl
    have k2_4 := hs89.cellAt 2 rfl 4 rfl
    have k3_0 := hs89.cellAt 3 rfl 0 rfl
    have k3_1 := hs89.cellAt 3 rfl 1 rfl
    have k4_0 := hs89.cellAt 4 rfl 0 rfl
    have k4_1 := hs89.cellAt 4 rfl 1 rfl
    have k5_0 := hs89.cellAt 5 rfl 0 rfl
    have k5_1 := hs89.cellAt 5 rfl 1 rfl
    have k5_2 := hs89.cellAt 5 rfl 2 rfl
    clear k0_0 k0_1 k1_0 k1_1 k2_0 k2_1 k2_2 k2_3 k2_4 k3_0 k3_1 k4_0 k4_1 k5_0 k5_1 k5_2
    have k0_0 := hs89.cellAt 0 rfl 0 rfl
    have k0_1 := hs89.cellAt 0 rfl 1 rfl
    have k1_0 := hs89.cellAt 1 rfl 0 rfl
    have k1_1 := hs89.cellAt 1 rfl 1 rfl
    have k2_0 := hs89.cellAt 2 rfl 0 rfl
    have k2_1 := hs89.cellAt 2 rfl 1 rfl
    have k2_2 := hs89.cellAt 2 rfl 2 rfl
    have k2_3 := hs89.cellAt 2 rfl 3 rfl
    have k2_4 := hs89.cellAt 2 rfl 4 rfl
    have k3_0 := hs89.cellAt 3 rfl 0 rfl
    have k3_1 := hs89.cellAt 3 rfl 1 rfl
    have k4_0 := hs89.cellAt 4 rfl 0 rfl
    have k4_1 := hs89.cellAt 4 rfl 1 rfl
    have k5_0 := hs89.cellAt 5 rfl 0 rfl
    have k5_1 := hs89.cellAt 5 rfl 1 rfl
    have k5_2 := hs89.cellAt 5 rfl 2 rfl
    have f1_0 := hs89.freeAt 1 rfl 0
    have f1_1 := hs89.freeAt 1 rfl 1
    go_wp2_with fail
    refine t4_nil (NoPanic.normal ?_)
    have hs93 := hs89.set (p := [_]) (by simp <;> omega) 0 (.int .i64 X0)
    have hs94 := hs93.set (p := [_]) (by simp <;> omega) 1 ((.slice a2 l2.length c2))
    have HSR_95 := Lib.hid (Src.below (B := B) (Src.below (B := B) HSR_90.out ((Below.refl B _).setCell (p := ⟨w.heap.size + 1, 0, none⟩) (by (try simp) <;> omega) (.int .i64 X0))) ((Below.refl B _).setCell (p := ⟨w.heap.size + 1, 1, none⟩) (by (try simp) <;> omega) ((.slice a2 l2.length c2))))
    clear HSR_90
    have HTF_96 := Lib.hid (Ip.setCell (b := w.heap.size + 1) (o := 1) (Ip.setCell (b := w.heap.size + 1) (o := 0) HTF_91.out (.int .i64 X0) (by intro hA9; (try simp only at hA9); omega)) ((.slice a2 l2.length c2)) (by intro hA9; (try simp only at hA9); omega))
    clear HTF_91
    have HAC_97 := Lib.hid (AccP.setCell (b := w.heap.size + 1) (o := 1) (AccP.setCell (b := w.heap.size + 1) (o := 0) HAC_92.out (.int .i64 X0) (by intro hA9; (try simp only at hA9); omega)) ((.slice a2 l2.length c2)) (by intro hA9; (try simp only at hA9); omega))
    clear HAC_92
    clear k0_0 k0_1 k1_0 k1_1 k2_0 k2_1 k2_2 k2_3 k2_4 k3_0 k3_1 k4_0 k4_1 k5_0 k5_1 k5_2
    have hz_wQ : wP.heap.size ≤ (((wP.setCell ⟨w.heap.size + 1, 0, none⟩ (.int .i64 X0)).setCell ⟨w.heap.size + 1, 1, none⟩ ((.slice a2 l2.length c2)))).heap.size := by simp [World.setCell]
    generalize hgen_wQ : ((wP.setCell ⟨w.heap.size + 1, 0, none⟩ (.int .i64 X0)).setCell ⟨w.heap.size + 1, 1, none⟩ ((.slice a2 l2.length c2))) = wQ at *
    clear hgen_wQ
    have k0_0 := hs94.cellAt 0 rfl 0 rfl
    have k0_1 := hs94.cellAt 0 rfl 1 rfl
    have k1_0 := hs94.cellAt 1 rfl 0 rfl
    have k1_1 := hs94.cellAt 1 rfl 1 rfl
    have k2_0 := hs94.cellAt 2 rfl 0 rfl
    have k2_1 := hs94.cellAt 2 rfl 1 rfl
    have k2_2 := hs94.cellAt 2 rfl 2 rfl
    have k2_3 := hs94.cellAt 2 rfl 3 rfl
    have k2_4 := hs94.cellAt 2 rfl 4 rfl
    have k3_0 := hs94.cellAt 3 rfl 0 rfl
    have k3_1 := hs94.cellAt 3 rfl 1 rfl
    have k4_0 := hs94.cellAt 4 rfl 0 rfl
    have k4_1 := hs94.cellAt 4 rfl 1 rfl
    have k5_0 := hs94.cellAt 5 rfl 0 rfl
    have k5_1 := hs94.cellAt 5 rfl 1 rfl
    have k5_2 := hs94.cellAt 5 rfl 2 rfl
    go_wp2_with fail
    have x0 := (hs94.cellAt 0 rfl 0 rfl)
    have x1 := (hs94.cellAt 0 rfl 1 rfl)
    have x2 := (hs94.cellAt 1 rfl 0 rfl)
    have x3 := (hs94.cellAt 1 rfl 1 rfl)
    exact bodyPost_ret (v := .tuple #[.agg #[.int .i64 SZ, (.slice a9 l9.length c9)], .agg #[.int .i64 X0, (.slice a2 l2.length c2)]]) (by simp [results, Tryz.results40, go_sem, x0, x1, x2, x3]) rfl ⟨SZ, X0, (.slice a9 l9.length c9), (.slice a2 l2.length c2), rfl, l9, l2, Fresh.firm ((HTF_96.out).fresh (lo := w.heap.size) (fun z hz => by have := hz.1; omega)), Firm.ic ⟨by omega, by omega⟩ (Fresh.firm (HAC_97.out.ip.fresh (lo := w.heap.size) (fun z hz => by have := hz.1; omega))), HSR_95.out.more (by omega), HBT_76.out.trans (but_of hs94.bel)⟩
  have n1 := eqb_no e1
  by_cases e2 : PK = 2
  · subst e2
    go_upto_region 9 with fail
    refine wp_region_noPanic (wp_region_tree4 (fun w' => w'.cell? ⟨w.heap.size, 0, none⟩ = some (.int .i64 0) ∧ w'.cell? ⟨w.heap.size, 1, none⟩ = some (.slice none 0 0) ∧ w'.cell? ⟨w.heap.size + 1, 0, none⟩ = some (.int .i64 0) ∧ w'.cell? ⟨w.heap.size + 1, 1, none⟩ = some (.slice none 0 0) ∧ w'.cell? ⟨w.heap.size + 1 + 1, 0, none⟩ = some (.int .i64 2) ∧ w'.cell? ⟨w.heap.size + 1 + 1, 1, none⟩ = some (.int .i64 2) ∧ w'.cell? ⟨w.heap.size + 1 + 1, 2, none⟩ = some (.int .i64 3) ∧ w'.cell? ⟨w.heap.size + 1 + 1, 3, none⟩ = some (.int .i64 3) ∧ w'.cell? ⟨w.heap.size + 1 + 1, 4, none⟩ = some (.int .i64 4) ∧ w'.cell? ⟨w12.heap.size, 0, none⟩ = some (.int .i64 SZ) ∧ w'.cell? ⟨w12.heap.size, 1, none⟩ = some (.slice a9 l9.length c9) ∧ w'.cell? ⟨w20.heap.size, 0, none⟩ = some (.int .i64 U) ∧ w'.cell? ⟨w20.heap.size, 1, none⟩ = some (.slice a2 l2.length c2)) (.float 0 (.float 1 (.float 2 (.float 5 (.hard 3 (.float 4 (.hard 6 (.hard 7 (.float 8 (.hard 9 (.hard 10 (.float 11 (.last 12 .nil))))))))))))) (by kernel_rfl) (by kernel_rfl) (by kernel_rfl) rfl ?_ (fun _ _ _ _ _ h => h) ?_)
    · exact ⟨(hs32.drew).cellAt 0 rfl 0 rfl, (hs32.drew).cellAt 0 rfl 1 rfl, (hs32.drew).cellAt 1 rfl 0 rfl, (hs32.drew).cellAt 1 rfl 1 rfl, (hs32.drew).cellAt 2 rfl 0 rfl, (hs32.drew).cellAt 2 rfl 1 rfl, (hs32.drew).cellAt 2 rfl 2 rfl, (hs32.drew).cellAt 2 rfl 3 rfl, (hs32.drew).cellAt 2 rfl 4 rfl, (hs32.drew).cellAt 3 rfl 0 rfl, (hs32.drew).cellAt 3 rfl 1 rfl, (hs32.drew).cellAt 4 rfl 0 rfl, (hs32.drew).cellAt 4 rfl 1 rfl⟩
    have hs98 := hs32.drew
    have HSR_99 := Lib.hid (Src.mono HSR_33.out (belowD _))
    clear HSR_33
    have HTF_100 := Lib.hid (Ip.mono HTF_35.out (belowD _))
    clear HTF_35
    have HAC_101 := Lib.hid (AccP.mono HAC_36.out (belowD _))
    clear HAC_36
    clear k0_0 k0_1 k1_0 k1_1 k2_0 k2_1 k2_2 k2_3 k2_4 k3_0 k3_1 k4_0 k4_1
    have hz_wd102 : w30.heap.size ≤ (w30.drew).heap.size := by simp
    generalize hgen_wd102 : w30.drew = wd102 at *
    have HG_wd102 := Lib.hid hgen_wd102
    clear hgen_wd102
    (repeat (first | (apply t4_skip rfl (by rfl); try simp only [Act.put, List.setIfInBounds_toArray, List.set_cons_zero, List.set_cons_succ]) | (apply t4_float rfl (by rfl); (· (intro w' hS; go_simp <;> with_reducible rfl)); (try simp only [Act.put, List.setIfInBounds_toArray, List.set_cons_zero, List.set_cons_succ]))))
    refine t4_hard rfl (by rfl) (fun K hK => ?_)
    go_wp2_with (go_at_call 38; refine (pick_c 5 L B b (k + 1 + 10000 + 100 + 1) _ HSR_99.out (by omega) (by omega) (by omega)).mono ?_; rintro e w103 ⟨r1, rfl, hr0, hr1, hrw103, hbw103⟩)
    obtain ⟨wz104, hs105, hz_wz104, hy_wz104, hc_wz104⟩ := hs98.cut hbw103 (by intro k hk; simp only [List.mem_singleton] at hk; omega)
    have hz_w103 : wd102.heap.size ≤ w103.heap.size := by have h9 := hbw103.size; (try simp at h9); omega
    have HSR_106 := Lib.hid hrw103
    clear HSR_99
    have HBT_107 := Lib.hid (HBT_34.out.trans hc_wz104)
    clear HBT_34
    have HTF_108 := Lib.hid (Ip.butL HTF_100.out hbw103 (by intro k hk; simp only [List.mem_singleton] at hk; (try simp only); omega))
    clear HTF_100
    have HAC_109 := Lib.hid (AccP.butL HAC_101.out hbw103 (by intro k hk; simp only [List.mem_singleton] at hk; omega))
    clear HAC_101
    clear hrw103 hc_wz104
    have hw6 : IntKind.i64.wrap (r1 - 1) = r1 - 1 := i64_in _ (by omega)
    refine ⟨⟨hs105.cellAt 0 rfl 0 rfl, hs105.cellAt 0 rfl 1 rfl, hs105.cellAt 1 rfl 0 rfl, hs105.cellAt 1 rfl 1 rfl, hs105.cellAt 2 rfl 0 rfl, hs105.cellAt 2 rfl 1 rfl, hs105.cellAt 2 rfl 2 rfl, hs105.cellAt 2 rfl 3 rfl, hs105.cellAt 2 rfl 4 rfl, hs105.cellAt 3 rfl 0 rfl, hs105.cellAt 3 rfl 1 rfl, hs105.cellAt 4 rfl 0 rfl, hs105.cellAt 4 rfl 1 rfl⟩, ?_⟩
    (repeat (first | (apply t4_skip rfl (by rfl); try simp only [Act.put, List.setIfInBounds_toArray, List.set_cons_zero, List.set_cons_succ]) | (apply t4_float rfl (by rfl); (· (intro w' hS; go_simp <;> with_reducible rfl)); (try simp only [Act.put, List.setIfInBounds_toArray, List.set_cons_zero, List.set_cons_succ]))))
    refine t4_hard rfl (by rfl) (fun K hK => ?_)
    go_wp2_with (go_at_call 38; refine (pick_c 6 L B b (k + 1 + 10000 + 100 + 1 + 1) _ HSR_106.out (by omega) (by omega) (by omega)).mono ?_; rintro e w110 ⟨r2, rfl, hr2, hr3, hrw110, hbw110⟩)
    obtain ⟨wz111, hs112, hz_wz111, hy_wz111, hc_wz111⟩ := hs105.cut hbw110 (by intro k hk; simp only [List.mem_singleton] at hk; omega)
    have hz_w110 : w103.heap.size ≤ w110.heap.size := by have h9 := hbw110.size; (try simp at h9); omega
    have HSR_113 := Lib.hid hrw110
    clear HSR_106
    have HBT_114 := Lib.hid (HBT_107.out.trans hc_wz111)
    clear HBT_107
    have HTF_115 := Lib.hid (Ip.butL HTF_108.out hbw110 (by intro k hk; simp only [List.mem_singleton] at hk; (try simp only); omega))
    clear HTF_108
    have HAC_116 := Lib.hid (AccP.butL HAC_109.out hbw110 (by intro k hk; simp only [List.mem_singleton] at hk; omega))
    clear HAC_109
    clear hrw110 hc_wz111
    refine ⟨⟨hs112.cellAt 0 rfl 0 rfl, hs112.cellAt 0 rfl 1 rfl, hs112.cellAt 1 rfl 0 rfl, hs112.cellAt 1 rfl 1 rfl, hs112.cellAt 2 rfl 0 rfl, hs112.cellAt 2 rfl 1 rfl, hs112.cellAt 2 rfl 2 rfl, hs112.cellAt 2 rfl 3 rfl, hs112.cellAt 2 rfl 4 rfl, hs112.cellAt 3 rfl 0 rfl, hs112.cellAt 3 rfl 1 rfl, hs112.cellAt 4 rfl 0 rfl, hs112.cellAt 4 rfl 1 rfl⟩, ?_⟩
    (repeat (first | (apply t4_skip rfl (by rfl); try simp only [Act.put, List.setIfInBounds_toArray, List.set_cons_zero, List.set_cons_succ]) | (apply t4_float rfl (by rfl); (· (intro w' hS; go_simp <;> with_reducible rfl)); (try simp only [Act.put, List.setIfInBounds_toArray, List.set_cons_zero, List.set_cons_succ]))))
    refine t4_hard rfl (by rfl) (fun K hK => ?_)
    go_wp2_with fail
    have hs117 := hs112.alloc #[.int .i64 0, .int .i64 r2] 2 (n := w110.heap.size) (by simp)
    have HSR_118 := Lib.hid (Src.mono HSR_113.out (belowA _ (.cells #[.int .i64 0, .int .i64 r2] 2)))
    clear HSR_113
    have HTF_119 := Lib.hid (Ip.mono HTF_115.out (belowA _ (.cells #[.int .i64 0, .int .i64 r2] 2)))
    clear HTF_115
    have HAC_120 := Lib.hid (AccP.mono HAC_116.out (belowA _ (.cells #[.int .i64 0, .int .i64 r2] 2)))
    clear HAC_116
    have HI0 := Lib.hid ((fresh_ilits [0, r2] (lo := w110.heap.size) (hs117.box (w110.heap.size, #[.int .i64 0, .int .i64 r2], 2) (by simp)).2.2 (Nat.le_refl _) (fun a ha => by simp at ha; constructor <;> omega) (by simp)).ip)
    refine ⟨⟨hs117.cellAt 0 rfl 0 rfl, hs117.cellAt 0 rfl 1 rfl, hs117.cellAt 1 rfl 0 rfl, hs117.cellAt 1 rfl 1 rfl, hs117.cellAt 2 rfl 0 rfl, hs117.cellAt 2 rfl 1 rfl, hs117.cellAt 2 rfl 2 rfl, hs117.cellAt 2 rfl 3 rfl, hs117.cellAt 2 rfl 4 rfl, hs117.cellAt 3 rfl 0 rfl, hs117.cellAt 3 rfl 1 rfl, hs117.cellAt 4 rfl 0 rfl, hs117.cellAt 4 rfl 1 rfl⟩, ?_⟩
    (repeat (first | (apply t4_skip rfl (by rfl); try simp only [Act.put, List.setIfInBounds_toArray, List.set_cons_zero, List.set_cons_succ]) | (apply t4_float rfl (by rfl); (· (intro w' hS; go_simp <;> with_reducible rfl)); (try simp only [Act.put, List.setIfInBounds_toArray, List.set_cons_zero, List.set_cons_succ]))))
    refine t4_hard rfl (by rfl) (fun K hK => ?_)
    go_wp2_with fail
    have hs121 := hs117.alloc #[.int .i64 (r1 - 1), .slice (some ⟨w110.heap.size, 0, none⟩) 2 2] 60 (n := w110.heap.size + 1) (by simp)
    have HSR_122 := Lib.hid (Src.mono HSR_118.out (belowA _ (.cells #[.int .i64 (r1 - 1), .slice (some ⟨w110.heap.size, 0, none⟩) 2 2] 60)))
    clear HSR_118
    have HTF_123 := Lib.hid (Ip.mono HTF_119.out (belowA _ (.cells #[.int .i64 (r1 - 1), .slice (some ⟨w110.heap.size, 0, none⟩) 2 2] 60)))
    clear HTF_119
    have HAC_124 := Lib.hid (AccP.mono HAC_120.out (belowA _ (.cells #[.int .i64 (r1 - 1), .slice (some ⟨w110.heap.size, 0, none⟩) 2 2] 60)))
    clear HAC_120
    have HI0_125 := Lib.hid (Ip.mono HI0.out (belowA _ (.cells #[.int .i64 (r1 - 1), .slice (some ⟨w110.heap.size, 0, none⟩) 2 2] 60)))
    clear HI0
    refine ⟨⟨hs121.cellAt 0 rfl 0 rfl, hs121.cellAt 0 rfl 1 rfl, hs121.cellAt 1 rfl 0 rfl, hs121.cellAt 1 rfl 1 rfl, hs121.cellAt 2 rfl 0 rfl, hs121.cellAt 2 rfl 1 rfl, hs121.cellAt 2 rfl 2 rfl, hs121.cellAt 2 rfl 3 rfl, hs121.cellAt 2 rfl 4 rfl, hs121.cellAt 3 rfl 0 rfl, hs121.cellAt 3 rfl 1 rfl, hs121.cellAt 4 rfl 0 rfl, hs121.cellAt 4 rfl 1 rfl⟩, ?_⟩
    (repeat (first | (apply t4_skip rfl (by rfl); try simp only [Act.put, List.setIfInBounds_toArray, List.set_cons_zero, List.set_cons_succ]) | (apply t4_float rfl (by rfl); (· (intro w' hS; go_simp <;> with_reducible rfl)); (try simp only [Act.put, List.setIfInBounds_toArray, List.set_cons_zero, List.set_cons_succ]))))
    refine t4_hard rfl (by rfl) (fun K hK => ?_)
    have HIR := Lib.hid (ip_icD (k := r1 - 1) ⟨by omega, by omega⟩ HI0_125.out)
    refine wp_append_accP _ _ _ _ rfl E_cons rfl HAC_124.out HIR.out (fun z h1 h2 => by (try simp only at h1 h2); omega) ⟨w110.heap.size + 1, 0, none⟩ 1 rfl (news2 (hs121.cellAt 6 rfl 0 rfl) (hs121.cellAt 6 rfl 1 rfl)) (by omega) ?_
    intro a8 c8 w8 hA8 hB8
    have hz8 := hB8.size
    have hs8 := hs121.butP hB8 (fun z hz => by have := hz.1; omega) (fun x hx hA => by have h1 := hA.1; have h2 := hA.2; simp at hx; rcases hx with rfl | rfl | rfl | rfl | rfl | rfl | rfl <;> (try simp only at h1 h2) <;> omega)
    have HA2 := Lib.hid (AccP.wk hA8.tight (C := fun z => (w12.heap.size + 1 ≤ z ∧ z ≠ w20.heap.size) ∧ z < w8.heap.size) (fun z hz => ⟨by
      have h2 := hz.2
      rcases hz.1 with h | h | h
      · (try simp only at h); omega
      · (try simp only at h); omega
      · rw [h]; (try simp); omega, hz.2⟩))
    clear hA8
    clear HAC_124
    clear HI0_125
    have HSR_126 := Lib.hid (Src.below (B := B) HSR_122.out (hB8.below (fun z hz => by (try simp only at hz); omega) (by (try simp); omega)))
    clear HSR_122
    have HTF_127 := Lib.hid (Ip.butP HTF_123.out hB8 (fun z h1 h2 => by (try simp only at h1 h2); omega))
    clear HTF_123
    refine hK _ _ ⟨⟨hs8.cellAt 0 rfl 0 rfl, hs8.cellAt 0 rfl 1 rfl, hs8.cellAt 1 rfl 0 rfl, hs8.cellAt 1 rfl 1 rfl, hs8.cellAt 2 rfl 0 rfl, hs8.cellAt 2 rfl 1 rfl, hs8.cellAt 2 rfl 2 rfl, hs8.cellAt 2 rfl 3 rfl, hs8.cellAt 2 rfl 4 rfl, hs8.cellAt 3 rfl 0 rfl, hs8.cellAt 3 rfl 1 rfl, hs8.cellAt 4 rfl 0 rfl, hs8.cellAt 4 rfl 1 rfl⟩, ?_⟩
    (repeat (first | (apply t4_skip rfl (by rfl); try simp only [Act.put, List.setIfInBounds_toArray, List.set_cons_zero, List.set_cons_succ]) | (apply t4_float rfl (by rfl); (· (intro w' hS; go_simp <;> with_reducible rfl)); (try simp only [Act.put, List.setIfInBounds_toArray, List.set_cons_zero, List.set_cons_succ]))))
    refine t4_last rfl (by rfl) (fun K hK => ?_)
    have k0_0 := hs8.cellAt 0 rfl 0 rfl
    have k0_1 := hs8.cellAt 0 rfl 1 rfl
    have k1_0 := hs8.cellAt 1 rfl 0 rfl
    have k1_1 := hs8.cellAt 1 rfl 1 rfl
    have k2_0 := hs8.cellAt 2 rfl 0 rfl
    have k2_1 := hs8.cellAt 2 rfl 1 rfl
    have k2_2 := hs8.cellAt 2 rfl 2 rfl
    have k2_3 := hs8.cellAt 2 rfl 3 rfl
    have k2_4 := hs8.cellAt 2 rfl 4 rfl
    have k3_0 := hs8.cellAt 3 rfl 0 rfl
    have k3_1 := hs8.cellAt 3 rfl 1 rfl
    have k4_0 := hs8.cellAt 4 rfl 0 rfl
    have k4_1 := hs8.cellAt 4 rfl 1 rfl
    have k5_0 := hs8.cellAt 5 rfl 0 rfl
    have k5_1 := hs8.cellAt 5 rfl 1 rfl
    have k6_0 := hs8.cellAt 6 rfl 0 rfl
    have k6_1 := hs8.cellAt 6 rfl 1 rfl
    have f4_0 := hs8.freeAt 4 rfl 0
    have f4_1 := hs8.freeAt 4 rfl 1
    go_wp2_with fail
    refine t4_nil (NoPanic.normal ?_)
    have hs128 := hs8.set (p := [_, _, _, _]) (by simp <;> omega) 1 (.slice a8 (l2.length + 1) c8)
    have HSR_129 := Lib.hid (Src.below (B := B) HSR_126.out ((Below.refl B _).setCell (p := ⟨w20.heap.size, 1, none⟩) (by (try simp) <;> omega) (.slice a8 (l2.length + 1) c8)))
    clear HSR_126
    have HTF_130 := Lib.hid (Ip.setCell (b := w20.heap.size) (o := 1) HTF_127.out (.slice a8 (l2.length + 1) c8) (by intro hA9; (try simp only at hA9); omega))
    clear HTF_127
    have HA2_131 := Lib.hid (AccP.setCell (b := w20.heap.size) (o := 1) HA2.out (.slice a8 (l2.length + 1) c8) (by intro hA9; (try simp only at hA9); omega))
    clear HA2
    clear k0_0 k0_1 k1_0 k1_1 k2_0 k2_1 k2_2 k2_3 k2_4 k3_0 k3_1 k4_0 k4_1 k5_0 k5_1 k6_0 k6_1
    have hz_wE : w8.heap.size ≤ ((w8.setCell ⟨w20.heap.size, 1, none⟩ (.slice a8 (l2.length + 1) c8))).heap.size := by simp [World.setCell]
    generalize hgen_wE : (w8.setCell ⟨w20.heap.size, 1, none⟩ (.slice a8 (l2.length + 1) c8)) = wE at *
    clear hgen_wE
    have k0_0 := hs128.cellAt 0 rfl 0 rfl
    have k0_1 := hs128.cellAt 0 rfl 1 rfl
    have k1_0 := hs128.cellAt 1 rfl 0 rfl
    have k1_1 := hs128.cellAt 1 rfl 1 rfl
    have k2_0 := hs128.cellAt 2 rfl 0 rfl
    have k2_1 := hs128.cellAt 2 rfl 1 rfl
    have k2_2 := hs128.cellAt 2 rfl 2 rfl
    have k2_3 := hs128.cellAt 2 rfl 3 rfl
    have k2_4 := hs128.cellAt 2 rfl 4 rfl
    have k3_0 := hs128.cellAt 3 rfl 0 rfl
    have k3_1 := hs128.cellAt 3 rfl 1 rfl
    have k4_0 := hs128.cellAt 4 rfl 0 rfl
    have k4_1 := hs128.cellAt 4 rfl 1 rfl
    have k5_0 := hs128.cellAt 5 rfl 0 rfl
    have k5_1 := hs128.cellAt 5 rfl 1 rfl
    have k6_0 := hs128.cellAt 6 rfl 0 rfl
    have k6_1 := hs128.cellAt 6 rfl 1 rfl
    go_upto_region 13 with fail
    refine wp_region_noPanic (wp_region_tree4 (fun w' => w'.cell? ⟨w.heap.size + 1, 0, none⟩ = some (.int .i64 0) ∧ w'.cell? ⟨w.heap.size + 1, 1, none⟩ = some (.slice none 0 0) ∧ w'.cell? ⟨w.heap.size + 1 + 1, 0, none⟩ = some (.int .i64 2) ∧ w'.cell? ⟨w.heap.size + 1 + 1, 1, none⟩ = some (.int .i64 2) ∧ w'.cell? ⟨w.heap.size + 1 + 1, 2, none⟩ = some (.int .i64 3) ∧ w'.cell? ⟨w.heap.size + 1 + 1, 3, none⟩ = some (.int .i64 3) ∧ w'.cell? ⟨w.heap.size + 1 + 1, 4, none⟩ = some (.int .i64 4) ∧ w'.cell? ⟨w12.heap.size, 0, none⟩ = some (.int .i64 SZ) ∧ w'.cell? ⟨w12.heap.size, 1, none⟩ = some (.slice a9 l9.length c9) ∧ w'.cell? ⟨w20.heap.size, 0, none⟩ = some (.int .i64 U) ∧ w'.cell? ⟨w20.heap.size, 1, none⟩ = some (.slice a8 (l2.length + 1) c8) ∧ w'.cell? ⟨w110.heap.size, 0, none⟩ = some (.int .i64 0) ∧ w'.cell? ⟨w110.heap.size, 1, none⟩ = some (.int .i64 r2) ∧ w'.cell? ⟨w110.heap.size + 1, 0, none⟩ = some (.int .i64 (r1 - 1)) ∧ w'.cell? ⟨w110.heap.size + 1, 1, none⟩ = some (.slice (some ⟨w110.heap.size, 0, none⟩) 2 2)) (.float 0 (.float 1 (.hard 2 (.last 3 .nil)))) (by kernel_rfl) (by kernel_rfl) (by kernel_rfl) rfl ?_ (fun _ _ _ _ _ h => h) ?_)
    · exact ⟨(hs128.drew).cellAt 1 rfl 0 rfl, (hs128.drew).cellAt 1 rfl 1 rfl, (hs128.drew).cellAt 2 rfl 0 rfl, (hs128.drew).cellAt 2 rfl 1 rfl, (hs128.drew).cellAt 2 rfl 2 rfl, (hs128.drew).cellAt 2 rfl 3 rfl, (hs128.drew).cellAt 2 rfl 4 rfl, (hs128.drew).cellAt 3 rfl 0 rfl, (hs128.drew).cellAt 3 rfl 1 rfl, (hs128.drew).cellAt 4 rfl 0 rfl, (hs128.drew).cellAt 4 rfl 1 rfl, (hs128.drew).cellAt 5 rfl 0 rfl, (hs128.drew).cellAt 5 rfl 1 rfl, (hs128.drew).cellAt 6 rfl 0 rfl, (hs128.drew).cellAt 6 rfl 1 rfl⟩
    have hs132 := hs128.drew
    have HSR_133 := Lib.hid (Src.mono HSR_129.out (belowD _))
    clear HSR_129
    have HTF_134 := Lib.hid (Ip.mono HTF_130.out (belowD _))
    clear HTF_130
    have HA2_135 := Lib.hid (AccP.mono HA2_131.out (belowD _))
    clear HA2_131
    clear k0_0 k0_1 k1_0 k1_1 k2_0 k2_1 k2_2 k2_3 k2_4 k3_0 k3_1 k4_0 k4_1 k5_0 k5_1 k6_0 k6_1
    have hz_wd136 : wE.heap.size ≤ (wE.drew).heap.size := by simp
    generalize hgen_wd136 : wE.drew = wd136 at *
    have HG_wd136 := Lib.hid hgen_wd136
    clear hgen_wd136
    (repeat (first | (apply t4_skip rfl (by rfl); try simp only [Act.put, List.setIfInBounds_toArray, List.set_cons_zero, List.set_cons_succ]) | (apply t4_float rfl (by rfl); (· (intro w' hS; go_simp <;> with_reducible rfl)); (try simp only [Act.put, List.setIfInBounds_toArray, List.set_cons_zero, List.set_cons_succ]))))
    refine t4_hard rfl (by rfl) (fun K hK => ?_)
    have k0_0 := hs132.cellAt 0 rfl 0 rfl
    have k0_1 := hs132.cellAt 0 rfl 1 rfl
    have k1_0 := hs132.cellAt 1 rfl 0 rfl
    have k1_1 := hs132.cellAt 1 rfl 1 rfl
    have k2_0 := hs132.cellAt 2 rfl 0 rfl
    have k2_1 := hs132.cellAt 2 rfl 1 rfl
    have k2_2 := hs132.cellAt 2 rfl 2 rfl
    have k2_3 := hs132.cellAt 2 rfl 3 rfl
    have k2_4 := hs132.cellAt 2 rfl 4 rfl
    have k3_0 := hs132.cellAt 3 rfl 0 rfl
    have k3_1 := hs132.cellAt 3 rfl 1 rfl
    have k4_0 := hs132.cellAt 4 rfl 0 rfl
    have k4_1 := hs132.cellAt 4 rfl 1 rfl
    have k5_0 := hs132.cellAt 5 rfl 0 rfl
    have k5_1 := hs132.cellAt 5 rfl 1 rfl
    have k6_0 := hs132.cellAt 6 rfl 0 rfl
    have k6_1 := hs132.cellAt 6 rfl 1 rfl
    have f0_0 := hs132.freeAt 0 rfl 0
    have f0_1 := hs132.freeAt 0 rfl 1
    go_wp2_with fail
    have hs137 := hs132.set (p := []) (by simp <;> omega) 0 (.int .i64 SZ)
    have hs138 := hs137.set (p := []) (by simp <;> omega) 1 ((.slice a9 l9.length c9))
    have HSR_139 := Lib.hid (Src.below (B := B) (Src.below (B := B) HSR_133.out ((Below.refl B _).setCell (p := ⟨w.heap.size, 0, none⟩) (by (try simp) <;> omega) (.int .i64 SZ))) ((Below.refl B _).setCell (p := ⟨w.heap.size, 1, none⟩) (by (try simp) <;> omega) ((.slice a9 l9.length c9))))
    clear HSR_133
    have HTF_140 := Lib.hid (Ip.setCell (b := w.heap.size) (o := 1) (Ip.setCell (b := w.heap.size) (o := 0) HTF_134.out (.int .i64 SZ) (by intro hA9; (try simp only at hA9); omega)) ((.slice a9 l9.length c9)) (by intro hA9; (try simp only at hA9); omega))
    clear HTF_134
    have HA2_141 := Lib.hid (AccP.setCell (b := w.heap.size) (o := 1) (AccP.setCell (b := w.heap.size) (o := 0) HA2_135.out (.int .i64 SZ) (by intro hA9; (try simp only at hA9); omega)) ((.slice a9 l9.length c9)) (by intro hA9; (try simp only at hA9); omega))
    clear HA2_135
    clear k0_0 k0_1 k1_0 k1_1 k2_0 k2_1 k2_2 k2_3 k2_4 k3_0 k3_1 k4_0 k4_1 k5_0 k5_1 k6_0 k6_1
    have hz_wP : wd136.heap.size ≤ (((wd136.setCell ⟨w.heap.size, 0, none⟩ (.int .i64 SZ)).setCell ⟨w.heap.size, 1, none⟩ ((.slice a9 l9.length c9)))).heap.size := by simp [World.setCell]
    generalize hgen_wP : ((wd136.setCell ⟨w.heap.size, 0, none⟩ (.int .i64 SZ)).setCell ⟨w.heap.size, 1, none⟩ ((.slice a9 l9.length c9))) = wP at *
    clear hgen_wP
    have k0_0 := hs138.cellAt 0 rfl 0 rfl
    have k0_1 := hs138.cellAt 0 rfl 1 rfl
    have k1_0 := hs138.cellAt 1 rfl 0 rfl
    have k1_1 := hs138.cellAt 1 rfl 1 rfl
    have k2_0 := hs138.cellAt 2 rfl 0 rfl
    have k2_1 := hs138.cellAt 2 rfl 1 rfl
    have k2_2 := hs138.cellAt 2 rfl 2 rfl
    have k2_3 := hs138.cellAt 2 rfl 3 rfl
    have k2_4 := hs138.cellAt 2 rfl 4 rfl
    have k3_0 := hs138.cellAt 3 rfl 0 rfl
    have k3_1 := hs138.cellAt 3 rfl 1 rfl
    have k4_0 := hs138.cellAt 4 rfl 0 rfl
    have k4_1 := hs138.cellAt 4 rfl 1 rfl
    have k5_0 := hs138.cellAt 5 rfl 0 rfl
    have k5_1 := hs138.cellAt 5 rfl 1 rfl
    have k6_0 := hs138.cellAt 6 rfl 0 rfl
    have k6_1 := hs138.cellAt 6 rfl 1 rfl
    refine ⟨⟨hs138.cellAt 1 rfl 0 rfl, hs138.cellAt 1 rfl 1 rfl, hs138.cellAt 2 rfl 0 rfl, hs138.cellAt 2 rfl 1 rfl, hs138.cellAt 2 rfl 2 rfl, hs138.cellAt 2 rfl 3 rfl, hs138.cellAt 2 rfl 4 rfl, hs138.cellAt 3 rfl 0 rfl, hs138.cellAt 3 rfl 1 rfl, hs138.cellAt 4 rfl 0 rfl, hs138.cellAt 4 rfl 1 rfl, hs138.cellAt 5 rfl 0 rfl, hs138.cellAt 5 rfl 1 rfl, hs138.cellAt 6 rfl 0 rfl, hs138.cellAt 6 rfl 1 rfl⟩, ?_⟩
    (repeat (first | (apply t4_skip rfl (by rfl); try simp only [Act.put, List.setIfInBounds_toArray, List.set_cons_zero, List.set_cons_succ]) | (apply t4_float rfl (by rfl); (· (intro w' hS; go_simp <;> with_reducible rfl)); (try simp only [Act.put, List.setIfInBounds_toArray, List.set_cons_zero, List.set_cons_succ]))))
    refine t4_last rfl (by rfl) (fun K hK => ?_)
    clear k0_0 k0_1 k1_0 k1_1 k2_0 k2_1 k2_2 k2_3 k2_4 k3_0 k3_1 k4_0 k4_1 k5_0 k5_1 k6_0 k6_1
    have k0_0 := hs138.cellAt 0 rfl 0 rfl
    have k0_1 := hs138.cellAt 0 rfl 1 rfl
    have k1_0 := hs138.cellAt 1 rfl 0 rfl
    have k1_1 := hs138.cellAt 1 rfl 1 rfl
    have k2_0 := hs138.cellAt 2 rfl 0 rfl
    have k2_1 := hs138.cellAt 2 rfl 1 rfl
    have k2_2 := hs138.cellAt 2 rfl 2 rfl
    have k2_3 := hs138.cellAt 2 rfl 3 rfl
    have k2_4 := hs138.cellAt 2 rfl 4 rfl
    have k3_0 := hs138.cellAt 3 rfl 0 rfl
    have k3_1 := hs138.cellAt 3 rfl 1 rfl
    have k4_0 := hs138.cellAt 4 rfl 0 rfl
    have k4_1 := hs138.cellAt 4 rfl 1 rfl
    have k5_0 := hs138.cellAt 5 rfl 0 rfl
    have k5_1 := hs138.cellAt 5 rfl 1 rfl
    have k6_0 := hs138.cellAt 6 rfl 0 rfl
    have k6_1 := hs138.cellAt 6 rfl 1 rfl
    clear k0_0 k0_1 k1_0 k1_1 k2_0 k2_1 k2_2 k2_3 k2_4 k3_0 k3_1 k4_0 k4_1 k5_0 k5_1 k6_0 k6_1
    have k0_0 := hs138.cellAt 0 rfl 0 rfl
    have k0_1 := hs138.cellAt 0 rfl 1 rfl
    have k1_0 := hs138.cellAt 1 rfl 0 rfl
    have k1_1 := hs138.cellAt 1 rfl 1 rfl
    have k2_0 := hs138.cellAt 2 rfl 0 rfl
    have k2_1 := hs138.cellAt 2 rfl 1 rfl
    have k2_2 := hs138.cellAt 2 rfl 2 rfl
    have k2_3 := hs138.cellAt 2 rfl 3 rfl
    have k2_4 := hs138.cellAt 2 rfl 4 rfl
    have k3_0 := hs138.cellAt 3 rfl 0 rfl
    have k3_1 := hs138.cellAt 3 rfl 1 rfl
    have k4_0 := hs138.cellAt 4 rfl 0 rfl
    have k4_1 := hs138.cellAt 4 rfl 1 rfl
    have k5_0 := hs138.cellAt 5 rfl 0 rfl
    have k5_1 := hs138.cellAt 5 rfl 1 rfl
    have k6_0 := hs138.cellAt 6 rfl 0 rfl
    have k6_1 := hs138.cellAt 6 rfl 1 rfl
    have f1_0 := hs138.freeAt 1 rfl 0
    have f1_1 := hs138.freeAt 1 rfl 1
    go_wp2_with fail
    refine t4_nil (NoPanic.normal ?_)
    have hs142 := hs138.set (p := [_]) (by simp <;> omega) 0 (.int .i64 (U : Int))
    have hs143 := hs142.set (p := [_]) (by simp <;> omega) 1 ((.slice a8 (l2.length + 1) c8))
    have HSR_144 := Lib.hid (Src.below (B := B) (Src.below (B := B) HSR_139.out ((Below.refl B _).setCell (p := ⟨w.heap.size + 1, 0, none⟩) (by (try simp) <;> omega) (.int .i64 (U : Int)))) ((Below.refl B _).setCell (p := ⟨w.heap.size + 1, 1, none⟩) (by (try simp) <;> omega) ((.slice a8 (l2.length + 1) c8))))
    clear HSR_139
    have HTF_145 := Lib.hid (Ip.setCell (b := w.heap.size + 1) (o := 1) (Ip.setCell (b := w.heap.size + 1) (o := 0) HTF_140.out (.int .i64 (U : Int)) (by intro hA9; (try simp only at hA9); omega)) ((.slice a8 (l2.length + 1) c8)) (by intro hA9; (try simp only at hA9); omega))
    clear HTF_140
    have HA2_146 := Lib.hid (AccP.setCell (b := w.heap.size + 1) (o := 1) (AccP.setCell (b := w.heap.size + 1) (o := 0) HA2_141.out (.int .i64 (U : Int)) (by intro hA9; (try simp only at hA9); omega)) ((.slice a8 (l2.length + 1) c8)) (by intro hA9; (try simp only at hA9); omega))
    clear HA2_141
    clear k0_0 k0_1 k1_0 k1_1 k2_0 k2_1 k2_2 k2_3 k2_4 k3_0 k3_1 k4_0 k4_1 k5_0 k5_1 k6_0 k6_1
    have hz_wQ : wP.heap.size ≤ (((wP.setCell ⟨w.heap.size + 1, 0, none⟩ (.int .i64 (U : Int))).setCell ⟨w.heap.size + 1, 1, none⟩ ((.slice a8 (l2.length + 1) c8)))).heap.size := by simp [World.setCell]
    generalize hgen_wQ : ((wP.setCell ⟨w.heap.size + 1, 0, none⟩ (.int .i64 (U : Int))).setCell ⟨w.heap.size + 1, 1, none⟩ ((.slice a8 (l2.length + 1) c8))) = wQ at *
    clear hgen_wQ
    have k0_0 := hs143.cellAt 0 rfl 0 rfl
    have k0_1 := hs143.cellAt 0 rfl 1 rfl
    have k1_0 := hs143.cellAt 1 rfl 0 rfl
    have k1_1 := hs143.cellAt 1 rfl 1 rfl
    have k2_0 := hs143.cellAt 2 rfl 0 rfl
    have k2_1 := hs143.cellAt 2 rfl 1 rfl
    have k2_2 := hs143.cellAt 2 rfl 2 rfl
    have k2_3 := hs143.cellAt 2 rfl 3 rfl
    have k2_4 := hs143.cellAt 2 rfl 4 rfl
    have k3_0 := hs143.cellAt 3 rfl 0 rfl
    have k3_1 := hs143.cellAt 3 rfl 1 rfl
    have k4_0 := hs143.cellAt 4 rfl 0 rfl
    have k4_1 := hs143.cellAt 4 rfl 1 rfl
    have k5_0 := hs143.cellAt 5 rfl 0 rfl
    have k5_1 := hs143.cellAt 5 rfl 1 rfl
    have k6_0 := hs143.cellAt 6 rfl 0 rfl
    have k6_1 := hs143.cellAt 6 rfl 1 rfl
    go_wp2_with fail
    have x0 := (hs143.cellAt 0 rfl 0 rfl)
    have x1 := (hs143.cellAt 0 rfl 1 rfl)
    have x2 := (hs143.cellAt 1 rfl 0 rfl)
    have x3 := (hs143.cellAt 1 rfl 1 rfl)
    exact bodyPost_ret (v := .tuple #[.agg #[.int .i64 SZ, (.slice a9 l9.length c9)], .agg #[.int .i64 (U : Int), (.slice a8 (l2.length + 1) c8)]]) (by simp [results, Tryz.results40, go_sem, x0, x1, x2, x3]) rfl ⟨SZ, (U : Int), (.slice a9 l9.length c9), (.slice a8 (l2.length + 1) c8), rfl, l9, l2 ++ [(r1 - 1, [0, r2])], Fresh.firm ((HTF_145.out).fresh (lo := w.heap.size) (fun z hz => by have := hz.1; omega)), Firm.ic ⟨by omega, by omega⟩ (Fresh.firm (HA2_146.out.ip.fresh (lo := w.heap.size) (fun z hz => by have := hz.1; omega))), HSR_144.out.more (by omega), HBT_114.out.trans (but_of hs143.bel)⟩
  have n2 := eqb_no e2
  by_cases e3 : PK = 3
  · subst e3
    go_wp2_with fail
    have HST := Lib.hid hs32
    have HSR9 := Lib.hid HSR_33.out
    have HBT9 := Lib.hid HBT_34.out
    have HTF9 := Lib.hid HTF_35.out
    have HAC9 := Lib.hid ((HAC_36.out.wk (C := fun z => (w12.heap.size + 1 ≤ z ∧ z ≠ w20.heap.size) ∧ z < w30.heap.size) (fun z hz => ⟨⟨hz.1, by have := hz.2; omega⟩, by have := hz.2; omega⟩)).accS)
    have hTL : w.heap.size + 1 + 1 + 1 ≤ w12.heap.size := by omega
    obtain ⟨XA, hXA⟩ : ∃ z, z = w20.heap.size := ⟨_, rfl⟩
    have hXL : w12.heap.size + 1 ≤ XA := by omega
    rw [← hXA] at HST HAC9 ⊢
    clear hXA
    go_loopw [] (fun wl => ∃ (n : Nat) (wz : World) (a : Option Addr) (c : Nat) (l : List OpT), Hid (l.length = n ∧ n ≤ 26) ∧ Hid (wz.heap.size = w.heap.size ∧ But [b] w wz) ∧ Hid (St wz (XA + 1) wl [(w.heap.size, #[.int .i64 0, .slice none 0 0], 26), (w.heap.size + 1, #[.int .i64 0, .slice none 0 0], 29), (w.heap.size + 1 + 1, #[.int .i64 2, .int .i64 2, .int .i64 3, .int .i64 3, .int .i64 4], 2), (w12.heap.size, #[.int .i64 SZ, .slice a9 l9.length c9], 26), (XA, #[.int .i64 U, .slice a n c], 29)]) ∧ Hid (AccS (fun z => (w12.heap.size + 1 ≤ z ∧ z ≠ XA) ∧ z < wl.heap.size) 60 wl (.slice a n c) l) ∧ Hid (Src L B wl b (k + 20000 + n)) ∧ Hid (Ip (fun z => w.heap.size + 1 + 1 ≤ z ∧ z < w12.heap.size) wl [.int .i64 SZ, .slice a9 l9.length c9] ((SZ, l9) : Tmpl))) (fun wl => 26 - lenOf wl XA)
    case atStart =>
      exact ⟨l2.length, wz31, a2, c2, l2, ⟨rfl, by omega⟩, ⟨by omega, HBT9.out⟩, HST.out, HAC9.out, HSR9.out.more (by omega), HTF9.out⟩
    case round =>
      clear HST HSR9 HBT9 HTF9 HAC9
      obtain ⟨n, wz, a, c, l, hl, hwz, hst, hac, hsr, htf⟩ := hrel
      have HLN := Lib.hid hl.out.1
      have hn7 := hl.out.2
      have HAS := hac
      have HSR := hsr
      have HTF := htf
      have hwz1 := hwz.out.1
      have HBT := Lib.hid hwz.out.2
      have hs0 := hst.out
      have hszr := hst.out.hi
      have hlo0 := hst.out.lo
      have HM0 := Lib.hid (lenOf_at (hs0.cellAt 4 rfl 1 rfl))
      clear hac hsr htf
      have k0_0 := hs0.cellAt 0 rfl 0 rfl
      have k0_1 := hs0.cellAt 0 rfl 1 rfl
      have k1_0 := hs0.cellAt 1 rfl 0 rfl
      have k1_1 := hs0.cellAt 1 rfl 1 rfl
      have k2_0 := hs0.cellAt 2 rfl 0 rfl
      have k2_1 := hs0.cellAt 2 rfl 1 rfl
      have k2_2 := hs0.cellAt 2 rfl 2 rfl
      have k2_3 := hs0.cellAt 2 rfl 3 rfl
      have k2_4 := hs0.cellAt 2 rfl 4 rfl
      have k3_0 := hs0.cellAt 3 rfl 0 rfl
      have k3_1 := hs0.cellAt 3 rfl 1 rfl
      have k4_0 := hs0.cellAt 4 rfl 0 rfl
      have k4_1 := hs0.cellAt 4 rfl 1 rfl
      go_upto_region 11 with fail
      refine wp_region_noPanic (wp_region_tree4 (fun w' => w'.cell? ⟨w.heap.size, 0, none⟩ = some (.int .i64 0) ∧ w'.cell? ⟨w.heap.size, 1, none⟩ = some (.slice none 0 0) ∧ w'.cell? ⟨w.heap.size + 1, 0, none⟩ = some (.int .i64 0) ∧ w'.cell? ⟨w.heap.size + 1, 1, none⟩ = some (.slice none 0 0) ∧ w'.cell? ⟨w.heap.size + 1 + 1, 0, none⟩ = some (.int .i64 2) ∧ w'.cell? ⟨w.heap.size + 1 + 1, 1, none⟩ = some (.int .i64 2) ∧ w'.cell? ⟨w.heap.size + 1 + 1, 2, none⟩ = some (.int .i64 3) ∧ w'.cell? ⟨w.heap.size + 1 + 1, 3, none⟩ = some (.int .i64 3) ∧ w'.cell? ⟨w.heap.size + 1 + 1, 4, none⟩ = some (.int .i64 4) ∧ w'.cell? ⟨w12.heap.size, 0, none⟩ = some (.int .i64 SZ) ∧ w'.cell? ⟨w12.heap.size, 1, none⟩ = some (.slice a9 l9.length c9) ∧ w'.cell? ⟨XA, 0, none⟩ = some (.int .i64 U) ∧ w'.cell? ⟨XA, 1, none⟩ = some (.slice a n c)) (.float 0 (.float 1 (.float 2 (.float 3 (.hard 4 (.float 5 (.float 6 (.float 7 (.float 8 (.float 9 (.float 10 (.float 11 (.float 12 .nil))))))))))))) (by kernel_rfl) (by kernel_rfl) (by kernel_rfl) rfl ?_ (fun _ _ _ _ _ h => h) ?_)
      · exact ⟨(hs0.drew).cellAt 0 rfl 0 rfl, (hs0.drew).cellAt 0 rfl 1 rfl, (hs0.drew).cellAt 1 rfl 0 rfl, (hs0.drew).cellAt 1 rfl 1 rfl, (hs0.drew).cellAt 2 rfl 0 rfl, (hs0.drew).cellAt 2 rfl 1 rfl, (hs0.drew).cellAt 2 rfl 2 rfl, (hs0.drew).cellAt 2 rfl 3 rfl, (hs0.drew).cellAt 2 rfl 4 rfl, (hs0.drew).cellAt 3 rfl 0 rfl, (hs0.drew).cellAt 3 rfl 1 rfl, (hs0.drew).cellAt 4 rfl 0 rfl, (hs0.drew).cellAt 4 rfl 1 rfl⟩
      have hs147 := hs0.drew
      have HAS_148 := Lib.hid (AccS.mono HAS.out (belowD _))
      clear HAS
      have HSR_149 := Lib.hid (Src.mono HSR.out (belowD _))
      clear HSR
      have HTF_150 := Lib.hid (Ip.mono HTF.out (belowD _))
      clear HTF
      clear k0_0 k0_1 k1_0 k1_1 k2_0 k2_1 k2_2 k2_3 k2_4 k3_0 k3_1 k4_0 k4_1
      have hz_wd151 : wr.heap.size ≤ (wr.drew).heap.size := by simp
      generalize hgen_wd151 : wr.drew = wd151 at *
      have HG_wd151 := Lib.hid hgen_wd151
      clear hgen_wd151
      (repeat (first | (apply t4_skip rfl (by rfl); try simp only [Act.put, List.setIfInBounds_toArray, List.set_cons_zero, List.set_cons_succ]) | (apply t4_float rfl (by rfl); (· (intro w' hS; go_simp <;> with_reducible rfl)); (try simp only [Act.put, List.setIfInBounds_toArray, List.set_cons_zero, List.set_cons_succ]))))
      refine t4_hard rfl (by rfl) (fun K hK => ?_)
      go_wp2_with (go_at_call 38; refine (pick_c 2 L B b (k + 20000 + n) _ HSR_149.out (by omega) (by omega) (by omega)).mono ?_; rintro e w152 ⟨r1, rfl, hr0, hr1, hrw152, hbw152⟩)
      obtain ⟨wz153, hs154, hz_wz153, hy_wz153, hc_wz153⟩ := hs147.cut hbw152 (by intro k hk; simp only [List.mem_singleton] at hk; omega)
      have hz_w152 : wd151.heap.size ≤ w152.heap.size := by have h9 := hbw152.size; (try simp at h9); omega
      have HAS_155 := Lib.hid (AccS.butL HAS_148.out hbw152 (by intro k hk; simp only [List.mem_singleton] at hk; omega))
      clear HAS_148
      have HSR_156 := Lib.hid hrw152
      clear HSR_149
      have HBT_157 := Lib.hid (HBT.out.trans hc_wz153)
      clear HBT
      have HTF_158 := Lib.hid (Ip.butL HTF_150.out hbw152 (by intro k hk; simp only [List.mem_singleton] at hk; (try simp only); omega))
      clear HTF_150
      clear hrw152 hc_wz153
      have hw6 : IntKind.i64.wrap (24 + r1) = 24 + r1 := i64_in _ (by omega)
      by_cases hlt : (n : Int) < 24 + r1
      rotate_left
      · skip
        refine ⟨⟨hs154.cellAt 0 rfl 0 rfl, hs154.cellAt 0 rfl 1 rfl, hs154.cellAt 1 rfl 0 rfl, hs154.cellAt 1 rfl 1 rfl, hs154.cellAt 2 rfl 0 rfl, hs154.cellAt 2 rfl 1 rfl, hs154.cellAt 2 rfl 2 rfl, hs154.cellAt 2 rfl 3 rfl, hs154.cellAt 2 rfl 4 rfl, hs154.cellAt 3 rfl 0 rfl, hs154.cellAt 3 rfl 1 rfl, hs154.cellAt 4 rfl 0 rfl, hs154.cellAt 4 rfl 1 rfl⟩, ?_⟩
        (repeat (first | (apply t4_skip rfl (by rfl); try simp only [Act.put, List.setIfInBounds_toArray, List.set_cons_zero, List.set_cons_succ]) | (apply t4_float rfl (by rfl); (· (intro w' hS; go_simp <;> with_reducible rfl)); (try simp only [Act.put, List.setIfInBounds_toArray, List.set_cons_zero, List.set_cons_succ]))))
        have k0_0 := hs154.cellAt 0 rfl 0 rfl
        have k0_1 := hs154.cellAt 0 rfl 1 rfl
        have k1_0 := hs154.cellAt 1 rfl 0 rfl
        have k1_1 := hs154.cellAt 1 rfl 1 rfl
        have k2_0 := hs154.cellAt 2 rfl 0 rfl
        have k2_1 := hs154.cellAt 2 rfl 1 rfl
        have k2_2 := hs154.cellAt 2 rfl 2 rfl
        have k2_3 := hs154.cellAt 2 rfl 3 rfl
        have k2_4 := hs154.cellAt 2 rfl 4 rfl
        have k3_0 := hs154.cellAt 3 rfl 0 rfl
        have k3_1 := hs154.cellAt 3 rfl 1 rfl
        have k4_0 := hs154.cellAt 4 rfl 0 rfl
        have k4_1 := hs154.cellAt 4 rfl 1 rfl
        refine t4_nil (NoPanic.normal ?_)
        go_upto_region 13 with fail
        refine wp_region_noPanic (wp_region_tree4 (fun w' => w'.cell? ⟨w.heap.size + 1, 0, none⟩ = some (.int .i64 0) ∧ w'.cell? ⟨w.heap.size + 1, 1, none⟩ = some (.slice none 0 0) ∧ w'.cell? ⟨w.heap.size + 1 + 1, 0, none⟩ = some (.int .i64 2) ∧ w'.cell? ⟨w.heap.size + 1 + 1, 1, none⟩ = some (.int .i64 2) ∧ w'.cell? ⟨w.heap.size + 1 + 1, 2, none⟩ = some (.int .i64 3) ∧ w'.cell? ⟨w.heap.size + 1 + 1, 3, none⟩ = some (.int .i64 3) ∧ w'.cell? ⟨w.heap.size + 1 + 1, 4, none⟩ = some (.int .i64 4) ∧ w'.cell? ⟨w12.heap.size, 0, none⟩ = some (.int .i64 SZ) ∧ w'.cell? ⟨w12.heap.size, 1, none⟩ = some (.slice a9 l9.length c9) ∧ w'.cell? ⟨XA, 0, none⟩ = some (.int .i64 U) ∧ w'.cell? ⟨XA, 1, none⟩ = some (.slice a n c)) (.float 0 (.float 1 (.hard 2 (.last 3 .nil)))) (by kernel_rfl) (by kernel_rfl) (by kernel_rfl) rfl ?_ (fun _ _ _ _ _ h => h) ?_)
        · exact ⟨(hs154.drew).cellAt 1 rfl 0 rfl, (hs154.drew).cellAt 1 rfl 1 rfl, (hs154.drew).cellAt 2 rfl 0 rfl, (hs154.drew).cellAt 2 rfl 1 rfl, (hs154.drew).cellAt 2 rfl 2 rfl, (hs154.drew).cellAt 2 rfl 3 rfl, (hs154.drew).cellAt 2 rfl 4 rfl, (hs154.drew).cellAt 3 rfl 0 rfl, (hs154.drew).cellAt 3 rfl 1 rfl, (hs154.drew).cellAt 4 rfl 0 rfl, (hs154.drew).cellAt 4 rfl 1 rfl⟩
        have hs159 := hs154.drew
        have HAS_160 := Lib.hid (AccS.mono HAS_155.out (belowD _))
        clear HAS_155
        have HSR_161 := Lib.hid (Src.mono HSR_156.out (belowD _))
        clear HSR_156
        have HTF_162 := Lib.hid (Ip.mono HTF_158.out (belowD _))
        clear HTF_158
        clear k0_0 k0_1 k1_0 k1_1 k2_0 k2_1 k2_2 k2_3 k2_4 k3_0 k3_1 k4_0 k4_1
        have hz_wd163 : w152.heap.size ≤ (w152.drew).heap.size := by simp
        generalize hgen_wd163 : w152.drew = wd163 at *
        have HG_wd163 := Lib.hid hgen_wd163
        clear hgen_wd163
        (repeat (first | (apply t4_skip rfl (by rfl); try simp only [Act.put, List.setIfInBounds_toArray, List.set_cons_zero, List.set_cons_succ]) | (apply t4_float rfl (by rfl); (· (intro w' hS; go_simp <;> with_reducible rfl)); (try simp only [Act.put, List.setIfInBounds_toArray, List.set_cons_zero, List.set_cons_succ]))))
        refine t4_hard rfl (by rfl) (fun K hK => ?_)
        have k0_0 := hs159.cellAt 0 rfl 0 rfl
        have k0_1 := hs159.cellAt 0 rfl 1 rfl
        have k1_0 := hs159.cellAt 1 rfl 0 rfl
        have k1_1 := hs159.cellAt 1 rfl 1 rfl
        have k2_0 := hs159.cellAt 2 rfl 0 rfl
        have k2_1 := hs159.cellAt 2 rfl 1 rfl
        have k2_2 := hs159.cellAt 2 rfl 2 rfl
        have k2_3 := hs159.cellAt 2 rfl 3 rfl
        have k2_4 := hs159.cellAt 2 rfl 4 rfl
        have k3_0 := hs159.cellAt 3 rfl 0 rfl
        have k3_1 := hs159.cellAt 3 rfl 1 rfl
        have k4_0 := hs159.cellAt 4 rfl 0 rfl
        have k4_1 := hs159.cellAt 4 rfl 1 rfl
        have f0_0 := hs159.freeAt 0 rfl 0
        have f0_1 := hs159.freeAt 0 rfl 1
        go_wp2_with fail
        have hs164 := hs159.set (p := []) (by simp <;> omega) 0 (.int .i64 SZ)
        have hs165 := hs164.set (p := []) (by simp <;> omega) 1 ((.slice a9 l9.length c9))
        have HAS_166 := Lib.hid (AccS.setCell (b := w.heap.size) (o := 1) (AccS.setCell (b := w.heap.size) (o := 0) HAS_160.out (.int .i64 SZ) (by intro hA9; (try simp only at hA9); omega)) ((.slice a9 l9.length c9)) (by intro hA9; (try simp only at hA9); omega))
        clear HAS_160
        have HSR_167 := Lib.hid (Src.below (B := B) (Src.below (B := B) HSR_161.out ((Below.refl B _).setCell (p := ⟨w.heap.size, 0, none⟩) (by (try simp) <;> omega) (.int .i64 SZ))) ((Below.refl B _).setCell (p := ⟨w.heap.size, 1, none⟩) (by (try simp) <;> omega) ((.slice a9 l9.length c9))))
        clear HSR_161
        have HTF_168 := Lib.hid (Ip.setCell (b := w.heap.size) (o := 1) (Ip.setCell (b := w.heap.size) (o := 0) HTF_162.out (.int .i64 SZ) (by intro hA9; (try simp only at hA9); omega)) ((.slice a9 l9.length c9)) (by intro hA9; (try simp only at hA9); omega))
        clear HTF_162
        clear k0_0 k0_1 k1_0 k1_1 k2_0 k2_1 k2_2 k2_3 k2_4 k3_0 k3_1 k4_0 k4_1
        have hz_wP : wd163.heap.size ≤ (((wd163.setCell ⟨w.heap.size, 0, none⟩ (.int .i64 SZ)).setCell ⟨w.heap.size, 1, none⟩ ((.slice a9 l9.length c9)))).heap.size := by simp [World.setCell]
        generalize hgen_wP : ((wd163.setCell ⟨w.heap.size, 0, none⟩ (.int .i64 SZ)).setCell ⟨w.heap.size, 1, none⟩ ((.slice a9 l9.length c9))) = wP at *
        clear hgen_wP
        have k0_0 := hs165.cellAt 0 rfl 0 rfl
        have k0_1 := hs165.cellAt 0 rfl 1 rfl
        have k1_0 := hs165.cellAt 1 rfl 0 rfl
        have k1_1 := hs165.cellAt 1 rfl 1 rfl
        have k2_0 := hs165.cellAt 2 rfl 0 rfl
        have k2_1 := hs165.cellAt 2 rfl 1 rfl
        have k2_2 := hs165.cellAt 2 rfl 2 rfl
        have k2_3 := hs165.cellAt 2 rfl 3 rfl
        have k2_4 := hs165.cellAt 2 rfl 4 rfl
        have k3_0 := hs165.cellAt 3 rfl 0 rfl
        have k3_1 := hs165.cellAt 3 rfl 1 rfl
        have k4_0 := hs165.cellAt 4 rfl 0 rfl
        have k4_1 := hs165.cellAt 4 rfl 1 rfl
        (first | refine ⟨⟨hs165.cellAt 1 rfl 0 rfl, hs165.cellAt 1 rfl 1 rfl, hs165.cellAt 2 rfl 0 rfl, hs165.cellAt 2 rfl 1 rfl, hs165.cellAt 2 rfl 2 rfl, hs165.cellAt 2 rfl 3 rfl, hs165.cellAt 2 rfl 4 rfl, hs165.cellAt 3 rfl 0 rfl, hs165.cellAt 3 rfl 1 rfl, hs165.cellAt 4 rfl 0 rfl, hs165.cellAt 4 rfl 1 rfl⟩, ?_⟩ | skip)
        (repeat (first | (apply t4_skip rfl (by rfl); try simp only [Act.put, List.setIfInBounds_toArray, List.set_cons_zero, List.set_cons_succ]) | (apply t4_float rfl (by rfl); (· (intro w' hS; go_simp <;> with_reducible rfl)); (try simp only [Act.put, List.setIfInBounds_toArray, List.set_cons_zero, List.set_cons_succ]))))
        refine t4_last rfl (by rfl) (fun K hK => ?_)
        clear k0_0 k0_1 k1_0 k1_1 k2_0 k2_1 k2_2 k2_3 k2_4 k3_0 k3_1 k4_0 k4_1
        have k0_0 := hs165.cellAt 0 rfl 0 rfl
        have k0_1 := hs165.cellAt 0 rfl 1 rfl
        have k1_0 := hs165.cellAt 1 rfl 0 rfl
        have k1_1 := hs165.cellAt 1 rfl 1 rfl
        have k2_0 := hs165.cellAt 2 rfl 0 rfl
        have k2_1 := hs165.cellAt 2 rfl 1 rfl
        have k2_2 := hs165.cellAt 2 rfl 2 rfl
        have k2_3 := hs165.cellAt 2 rfl 3 rfl
        have k2_4 := hs165.cellAt 2 rfl 4 rfl
        have k3_0 := hs165.cellAt 3 rfl 0 rfl
        have k3_1 := hs165.cellAt 3 rfl 1 rfl
        have k4_0 := hs165.cellAt 4 rfl 0 rfl
        have k4_1 := hs165.cellAt 4 rfl 1 rfl
        clear k0_0 k0_1 k1_0 k1_1 k2_0 k2_1 k2_2 k2_3 k2_4 k3_0 k3_1 k4_0 k4_1
        have k0_0 := hs165.cellAt 0 rfl 0 rfl
        have k0_1 := hs165.cellAt 0 rfl 1 rfl
        have k1_0 := hs165.cellAt 1 rfl 0 rfl
        have k1_1 := hs165.cellAt 1 rfl 1 rfl
        have k2_0 := hs165.cellAt 2 rfl 0 rfl
        have k2_1 := hs165.cellAt 2 rfl 1 rfl
        have k2_2 := hs165.cellAt 2 rfl 2 rfl
        have k2_3 := hs165.cellAt 2 rfl 3 rfl
        have k2_4 := hs165.cellAt 2 rfl 4 rfl
        have k3_0 := hs165.cellAt 3 rfl 0 rfl
        have k3_1 := hs165.cellAt 3 rfl 1 rfl
        have k4_0 := hs165.cellAt 4 rfl 0 rfl
        have k4_1 := hs165.cellAt 4 rfl 1 rfl
        have f1_0 := hs165.freeAt 1 rfl 0
        have f1_1 := hs165.freeAt 1 rfl 1
        go_wp2_with fail
        refine t4_nil (NoPanic.normal ?_)
        have hs169 := hs165.set (p := [_]) (by simp <;> omega) 0 (.int .i64 (U : Int))
        have hs170 := hs169.set (p := [_]) (by simp <;> omega) 1 ((.slice a n c))
        have HAS_171 := Lib.hid (AccS.setCell (b := w.heap.size + 1) (o := 1) (AccS.setCell (b := w.heap.size + 1) (o := 0) HAS_166.out (.int .i64 (U : Int)) (by intro hA9; (try simp only at hA9); omega)) ((.slice a n c)) (by intro hA9; (try simp only at hA9); omega))
        clear HAS_166
        have HSR_172 := Lib.hid (Src.below (B := B) (Src.below (B := B) HSR_167.out ((Below.refl B _).setCell (p := ⟨w.heap.size + 1, 0, none⟩) (by (try simp) <;> omega) (.int .i64 (U : Int)))) ((Below.refl B _).setCell (p := ⟨w.heap.size + 1, 1, none⟩) (by (try simp) <;> omega) ((.slice a n c))))
        clear HSR_167
        have HTF_173 := Lib.hid (Ip.setCell (b := w.heap.size + 1) (o := 1) (Ip.setCell (b := w.heap.size + 1) (o := 0) HTF_168.out (.int .i64 (U : Int)) (by intro hA9; (try simp only at hA9); omega)) ((.slice a n c)) (by intro hA9; (try simp only at hA9); omega))
        clear HTF_168
        clear k0_0 k0_1 k1_0 k1_1 k2_0 k2_1 k2_2 k2_3 k2_4 k3_0 k3_1 k4_0 k4_1
        have hz_wQ : wP.heap.size ≤ (((wP.setCell ⟨w.heap.size + 1, 0, none⟩ (.int .i64 (U : Int))).setCell ⟨w.heap.size + 1, 1, none⟩ ((.slice a n c)))).heap.size := by simp [World.setCell]
        generalize hgen_wQ : ((wP.setCell ⟨w.heap.size + 1, 0, none⟩ (.int .i64 (U : Int))).setCell ⟨w.heap.size + 1, 1, none⟩ ((.slice a n c))) = wQ at *
        clear hgen_wQ
        have k0_0 := hs170.cellAt 0 rfl 0 rfl
        have k0_1 := hs170.cellAt 0 rfl 1 rfl
        have k1_0 := hs170.cellAt 1 rfl 0 rfl
        have k1_1 := hs170.cellAt 1 rfl 1 rfl
        have k2_0 := hs170.cellAt 2 rfl 0 rfl
        have k2_1 := hs170.cellAt 2 rfl 1 rfl
        have k2_2 := hs170.cellAt 2 rfl 2 rfl
        have k2_3 := hs170.cellAt 2 rfl 3 rfl
        have k2_4 := hs170.cellAt 2 rfl 4 rfl
        have k3_0 := hs170.cellAt 3 rfl 0 rfl
        have k3_1 := hs170.cellAt 3 rfl 1 rfl
        have k4_0 := hs170.cellAt 4 rfl 0 rfl
        have k4_1 := hs170.cellAt 4 rfl 1 rfl
        go_wp2_with fail
        have x0 := (hs170.cellAt 0 rfl 0 rfl)
        have x1 := (hs170.cellAt 0 rfl 1 rfl)
        have x2 := (hs170.cellAt 1 rfl 0 rfl)
        have x3 := (hs170.cellAt 1 rfl 1 rfl)
        exact bodyPost_ret (v := .tuple #[.agg #[.int .i64 SZ, (.slice a9 l9.length c9)], .agg #[.int .i64 (U : Int), (.slice a n c)]]) (by simp [results, Tryz.results40, go_sem, x0, x1, x2, x3]) rfl ⟨SZ, (U : Int), (.slice a9 l9.length c9), (.slice a n c), rfl, l9, l, Fresh.firm ((HTF_173.out).fresh (lo := w.heap.size) (fun z hz => by have := hz.1; omega)), Firm.ic ⟨by omega, by omega⟩ (AccS.firm HAS_171.out (lo := w.heap.size) (fun z hz => by have := hz.1; omega)), HSR_172.out.more (by omega), HBT_157.out.trans (but_of hs170.bel)⟩
      by_cases h0 : 0 < n
      rotate_left
      · have h0I : ¬ (0 : Int) < n := by omega
        refine ⟨⟨hs154.cellAt 0 rfl 0 rfl, hs154.cellAt 0 rfl 1 rfl, hs154.cellAt 1 rfl 0 rfl, hs154.cellAt 1 rfl 1 rfl, hs154.cellAt 2 rfl 0 rfl, hs154.cellAt 2 rfl 1 rfl, hs154.cellAt 2 rfl 2 rfl, hs154.cellAt 2 rfl 3 rfl, hs154.cellAt 2 rfl 4 rfl, hs154.cellAt 3 rfl 0 rfl, hs154.cellAt 3 rfl 1 rfl, hs154.cellAt 4 rfl 0 rfl, hs154.cellAt 4 rfl 1 rfl⟩, ?_⟩
        (repeat (first | (apply t4_skip rfl (by rfl); try simp only [Act.put, List.setIfInBounds_toArray, List.set_cons_zero, List.set_cons_succ]) | (apply t4_float rfl (by rfl); (· (intro w' hS; go_simp <;> with_reducible rfl)); (try simp only [Act.put, List.setIfInBounds_toArray, List.set_cons_zero, List.set_cons_succ]))))
        have k0_0 := hs154.cellAt 0 rfl 0 rfl
        have k0_1 := hs154.cellAt 0 rfl 1 rfl
        have k1_0 := hs154.cellAt 1 rfl 0 rfl
        have k1_1 := hs154.cellAt 1 rfl 1 rfl
        have k2_0 := hs154.cellAt 2 rfl 0 rfl
        have k2_1 := hs154.cellAt 2 rfl 1 rfl
        have k2_2 := hs154.cellAt 2 rfl 2 rfl
        have k2_3 := hs154.cellAt 2 rfl 3 rfl
        have k2_4 := hs154.cellAt 2 rfl 4 rfl
        have k3_0 := hs154.cellAt 3 rfl 0 rfl
        have k3_1 := hs154.cellAt 3 rfl 1 rfl
        have k4_0 := hs154.cellAt 4 rfl 0 rfl
        have k4_1 := hs154.cellAt 4 rfl 1 rfl
        refine t4_nil (NoPanic.normal ?_)
        go_upto_region 13 with fail
        refine wp_region_noPanic (wp_region_tree4 (fun w' => w'.cell? ⟨w.heap.size + 1, 0, none⟩ = some (.int .i64 0) ∧ w'.cell? ⟨w.heap.size + 1, 1, none⟩ = some (.slice none 0 0) ∧ w'.cell? ⟨w.heap.size + 1 + 1, 0, none⟩ = some (.int .i64 2) ∧ w'.cell? ⟨w.heap.size + 1 + 1, 1, none⟩ = some (.int .i64 2) ∧ w'.cell? ⟨w.heap.size + 1 + 1, 2, none⟩ = some (.int .i64 3) ∧ w'.cell? ⟨w.heap.size + 1 + 1, 3, none⟩ = some (.int .i64 3) ∧ w'.cell? ⟨w.heap.size + 1 + 1, 4, none⟩ = some (.int .i64 4) ∧ w'.cell? ⟨w12.heap.size, 0, none⟩ = some (.int .i64 SZ) ∧ w'.cell? ⟨w12.heap.size, 1, none⟩ = some (.slice a9 l9.length c9) ∧ w'.cell? ⟨XA, 0, none⟩ = some (.int .i64 U) ∧ w'.cell? ⟨XA, 1, none⟩ = some (.slice a n c)) (.float 0 (.float 1 (.hard 2 (.last 3 .nil)))) (by kernel_rfl) (by kernel_rfl) (by kernel_rfl) rfl ?_ (fun _ _ _ _ _ h => h) ?_)
        · exact ⟨(hs154.drew).cellAt 1 rfl 0 rfl, (hs154.drew).cellAt 1 rfl 1 rfl, (hs154.drew).cellAt 2 rfl 0 rfl, (hs154.drew).cellAt 2 rfl 1 rfl, (hs154.drew).cellAt 2 rfl 2 rfl, (hs154.drew).cellAt 2 rfl 3 rfl, (hs154.drew).cellAt 2 rfl 4 rfl, (hs154.drew).cellAt 3 rfl 0 rfl, (hs154.drew).cellAt 3 rfl 1 rfl, (hs154.drew).cellAt 4 rfl 0 rfl, (hs154.drew).cellAt 4 rfl 1 rfl⟩
        have hs174 := hs154.drew
        have HAS_175 := Lib.hid (AccS.mono HAS_155.out (belowD _))
        clear HAS_155
        have HSR_176 := Lib.hid (Src.mono HSR_156.out (belowD _))
        clear HSR_156
        have HTF_177 := Lib.hid (Ip.mono HTF_158.out (belowD _))
        clear HTF_158
        clear k0_0 k0_1 k1_0 k1_1 k2_0 k2_1 k2_2 k2_3 k2_4 k3_0 k3_1 k4_0 k4_1
        have hz_wd178 : w152.heap.size ≤ (w152.drew).heap.size := by simp
        generalize hgen_wd178 : w152.drew = wd178 at *
        have HG_wd178 := Lib.hid hgen_wd178
        clear hgen_wd178
        (repeat (first | (apply t4_skip rfl (by rfl); try simp only [Act.put, List.setIfInBounds_toArray, List.set_cons_zero, List.set_cons_succ]) | (apply t4_float rfl (by rfl); (· (intro w' hS; go_simp <;> with_reducible rfl)); (try simp only [Act.put, List.setIfInBounds_toArray, List.set_cons_zero, List.set_cons_succ]))))
        refine t4_hard rfl (by rfl) (fun K hK => ?_)
        have k0_0 := hs174.cellAt 0 rfl 0 rfl
        have k0_1 := hs174.cellAt 0 rfl 1 rfl
        have k1_0 := hs174.cellAt 1 rfl 0 rfl
        have k1_1 := hs174.cellAt 1 rfl 1 rfl
        have k2_0 := hs174.cellAt 2 rfl 0 rfl
        have k2_1 := hs174.cellAt 2 rfl 1 rfl
        have k2_2 := hs174.cellAt 2 rfl 2 rfl
        have k2_3 := hs174.cellAt 2 rfl 3 rfl
        have k2_4 := hs174.cellAt 2 rfl 4 rfl
        have k3_0 := hs174.cellAt 3 rfl 0 rfl
        have k3_1 := hs174.cellAt 3 rfl 1 rfl
        have k4_0 := hs174.cellAt 4 rfl 0 rfl
        have k4_1 := hs174.cellAt 4 rfl 1 rfl
        have f0_0 := hs174.freeAt 0 rfl 0
        have f0_1 := hs174.freeAt 0 rfl 1
        go_wp2_with fail
        have hs179 := hs174.set (p := []) (by simp <;> omega) 0 (.int .i64 SZ)
        have hs180 := hs179.set (p := []) (by simp <;> omega) 1 ((.slice a9 l9.length c9))
        have HAS_181 := Lib.hid (AccS.setCell (b := w.heap.size) (o := 1) (AccS.setCell (b := w.heap.size) (o := 0) HAS_175.out (.int .i64 SZ) (by intro hA9; (try simp only at hA9); omega)) ((.slice a9 l9.length c9)) (by intro hA9; (try simp only at hA9); omega))
        clear HAS_175
        have HSR_182 := Lib.hid (Src.below (B := B) (Src.below (B := B) HSR_176.out ((Below.refl B _).setCell (p := ⟨w.heap.size, 0, none⟩) (by (try simp) <;> omega) (.int .i64 SZ))) ((Below.refl B _).setCell (p := ⟨w.heap.size, 1, none⟩) (by (try simp) <;> omega) ((.slice a9 l9.length c9))))
        clear HSR_176
        have HTF_183 := Lib.hid (Ip.setCell (b := w.heap.size) (o := 1) (Ip.setCell (b := w.heap.size) (o := 0) HTF_177.out (.int .i64 SZ) (by intro hA9; (try simp only at hA9); omega)) ((.slice a9 l9.length c9)) (by intro hA9; (try simp only at hA9); omega))
        clear HTF_177
        clear k0_0 k0_1 k1_0 k1_1 k2_0 k2_1 k2_2 k2_3 k2_4 k3_0 k3_1 k4_0 k4_1
        have hz_wP : wd178.heap.size ≤ (((wd178.setCell ⟨w.heap.size, 0, none⟩ (.int .i64 SZ)).setCell ⟨w.heap.size, 1, none⟩ ((.slice a9 l9.length c9)))).heap.size := by simp [World.setCell]
        generalize hgen_wP : ((wd178.setCell ⟨w.heap.size, 0, none⟩ (.int .i64 SZ)).setCell ⟨w.heap.size, 1, none⟩ ((.slice a9 l9.length c9))) = wP at *
        clear hgen_wP
        have k0_0 := hs180.cellAt 0 rfl 0 rfl
        have k0_1 := hs180.cellAt 0 rfl 1 rfl
        have k1_0 := hs180.cellAt 1 rfl 0 rfl
        have k1_1 := hs180.cellAt 1 rfl 1 rfl
        have k2_0 := hs180.cellAt 2 rfl 0 rfl
        have k2_1 := hs180.cellAt 2 rfl 1 rfl
        have k2_2 := hs180.cellAt 2 rfl 2 rfl
        have k2_3 := hs180.cellAt 2 rfl 3 rfl
        have k2_4 := hs180.cellAt 2 rfl 4 rfl
        have k3_0 := hs180.cellAt 3 rfl 0 rfl
        have k3_1 := hs180.cellAt 3 rfl 1 rfl
        have k4_0 := hs180.cellAt 4 rfl 0 rfl
        have k4_1 := hs180.cellAt 4 rfl 1 rfl
        (first | refine ⟨⟨hs180.cellAt 1 rfl 0 rfl, hs180.cellAt 1 rfl 1 rfl, hs180.cellAt 2 rfl 0 rfl, hs180.cellAt 2 rfl 1 rfl, hs180.cellAt 2 rfl 2 rfl, hs180.cellAt 2 rfl 3 rfl, hs180.cellAt 2 rfl 4 rfl, hs180.cellAt 3 rfl 0 rfl, hs180.cellAt 3 rfl 1 rfl, hs180.cellAt 4 rfl 0 rfl, hs180.cellAt 4 rfl 1 rfl⟩, ?_⟩ | skip)
        (repeat (first | (apply t4_skip rfl (by rfl); try simp only [Act.put, List.setIfInBounds_toArray, List.set_cons_zero, List.set_cons_succ]) | (apply t4_float rfl (by rfl); (· (intro w' hS; go_simp <;> with_reducible rfl)); (try simp only [Act.put, List.setIfInBounds_toArray, List.set_cons_zero, List.set_cons_succ]))))
        refine t4_last rfl (by rfl) (fun K hK => ?_)
        clear k0_0 k0_1 k1_0 k1_1 k2_0 k2_1 k2_2 k2_3 k2_4 k3_0 k3_1 k4_0 k4_1
        have k0_0 := hs180.cellAt 0 rfl 0 rfl
        have k0_1 := hs180.cellAt 0 rfl 1 rfl
        have k1_0 := hs180.cellAt 1 rfl 0 rfl
        have k1_1 := hs180.cellAt 1 rfl 1 rfl
        have k2_0 := hs180.cellAt 2 rfl 0 rfl
        have k2_1 := hs180.cellAt 2 rfl 1 rfl
        have k2_2 := hs180.cellAt 2 rfl 2 rfl
        have k2_3 := hs180.cellAt 2 rfl 3 rfl
        have k2_4 := hs180.cellAt 2 rfl 4 rfl
        have k3_0 := hs180.cellAt 3 rfl 0 rfl
        have k3_1 := hs180.cellAt 3 rfl 1 rfl
        have k4_0 := hs180.cellAt 4 rfl 0 rfl
        have k4_1 := hs180.cellAt 4 rfl 1 rfl
        clear k0_0 k0_1 k1_0 k1_1 k2_0 k2_1 k2_2 k2_3 k2_4 k3_0 k3_1 k4_0 k4_1
        have k0_0 := hs180.cellAt 0 rfl 0 rfl
        have k0_1 := hs180.cellAt 0 rfl 1 rfl
        have k1_0 := hs180.cellAt 1 rfl 0 rfl
        have k1_1 := hs180.cellAt 1 rfl 1 rfl
        have k2_0 := hs180.cellAt 2 rfl 0 rfl
        have k2_1 := hs180.cellAt 2 rfl 1 rfl
        have k2_2 := hs180.cellAt 2 rfl 2 rfl
        have k2_3 := hs180.cellAt 2 rfl 3 rfl
        have k2_4 := hs180.cellAt 2 rfl 4 rfl
        have k3_0 := hs180.cellAt 3 rfl 0 rfl
        have k3_1 := hs180.cellAt 3 rfl 1 rfl
        have k4_0 := hs180.cellAt 4 rfl 0 rfl
        have k4_1 := hs180.cellAt 4 rfl 1 rfl
        have f1_0 := hs180.freeAt 1 rfl 0
        have f1_1 := hs180.freeAt 1 rfl 1
        go_wp2_with fail
        refine t4_nil (NoPanic.normal ?_)
        have hs184 := hs180.set (p := [_]) (by simp <;> omega) 0 (.int .i64 (U : Int))
        have hs185 := hs184.set (p := [_]) (by simp <;> omega) 1 ((.slice a n c))
        have HAS_186 := Lib.hid (AccS.setCell (b := w.heap.size + 1) (o := 1) (AccS.setCell (b := w.heap.size + 1) (o := 0) HAS_181.out (.int .i64 (U : Int)) (by intro hA9; (try simp only at hA9); omega)) ((.slice a n c)) (by intro hA9; (try simp only at hA9); omega))
        clear HAS_181
        have HSR_187 := Lib.hid (Src.below (B := B) (Src.below (B := B) HSR_182.out ((Below.refl B _).setCell (p := ⟨w.heap.size + 1, 0, none⟩) (by (try simp) <;> omega) (.int .i64 (U : Int)))) ((Below.refl B _).setCell (p := ⟨w.heap.size + 1, 1, none⟩) (by (try simp) <;> omega) ((.slice a n c))))
        clear HSR_182
        have HTF_188 := Lib.hid (Ip.setCell (b := w.heap.size + 1) (o := 1) (Ip.setCell (b := w.heap.size + 1) (o := 0) HTF_183.out (.int .i64 (U : Int)) (by intro hA9; (try simp only at hA9); omega)) ((.slice a n c)) (by intro hA9; (try simp only at hA9); omega))
        clear HTF_183
        clear k0_0 k0_1 k1_0 k1_1 k2_0 k2_1 k2_2 k2_3 k2_4 k3_0 k3_1 k4_0 k4_1
        have hz_wQ : wP.heap.size ≤ (((wP.setCell ⟨w.heap.size + 1, 0, none⟩ (.int .i64 (U : Int))).setCell ⟨w.heap.size + 1, 1, none⟩ ((.slice a n c)))).heap.size := by simp [World.setCell]
        generalize hgen_wQ : ((wP.setCell ⟨w.heap.size + 1, 0, none⟩ (.int .i64 (U : Int))).setCell ⟨w.heap.size + 1, 1, none⟩ ((.slice a n c))) = wQ at *
        clear hgen_wQ
        have k0_0 := hs185.cellAt 0 rfl 0 rfl
        have k0_1 := hs185.cellAt 0 rfl 1 rfl
        have k1_0 := hs185.cellAt 1 rfl 0 rfl
        have k1_1 := hs185.cellAt 1 rfl 1 rfl
        have k2_0 := hs185.cellAt 2 rfl 0 rfl
        have k2_1 := hs185.cellAt 2 rfl 1 rfl
        have k2_2 := hs185.cellAt 2 rfl 2 rfl
        have k2_3 := hs185.cellAt 2 rfl 3 rfl
        have k2_4 := hs185.cellAt 2 rfl 4 rfl
        have k3_0 := hs185.cellAt 3 rfl 0 rfl
        have k3_1 := hs185.cellAt 3 rfl 1 rfl
        have k4_0 := hs185.cellAt 4 rfl 0 rfl
        have k4_1 := hs185.cellAt 4 rfl 1 rfl
        go_wp2_with fail
        have x0 := (hs185.cellAt 0 rfl 0 rfl)
        have x1 := (hs185.cellAt 0 rfl 1 rfl)
        have x2 := (hs185.cellAt 1 rfl 0 rfl)
        have x3 := (hs185.cellAt 1 rfl 1 rfl)
        exact bodyPost_ret (v := .tuple #[.agg #[.int .i64 SZ, (.slice a9 l9.length c9)], .agg #[.int .i64 (U : Int), (.slice a n c)]]) (by simp [results, Tryz.results40, go_sem, x0, x1, x2, x3]) rfl ⟨SZ, (U : Int), (.slice a9 l9.length c9), (.slice a n c), rfl, l9, l, Fresh.firm ((HTF_188.out).fresh (lo := w.heap.size) (fun z hz => by have := hz.1; omega)), Firm.ic ⟨by omega, by omega⟩ (AccS.firm HAS_186.out (lo := w.heap.size) (fun z hz => by have := hz.1; omega)), HSR_187.out.more (by omega), HBT_157.out.trans (but_of hs185.bel)⟩
      have h0I : (0 : Int) < n := by omega
      refine ⟨⟨hs154.cellAt 0 rfl 0 rfl, hs154.cellAt 0 rfl 1 rfl, hs154.cellAt 1 rfl 0 rfl, hs154.cellAt 1 rfl 1 rfl, hs154.cellAt 2 rfl 0 rfl, hs154.cellAt 2 rfl 1 rfl, hs154.cellAt 2 rfl 2 rfl, hs154.cellAt 2 rfl 3 rfl, hs154.cellAt 2 rfl 4 rfl, hs154.cellAt 3 rfl 0 rfl, hs154.cellAt 3 rfl 1 rfl, hs154.cellAt 4 rfl 0 rfl, hs154.cellAt 4 rfl 1 rfl⟩, ?_⟩
      (repeat (first | (apply t4_skip rfl (by rfl); try simp only [Act.put, List.setIfInBounds_toArray, List.set_cons_zero, List.set_cons_succ]) | (apply t4_float rfl (by rfl); (· (intro w' hS; go_simp <;> with_reducible rfl)); (try simp only [Act.put, List.setIfInBounds_toArray, List.set_cons_zero, List.set_cons_succ]))))
      have k0_0 := hs154.cellAt 0 rfl 0 rfl
      have k0_1 := hs154.cellAt 0 rfl 1 rfl
      have k1_0 := hs154.cellAt 1 rfl 0 rfl
      have k1_1 := hs154.cellAt 1 rfl 1 rfl
      have k2_0 := hs154.cellAt 2 rfl 0 rfl
      have k2_1 := hs154.cellAt 2 rfl 1 rfl
      have k2_2 := hs154.cellAt 2 rfl 2 rfl
      have k2_3 := hs154.cellAt 2 rfl 3 rfl
      have k2_4 := hs154.cellAt 2 rfl 4 rfl
      have k3_0 := hs154.cellAt 3 rfl 0 rfl
      have k3_1 := hs154.cellAt 3 rfl 1 rfl
      have k4_0 := hs154.cellAt 4 rfl 0 rfl
      have k4_1 := hs154.cellAt 4 rfl 1 rfl
      refine t4_nil (NoPanic.normal ?_)
      obtain ⟨gA, cA, vsA, qA, hvA, hOA, hqA, hcA⟩ := AccS.at HAS_155.out (i := 0) (by rw [HLN.out]; exact h0)
      simp only [Value.slice.injEq] at hvA
      obtain ⟨rfl, -, rfl⟩ := hvA
      obtain ⟨p1, q1, u1, us1, hq1, hv1, hO1, hO2⟩ := id hOA
      obtain ⟨rfl, rfl, hI1⟩ := own_i1v hO1
      obtain ⟨v1, rfl, hO3⟩ := id hO2
      obtain ⟨a1, c1, rfl, _⟩ := rd_list (Own.rd hO2)
      subst hv1
      have Q0 := hcA 0 (by decide)
      have Q1 := hcA 1 (by decide)
      simp at Q0 Q1
      have hI9 := hI1
      obtain ⟨y1, y2, hy0⟩ : ∃ y1 y2, l[0]'(by rw [HLN.out]; exact h0) = ((y1, y2) : OpT) := ⟨_, _, rfl⟩
      rw [hy0] at Q0 Q1 hOA
      simp only [List.cons_append, List.nil_append] at Q0 Q1 hOA
      obtain ⟨LA, hLA⟩ : ∃ LA, LA = y2.length := ⟨_, rfl⟩
      rw [← hLA] at Q1 hOA
      have HQA := Lib.hid hqA
      have HOA := Lib.hid hOA
      have hgA : (w12.heap.size + 1 ≤ gA ∧ gA ≠ XA) ∧ gA < wr.heap.size := by
        obtain ⟨xs, ps, _, h2a, _, _⟩ := HAS_155.out
        exact (h2a gA (by simp [Value.ownBlock])).1
      have hgA1 := hgA.1.1
      have hgA2 := hgA.1.2
      have hgA3 := hgA.2
      clear hy0 hOA hO1 hO2 hO3 hqA hcA hI1 hLA hgA
      go_upto_region 12 with fail
      refine wp_region_noPanic (wp_region_tree4 (fun w' => w'.cell? ⟨w.heap.size, 0, none⟩ = some (.int .i64 0) ∧ w'.cell? ⟨w.heap.size, 1, none⟩ = some (.slice none 0 0) ∧ w'.cell? ⟨w.heap.size + 1, 0, none⟩ = some (.int .i64 0) ∧ w'.cell? ⟨w.heap.size + 1, 1, none⟩ = some (.slice none 0 0) ∧ w'.cell? ⟨w.heap.size + 1 + 1, 0, none⟩ = some (.int .i64 2) ∧ w'.cell? ⟨w.heap.size + 1 + 1, 1, none⟩ = some (.int .i64 2) ∧ w'.cell? ⟨w.heap.size + 1 + 1, 2, none⟩ = some (.int .i64 3) ∧ w'.cell? ⟨w.heap.size + 1 + 1, 3, none⟩ = some (.int .i64 3) ∧ w'.cell? ⟨w.heap.size + 1 + 1, 4, none⟩ = some (.int .i64 4) ∧ w'.cell? ⟨w12.heap.size, 0, none⟩ = some (.int .i64 SZ) ∧ w'.cell? ⟨w12.heap.size, 1, none⟩ = some (.slice a9 l9.length c9) ∧ w'.cell? ⟨XA, 0, none⟩ = some (.int .i64 U) ∧ w'.cell? ⟨XA, 1, none⟩ = some (.slice (some ⟨gA, 0, none⟩) n c)) (.float 0 (.float 1 (.float 2 (.float 3 (.float 4 (.hard 5 (.hard 6 (.hard 7 (.float 8 (.last 9 .nil)))))))))) (by kernel_rfl) (by kernel_rfl) (by kernel_rfl) rfl ?_ (fun _ _ _ _ _ h => h) ?_)
      · exact ⟨(hs154.drew).cellAt 0 rfl 0 rfl, (hs154.drew).cellAt 0 rfl 1 rfl, (hs154.drew).cellAt 1 rfl 0 rfl, (hs154.drew).cellAt 1 rfl 1 rfl, (hs154.drew).cellAt 2 rfl 0 rfl, (hs154.drew).cellAt 2 rfl 1 rfl, (hs154.drew).cellAt 2 rfl 2 rfl, (hs154.drew).cellAt 2 rfl 3 rfl, (hs154.drew).cellAt 2 rfl 4 rfl, (hs154.drew).cellAt 3 rfl 0 rfl, (hs154.drew).cellAt 3 rfl 1 rfl, (hs154.drew).cellAt 4 rfl 0 rfl, (hs154.drew).cellAt 4 rfl 1 rfl⟩
      have hs189 := hs154.drew
      have Q0_190 := cellL (belowD _) Q0
      clear Q0
      have Q1_191 := cellL (belowD _) Q1
      clear Q1
      have HAS_192 := Lib.hid (AccS.mono HAS_155.out (belowD _))
      clear HAS_155
      have HSR_193 := Lib.hid (Src.mono HSR_156.out (belowD _))
      clear HSR_156
      have HTF_194 := Lib.hid (Ip.mono HTF_158.out (belowD _))
      clear HTF_158
      have HOA_195 := Lib.hid (Own.mono HOA.out (belowD _))
      clear HOA
      clear k0_0 k0_1 k1_0 k1_1 k2_0 k2_1 k2_2 k2_3 k2_4 k3_0 k3_1 k4_0 k4_1
      have hz_wd196 : w152.heap.size ≤ (w152.drew).heap.size := by simp
      generalize hgen_wd196 : w152.drew = wd196 at *
      have HG_wd196 := Lib.hid hgen_wd196
      clear hgen_wd196
      (repeat (first | (apply t4_skip rfl (by rfl); try simp only [Act.put, List.setIfInBounds_toArray, List.set_cons_zero, List.set_cons_succ]) | (apply t4_float rfl (by rfl); (· (intro w' hS; go_simp <;> with_reducible rfl)); (try simp only [Act.put, List.setIfInBounds_toArray, List.set_cons_zero, List.set_cons_succ]))))
      refine t4_hard rfl (by rfl) (fun K hK => ?_)
      have k0_0 := hs189.cellAt 0 rfl 0 rfl
      have k0_1 := hs189.cellAt 0 rfl 1 rfl
      have k1_0 := hs189.cellAt 1 rfl 0 rfl
      have k1_1 := hs189.cellAt 1 rfl 1 rfl
      have k2_0 := hs189.cellAt 2 rfl 0 rfl
      have k2_1 := hs189.cellAt 2 rfl 1 rfl
      have k2_2 := hs189.cellAt 2 rfl 2 rfl
      have k2_3 := hs189.cellAt 2 rfl 3 rfl
      have k2_4 := hs189.cellAt 2 rfl 4 rfl
      have k3_0 := hs189.cellAt 3 rfl 0 rfl
      have k3_1 := hs189.cellAt 3 rfl 1 rfl
      have k4_0 := hs189.cellAt 4 rfl 0 rfl
      have k4_1 := hs189.cellAt 4 rfl 1 rfl
      go_wp2_with fail
      refine ⟨⟨hs189.cellAt 0 rfl 0 rfl, hs189.cellAt 0 rfl 1 rfl, hs189.cellAt 1 rfl 0 rfl, hs189.cellAt 1 rfl 1 rfl, hs189.cellAt 2 rfl 0 rfl, hs189.cellAt 2 rfl 1 rfl, hs189.cellAt 2 rfl 2 rfl, hs189.cellAt 2 rfl 3 rfl, hs189.cellAt 2 rfl 4 rfl, hs189.cellAt 3 rfl 0 rfl, hs189.cellAt 3 rfl 1 rfl, hs189.cellAt 4 rfl 0 rfl, hs189.cellAt 4 rfl 1 rfl⟩, ?_⟩
      (repeat (first | (apply t4_skip rfl (by rfl); try simp only [Act.put, List.setIfInBounds_toArray, List.set_cons_zero, List.set_cons_succ]) | (apply t4_float rfl (by rfl); (· (intro w' hS; go_simp <;> with_reducible rfl)); (try simp only [Act.put, List.setIfInBounds_toArray, List.set_cons_zero, List.set_cons_succ]))))
      refine t4_hard rfl (by rfl) (fun K hK => ?_)
      go_wp2_with fail
      have hs197 := hs189.alloc #[.int .i64 y1, .slice a1 LA c1] 60 (n := wd196.heap.size) (by simp)
      have Q0_198 := cellL (belowA _ (.cells #[.int .i64 y1, .slice a1 LA c1] 60)) Q0_190
      clear Q0_190
      have Q1_199 := cellL (belowA _ (.cells #[.int .i64 y1, .slice a1 LA c1] 60)) Q1_191
      clear Q1_191
      have HAS_200 := Lib.hid (AccS.mono HAS_192.out (belowA _ (.cells #[.int .i64 y1, .slice a1 LA c1] 60)))
      clear HAS_192
      have HSR_201 := Lib.hid (Src.mono HSR_193.out (belowA _ (.cells #[.int .i64 y1, .slice a1 LA c1] 60)))
      clear HSR_193
      have HTF_202 := Lib.hid (Ip.mono HTF_194.out (belowA _ (.cells #[.int .i64 y1, .slice a1 LA c1] 60)))
      clear HTF_194
      have HOA_203 := Lib.hid (Own.mono HOA_195.out (belowA _ (.cells #[.int .i64 y1, .slice a1 LA c1] 60)))
      clear HOA_195
      clear k0_0 k0_1 k1_0 k1_1 k2_0 k2_1 k2_2 k2_3 k2_4 k3_0 k3_1 k4_0 k4_1
      have k0_0 := hs197.cellAt 0 rfl 0 rfl
      have k0_1 := hs197.cellAt 0 rfl 1 rfl
      have k1_0 := hs197.cellAt 1 rfl 0 rfl
      have k1_1 := hs197.cellAt 1 rfl 1 rfl
      have k2_0 := hs197.cellAt 2 rfl 0 rfl
      have k2_1 := hs197.cellAt 2 rfl 1 rfl
      have k2_2 := hs197.cellAt 2 rfl 2 rfl
      have k2_3 := hs197.cellAt 2 rfl 3 rfl
      have k2_4 := hs197.cellAt 2 rfl 4 rfl
      have k3_0 := hs197.cellAt 3 rfl 0 rfl
      have k3_1 := hs197.cellAt 3 rfl 1 rfl
      have k4_0 := hs197.cellAt 4 rfl 0 rfl
      have k4_1 := hs197.cellAt 4 rfl 1 rfl
      have k5_0 := hs197.cellAt 5 rfl 0 rfl
      have k5_1 := hs197.cellAt 5 rfl 1 rfl
      refine ⟨⟨hs197.cellAt 0 rfl 0 rfl, hs197.cellAt 0 rfl 1 rfl, hs197.cellAt 1 rfl 0 rfl, hs197.cellAt 1 rfl 1 rfl, hs197.cellAt 2 rfl 0 rfl, hs197.cellAt 2 rfl 1 rfl, hs197.cellAt 2 rfl 2 rfl, hs197.cellAt 2 rfl 3 rfl, hs197.cellAt 2 rfl 4 rfl, hs197.cellAt 3 rfl 0 rfl, hs197.cellAt 3 rfl 1 rfl, hs197.cellAt 4 rfl 0 rfl, hs197.cellAt 4 rfl 1 rfl⟩, ?_⟩
      (repeat (first | (apply t4_skip rfl (by rfl); try simp only [Act.put, List.setIfInBounds_toArray, List.set_cons_zero, List.set_cons_succ]) | (apply t4_float rfl (by rfl); (· (intro w' hS; go_simp <;> with_reducible rfl)); (try simp only [Act.put, List.setIfInBounds_toArray, List.set_cons_zero, List.set_cons_succ]))))
      refine t4_hard rfl (by rfl) (fun K hK => ?_)
      have hq9 : ∀ z, z ∈ qA → ((w12.heap.size + 1 ≤ z ∧ z ≠ XA) ∧ z < wr.heap.size) ∧ z < (wd196.alloc (.cells #[.int .i64 y1, .slice a1 LA c1] 60)).heap.size ∧ z ∉ (Value.slice (some ⟨gA, 0, none⟩) n c).ownBlock.toList := fun z hz => by
        obtain ⟨h1, h2, h3⟩ := HQA.out z hz
        exact ⟨h1, by have := h1.2; (try simp); omega, by simpa [Value.ownBlock] using h3⟩
      refine wp_append_accS _ _ _ _ rfl E_cons rfl HAS_200.out (y := ((y1, y2) : OpT)) HOA_203.out hq9 ⟨wd196.heap.size, 0, none⟩ 1 rfl (news2 (hs197.cellAt 5 rfl 0 rfl) (hs197.cellAt 5 rfl 1 rfl)) (by have := HLN.out; omega) ?_
      simp only [HLN.out]
      intro a8 c8 w8 hA8 hB8
      have hz8 := hB8.size
      have hs8 := hs197.butP hB8 (fun z hz => by have := hz.1.1; omega) (fun x hx hA => by have h1 := hA.1.1; have h2 := hA.1.2; have h3 := hA.2; simp at hx; rcases hx with rfl | rfl | rfl | rfl | rfl | rfl <;> (try simp only at h1 h2 h3) <;> omega)
      have HA2 := Lib.hid (AccS.wk hA8.tight (C := fun z => (w12.heap.size + 1 ≤ z ∧ z ≠ XA) ∧ z < w8.heap.size) (fun z hz => ⟨by
        have h2 := hz.2
        rcases hz.1 with h | h
        · exact h.1
        · rw [h]; (try simp); omega, hz.2⟩))
      clear hA8
      clear HAS_200
      clear HOA_203
      clear k0_0 k0_1 k1_0 k1_1 k2_0 k2_1 k2_2 k2_3 k2_4 k3_0 k3_1 k4_0 k4_1 k5_0 k5_1
      clear Q0_198
      clear Q1_199
      have HSR_204 := Lib.hid (Src.below (B := B) HSR_201.out (hB8.below (fun z hz => by (try simp only at hz); omega) (by (try simp); omega)))
      clear HSR_201
      have HTF_205 := Lib.hid (Ip.butP HTF_202.out hB8 (fun z h1 h2 => by (try simp only at h1 h2); omega))
      clear HTF_202
      have k0_0 := hs8.cellAt 0 rfl 0 rfl
      have k0_1 := hs8.cellAt 0 rfl 1 rfl
      have k1_0 := hs8.cellAt 1 rfl 0 rfl
      have k1_1 := hs8.cellAt 1 rfl 1 rfl
      have k2_0 := hs8.cellAt 2 rfl 0 rfl
      have k2_1 := hs8.cellAt 2 rfl 1 rfl
      have k2_2 := hs8.cellAt 2 rfl 2 rfl
      have k2_3 := hs8.cellAt 2 rfl 3 rfl
      have k2_4 := hs8.cellAt 2 rfl 4 rfl
      have k3_0 := hs8.cellAt 3 rfl 0 rfl
      have k3_1 := hs8.cellAt 3 rfl 1 rfl
      have k4_0 := hs8.cellAt 4 rfl 0 rfl
      have k4_1 := hs8.cellAt 4 rfl 1 rfl
      have k5_0 := hs8.cellAt 5 rfl 0 rfl
      have k5_1 := hs8.cellAt 5 rfl 1 rfl
      refine hK _ _ ⟨⟨hs8.cellAt 0 rfl 0 rfl, hs8.cellAt 0 rfl 1 rfl, hs8.cellAt 1 rfl 0 rfl, hs8.cellAt 1 rfl 1 rfl, hs8.cellAt 2 rfl 0 rfl, hs8.cellAt 2 rfl 1 rfl, hs8.cellAt 2 rfl 2 rfl, hs8.cellAt 2 rfl 3 rfl, hs8.cellAt 2 rfl 4 rfl, hs8.cellAt 3 rfl 0 rfl, hs8.cellAt 3 rfl 1 rfl, hs8.cellAt 4 rfl 0 rfl, hs8.cellAt 4 rfl 1 rfl⟩, ?_⟩
      (repeat (first | (apply t4_skip rfl (by rfl); try simp only [Act.put, List.setIfInBounds_toArray, List.set_cons_zero, List.set_cons_succ]) | (apply t4_float rfl (by rfl); (· (intro w' hS; go_simp <;> with_reducible rfl)); (try simp only [Act.put, List.setIfInBounds_toArray, List.set_cons_zero, List.set_cons_succ]))))
      refine t4_last rfl (by rfl) (fun K hK => ?_)
      clear k0_0 k0_1 k1_0 k1_1 k2_0 k2_1 k2_2 k2_3 k2_4 k3_0 k3_1 k4_0 k4_1 k5_0 k5_1
      have k0_0 := hs8.cellAt 0 rfl 0 rfl
      have k0_1 := hs8.cellAt 0 rfl 1 rfl
      have k1_0 := hs8.cellAt 1 rfl 0 rfl
      have k1_1 := hs8.cellAt 1 rfl 1 rfl
      have k2_0 := hs8.cellAt 2 rfl 0 rfl
      have k2_1 := hs8.cellAt 2 rfl 1 rfl
      have k2_2 := hs8.cellAt 2 rfl 2 rfl
      have k2_3 := hs8.cellAt 2 rfl 3 rfl
      have k2_4 := hs8.cellAt 2 rfl 4 rfl
      have k3_0 := hs8.cellAt 3 rfl 0 rfl
      have k3_1 := hs8.cellAt 3 rfl 1 rfl
      have k4_0 := hs8.cellAt 4 rfl 0 rfl
      have k4_1 := hs8.cellAt 4 rfl 1 rfl
      have k5_0 := hs8.cellAt 5 rfl 0 rfl
      have k5_1 := hs8.cellAt 5 rfl 1 rfl
      have hs206 := hs8.low (B' := XA + 1) (bx' := [(w.heap.size, #[.int .i64 0, .slice none 0 0], 26), (w.heap.size + 1, #[.int .i64 0, .slice none 0 0], 29), (w.heap.size + 1 + 1, #[.int .i64 2, .int .i64 2, .int .i64 3, .int .i64 3, .int .i64 4], 2), (w12.heap.size, #[.int .i64 SZ, .slice a9 l9.length c9], 26), (XA, #[.int .i64 U, .slice (some ⟨gA, 0, none⟩) n c], 29)]) (by omega) (by (try simp) <;> omega) (fun x hx => by simp only [List.mem_cons, List.not_mem_nil, or_false] at hx; rcases hx with rfl | rfl | rfl | rfl | rfl <;> (refine ⟨?_, ?_⟩ <;> (try simp) <;> (try omega)))
      have f4_0 := hs206.freeAt 4 rfl 0
      have f4_1 := hs206.freeAt 4 rfl 1
      go_wp2_with fail
      refine t4_nil (NoPanic.normal ?_)
      have hs207 := hs206.set (p := [_, _, _, _]) (by simp <;> omega) 1 (.slice a8 (n + 1) c8)
      have HSR_208 := Lib.hid (Src.below (B := B) HSR_204.out ((Below.refl B _).setCell (p := ⟨XA, 1, none⟩) (by (try simp) <;> omega) (.slice a8 (n + 1) c8)))
      clear HSR_204
      have HTF_209 := Lib.hid (Ip.setCell (b := XA) (o := 1) HTF_205.out (.slice a8 (n + 1) c8) (by intro hA9; (try simp only at hA9); omega))
      clear HTF_205
      have HA2_210 := Lib.hid (AccS.setCell (b := XA) (o := 1) HA2.out (.slice a8 (n + 1) c8) (by intro hA9; (try simp only at hA9); omega))
      clear HA2
      clear k0_0 k0_1 k1_0 k1_1 k2_0 k2_1 k2_2 k2_3 k2_4 k3_0 k3_1 k4_0 k4_1 k5_0 k5_1
      have hz_wE : w8.heap.size ≤ ((w8.setCell ⟨XA, 1, none⟩ (.slice a8 (n + 1) c8))).heap.size := by simp [World.setCell]
      generalize hgen_wE : (w8.setCell ⟨XA, 1, none⟩ (.slice a8 (n + 1) c8)) = wE at *
      clear hgen_wE
      have k0_0 := hs207.cellAt 0 rfl 0 rfl
      have k0_1 := hs207.cellAt 0 rfl 1 rfl
      have k1_0 := hs207.cellAt 1 rfl 0 rfl
      have k1_1 := hs207.cellAt 1 rfl 1 rfl
      have k2_0 := hs207.cellAt 2 rfl 0 rfl
      have k2_1 := hs207.cellAt 2 rfl 1 rfl
      have k2_2 := hs207.cellAt 2 rfl 2 rfl
      have k2_3 := hs207.cellAt 2 rfl 3 rfl
      have k2_4 := hs207.cellAt 2 rfl 4 rfl
      have k3_0 := hs207.cellAt 3 rfl 0 rfl
      have k3_1 := hs207.cellAt 3 rfl 1 rfl
      have k4_0 := hs207.cellAt 4 rfl 0 rfl
      have k4_1 := hs207.cellAt 4 rfl 1 rfl
      have HM9 := Lib.hid (lenOf_at (hs207.cellAt 4 rfl 1 rfl))
      have hlnw := HLN.out
      go_wp2_with fail
      go_roundw
      case measure => have h1 := HM0.out; have h2 := HM9.out; (try simp only at h1 h2 ⊢); omega
      exact ⟨n + 1, wz153, a8, c8, l ++ [((y1, y2) : OpT)], ⟨by simp [hlnw], by omega⟩, ⟨by omega, HBT_157.out⟩, hs207, HA2_210.out.wk (fun z hz => ⟨hz.1, by omega⟩), HSR_208.out.more (by omega), HTF_209.out⟩
  have n3 := eqb_no e3
  go_upto_region 13 with fail
  refine wp_region_noPanic (wp_region_tree4 (fun w' => w'.cell? ⟨w.heap.size + 1, 0, none⟩ = some (.int .i64 0) ∧ w'.cell? ⟨w.heap.size + 1, 1, none⟩ = some (.slice none 0 0) ∧ w'.cell? ⟨w.heap.size + 1 + 1, 0, none⟩ = some (.int .i64 2) ∧ w'.cell? ⟨w.heap.size + 1 + 1, 1, none⟩ = some (.int .i64 2) ∧ w'.cell? ⟨w.heap.size + 1 + 1, 2, none⟩ = some (.int .i64 3) ∧ w'.cell? ⟨w.heap.size + 1 + 1, 3, none⟩ = some (.int .i64 3) ∧ w'.cell? ⟨w.heap.size + 1 + 1, 4, none⟩ = some (.int .i64 4) ∧ w'.cell? ⟨w12.heap.size, 0, none⟩ = some (.int .i64 SZ) ∧ w'.cell? ⟨w12.heap.size, 1, none⟩ = some (.slice a9 l9.length c9) ∧ w'.cell? ⟨w20.heap.size, 0, none⟩ = some (.int .i64 U) ∧ w'.cell? ⟨w20.heap.size, 1, none⟩ = some (.slice a2 l2.length c2)) (.float 0 (.float 1 (.hard 2 (.last 3 .nil)))) (by kernel_rfl) (by kernel_rfl) (by kernel_rfl) rfl ?_ (fun _ _ _ _ _ h => h) ?_)
  · exact ⟨(hs32.drew).cellAt 1 rfl 0 rfl, (hs32.drew).cellAt 1 rfl 1 rfl, (hs32.drew).cellAt 2 rfl 0 rfl, (hs32.drew).cellAt 2 rfl 1 rfl, (hs32.drew).cellAt 2 rfl 2 rfl, (hs32.drew).cellAt 2 rfl 3 rfl, (hs32.drew).cellAt 2 rfl 4 rfl, (hs32.drew).cellAt 3 rfl 0 rfl, (hs32.drew).cellAt 3 rfl 1 rfl, (hs32.drew).cellAt 4 rfl 0 rfl, (hs32.drew).cellAt 4 rfl 1 rfl⟩
  have hs211 := hs32.drew
  have HSR_212 := Lib.hid (Src.mono HSR_33.out (belowD _))
  clear HSR_33
  have HTF_213 := Lib.hid (Ip.mono HTF_35.out (belowD _))
  clear HTF_35
  have HAC_214 := Lib.hid (AccP.mono HAC_36.out (belowD _))
  clear HAC_36
  clear k0_0 k0_1 k1_0 k1_1 k2_0 k2_1 k2_2 k2_3 k2_4 k3_0 k3_1 k4_0 k4_1
  have hz_wd215 : w30.heap.size ≤ (w30.drew).heap.size := by simp
  generalize hgen_wd215 : w30.drew = wd215 at *
  have HG_wd215 := Lib.hid hgen_wd215
  clear hgen_wd215
  (repeat (first | (apply t4_skip rfl (by rfl); try simp only [Act.put, List.setIfInBounds_toArray, List.set_cons_zero, List.set_cons_succ]) | (apply t4_float rfl (by rfl); (· (intro w' hS; go_simp <;> with_reducible rfl)); (try simp only [Act.put, List.setIfInBounds_toArray, List.set_cons_zero, List.set_cons_succ]))))
  refine t4_hard rfl (by rfl) (fun K hK => ?_)
  have k0_0 := hs211.cellAt 0 rfl 0 rfl
  have k0_1 := hs211.cellAt 0 rfl 1 rfl
  have k1_0 := hs211.cellAt 1 rfl 0 rfl
  have k1_1 := hs211.cellAt 1 rfl 1 rfl
  have k2_0 := hs211.cellAt 2 rfl 0 rfl
  have k2_1 := hs211.cellAt 2 rfl 1 rfl
  have k2_2 := hs211.cellAt 2 rfl 2 rfl
  have k2_3 := hs211.cellAt 2 rfl 3 rfl
  have k2_4 := hs211.cellAt 2 rfl 4 rfl
  have k3_0 := hs211.cellAt 3 rfl 0 rfl
  have k3_1 := hs211.cellAt 3 rfl 1 rfl
  have k4_0 := hs211.cellAt 4 rfl 0 rfl
  have k4_1 := hs211.cellAt 4 rfl 1 rfl
  have f0_0 := hs211.freeAt 0 rfl 0
  have f0_1 := hs211.freeAt 0 rfl 1
  go_wp2_with fail
  have hs216 := hs211.set (p := []) (by simp <;> omega) 0 (.int .i64 SZ)
  have hs217 := hs216.set (p := []) (by simp <;> omega) 1 ((.slice a9 l9.length c9))
  have HSR_218 := Lib.hid (Src.below (B := B) (Src.below (B := B) HSR_212.out ((Below.refl B _).setCell (p := ⟨w.heap.size, 0, none⟩) (by (try simp) <;> omega) (.int .i64 SZ))) ((Below.refl B _).setCell (p := ⟨w.heap.size, 1, none⟩) (by (try simp) <;> omega) ((.slice a9 l9.length c9))))
  clear HSR_212
  have HTF_219 := Lib.hid (Ip.setCell (b := w.heap.size) (o := 1) (Ip.setCell (b := w.heap.size) (o := 0) HTF_213.out (.int .i64 SZ) (by intro hA9; (try simp only at hA9); omega)) ((.slice a9 l9.length c9)) (by intro hA9; (try simp only at hA9); omega))
  clear HTF_213
  have HAC_220 := Lib.hid (AccP.setCell (b := w.heap.size) (o := 1) (AccP.setCell (b := w.heap.size) (o := 0) HAC_214.out (.int .i64 SZ) (by intro hA9; (try simp only at hA9); omega)) ((.slice a9 l9.length c9)) (by intro hA9; (try simp only at hA9); omega))
  clear HAC_214
  clear k0_0 k0_1 k1_0 k1_1 k2_0 k2_1 k2_2 k2_3 k2_4 k3_0 k3_1 k4_0 k4_1
  have hz_wP : wd215.heap.size ≤ (((wd215.setCell ⟨w.heap.size, 0, none⟩ (.int .i64 SZ)).setCell ⟨w.heap.size, 1, none⟩ ((.slice a9 l9.length c9)))).heap.size := by simp [World.setCell]
  generalize hgen_wP : ((wd215.setCell ⟨w.heap.size, 0, none⟩ (.int .i64 SZ)).setCell ⟨w.heap.size, 1, none⟩ ((.slice a9 l9.length c9))) = wP at *
  clear hgen_wP
  have k0_0 := hs217.cellAt 0 rfl 0 rfl
  have k0_1 := hs217.cellAt 0 rfl 1 rfl
  have k1_0 := hs217.cellAt 1 rfl 0 rfl
  have k1_1 := hs217.cellAt 1 rfl 1 rfl
  have k2_0 := hs217.cellAt 2 rfl 0 rfl
  have k2_1 := hs217.cellAt 2 rfl 1 rfl
  have k2_2 := hs217.cellAt 2 rfl 2 rfl
  have k2_3 := hs217.cellAt 2 rfl 3 rfl
  have k2_4 := hs217.cellAt 2 rfl 4 rfl
  have k3_0 := hs217.cellAt 3 rfl 0 rfl
  have k3_1 := hs217.cellAt 3 rfl 1 rfl
  have k4_0 := hs217.cellAt 4 rfl 0 rfl
  have k4_1 := hs217.cellAt 4 rfl 1 rfl
  refine ⟨⟨hs217.cellAt 1 rfl 0 rfl, hs217.cellAt 1 rfl 1 rfl, hs217.cellAt 2 rfl 0 rfl, hs217.cellAt 2 rfl 1 rfl, hs217.cellAt 2 rfl 2 rfl, hs217.cellAt 2 rfl 3 rfl, hs217.cellAt 2 rfl 4 rfl, hs217.cellAt 3 rfl 0 rfl, hs217.cellAt 3 rfl 1 rfl, hs217.cellAt 4 rfl 0 rfl, hs217.cellAt 4 rfl 1 rfl⟩, ?_⟩
  (repeat (first | (apply t4_skip rfl (by rfl); try simp only [Act.put, List.setIfInBounds_toArray, List.set_cons_zero, List.set_cons_succ]) | (apply t4_float rfl (by rfl); (· (intro w' hS; go_simp <;> with_reducible rfl)); (try simp only [Act.put, List.setIfInBounds_toArray, List.set_cons_zero, List.set_cons_succ]))))
  refine t4_last rfl (by rfl) (fun K hK => ?_)
  clear k0_0 k0_1 k1_0 k1_1 k2_0 k2_1 k2_2 k2_3 k2_4 k3_0 k3_1 k4_0 k4_1
  have k0_0 := hs217.cellAt 0 rfl 0 rfl
  have k0_1 := hs217.cellAt 0 rfl 1 rfl
  have k1_0 := hs217.cellAt 1 rfl 0 rfl
  have k1_1 := hs217.cellAt 1 rfl 1 rfl
  have k2_0 := hs217.cellAt 2 rfl 0 rfl
  have k2_1 := hs217.cellAt 2 rfl 1 rfl
  have k2_2 := hs217.cellAt 2 rfl 2 rfl
  have k2_3 := hs217.cellAt 2 rfl 3 rfl
  have k2_4 := hs217.cellAt 2 rfl 4 rfl
  have k3_0 := hs217.cellAt 3 rfl 0 rfl
  have k3_1 := hs217.cellAt 3 rfl 1 rfl
  have k4_0 := hs217.cellAt 4 rfl 0 rfl
  have k4_1 := hs217.cellAt 4 rfl 1 rfl
  clear k0_0 k0_1 k1_0 k1_1 k2_0 k2_1 k2_2 k2_3 k2_4 k3_0 k3_1 k4_0 k4_1
  have k0_0 := hs217.cellAt 0 rfl 0 rfl
  have k0_1 := hs217.cellAt 0 rfl 1 rfl
  have k1_0 := hs217.cellAt 1 rfl 0 rfl
  have k1_1 := hs217.cellAt 1 rfl 1 rfl
  have k2_0 := hs217.cellAt 2 rfl 0 rfl
  have k2_1 := hs217.cellAt 2 rfl 1 rfl
  have k2_2 := hs217.cellAt 2 rfl 2 rfl
  have k2_3 := hs217.cellAt 2 rfl 3 rfl
  have k2_4 := hs217.cellAt 2 rfl 4 rfl
  have k3_0 := hs217.cellAt 3 rfl 0 rfl
  have k3_1 := hs217.cellAt 3 rfl 1 rfl
  have k4_0 := hs217.cellAt 4 rfl 0 rfl
  have k4_1 := hs217.cellAt 4 rfl 1 rfl
  have f1_0 := hs217.freeAt 1 rfl 0
  have f1_1 := hs217.freeAt 1 rfl 1
  go_wp2_with fail
  refine t4_nil (NoPanic.normal ?_)
  have hs221 := hs217.set (p := [_]) (by simp <;> omega) 0 (.int .i64 (U : Int))
  have hs222 := hs221.set (p := [_]) (by simp <;> omega) 1 ((.slice a2 l2.length c2))
  have HSR_223 := Lib.hid (Src.below (B := B) (Src.below (B := B) HSR_218.out ((Below.refl B _).setCell (p := ⟨w.heap.size + 1, 0, none⟩) (by (try simp) <;> omega) (.int .i64 (U : Int)))) ((Below.refl B _).setCell (p := ⟨w.heap.size + 1, 1, none⟩) (by (try simp) <;> omega) ((.slice a2 l2.length c2))))
  clear HSR_218
  have HTF_224 := Lib.hid (Ip.setCell (b := w.heap.size + 1) (o := 1) (Ip.setCell (b := w.heap.size + 1) (o := 0) HTF_219.out (.int .i64 (U : Int)) (by intro hA9; (try simp only at hA9); omega)) ((.slice a2 l2.length c2)) (by intro hA9; (try simp only at hA9); omega))
  clear HTF_219
  have HAC_225 := Lib.hid (AccP.setCell (b := w.heap.size + 1) (o := 1) (AccP.setCell (b := w.heap.size + 1) (o := 0) HAC_220.out (.int .i64 (U : Int)) (by intro hA9; (try simp only at hA9); omega)) ((.slice a2 l2.length c2)) (by intro hA9; (try simp only at hA9); omega))
  clear HAC_220
  clear k0_0 k0_1 k1_0 k1_1 k2_0 k2_1 k2_2 k2_3 k2_4 k3_0 k3_1 k4_0 k4_1
  have hz_wQ : wP.heap.size ≤ (((wP.setCell ⟨w.heap.size + 1, 0, none⟩ (.int .i64 (U : Int))).setCell ⟨w.heap.size + 1, 1, none⟩ ((.slice a2 l2.length c2)))).heap.size := by simp [World.setCell]
  generalize hgen_wQ : ((wP.setCell ⟨w.heap.size + 1, 0, none⟩ (.int .i64 (U : Int))).setCell ⟨w.heap.size + 1, 1, none⟩ ((.slice a2 l2.length c2))) = wQ at *
  clear hgen_wQ
  have k0_0 := hs222.cellAt 0 rfl 0 rfl
  have k0_1 := hs222.cellAt 0 rfl 1 rfl
  have k1_0 := hs222.cellAt 1 rfl 0 rfl
  have k1_1 := hs222.cellAt 1 rfl 1 rfl
  have k2_0 := hs222.cellAt 2 rfl 0 rfl
  have k2_1 := hs222.cellAt 2 rfl 1 rfl
  have k2_2 := hs222.cellAt 2 rfl 2 rfl
  have k2_3 := hs222.cellAt 2 rfl 3 rfl
  have k2_4 := hs222.cellAt 2 rfl 4 rfl
  have k3_0 := hs222.cellAt 3 rfl 0 rfl
  have k3_1 := hs222.cellAt 3 rfl 1 rfl
  have k4_0 := hs222.cellAt 4 rfl 0 rfl
  have k4_1 := hs222.cellAt 4 rfl 1 rfl
  go_wp2_with fail
  have x0 := (hs222.cellAt 0 rfl 0 rfl)
  have x1 := (hs222.cellAt 0 rfl 1 rfl)
  have x2 := (hs222.cellAt 1 rfl 0 rfl)
  have x3 := (hs222.cellAt 1 rfl 1 rfl)
  exact bodyPost_ret (v := .tuple #[.agg #[.int .i64 SZ, (.slice a9 l9.length c9)], .agg #[.int .i64 (U : Int), (.slice a2 l2.length c2)]]) (by simp [results, Tryz.results40, go_sem, x0, x1, x2, x3]) rfl ⟨SZ, (U : Int), (.slice a9 l9.length c9), (.slice a2 l2.length c2), rfl, l9, l2, Fresh.firm ((HTF_224.out).fresh (lo := w.heap.size) (fun z hz => by have := hz.1; omega)), Firm.ic ⟨by omega, by omega⟩ (Fresh.firm (HAC_225.out.ip.fresh (lo := w.heap.size) (fun z hz => by have := hz.1; omega))), HSR_223.out.more (by omega), HBT_34.out.trans (but_of hs222.bel)⟩

end Go.Proofs.YtamkfnkikiekaaaGreat

