/-
  CONTRACTS: operations of three places, the program's side. (Printed by wip/gentern.py.)
-/
import Derived.Test.YtllenfkbfeanmaaGreatTernPSa
import Derived.Test.YtllenfkbfeanmaaGreatKindSa
import Derived.Test.YtllenfkbfeanmaaGreatSoftSa
namespace Go.Proofs.YtllenfkbfeanmaaGreat
open Go.RowKit Go.Shelf Go.IntWalk
open Rep (Rd Own sz)
set_option linter.unusedSimpArgs false
set_option linter.unusedVariables false

theorem rd_three {w : World} {a b c x y : Int} (hx : I64 x) (hy : I64 y) (h : (a = x ∨ a = y) ∧ (b = x ∨ b = y) ∧ (c = x ∨ c = y)) {e : TypeId} : Rd (w.alloc (.cells #[.int .i64 a, .int .i64 b, .int .i64 c] e)) [.slice (some ⟨w.heap.size, 0, none⟩) 3 3] [a, b, c] :=
  ⟨some ⟨w.heap.size, 0, none⟩, 3, rfl, Nat.le_refl _, by unfold maxLen; omega, fun i hi => by
    have hI : ∀ z : Int, z = x ∨ z = y → I64 z := fun z hz => by rcases hz with rfl | rfl <;> assumption
    refine ⟨w.heap.size, 0, [.int .i64 [a, b, c][i]], rfl, ⟨rfl, ?_⟩, fun k hk => ?_⟩
    · have : i = 0 ∨ i = 1 ∨ i = 2 := by simp at hi; omega
      rcases this with rfl | rfl | rfl
      · exact hI _ h.1
      · exact hI _ h.2.1
      · exact hI _ h.2.2
    · obtain rfl : k = 0 := by simpa using hk
      rw [cell_at_block (heap_alloc_new _ _)]
      have : i = 0 ∨ i = 1 ∨ i = 2 := by simp at hi; omega
      rcases this with rfl | rfl | rfl <;> rfl⟩
theorem lit_arr (tm : Array Value) {n : Nat} (h : tm.size = n) : tm = ((List.range n).map (fun i => tm.getD i undef)).toArray := by
  apply Array.ext
  · simp [h]
  · intro i h1 h2
    simp [h1]
theorem lit57 (tm : Array Value) (h : tm.size = 57) : ∃ u0 u1 u2 u3 u4 u5 u6 u7 u8 u9 u10 u11 u12 u13 u14 u15 u16 u17 u18 u19 u20 u21 u22 u23 u24 u25 u26 u27 u28 u29 u30 u31 u32 u33 u34 u35 u36 u37 u38 u39 u40 u41 u42 u43 u44 u45 u46 u47 u48 u49 u50 u51 u52 u53 u54 u55 u56, tm = #[u0, u1, u2, u3, u4, u5, u6, u7, u8, u9, u10, u11, u12, u13, u14, u15, u16, u17, u18, u19, u20, u21, u22, u23, u24, u25, u26, u27, u28, u29, u30, u31, u32, u33, u34, u35, u36, u37, u38, u39, u40, u41, u42, u43, u44, u45, u46, u47, u48, u49, u50, u51, u52, u53, u54, u55, u56] := ⟨_, _, _, _, _, _, _, _, _, _, _, _, _, _, _, _, _, _, _, _, _, _, _, _, _, _, _, _, _, _, _, _, _, _, _, _, _, _, _, _, _, _, _, _, _, _, _, _, _, _, _, _, _, _, _, _, _, lit_arr tm h⟩
/-- What the temporaries of isTernary$1 hold, once they hold something. -/
def TG (F : Value) (size x y v1 v2 v3 : Int) (B : Nat) : Nat → Value → World → Prop
  | 0, v, _ => v = F
  | 1, v, _ => v = .int .i64 size
  | 2, v, _ => v = .int .i64 x
  | 3, v, _ => v = .int .i64 x
  | 4, v, _ => v = .int .i64 y
  | 5, v, w => Rd w [v] [x, x, y]
  | 6, v, _ => v = .int .i64 v1
  | 7, v, _ => v = F
  | 8, v, _ => v = .int .i64 size
  | 9, v, _ => v = .int .i64 x
  | 10, v, _ => v = .int .i64 y
  | 11, v, _ => v = .int .i64 x
  | 12, v, w => Rd w [v] [x, y, x]
  | 13, v, _ => v = .int .i64 v2
  | 14, v, _ => v = F
  | 15, v, _ => v = .int .i64 size
  | 16, v, _ => v = .int .i64 y
  | 17, v, _ => v = .int .i64 x
  | 18, v, _ => v = .int .i64 x
  | 19, v, w => Rd w [v] [y, x, x]
  | 20, v, _ => v = .int .i64 v3
  | 21, v, _ => v = .agg #[.int .i64 v1, .int .i64 v2, .int .i64 v3]
  | 22, v, w => ∃ b, v = .pointer (some ⟨b, 0, none⟩) ∧ B ≤ b ∧ b < w.heap.size ∧ ∃ t, w.heap[b]? = some (.cells #[.int .i64 0, .int .i64 0, .int .i64 0] t (0, 0))
  | _, _, _ => True
theorem TG.mono {F : Value} {size x y v1 v2 v3 : Int} {B j : Nat} {v : Value} {w w' : World} (h : TG F size x y v1 v2 v3 B j v w) (hb : Below w.heap.size w w') : TG F size x y v1 v2 v3 B j v w' := by
  unfold TG at h ⊢
  split at h <;> first | exact h | exact Rd.mono h hb | skip
  obtain ⟨b, h1, h2, h3, t, h4⟩ := h
  exact ⟨b, h1, h2, Nat.lt_of_lt_of_le h3 hb.size, t, by rw [hb.block b h3]; exact h4⟩
/-- A function that tells what is wanted. -/
def WantC (g : Nat) (W : Int → Int → Int × Int × Int) : Prop := ∀ (w : World) (x y : Int), I64 x → I64 y → Calls Tryz.prog g #[.int .i64 x, .int .i64 y] w fun e w' => e = .returned (.agg #[.int .i64 (W x y).1, .int .i64 (W x y).2.1, .int .i64 (W x y).2.2]) ∧ Below w.heap.size w w'
theorem ix3 {n0 n1 n2 r : Value} {w : World} (k : Int) (h0 : 0 ≤ k) (h1 : k < 3) (h : (#[n0, n1, n2])[k.toNat]? = some r) : (Instr.index 190 (.agg #[n0, n1, n2]) (.int .i64 k)).run Tryz.prog w = .ok r w := by
  have hu : Tryz.prog.underlying 190 = some (.array 3 2) := by kernel_rfl
  have hs : ∀ hx, (Tryz.prog.types[2]'hx).size = 1 := fun hx => by kernel_rfl
  have hk : k = 0 ∨ k = 1 ∨ k = 2 := by omega
  rcases hk with rfl | rfl | rfl
  · simpa [Instr.index, run_underlying hu, asIntOf, go_sem, hs] using h
  · simpa [Instr.index, run_underlying hu, asIntOf, go_sem, hs] using h
  · simpa [Instr.index, run_underlying hu, asIntOf, go_sem, hs] using h
set_option maxRecDepth 100000 in
set_option maxHeartbeats 16000000 in
theorem isTernary1_by (size : Int) (f : OpT) (fb sb nb g : Nat) (WT : Int → Int → Int × Int × Int) (v0 v1 : Value) (w : World) (hf : Rd w [v0, v1] f) (hok : opOk size f = true) (h3 : f.1 = 3) (h0 : w.cell? ⟨fb, 0, none⟩ = some v0) (h1 : w.cell? ⟨fb, 1, none⟩ = some v1) (hsb : w.cell? ⟨sb, 0, none⟩ = some (.int .i64 size))
    (hnb : w.cell? ⟨nb, 0, none⟩ = some (.func (.func g) #[] #[])) (eg : ∀ args w, (callFunc g args).run Tryz.prog w = .ok (.enter g args) w) (hw : WantC g WT) (hI : ∀ x y, 0 ≤ x → x < size → 0 ≤ y → y < size → I64 (WT x y).1 ∧ I64 (WT x y).2.1 ∧ I64 (WT x y).2.2) :
    RelC 194 #[.pointer (some ⟨fb, 0, none⟩), .pointer (some ⟨sb, 0, none⟩), .pointer (some ⟨nb, 0, none⟩)] w size 2 (fun l => ternQ size f (WT (l.getD 0 0) (l.getD 1 0)) (l.getD 0 0) (l.getD 1 0)) := by
  intro W y0 v hb hy hl hmem
  have g0 := cellL hb h0
  have g1 := cellL hb h1
  have gs := cellL hb hsb
  have gn := cellL hb hnb
  have HF := Lib.hid (Rd.mono hf hb)
  have hs := (opOk_get hok).1
  have HOK := Lib.hid hok
  obtain ⟨x, y, rfl⟩ : ∃ x y, y0 = [x, y] := by
    match y0, hl with
    | [x, y], _ => exact ⟨x, y, rfl⟩
  have hx := hmem x (by simp)
  have hy1 := hmem y (by simp)
  have HY := Lib.hid hy
  have HWI := Lib.hid (hI x y hx.1 hx.2 hy1.1 hy1.2)
  have HW := Lib.hid hw
  clear h0 h1 hsb hnb hf hb hmem hl hI hw
  show Calls Tryz.prog 194 #[_, .pointer (some ⟨fb, 0, none⟩), .pointer (some ⟨sb, 0, none⟩), .pointer (some ⟨nb, 0, none⟩)] W _
  obtain ⟨ar, tb⟩ := f
  simp only at h3 ⊢
  have zf := rd_cons rfl HF.out
  obtain ⟨rfl, _⟩ := rd_i1 zf.1
  obtain ⟨at0, ct0, rfl, _⟩ := rd_list zf.2
  obtain ⟨ay, cy, rfl, _⟩ := rd_list HY.out
  obtain ⟨b1, o1, rfl, q0, hIx⟩ := rd_int_at HY.out 0 (by simp)
  obtain ⟨b1', o1', e1, q1, hIy⟩ := rd_int_at HY.out 1 (by simp)
  simp only [Option.some.injEq, Addr.mk.injEq, and_true] at e1
  obtain ⟨rfl, rfl⟩ := e1
  rw [Nat.add_zero] at q0
  simp only [List.getElem_cons_zero, List.getElem_cons_succ] at q0 q1 hIx hIy
  clear hy zf
  have HL3 := Lib.hid (show ((3 : Nat) : Int) = ar from h3.symm)
  have HV1 := Lib.hid (show ∀ a, a ∈ [x, x, y] → 0 ≤ a ∧ a ≤ size - 1 from fun a ha => by simp only [List.mem_cons, List.not_mem_nil, or_false] at ha; rcases ha with rfl | rfl | rfl <;> omega)
  have HV2 := Lib.hid (show ∀ a, a ∈ [x, y, x] → 0 ≤ a ∧ a ≤ size - 1 from fun a ha => by simp only [List.mem_cons, List.not_mem_nil, or_false] at ha; rcases ha with rfl | rfl | rfl <;> omega)
  have HV3 := Lib.hid (show ∀ a, a ∈ [y, x, x] → 0 ≤ a ∧ a ≤ size - 1 from fun a ha => by simp only [List.mem_cons, List.not_mem_nil, or_false] at ha; rcases ha with rfl | rfl | rfl <;> omega)
  obtain ⟨v1, hv1⟩ : ∃ v1, v1 = valOf size (ar, tb) [x, x, y] := ⟨_, rfl⟩
  obtain ⟨v2, hv2⟩ : ∃ v2, v2 = valOf size (ar, tb) [x, y, x] := ⟨_, rfl⟩
  obtain ⟨v3, hv3⟩ : ∃ v3, v3 = valOf size (ar, tb) [y, x, x] := ⟨_, rfl⟩
  have HTQ := Lib.hid (show ternQ size (ar, tb) (WT x y) x y = (((decide ((WT x y).1 < 0) || decide (v1 = (WT x y).1)) && (decide ((WT x y).2.1 < 0) || decide (v2 = (WT x y).2.1))) && (decide ((WT x y).2.2 < 0) || decide (v3 = (WT x y).2.2))) by rw [hv1, hv2, hv3]; rfl)
  have HVV := Lib.hid (⟨hv1, hv2, hv3⟩ : v1 = valOf size (ar, tb) [x, x, y] ∧ v2 = valOf size (ar, tb) [x, y, x] ∧ v3 = valOf size (ar, tb) [y, x, x])
  have HC1 := Lib.hid (fun (W : World) (a : Value) (h : Rd W [.int .i64 ar, .slice at0 tb.length ct0] ((ar, tb) : OpT)) (h2 : Rd W [a] [x, x, y]) => show Calls Tryz.prog 95 #[.agg #[.int .i64 ar, .slice at0 tb.length ct0], .int .i64 size, a] W fun e w' => e = .returned (.int .i64 v1) ∧ Below W.heap.size W w' from by
    rw [hv1]; exact at_c size (ar, tb) [x, x, y] _ _ a W h h2 HOK.out HL3.out HV1.out)
  have HC2 := Lib.hid (fun (W : World) (a : Value) (h : Rd W [.int .i64 ar, .slice at0 tb.length ct0] ((ar, tb) : OpT)) (h2 : Rd W [a] [x, y, x]) => show Calls Tryz.prog 95 #[.agg #[.int .i64 ar, .slice at0 tb.length ct0], .int .i64 size, a] W fun e w' => e = .returned (.int .i64 v2) ∧ Below W.heap.size W w' from by
    rw [hv2]; exact at_c size (ar, tb) [x, y, x] _ _ a W h h2 HOK.out HL3.out HV2.out)
  have HC3 := Lib.hid (fun (W : World) (a : Value) (h : Rd W [.int .i64 ar, .slice at0 tb.length ct0] ((ar, tb) : OpT)) (h2 : Rd W [a] [y, x, x]) => show Calls Tryz.prog 95 #[.agg #[.int .i64 ar, .slice at0 tb.length ct0], .int .i64 size, a] W fun e w' => e = .returned (.int .i64 v3) ∧ Below W.heap.size W w' from by
    rw [hv3]; exact at_c size (ar, tb) [y, x, x] _ _ a W h h2 HOK.out HL3.out HV3.out)
  clear hv1 hv2 hv3 h3
  show Calls _ _ _ _ (fun e w' => e = .returned (.bool (ternQ size (ar, tb) (WT x y) x y)) ∧ _)
  have g0_ := cellL (St.start W).bel g0
  clear g0_
  have g0_ := cellL (St.start W).bel g0
  have g1_ := cellL (St.start W).bel g1
  clear g0_ g1_
  have g0_ := cellL (St.start W).bel g0
  have g1_ := cellL (St.start W).bel g1
  have gs_ := cellL (St.start W).bel gs
  clear g0_ g1_ gs_
  have g0_ := cellL (St.start W).bel g0
  have g1_ := cellL (St.start W).bel g1
  have gs_ := cellL (St.start W).bel gs
  have gn_ := cellL (St.start W).bel gn
  clear g0_ g1_ gs_ gn_
  have g0_ := cellL (St.start W).bel g0
  have g1_ := cellL (St.start W).bel g1
  have gs_ := cellL (St.start W).bel gs
  have gn_ := cellL (St.start W).bel gn
  have q0_ := cellL (St.start W).bel q0
  clear g0_ g1_ gs_ gn_ q0_
  have g0_ := cellL (St.start W).bel g0
  have g1_ := cellL (St.start W).bel g1
  have gs_ := cellL (St.start W).bel gs
  have gn_ := cellL (St.start W).bel gn
  have q0_ := cellL (St.start W).bel q0
  have q1_ := cellL (St.start W).bel q1
  go_enter Tryz.func194, Tryz.ntmps194
  go_upto_region 1 with fail
  refine wp_region_noPanic (wp_region_tree4 (fun w' => w'.cell? ⟨fb, 0, none⟩ = some (.int .i64 ar) ∧ w'.cell? ⟨fb, 1, none⟩ = some (.slice at0 tb.length ct0) ∧ w'.cell? ⟨sb, 0, none⟩ = some (.int .i64 size) ∧ w'.cell? ⟨nb, 0, none⟩ = some (.func (.func g) #[] #[]) ∧ w'.cell? ⟨b1, o1, none⟩ = some (.int .i64 x) ∧ w'.cell? ⟨b1, o1 + 1, none⟩ = some (.int .i64 y)) (.float 0 (.float 1 (.float 2 (.float 3 (.float 4 (.float 5 (.float 6 (.float 7 .nil)))))))) (by kernel_rfl) (by kernel_rfl) (by kernel_rfl) rfl ?_ (fun _ _ _ _ _ h => h) ?_)
  · exact ⟨cellL ((St.start W).drew).bel g0, cellL ((St.start W).drew).bel g1, cellL ((St.start W).drew).bel gs, cellL ((St.start W).drew).bel gn, cellL ((St.start W).drew).bel q0, cellL ((St.start W).drew).bel q1⟩
  have hs1 := (St.start W).drew
  clear g0_ g1_ gs_ gn_ q0_ q1_
  have hz_wd2 : W.heap.size ≤ (W.drew).heap.size := by simp
  generalize hgen_wd2 : W.drew = wd2 at *
  have HG_wd2 := Lib.hid hgen_wd2
  clear hgen_wd2
  (repeat (first | (apply t4_skip rfl (by rfl); try simp only [Act.put, List.setIfInBounds_toArray, List.set_cons_zero, List.set_cons_succ]) | (apply t4_float rfl (by rfl); (· (intro w' hS; go_simp <;> with_reducible rfl)); (try simp only [Act.put, List.setIfInBounds_toArray, List.set_cons_zero, List.set_cons_succ]))))
  have g0_ := cellL hs1.bel g0
  have g1_ := cellL hs1.bel g1
  have gs_ := cellL hs1.bel gs
  have gn_ := cellL hs1.bel gn
  have q0_ := cellL hs1.bel q0
  have q1_ := cellL hs1.bel q1
  refine t4_nil (NoPanic.normal ?_)
  go_upto_region 2 with fail
  have hz_wR : wd2.heap.size ≤ (wd2).heap.size := by simp
  generalize hgen_wR : wd2 = wR at *
  clear hgen_wR
  have c0 := (cellL hs1.bel g0)
  have c1 := (cellL hs1.bel g1)
  have c2 := (cellL hs1.bel gs)
  have HFR := Lib.hid (Rd.mono HF.out hs1.bel)
  have HB0 := Lib.hid hs1.bel
  refine wp_region_soft 23 57 (fun listed vs w' => Below wR.heap.size wR w' ∧ ∀ j, listed.getD j false = true → TG (.agg #[.int .i64 ar, .slice at0 tb.length ct0]) size x y v1 v2 v3 wR.heap.size j (vs j) w')
    (fun vs w' => Below wR.heap.size wR w' ∧ ∃ b, vs 22 = .pointer (some ⟨b, 0, none⟩) ∧ w'.cell? ⟨b, 0, none⟩ = some (.int .i64 v1) ∧ w'.cell? ⟨b, 1, none⟩ = some (.int .i64 v2) ∧ w'.cell? ⟨b, 2, none⟩ = some (.int .i64 v3)) (by kernel_rfl) (by kernel_rfl) rfl (by kernel_rfl) (by decide) ⟨belowD wR, fun j hj => absurd hj (by simp only [Array.getD_eq_getD_getElem?, Array.getElem?_replicate]; split <;> simp)⟩ ?_ ?_ ?_
  · intro i hi hiz listed vs b w' hl hu hn hh hI K hK
    obtain ⟨tm, df⟩ := b
    obtain ⟨u0, u1, u2, u3, u4, u5, u6, u7, u8, u9, u10, u11, u12, u13, u14, u15, u16, u17, u18, u19, u20, u21, u22, u23, u24, u25, u26, u27, u28, u29, u30, u31, u32, u33, u34, u35, u36, u37, u38, u39, u40, u41, u42, u43, u44, u45, u46, u47, u48, u49, u50, u51, u52, u53, u54, u55, u56, rfl⟩ := lit57 tm hh.size
    have o1 := hh.old 1 (fun i _ => not_dst (by kernel_rfl) i)
    have o2 := hh.old 2 (fun i _ => not_dst (by kernel_rfl) i)
    have o6 := hh.old 6 (fun i _ => not_dst (by kernel_rfl) i)
    have o7 := hh.old 7 (fun i _ => not_dst (by kernel_rfl) i)
    change u1 = .pointer (some ⟨fb, 0, none⟩) at o1
    change u2 = .pointer (some ⟨sb, 0, none⟩) at o2
    change u6 = .int .i64 x at o6
    change u7 = .int .i64 y at o7
    subst o1 o2 o6 o7
    have e0 := cellL hI.1 c0
    have e1 := cellL hI.1 c1
    have e2 := cellL hI.1 c2
    have hi9 : i = 0 ∨ i = 1 ∨ i = 2 ∨ i = 3 ∨ i = 4 ∨ i = 5 ∨ i = 6 ∨ i = 7 ∨ i = 8 ∨ i = 9 ∨ i = 10 ∨ i = 11 ∨ i = 12 ∨ i = 13 ∨ i = 14 ∨ i = 15 ∨ i = 16 ∨ i = 17 ∨ i = 18 ∨ i = 19 ∨ i = 20 ∨ i = 21 ∨ i = 22 := by
      have : i < 24 := hi
      omega
    rcases hi9 with rfl | rfl | rfl | rfl | rfl | rfl | rfl | rfl | rfl | rfl | rfl | rfl | rfl | rfl | rfl | rfl | rfl | rfl | rfl | rfl | rfl | rfl | rfl
    · refine soft_pure (v := .agg #[.int .i64 ar, .slice at0 tb.length ct0]) rfl (by rfl) ?_ (hK _ _ ⟨hI.1, soft_upd hI.2 (fun _ _ h => h) rfl⟩)
      go_simp
    · refine soft_pure (v := .int .i64 size) rfl (by rfl) ?_ (hK _ _ ⟨hI.1, soft_upd hI.2 (fun _ _ h => h) rfl⟩)
      go_simp
    · refine soft_pure (v := .int .i64 x) rfl (by rfl) ?_ (hK _ _ ⟨hI.1, soft_upd hI.2 (fun _ _ h => h) rfl⟩)
      go_simp
    · refine soft_pure (v := .int .i64 x) rfl (by rfl) ?_ (hK _ _ ⟨hI.1, soft_upd hI.2 (fun _ _ h => h) rfl⟩)
      go_simp
    · refine soft_pure (v := .int .i64 y) rfl (by rfl) ?_ (hK _ _ ⟨hI.1, soft_upd hI.2 (fun _ _ h => h) rfl⟩)
      go_simp
    · have d2 := (hh.new 2 19 (hn 2 rfl) rfl).trans (hI.2 2 (hn 2 rfl))
      change u19 = _ at d2
      subst d2
      have d3 := (hh.new 3 20 (hn 3 rfl) rfl).trans (hI.2 3 (hn 3 rfl))
      change u20 = _ at d3
      subst d3
      have d4 := (hh.new 4 21 (hn 4 rfl) rfl).trans (hI.2 4 (hn 4 rfl))
      change u21 = _ at d4
      subst d4
      have hK9 := hK (.slice (some ⟨w'.heap.size, 0, none⟩) 3 3) (w'.alloc (.cells #[.int .i64 x, .int .i64 x, .int .i64 y] 2)) ⟨hI.1.trans ((belowA w' _).mono hI.1.size), soft_upd hI.2 (fun j u h => TG.mono h (belowA w' _)) (rd_three hIx hIy (by simp))⟩
      clear hK
      refine soft_op rfl (by rfl) ?_
      go_wp2_with fail
      exact hK9
    · have d0 := (hh.new 0 17 (hn 0 rfl) rfl).trans (hI.2 0 (hn 0 rfl))
      change u17 = _ at d0
      subst d0
      have d1 := (hh.new 1 18 (hn 1 rfl) rfl).trans (hI.2 1 (hn 1 rfl))
      change u18 = _ at d1
      subst d1
      have r5 := hI.2 5 (hn 5 rfl)
      have d5 := hh.new 5 22 (hn 5 rfl) rfl
      change u22 = _ at d5
      subst d5
      have hK9 := fun w5 (hb5 : Below w'.heap.size w' w5) => hK (.int .i64 v1) w5 ⟨hI.1.trans (hb5.mono hI.1.size), soft_upd hI.2 (fun j u h => TG.mono h hb5) rfl⟩
      obtain ⟨aR, cR, e9, _⟩ := rd_list r5
      have r9 : Rd w' [vs 5] [x, x, y] := r5
      clear hK
      rw [e9] at r9 hK9 ⊢
      have HK9 := Lib.hid hK9
      clear hK9
      refine soft_op rfl (by rfl) ?_
      go_wp2_with (go_at_call 95; refine (HC1.out _ _ (Rd.mono HFR.out hI.1) r9).mono ?_; rintro e w5 ⟨rfl, hb5⟩)
      exact HK9.out w5 hb5
    · refine soft_pure (v := .agg #[.int .i64 ar, .slice at0 tb.length ct0]) rfl (by rfl) ?_ (hK _ _ ⟨hI.1, soft_upd hI.2 (fun _ _ h => h) rfl⟩)
      go_simp
    · refine soft_pure (v := .int .i64 size) rfl (by rfl) ?_ (hK _ _ ⟨hI.1, soft_upd hI.2 (fun _ _ h => h) rfl⟩)
      go_simp
    · refine soft_pure (v := .int .i64 x) rfl (by rfl) ?_ (hK _ _ ⟨hI.1, soft_upd hI.2 (fun _ _ h => h) rfl⟩)
      go_simp
    · refine soft_pure (v := .int .i64 y) rfl (by rfl) ?_ (hK _ _ ⟨hI.1, soft_upd hI.2 (fun _ _ h => h) rfl⟩)
      go_simp
    · refine soft_pure (v := .int .i64 x) rfl (by rfl) ?_ (hK _ _ ⟨hI.1, soft_upd hI.2 (fun _ _ h => h) rfl⟩)
      go_simp
    · have d9 := (hh.new 9 26 (hn 9 rfl) rfl).trans (hI.2 9 (hn 9 rfl))
      change u26 = _ at d9
      subst d9
      have d10 := (hh.new 10 27 (hn 10 rfl) rfl).trans (hI.2 10 (hn 10 rfl))
      change u27 = _ at d10
      subst d10
      have d11 := (hh.new 11 28 (hn 11 rfl) rfl).trans (hI.2 11 (hn 11 rfl))
      change u28 = _ at d11
      subst d11
      have hK9 := hK (.slice (some ⟨w'.heap.size, 0, none⟩) 3 3) (w'.alloc (.cells #[.int .i64 x, .int .i64 y, .int .i64 x] 2)) ⟨hI.1.trans ((belowA w' _).mono hI.1.size), soft_upd hI.2 (fun j u h => TG.mono h (belowA w' _)) (rd_three hIx hIy (by simp))⟩
      clear hK
      refine soft_op rfl (by rfl) ?_
      go_wp2_with fail
      exact hK9
    · have d7 := (hh.new 7 24 (hn 7 rfl) rfl).trans (hI.2 7 (hn 7 rfl))
      change u24 = _ at d7
      subst d7
      have d8 := (hh.new 8 25 (hn 8 rfl) rfl).trans (hI.2 8 (hn 8 rfl))
      change u25 = _ at d8
      subst d8
      have r12 := hI.2 12 (hn 12 rfl)
      have d12 := hh.new 12 29 (hn 12 rfl) rfl
      change u29 = _ at d12
      subst d12
      have hK9 := fun w5 (hb5 : Below w'.heap.size w' w5) => hK (.int .i64 v2) w5 ⟨hI.1.trans (hb5.mono hI.1.size), soft_upd hI.2 (fun j u h => TG.mono h hb5) rfl⟩
      obtain ⟨aR, cR, e9, _⟩ := rd_list r12
      have r9 : Rd w' [vs 12] [x, y, x] := r12
      clear hK
      rw [e9] at r9 hK9 ⊢
      have HK9 := Lib.hid hK9
      clear hK9
      refine soft_op rfl (by rfl) ?_
      go_wp2_with (go_at_call 95; refine (HC2.out _ _ (Rd.mono HFR.out hI.1) r9).mono ?_; rintro e w5 ⟨rfl, hb5⟩)
      exact HK9.out w5 hb5
    · refine soft_pure (v := .agg #[.int .i64 ar, .slice at0 tb.length ct0]) rfl (by rfl) ?_ (hK _ _ ⟨hI.1, soft_upd hI.2 (fun _ _ h => h) rfl⟩)
      go_simp
    · refine soft_pure (v := .int .i64 size) rfl (by rfl) ?_ (hK _ _ ⟨hI.1, soft_upd hI.2 (fun _ _ h => h) rfl⟩)
      go_simp
    · refine soft_pure (v := .int .i64 y) rfl (by rfl) ?_ (hK _ _ ⟨hI.1, soft_upd hI.2 (fun _ _ h => h) rfl⟩)
      go_simp
    · refine soft_pure (v := .int .i64 x) rfl (by rfl) ?_ (hK _ _ ⟨hI.1, soft_upd hI.2 (fun _ _ h => h) rfl⟩)
      go_simp
    · refine soft_pure (v := .int .i64 x) rfl (by rfl) ?_ (hK _ _ ⟨hI.1, soft_upd hI.2 (fun _ _ h => h) rfl⟩)
      go_simp
    · have d16 := (hh.new 16 33 (hn 16 rfl) rfl).trans (hI.2 16 (hn 16 rfl))
      change u33 = _ at d16
      subst d16
      have d17 := (hh.new 17 34 (hn 17 rfl) rfl).trans (hI.2 17 (hn 17 rfl))
      change u34 = _ at d17
      subst d17
      have d18 := (hh.new 18 35 (hn 18 rfl) rfl).trans (hI.2 18 (hn 18 rfl))
      change u35 = _ at d18
      subst d18
      have hK9 := hK (.slice (some ⟨w'.heap.size, 0, none⟩) 3 3) (w'.alloc (.cells #[.int .i64 y, .int .i64 x, .int .i64 x] 2)) ⟨hI.1.trans ((belowA w' _).mono hI.1.size), soft_upd hI.2 (fun j u h => TG.mono h (belowA w' _)) (rd_three hIx hIy (by simp))⟩
      clear hK
      refine soft_op rfl (by rfl) ?_
      go_wp2_with fail
      exact hK9
    · have d14 := (hh.new 14 31 (hn 14 rfl) rfl).trans (hI.2 14 (hn 14 rfl))
      change u31 = _ at d14
      subst d14
      have d15 := (hh.new 15 32 (hn 15 rfl) rfl).trans (hI.2 15 (hn 15 rfl))
      change u32 = _ at d15
      subst d15
      have r19 := hI.2 19 (hn 19 rfl)
      have d19 := hh.new 19 36 (hn 19 rfl) rfl
      change u36 = _ at d19
      subst d19
      have hK9 := fun w5 (hb5 : Below w'.heap.size w' w5) => hK (.int .i64 v3) w5 ⟨hI.1.trans (hb5.mono hI.1.size), soft_upd hI.2 (fun j u h => TG.mono h hb5) rfl⟩
      obtain ⟨aR, cR, e9, _⟩ := rd_list r19
      have r9 : Rd w' [vs 19] [y, x, x] := r19
      clear hK
      rw [e9] at r9 hK9 ⊢
      have HK9 := Lib.hid hK9
      clear hK9
      refine soft_op rfl (by rfl) ?_
      go_wp2_with (go_at_call 95; refine (HC3.out _ _ (Rd.mono HFR.out hI.1) r9).mono ?_; rintro e w5 ⟨rfl, hb5⟩)
      exact HK9.out w5 hb5
    · have d6 := (hh.new 6 23 (hn 6 rfl) rfl).trans (hI.2 6 (hn 6 rfl))
      change u23 = _ at d6
      subst d6
      have d13 := (hh.new 13 30 (hn 13 rfl) rfl).trans (hI.2 13 (hn 13 rfl))
      change u30 = _ at d13
      subst d13
      have d20 := (hh.new 20 37 (hn 20 rfl) rfl).trans (hI.2 20 (hn 20 rfl))
      change u37 = _ at d20
      subst d20
      refine soft_pure (v := .agg #[.int .i64 v1, .int .i64 v2, .int .i64 v3]) rfl (by rfl) ?_ (hK _ _ ⟨hI.1, soft_upd hI.2 (fun _ _ h => h) rfl⟩)
      go_simp
    · have hK9 := hK (.pointer (some ⟨w'.heap.size, 0, none⟩)) (w'.alloc (.cells #[.int .i64 0, .int .i64 0, .int .i64 0] 190)) ⟨hI.1.trans ((belowA w' _).mono hI.1.size), soft_upd hI.2 (fun j u h => TG.mono h (belowA w' _)) ⟨w'.heap.size, rfl, hI.1.size, by simp, _, heap_alloc_new _ _⟩⟩
      clear hK
      refine soft_op rfl (by rfl) ?_
      go_wp2_with fail
      exact hK9
  · intro listed vs b w' hall hh hI K hK
    obtain ⟨tm, df⟩ := b
    obtain ⟨u0, u1, u2, u3, u4, u5, u6, u7, u8, u9, u10, u11, u12, u13, u14, u15, u16, u17, u18, u19, u20, u21, u22, u23, u24, u25, u26, u27, u28, u29, u30, u31, u32, u33, u34, u35, u36, u37, u38, u39, u40, u41, u42, u43, u44, u45, u46, u47, u48, u49, u50, u51, u52, u53, u54, u55, u56, rfl⟩ := lit57 tm hh.size
    have r22 := hI.2 22 (hall 22 (by decide) (by decide))
    have d22 := hh.new 22 8 (hall 22 (by decide) (by decide)) rfl
    change u8 = _ at d22
    subst d22
    have d21 := (hh.new 21 38 (hall 21 (by decide) (by decide)) rfl).trans (hI.2 21 (hall 21 (by decide) (by decide)))
    change u38 = _ at d21
    subst d21
    obtain ⟨b8, e8, hb8, hb9, t8, hb10⟩ := r22
    rw [e8] at hK ⊢
    have h8 : St wR w'.heap.size w' ([] ++ [(b8, #[.int .i64 0, .int .i64 0, .int .i64 0], t8)]) := ⟨hI.1, hI.1.size, Nat.le_refl _, fun q hq => by
      simp only [List.nil_append, List.mem_singleton] at hq
      subst hq
      exact ⟨hb8, hb9, hb10⟩⟩
    have f0 := h8.freeAt 0 rfl 0
    have f1 := h8.freeAt 0 rfl 1
    have f2 := h8.freeAt 0 rfl 2
    have z0 := h8.cellAt 0 rfl 0 rfl
    have z1 := h8.cellAt 0 rfl 1 rfl
    have z2 := h8.cellAt 0 rfl 2 rfl
    have h9 := ((h8.set (p := []) (by simp) 0 (.int .i64 v1)).set (p := []) (by simp) 1 (.int .i64 v2)).set (p := []) (by simp) 2 (.int .i64 v3)
    have hK9 := hK undef (((w'.setCell ⟨b8, 0, none⟩ (.int .i64 v1)).setCell ⟨b8, 1, none⟩ (.int .i64 v2)).setCell ⟨b8, 2, none⟩ (.int .i64 v3)) ⟨h9.bel, b8, by simp [e8], h9.cellAt 0 rfl 0 rfl, h9.cellAt 0 rfl 1 rfl, h9.cellAt 0 rfl 2 rfl⟩
    clear hK
    refine soft_op rfl (by rfl) ?_
    have HK9 := Lib.hid hK9
    clear hK9 h9
    go_wp2_with fail
    exact HK9.out
  · intro listed vs b w' hall hh hF
    obtain ⟨tm, df⟩ := b
    obtain ⟨u0, u1, u2, u3, u4, u5, u6, u7, u8, u9, u10, u11, u12, u13, u14, u15, u16, u17, u18, u19, u20, u21, u22, u23, u24, u25, u26, u27, u28, u29, u30, u31, u32, u33, u34, u35, u36, u37, u38, u39, u40, u41, u42, u43, u44, u45, u46, u47, u48, u49, u50, u51, u52, u53, u54, u55, u56, rfl⟩ := lit57 tm hh.size
    have o3 := hh.old 3 (fun i _ => not_dst (by kernel_rfl) i)
    have o5 := hh.old 5 (fun i _ => not_dst (by kernel_rfl) i)
    have o6 := hh.old 6 (fun i _ => not_dst (by kernel_rfl) i)
    have o7 := hh.old 7 (fun i _ => not_dst (by kernel_rfl) i)
    have od := hh.dfr
    have d22 := hh.new 22 8 (hall 22 (by decide)) rfl
    change u3 = .pointer (some ⟨nb, 0, none⟩) at o3
    change u5 = .bool false at o5
    change u6 = .int .i64 x at o6
    change u7 = .int .i64 y at o7
    change u8 = _ at d22
    change df = [] at od
    obtain ⟨hbel, b8, e8, z0, z1, z2⟩ := hF
    rw [e8] at d22
    subst o3 o5 o6 o7 d22 od
    have HB8 := Lib.hid (HB0.out.trans (hbel.mono HB0.out.size))
    have hs8 := (St.start W).step HB8.out
    have hn8 := cellL hbel (cellL hs1.bel gn)
    clear hh hall hbel e8
    dsimp only
    go_wp2_with fail
    go_at_fn g
    refine (HW.out _ x y hIx hIy).mono ?_
    rintro e w5 ⟨rfl, hb5⟩
    have z0' := cellL hb5 z0
    have z1' := cellL hb5 z1
    have z2' := cellL hb5 z2
    have HB5 := Lib.hid (HB8.out.trans (hb5.mono HB8.out.size))
    clear z0 z1 z2 hb5 hn8 hs8 HB8 HW
    obtain ⟨n0, n1, n2, hNN⟩ : ∃ n0 n1 n2, WT x y = (n0, n1, n2) := ⟨_, _, _, rfl⟩
    rw [hNN] at HTQ HWI ⊢
    have HNN := Lib.hid hNN
    clear hNN
    simp only at HTQ HWI ⊢
    have hix0 : ∀ k : Int, k = 0 → (Instr.index 190 (.agg #[.int .i64 n0, .int .i64 n1, .int .i64 n2]) (.int .i64 k)).run Tryz.prog w5 = .ok (.int .i64 n0) w5 := fun k hk => by subst hk; exact ix3 0 (by omega) (by omega) rfl
    have hix1 : ∀ k : Int, k = 1 → (Instr.index 190 (.agg #[.int .i64 n0, .int .i64 n1, .int .i64 n2]) (.int .i64 k)).run Tryz.prog w5 = .ok (.int .i64 n1) w5 := fun k hk => by subst hk; exact ix3 1 (by omega) (by omega) rfl
    have hix2 : ∀ k : Int, k = 2 → (Instr.index 190 (.agg #[.int .i64 n0, .int .i64 n1, .int .i64 n2]) (.int .i64 k)).run Tryz.prog w5 = .ok (.int .i64 n2) w5 := fun k hk => by subst hk; exact ix3 2 (by omega) (by omega) rfl
    go_wp2_with fail
    go_loopw [43] (fun iv wl => ∃ k : Nat, k ≤ 3 ∧ iv = .int .i64 k ∧ w5 = wl ∧ Hid ((0 < k → (decide (n0 < 0) || decide (v1 = n0)) = true) ∧ (1 < k → (decide (n1 < 0) || decide (v2 = n1)) = true) ∧ (2 < k → (decide (n2 < 0) || decide (v3 = n2)) = true))) (fun iv _ => 3 - (intOf iv).toNat)
    case atStart => exact ⟨0, Nat.zero_le _, rfl, rfl, fun h => absurd h (by decide), fun h => absurd h (by decide), fun h => absurd h (by decide)⟩
    case round =>
      obtain ⟨k, hk, rfl, rfl, hp⟩ := hrel
      have hk4 : k = 0 ∨ k = 1 ∨ k = 2 ∨ k = 3 := by omega
      rcases hk4 with rfl | rfl | rfl | rfl
      · skip
        by_cases hn : n0 < 0
        · have hn2 : ¬ (0 ≤ n0) := by omega
          have H9 := Lib.hid (show (decide (n0 < 0) || decide (v1 = n0)) = true by rw [decide_eq_true hn]; rfl)
          clear hn
          go_wp2_with fail
          go_roundw
          case rel => exact ⟨1, by decide, by first | rfl | go_num, trivial, fun _ => H9.out, fun h => absurd h (by decide), fun h => absurd h (by decide)⟩
          case measure => simp [intOf]
        · have hn2 : 0 ≤ n0 := by omega
          by_cases hv : v1 = n0
          · have hv2 : (v1 != n0) = false := by simp [hv]
            have H9 := Lib.hid (show (decide (n0 < 0) || decide (v1 = n0)) = true by rw [decide_eq_true hv, Bool.or_true])
            clear hn hv
            go_wp2_with fail
            go_roundw
            case rel => exact ⟨1, by decide, by first | rfl | go_num, trivial, fun _ => H9.out, fun h => absurd h (by decide), fun h => absurd h (by decide)⟩
            case measure => simp [intOf]
          · have hv2 : (v1 != n0) = true := by simp [hv]
            have H9 := Lib.hid (show (decide (n0 < 0) || decide (v1 = n0)) = false by rw [decide_eq_false hn, decide_eq_false hv]; rfl)
            have HR := Lib.hid (show ternQ size (ar, tb) (n0, n1, n2) x y = false by rw [HTQ.out, H9.out]; simp)
            clear hn hv
            go_wp2_with fail
            go_ret
            exact ⟨ret_bool (by rw [HNN.out]; exact HR.out.symm), HB5.out⟩
      · have hp0 := hp.out.1 (by decide)
        by_cases hn : n1 < 0
        · have hn2 : ¬ (0 ≤ n1) := by omega
          have H9 := Lib.hid (show (decide (n1 < 0) || decide (v2 = n1)) = true by rw [decide_eq_true hn]; rfl)
          clear hn
          go_wp2_with fail
          go_roundw
          case rel => exact ⟨2, by decide, by first | rfl | go_num, trivial, fun _ => hp0, fun _ => H9.out, fun h => absurd h (by decide)⟩
          case measure => simp [intOf]
        · have hn2 : 0 ≤ n1 := by omega
          by_cases hv : v2 = n1
          · have hv2 : (v2 != n1) = false := by simp [hv]
            have H9 := Lib.hid (show (decide (n1 < 0) || decide (v2 = n1)) = true by rw [decide_eq_true hv, Bool.or_true])
            clear hn hv
            go_wp2_with fail
            go_roundw
            case rel => exact ⟨2, by decide, by first | rfl | go_num, trivial, fun _ => hp0, fun _ => H9.out, fun h => absurd h (by decide)⟩
            case measure => simp [intOf]
          · have hv2 : (v2 != n1) = true := by simp [hv]
            have H9 := Lib.hid (show (decide (n1 < 0) || decide (v2 = n1)) = false by rw [decide_eq_false hn, decide_eq_false hv]; rfl)
            have HR := Lib.hid (show ternQ size (ar, tb) (n0, n1, n2) x y = false by rw [HTQ.out, H9.out]; simp)
            clear hn hv
            go_wp2_with fail
            go_ret
            exact ⟨ret_bool (by rw [HNN.out]; exact HR.out.symm), HB5.out⟩
      · have hp0 := hp.out.1 (by decide)
        have hp1 := hp.out.2.1 (by decide)
        by_cases hn : n2 < 0
        · have hn2 : ¬ (0 ≤ n2) := by omega
          have H9 := Lib.hid (show (decide (n2 < 0) || decide (v3 = n2)) = true by rw [decide_eq_true hn]; rfl)
          clear hn
          go_wp2_with fail
          go_roundw
          case rel => exact ⟨3, by decide, by first | rfl | go_num, trivial, fun _ => hp0, fun _ => hp1, fun _ => H9.out⟩
          case measure => simp [intOf]
        · have hn2 : 0 ≤ n2 := by omega
          by_cases hv : v3 = n2
          · have hv2 : (v3 != n2) = false := by simp [hv]
            have H9 := Lib.hid (show (decide (n2 < 0) || decide (v3 = n2)) = true by rw [decide_eq_true hv, Bool.or_true])
            clear hn hv
            go_wp2_with fail
            go_roundw
            case rel => exact ⟨3, by decide, by first | rfl | go_num, trivial, fun _ => hp0, fun _ => hp1, fun _ => H9.out⟩
            case measure => simp [intOf]
          · have hv2 : (v3 != n2) = true := by simp [hv]
            have H9 := Lib.hid (show (decide (n2 < 0) || decide (v3 = n2)) = false by rw [decide_eq_false hn, decide_eq_false hv]; rfl)
            have HR := Lib.hid (show ternQ size (ar, tb) (n0, n1, n2) x y = false by rw [HTQ.out, H9.out]; simp)
            clear hn hv
            go_wp2_with fail
            go_ret
            exact ⟨ret_bool (by rw [HNN.out]; exact HR.out.symm), HB5.out⟩
      · have HR := Lib.hid (show ternQ size (ar, tb) (n0, n1, n2) x y = true by rw [HTQ.out, hp.out.1 (by decide), hp.out.2.1 (by decide), hp.out.2.2 (by decide)]; rfl)
        go_wp2_with fail
        go_ret
        exact ⟨ret_bool (by rw [HNN.out]; exact HR.out.symm), HB5.out⟩

end Go.Proofs.YtllenfkbfeanmaaGreat

