/-
  THE LAW FnExactReadInstance, WALKED.
-/
import Derived.Test.YtjnkkjgkinmhkaaDoorKinds
import Derived.Test.YtjnkkjgkinmhkaaDoorMarkT
import Derived.Test.YtjnkkjgkinmhkaaDoorReadIS
namespace Go.Proofs.YtjnkkjgkinmhkaaDoor
open Go.RowKit Go.Shelf Go.IntWalk
open Rep (Rd Own sz)
set_option linter.unusedSimpArgs false
set_option linter.unusedVariables false

theorem con_sum (m : Nat) : ∀ l : List OpT, (∀ a, a ∈ l → a.2.length ≤ m) → (l.map mcConE).sum ≤ (m + 1) * l.length
  | [], _ => by simp
  | a :: l, h => by
    have h1 : mcConE a ≤ m + 1 := by have := h a (List.mem_cons_self ..); show a.2.length + 1 ≤ m + 1; omega
    have h2 := con_sum m l (fun x hx => h x (List.mem_cons_of_mem _ hx))
    rw [List.map_cons, List.sum_cons, List.length_cons, Nat.mul_add]
    omega
theorem shown_small {x : Inst} {n : Int} (h2 : x.2.length ≤ 24) (h3 : ∀ c, c ∈ x.2 → conSh n c = true) : mc_Instance x ≤ 1000000 := by
  have h := con_sum 4 x.2 (fun a ha => (conSh_get (h3 a ha)).2.1.2)
  show (x.2.map mcConE).sum ≤ 1000000
  omega
theorem rdS_small (t : List UInt8) : mc_Instance (rdS t).1 ≤ 1000000 := by
  unfold rdS
  split
  · simp [mc_Instance]
  · split
    · rename_i x hx
      split
      · rename_i h
        obtain ⟨h1, h2, h3⟩ := shownI_get h
        exact shown_small h2 h3
      · simp [mc_Instance]
    · simp [mc_Instance]
set_option maxRecDepth 100000 in
set_option maxHeartbeats 4000000 in
theorem FnExactReadInstance_c (t : List UInt8) (w : World) (he : RdEnv w) :
    Calls Tryd.prog 4 #[.string ⟨t.toArray⟩] w fun e w' => e = .returned (.bool true) ∧ Below w.heap.size w w' := by
  have hszx : (⟨t.toArray⟩ : ByteArray).size = t.length := by simp [ByteArray.size]
  by_cases hs : t.length ≤ 1048576
  · have hng : ¬ ((1048576 : Int) < t.length) := by omega
    have HE := Lib.hid he
    clear he
    have hsm := rdS_small t
    have cS := fun W => sReadInstance_c t W hs
    have cI := fun W h => ReadInstance_c t W h hs
    simp only [rd_same] at cI
    generalize rdS t = R at cS cI hsm
    obtain ⟨⟨r0, r1⟩, code⟩ := R
    have CS := Lib.hid cS
    have CI := Lib.hid cI
    clear cS cI
    go_enter Tryd.func4, Tryd.ntmps4
    go_wp2_with fail
    refine (CS.out _).mono ?_
    rintro e w1 ⟨uW0, uW1, rfl, frW, hbw1⟩
    have hz_w1 : w.heap.size ≤ w1.heap.size := by have h9 := hbw1.size; (try simp at h9); omega
    have hs2 := (St.start w).step hbw1
    have HJW := Lib.hid (Fresh.iv frW)
    have zW0 := rd_cons rfl (Iv.rd HJW.out)
    obtain ⟨rfl, _⟩ := rd_i1 zW0.1
    obtain ⟨aW, cW, rfl, _⟩ := rd_list zW0.2
    clear zW0 frW
    obtain ⟨wA, hwA⟩ : ∃ x, x = w1 := ⟨_, rfl⟩
    subst hwA
    have hs3 := hs2.alloc #[.int .i64 r0, .slice aW r1.length cW] 32 (n := wA.heap.size) (by simp)
    have HJW_4 := Lib.hid (Iv.mono HJW.out (belowA _ (.cells #[.int .i64 r0, .slice aW r1.length cW] 32)))
    clear HJW
    have k0_0 := hs3.cellAt 0 rfl 0 rfl
    have k0_1 := hs3.cellAt 0 rfl 1 rfl
    go_wp2_with fail
    refine (CI.out _ (HE.out.mono hs3.bel)).mono ?_
    rintro e w5 ⟨uG0, uG1, rfl, frG, hbw5⟩
    have hz_w5 : wA.heap.size + 1 ≤ w5.heap.size := by have h9 := hbw5.size; (try simp at h9); omega
    have hs6 := hs3.step hbw5
    have HJW_7 := Lib.hid (Iv.mono HJW_4.out hbw5)
    clear HJW_4
    clear k0_0 k0_1
    have k0_0 := hs6.cellAt 0 rfl 0 rfl
    have k0_1 := hs6.cellAt 0 rfl 1 rfl
    have HJG := Lib.hid (Fresh.iv frG)
    have zW0 := rd_cons rfl (Iv.rd HJG.out)
    obtain ⟨rfl, _⟩ := rd_i1 zW0.1
    obtain ⟨aG, cG, rfl, _⟩ := rd_list zW0.2
    clear zW0 frG
    obtain ⟨wB, hwB⟩ : ∃ x, x = w5 := ⟨_, rfl⟩
    subst hwB
    have hs8 := hs6.alloc #[.int .i64 r0, .slice aG r1.length cG] 32 (n := wB.heap.size) (by simp)
    have HJW_9 := Lib.hid (Iv.mono HJW_7.out (belowA _ (.cells #[.int .i64 r0, .slice aG r1.length cG] 32)))
    clear HJW_7
    have HJG_10 := Lib.hid (Iv.mono HJG.out (belowA _ (.cells #[.int .i64 r0, .slice aG r1.length cG] 32)))
    clear HJG
    clear k0_0 k0_1
    have k0_0 := hs8.cellAt 0 rfl 0 rfl
    have k0_1 := hs8.cellAt 0 rfl 1 rfl
    have k1_0 := hs8.cellAt 1 rfl 0 rfl
    have k1_1 := hs8.cellAt 1 rfl 1 rfl
    go_wp2_with fail
    refine (eqInstance_s (r0, r1) _ _ _ _ _ (Iv.rd HJG_10.out) (Iv.rd HJW_9.out)).mono ?_
    rintro e w11 ⟨rfl, hbw11⟩
    have hz_w11 : wB.heap.size + 1 ≤ w11.heap.size := by have h9 := hbw11.size; (try simp at h9); omega
    have hs12 := hs8.step hbw11
    have HJW_13 := Lib.hid (Iv.mono HJW_9.out hbw11)
    clear HJW_9
    have HJG_14 := Lib.hid (Iv.mono HJG_10.out hbw11)
    clear HJG_10
    clear k0_0 k0_1 k1_0 k1_1
    have k0_0 := hs12.cellAt 0 rfl 0 rfl
    have k0_1 := hs12.cellAt 0 rfl 1 rfl
    have k1_0 := hs12.cellAt 1 rfl 0 rfl
    have k1_1 := hs12.cellAt 1 rfl 1 rfl
    have hcode : (code != code) = false := by simp
    obtain ⟨psG, hoG, hnG, hpG⟩ := HJG_14.out
    have HOG := Lib.hid hoG
    clear hoG
    clear HJG_14
    go_wp2_with fail
    refine (markInstance_g (r0, r1) _ _ psG 1 _ HOG.out hnG (by omega) (by omega)).mono ?_
    rintro e w8 ⟨yG, mG, rfl, l0G, l1G, hyG, hhG, hbutG⟩
    have HYG := Lib.hid hyG
    have HHG := Lib.hid hhG
    clear hyG hhG HOG
    have hqG : ∀ k, k ∈ psG → wA.heap.size + 1 ≤ k ∧ k < wB.heap.size := fun k hk => by have := hpG k hk; simpa using this
    have HW8 := Lib.hid (Iv.but HJW_13.out hbutG (fun k hk => by have := hqG k hk; (try simp); omega))
    have hs8 := hs12.butIv hbutG (fun k hk => by have := hqG k hk; omega) (fun x hx hp => by
      have := hqG _ hp
      simp only [List.mem_append, List.mem_cons, List.mem_nil_iff, or_false, List.not_mem_nil, false_or, or_assoc] at hx
      rcases hx with rfl | rfl <;> (simp only at this; omega))
    have hz8 := hbutG.size
    (try simp at hz8)
    clear HJW_13
    clear k0_0 k0_1 k1_0 k1_1
    have k0_0 := hs8.cellAt 0 rfl 0 rfl
    have k0_1 := hs8.cellAt 0 rfl 1 rfl
    have k1_0 := hs8.cellAt 1 rfl 0 rfl
    have k1_1 := hs8.cellAt 1 rfl 1 rfl
    have HJW := HW8
    clear HW8
    go_wp2_with fail
    refine (heldInstance_g yG _ _ 1 mG _ (Own.rd HYG.out) HHG.out (by omega) (by omega) (by omega)).mono ?_
    rintro e w15 ⟨rfl, hbw15⟩
    have hz_w15 : w8.heap.size ≤ w15.heap.size := by have h9 := hbw15.size; (try simp at h9); omega
    have hs16 := hs8.step hbw15
    have HJW_17 := Lib.hid (Iv.mono HJW.out hbw15)
    clear HJW
    have HYG_18 := Lib.hid (Own.mono HYG.out hbw15)
    clear HYG
    clear k0_0 k0_1 k1_0 k1_1
    have k0_0 := hs16.cellAt 0 rfl 0 rfl
    have k0_1 := hs16.cellAt 0 rfl 1 rfl
    have k1_0 := hs16.cellAt 1 rfl 0 rfl
    have k1_1 := hs16.cellAt 1 rfl 1 rfl
    have hmm : (mG != mG) = false := by simp
    have hm0 : ¬ mG < 0 := by omega
    go_wp2_with fail
    refine (CI.out _ (HE.out.mono hs16.bel)).mono ?_
    rintro e w19 ⟨uK0, uK1, rfl, frK, hbw19⟩
    have hz_w19 : w15.heap.size ≤ w19.heap.size := by have h9 := hbw19.size; (try simp at h9); omega
    have hs20 := hs16.step hbw19
    have HJW_21 := Lib.hid (Iv.mono HJW_17.out hbw19)
    clear HJW_17
    have HYG_22 := Lib.hid (Own.mono HYG_18.out hbw19)
    clear HYG_18
    clear k0_0 k0_1 k1_0 k1_1
    have k0_0 := hs20.cellAt 0 rfl 0 rfl
    have k0_1 := hs20.cellAt 0 rfl 1 rfl
    have k1_0 := hs20.cellAt 1 rfl 0 rfl
    have k1_1 := hs20.cellAt 1 rfl 1 rfl
    have HJK := Lib.hid (Fresh.iv frK)
    have zW0 := rd_cons rfl (Iv.rd HJK.out)
    obtain ⟨rfl, _⟩ := rd_i1 zW0.1
    obtain ⟨aK, cK, rfl, _⟩ := rd_list zW0.2
    clear zW0 frK
    have hs23 := hs20.alloc #[.int .i64 r0, .slice aK r1.length cK] 32 (n := w19.heap.size) (by simp)
    have HJW_24 := Lib.hid (Iv.mono HJW_21.out (belowA _ (.cells #[.int .i64 r0, .slice aK r1.length cK] 32)))
    clear HJW_21
    have HYG_25 := Lib.hid (Own.mono HYG_22.out (belowA _ (.cells #[.int .i64 r0, .slice aK r1.length cK] 32)))
    clear HYG_22
    have HJK_26 := Lib.hid (Iv.mono HJK.out (belowA _ (.cells #[.int .i64 r0, .slice aK r1.length cK] 32)))
    clear HJK
    clear k0_0 k0_1 k1_0 k1_1
    have k0_0 := hs23.cellAt 0 rfl 0 rfl
    have k0_1 := hs23.cellAt 0 rfl 1 rfl
    have k1_0 := hs23.cellAt 1 rfl 0 rfl
    have k1_1 := hs23.cellAt 1 rfl 1 rfl
    have k2_0 := hs23.cellAt 2 rfl 0 rfl
    have k2_1 := hs23.cellAt 2 rfl 1 rfl
    go_wp2_with fail
    refine (eqInstance_s (r0, r1) _ _ _ _ _ (Iv.rd HJK_26.out) (Iv.rd HJW_24.out)).mono ?_
    rintro e w27 ⟨rfl, hbw27⟩
    have hz_w27 : w19.heap.size + 1 ≤ w27.heap.size := by have h9 := hbw27.size; (try simp at h9); omega
    have hs28 := hs23.step hbw27
    have HJW_29 := Lib.hid (Iv.mono HJW_24.out hbw27)
    clear HJW_24
    have HYG_30 := Lib.hid (Own.mono HYG_25.out hbw27)
    clear HYG_25
    have HJK_31 := Lib.hid (Iv.mono HJK_26.out hbw27)
    clear HJK_26
    clear k0_0 k0_1 k1_0 k1_1 k2_0 k2_1
    have k0_0 := hs28.cellAt 0 rfl 0 rfl
    have k0_1 := hs28.cellAt 0 rfl 1 rfl
    have k1_0 := hs28.cellAt 1 rfl 0 rfl
    have k1_1 := hs28.cellAt 1 rfl 1 rfl
    have k2_0 := hs28.cellAt 2 rfl 0 rfl
    have k2_1 := hs28.cellAt 2 rfl 1 rfl
    go_wp2_with fail
    refine (heldInstance_g yG _ _ 1 mG _ (Own.rd HYG_30.out) HHG.out (by omega) (by omega) (by omega)).mono ?_
    rintro e w32 ⟨rfl, hbw32⟩
    have hz_w32 : w27.heap.size ≤ w32.heap.size := by have h9 := hbw32.size; (try simp at h9); omega
    have hs33 := hs28.step hbw32
    have HJW_34 := Lib.hid (Iv.mono HJW_29.out hbw32)
    clear HJW_29
    have HYG_35 := Lib.hid (Own.mono HYG_30.out hbw32)
    clear HYG_30
    have HJK_36 := Lib.hid (Iv.mono HJK_31.out hbw32)
    clear HJK_31
    clear k0_0 k0_1 k1_0 k1_1 k2_0 k2_1
    have k0_0 := hs33.cellAt 0 rfl 0 rfl
    have k0_1 := hs33.cellAt 0 rfl 1 rfl
    have k1_0 := hs33.cellAt 1 rfl 0 rfl
    have k1_1 := hs33.cellAt 1 rfl 1 rfl
    have k2_0 := hs33.cellAt 2 rfl 0 rfl
    have k2_1 := hs33.cellAt 2 rfl 1 rfl
    go_wp2_with fail
    go_ret
    exact ⟨rfl, hs33.bel⟩
  · have hng : (1048576 : Int) < t.length := by omega
    go_enter Tryd.func4, Tryd.ntmps4
    go_wp2_with fail
    go_ret
    exact ⟨rfl, Below.refl _ _⟩

end Go.Proofs.YtjnkkjgkinmhkaaDoor
