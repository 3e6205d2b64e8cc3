/-
  CONTRACTS: lists that are the same are told to be the same.
-/
import Derived.Test.YtamkfnkikiekaaaGreatRowsBRa
namespace Go.Proofs.YtamkfnkikiekaaaGreat
open Go.RowKit Go.Shelf Go.IntWalk
open Rep (Rd Own sz)
set_option linter.unusedSimpArgs false
set_option linter.unusedVariables false

theorem l00Same_t (l : List Int) (v1 v2 : Value) (w : World) (r1 : Rd w [v1] l) (r2 : Rd w [v2] l) :
    Calls Tryz.prog 28 #[v1, v2] w fun e w' => e = .returned (.bool true) ∧ Below w.heap.size w w' :=
  (l00Same_c l l v1 v2 w r1 r2).mono fun e w' ⟨he, n, hw⟩ => ⟨by rw [he]; simp, by rw [hw]; exact drewN_below w n⟩
set_option maxRecDepth 100000 in
set_option maxHeartbeats 2000000 in
theorem SameLists_t (l : List (List Int)) (v1 v2 : Value) (w : World) (r1 : Rd w [v1] l) (r2 : Rd w [v2] l) :
    Calls Tryz.prog 9 #[v1, v2] w fun e w' => e = .returned (.bool true) ∧ Below w.heap.size w w' := by
  obtain ⟨a1, c1, rfl, h1⟩ := rd_list r1
  obtain ⟨a2, c2, rfl, h2⟩ := rd_list r2
  have hb := (rdSl_len h1).2
  unfold maxLen at hb
  have H1 := Lib.hid h1
  have H2 := Lib.hid h2
  clear r1 r2 h1 h2
  go_enter Tryz.func9, Tryz.ntmps9
  go_wp2_with fail
  go_loopw [5] (fun i wl => ∃ k : Nat, k ≤ l.length ∧ i = .int .i64 k ∧ Hid (Below w.heap.size w wl)) (fun i _ => l.length - (intOf i).toNat)
  case atStart => exact ⟨0, Nat.zero_le _, rfl, Below.refl _ _⟩
  case round =>
    obtain ⟨k, hk, rfl, hbl⟩ := hrel
    have hbl2 := hbl.out
    have hz_wr : w.heap.size ≤ wr.heap.size := by have h9 := hbl2.size; (try simp at h9); omega
    have hs1 := (St.start w).step hbl2
    clear hbl2 hbl
    by_cases hlt : k < l.length
    · have hkl : (k : Int) < l.length := by omega
      obtain ⟨b, o, u0, rfl, q0, hx⟩ := rdSl_one rfl H1.out k hlt
      obtain ⟨b2, o2, u2, rfl, q1, hy⟩ := rdSl_one rfl H2.out k hlt
      generalize l[k] = X at *
      obtain ⟨a3, c3, rfl, _⟩ := rd_list hx
      obtain ⟨a4, c4, rfl, _⟩ := rd_list hy
      have HX := Lib.hid hx
      have HY := Lib.hid hy
      clear hx hy
      have q0_ := cellL hs1.bel q0
      clear q0_
      have q0_ := cellL hs1.bel q0
      have q1_ := cellL hs1.bel q1
      clear q0_ q1_
      have q0_ := cellL hs1.bel q0
      have q1_ := cellL hs1.bel q1
      go_upto_region 6 with fail
      refine wp_region_noPanic (wp_region_tree4 (fun w' => w'.cell? ⟨b, o + k, none⟩ = some (.slice a3 X.length c3) ∧ w'.cell? ⟨b2, o2 + k, none⟩ = some (.slice a4 X.length c4)) (.float 0 (.float 1 (.float 2 (.float 3 (.float 4 (.float 5 (.float 6 (.float 7 (.hard 8 (.float 9 .nil)))))))))) (by kernel_rfl) (by kernel_rfl) (by kernel_rfl) rfl ?_ (fun _ _ _ _ _ h => h) ?_)
      · exact ⟨cellL (hs1.drew).bel q0, cellL (hs1.drew).bel q1⟩
      have hs2 := hs1.drew
      clear q0_ q1_
      have hz_wd3 : wr.heap.size ≤ (wr.drew).heap.size := by simp
      generalize hgen_wd3 : wr.drew = wd3 at *
      have HG_wd3 := Lib.hid hgen_wd3
      clear hgen_wd3
      (repeat (first | (apply t4_skip rfl (by rfl); try simp only [Act.put, List.setIfInBounds_toArray, List.set_cons_zero, List.set_cons_succ]) | (apply t4_float rfl (by rfl); (· (intro w' hS; go_simp <;> with_reducible rfl)); (try simp only [Act.put, List.setIfInBounds_toArray, List.set_cons_zero, List.set_cons_succ]))))
      refine t4_hard rfl (by rfl) (fun K hK => ?_)
      go_wp2_with (go_at_call 28; refine (l00Same_t X _ _ _ (Rd.mono HX.out hs2.bel) (Rd.mono HY.out hs2.bel)).mono ?_; rintro e w4 ⟨rfl, hbw4⟩)
      have hz_w4 : wd3.heap.size ≤ w4.heap.size := by have h9 := hbw4.size; (try simp at h9); omega
      have hs5 := hs2.step hbw4
      refine ⟨⟨cellL hs5.bel q0, cellL hs5.bel q1⟩, ?_⟩
      (repeat (first | (apply t4_skip rfl (by rfl); try simp only [Act.put, List.setIfInBounds_toArray, List.set_cons_zero, List.set_cons_succ]) | (apply t4_float rfl (by rfl); (· (intro w' hS; go_simp <;> with_reducible rfl)); (try simp only [Act.put, List.setIfInBounds_toArray, List.set_cons_zero, List.set_cons_succ]))))
      have q0_ := cellL hs5.bel q0
      have q1_ := cellL hs5.bel q1
      refine t4_nil (NoPanic.normal ?_)
      go_wp2_with fail
      go_roundw
      case rel => exact ⟨k + 1, hlt, by go_num, hs5.bel⟩
      case measure => simp [intOf]; omega
    · obtain rfl : k = l.length := by omega
      have hnl : ¬ ((l.length : Int) < l.length) := by omega
      go_wp2_with fail
      go_ret
      exact ⟨rfl, hs1.bel⟩

end Go.Proofs.YtamkfnkikiekaaaGreat

