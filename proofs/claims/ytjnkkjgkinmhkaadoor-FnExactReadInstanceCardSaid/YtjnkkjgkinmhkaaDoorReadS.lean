/-
  CONTRACTS: ReadSystem; the reference's side.
-/
import Derived.Test.YtjnkkjgkinmhkaaDoorReadV
namespace Go.Proofs.YtjnkkjgkinmhkaaDoor
open Go.RowKit Go.Shelf Go.IntWalk
open Rep (Rd Own sz)
set_option linter.unusedSimpArgs false
set_option linter.unusedVariables false

theorem E_strs : ElemT Tryd.prog 37 9 (List UInt8) (.string ByteArray.empty) 16 := ElemT.mk' Tryd.underlying37 (by kernel_rfl) rfl (by decide) (by decide)
theorem extract_l (s : List UInt8) (f k : Nat) : (⟨s.toArray⟩ : ByteArray).extract f k = ⟨((s.take k).drop f).toArray⟩ := by
  apply ByteArray.ext
  simp [ByteArray.data_extract, List.drop_take]
theorem ip_str {C : Nat → Prop} {w : World} {x : List UInt8} : Ip C w [.string ⟨x.toArray⟩] x := ⟨[], ⟨rfl, rfl⟩, List.nodup_nil, fun k hk => by cases hk⟩
/-- What the loop of l01Split keeps. -/
def SplR (c : UInt8) (s : List UInt8) (P : List (List UInt8)) (f k : Nat) : Prop := f ≤ k ∧ P ++ splitC c (s.drop f) = splitC c s ∧ c ∉ (s.take k).drop f
theorem splR_end {c : UInt8} {s : List UInt8} {P : List (List UInt8)} {f : Nat} (h : SplR c s P f s.length) : P ++ [s.drop f] = splitC c s := by
  obtain ⟨_, h1, h2⟩ := h
  rw [List.take_length] at h2
  rw [← h1, splitC_free h2]
theorem splR_no {c : UInt8} {s : List UInt8} {P : List (List UInt8)} {f k : Nat} (h : SplR c s P f k) (hk : k < s.length) (hc : s[k] ≠ c) : SplR c s P f (k + 1) := by
  obtain ⟨h0, h1, h2⟩ := h
  refine ⟨by omega, h1, ?_⟩
  rw [List.take_succ_eq_append_getElem hk, List.drop_append_of_le_length (by rw [List.length_take]; omega)]
  simp only [List.mem_append, List.mem_singleton, not_or]
  exact ⟨h2, fun e => hc e.symm⟩
theorem splR_yes {c : UInt8} {s : List UInt8} {P : List (List UInt8)} {f k : Nat} (h : SplR c s P f k) (hk : k < s.length) (hc : s[k] = c) : SplR c s (P ++ [(s.take k).drop f]) (k + 1) (k + 1) := by
  obtain ⟨h0, h1, h2⟩ := h
  refine ⟨Nat.le_refl _, ?_, by simp⟩
  rw [← h1, List.append_assoc]
  congr 1
  have e : s.drop f = (s.take k).drop f ++ c :: s.drop (k + 1) := by
    have h3 : s = s.take k ++ c :: s.drop (k + 1) := by rw [← hc, List.getElem_cons_drop, List.take_append_drop]
    conv => lhs; rw [h3]
    rw [List.drop_append_of_le_length (by rw [List.length_take]; omega)]
  rw [e, splitC_app _ h2]
  rfl
set_option maxRecDepth 100000 in
set_option maxHeartbeats 8000000 in
theorem l01Split_c (s : List UInt8) (c : UInt8) (w : World) (hs : s.length ≤ 1048576) :
    Calls Tryd.prog 15 #[.string ⟨s.toArray⟩, .int .u8 (c.toNat : Int)] w fun e w' => ∃ v, e = .returned v ∧ Rd w' [v] (splitC c s) ∧ Below w.heap.size w w' := by
  have hsz : (⟨s.toArray⟩ : ByteArray).size = s.length := by simp [ByteArray.size]
  have HS := Lib.hid hsz
  clear hsz
  have HS0 := Lib.hid ((St.start w).step (belowA w (.cells #[] 9)))
  have HA0 := Lib.hid ((accP_made (α := List UInt8) w 9))
  have HR0 := Lib.hid (show SplR c s [] 0 0 from ⟨Nat.le_refl _, rfl, by simp⟩)
  go_enter Tryd.func15, Tryd.ntmps15
  go_wp2_with fail
  go_loopw [5, 6, 7] (fun oo fv iv wl => ∃ (P : List (List UInt8)) (f k : Nat) (ao : Option Addr) (co : Nat), k ≤ s.length ∧ f ≤ k ∧ P.length ≤ k ∧ oo = .slice ao P.length co ∧ fv = .int .i64 f ∧ iv = .int .i64 k ∧ Hid (SplR c s P f k) ∧ Hid (St w w.heap.size wl []) ∧
    Hid (AccP (fun z => w.heap.size ≤ z ∧ z < wl.heap.size) 9 wl (.slice ao P.length co) P)) (fun _ _ i _ => s.length - (intOf i).toNat)
  case atStart => exact ⟨[], 0, 0, _, _, Nat.zero_le _, Nat.le_refl _, Nat.le_refl _, rfl, rfl, rfl, HR0.out, HS0.out, AccP.wk HA0.out (fun z hz => by (try simp at hz ⊢); omega)⟩
  case round =>
    clear HS0 HA0 HR0
    obtain ⟨P, f, k, ao, co, hk, hf, hP, rfl, rfl, rfl, hr, hst, hac⟩ := hrel
    have hzr : w.heap.size ≤ wr.heap.size := hst.out.hi
    have HAC := hac
    clear hac
    by_cases hlt : k < s.length
    · have hkl : (k : Int) < s.length := by omega
      have hget : ((⟨s.toArray⟩ : ByteArray)[k]'(by rw [HS.out]; exact hlt)) = s[k] := rfl
      by_cases hc : s[k] = c
      · have hg : ((((⟨s.toArray⟩ : ByteArray)[k]'(by rw [HS.out]; exact hlt)).toNat : Int) == (c.toNat : Int)) = true := by rw [hget, hc]; simp
        have HR := Lib.hid (splR_yes hr.out hlt hc)
        clear hget hc
        have HIY := Lib.hid (show ∀ W : World, Ip (fun _ => False) W [.string ((⟨s.toArray⟩ : ByteArray).extract f k)] ((s.take k).drop f) from fun W => by rw [extract_l]; exact ip_str)
        generalize (s.take k).drop f = Y at *
        have HPL := Lib.hid (show (P ++ [Y]).length = P.length + 1 by rw [List.length_append]; rfl)
        have HS8 := Lib.hid (hst.out.step (belowA wr (.cells #[.string ((⟨s.toArray⟩ : ByteArray).extract f k)] 9)))
        go_wp2_with (at_builtin; refine wpList_append_accP _ rfl _ _ _ rfl E_strs rfl (AccP.mono HAC.out (belowA _ _)) (HIY.out _) (fun z _ h => h) ⟨wr.heap.size, 0, none⟩ 1 rfl (news1 (cell_at_block (heap_alloc_new _ _))) (by omega) ?_; intro a7 c7 w7 hA7 hB7; refine Hid.out ?_)
        refine Lib.hid ?_
        have hz7 := hB7.size
        (try simp at hz7)
        have HB7 := Lib.hid ((HS8.out.bel).trans ((hB7.below (B := w.heap.size) (fun z hz => hz.1) (by (try simp) <;> omega)).mono (Nat.le_refl _)))
        have HA7 := Lib.hid (AccP.wk hA7.tight (C := fun z => w.heap.size ≤ z ∧ z < w7.heap.size) (fun z hz => ⟨by
          rcases hz.1 with h | h | h
          · exact h.1
          · exact h.elim
          · simp at h; omega, hz.2⟩))
        clear hA7 hB7
        (try go_wp2_with fail)
        go_roundw
        case rel =>
          refine ⟨P ++ [Y], k + 1, k + 1, a7, c7, ?_⟩
          rw [HPL.out]
          exact ⟨hlt, Nat.le_refl _, by omega, rfl, by go_num, by go_num, HR.out, (St.start w).stepB HB7.out, HA7.out⟩
        case measure => simp [intOf]; omega
      · have hg : ((((⟨s.toArray⟩ : ByteArray)[k]'(by rw [HS.out]; exact hlt)).toNat : Int) == (c.toNat : Int)) = false := by
          rw [hget, beq_eq_false_iff_ne]
          intro e
          exact hc (UInt8.toNat_inj.1 (by omega))
        have HR := Lib.hid (splR_no hr.out hlt hc)
        clear hget hc
        go_wp2_with fail
        go_roundw
        case rel => exact ⟨P, f, k + 1, ao, co, hlt, by omega, by omega, rfl, rfl, by go_num, HR.out, hst.out, HAC.out⟩
        case measure => simp [intOf]; omega
    · obtain rfl : k = s.length := by omega
      have hnl : ¬ ((s.length : Int) < s.length) := by omega
      have HR := Lib.hid (splR_end hr.out)
      have HIY := Lib.hid (show ∀ W : World, Ip (fun _ => False) W [.string ((⟨s.toArray⟩ : ByteArray).extract f s.length)] (s.drop f) from fun W => by rw [extract_l, List.take_length]; exact ip_str)
      have HS8 := Lib.hid (hst.out.step (belowA wr (.cells #[.string ((⟨s.toArray⟩ : ByteArray).extract f s.length)] 9)))
      go_wp2_with (at_builtin; refine wpList_append_accP _ rfl _ _ _ rfl E_strs rfl (AccP.mono HAC.out (belowA _ _)) (HIY.out _) (fun z _ h => h) ⟨wr.heap.size, 0, none⟩ 1 rfl (news1 (cell_at_block (heap_alloc_new _ _))) (by omega) ?_; intro a7 c7 w7 hA7 hB7; refine Hid.out ?_)
      refine Lib.hid ?_
      have HB7 := Lib.hid ((HS8.out.bel).trans ((hB7.below (B := w.heap.size) (fun z hz => hz.1) (by (try simp) <;> omega)).mono (Nat.le_refl _)))
      rw [HR.out] at hA7
      have HRD := Lib.hid hA7.rd
      clear hA7 hB7
      go_wp2_with fail
      go_ret
      exact ⟨_, rfl, HRD.out, HB7.out⟩
theorem valD_snoc (l : List UInt8) (b : UInt8) : valD (l ++ [b]) = valD l * 10 + ((b.toNat : Int) - 48) := by
  unfold valD
  rw [List.foldl_append]; rfl
theorem valD_bd {s : List UInt8} : ∀ k, k ≤ s.length → (∀ j (hj : j < s.length), j < k → isDg s[j] = true) → 0 ≤ valD (s.take k) ∧ valD (s.take k) < 10 ^ k
  | 0, _, _ => by simp [valD]
  | k + 1, hk, h => by
    obtain ⟨h1, h2⟩ := valD_bd k (by omega) (fun j hj hjk => h j hj (by omega))
    have hd := h k (by omega) (by omega)
    unfold isDg at hd
    simp only [Bool.and_eq_true, decide_eq_true_eq] at hd
    rw [List.take_succ_eq_append_getElem (by omega), valD_snoc, Int.pow_succ]
    omega
theorem numS_no1 {s : List UInt8} (h : s.length < 1 ∨ 9 < s.length ∨ (s.getD 0 0 = 48 ∧ 1 < s.length)) : numS s = none := by
  unfold numS; rw [if_pos h]
theorem numS_no2 {s : List UInt8} {k : Nat} (hk : k < s.length) (h : isDg s[k] = false) : numS s = none := by
  unfold numS
  split
  · rfl
  · rw [if_neg (fun ha => by rw [List.all_eq_true] at ha; have := ha _ (List.getElem_mem hk); rw [h] at this; cases this)]
theorem numS_yes {s : List UInt8} (h0 : ¬ (s.length < 1 ∨ 9 < s.length ∨ (s.getD 0 0 = 48 ∧ 1 < s.length))) (h : ∀ j (hj : j < s.length), isDg s[j] = true) : numS s = some (valD s) := by
  unfold numS
  rw [if_neg h0, if_pos (List.all_eq_true.2 (fun b hb => by obtain ⟨j, hj, rfl⟩ := List.getElem_of_mem hb; exact h j hj))]
/-- What l01Number returns. -/
def numP (o : Option Int) : Value := match o with | some n => .tuple #[.int .i64 n, .bool true] | none => .tuple #[.int .i64 0, .bool false]
set_option maxRecDepth 100000 in
set_option maxHeartbeats 8000000 in
theorem l01Number_c (s : List UInt8) (w : World) (hs : s.length ≤ 1048576) :
    Calls Tryd.prog 16 #[.string ⟨s.toArray⟩] w fun e w' => e = .returned (numP (numS s)) ∧ w = w' := by
  have hsz : (⟨s.toArray⟩ : ByteArray).size = s.length := by simp [ByteArray.size]
  have HS := Lib.hid hsz
  clear hsz
  by_cases h1 : s.length < 1
  · have HQ := Lib.hid (numS_no1 (.inl h1))
    have g1 : (s.length : Int) < 1 := by omega
    go_enter Tryd.func16, Tryd.ntmps16
    go_wp2_with fail
    refine bodyPost_ret (v := .tuple #[.int .i64 0, .bool false]) (by simp [results, Tryd.results16, go_sem]) rfl ⟨by rw [HQ.out]; rfl, rfl⟩
  · have g1 : ¬ (s.length : Int) < 1 := by omega
    by_cases h2 : 9 < s.length
    · have HQ := Lib.hid (numS_no1 (.inr (.inl h2)))
      have g2 : (9 : Int) < s.length := by omega
      go_enter Tryd.func16, Tryd.ntmps16
      go_wp2_with fail
      refine bodyPost_ret (v := .tuple #[.int .i64 0, .bool false]) (by simp [results, Tryd.results16, go_sem]) rfl ⟨by rw [HQ.out]; rfl, rfl⟩
    · have g2 : ¬ (9 : Int) < s.length := by omega
      have hb0 : 0 < (⟨s.toArray⟩ : ByteArray).size := by rw [HS.out]; omega
      have hget : ((⟨s.toArray⟩ : ByteArray)[0]'hb0) = s[0]'(by omega) := rfl
      have hgD : s.getD 0 0 = s[0]'(by omega) := by simp [List.getD, show 0 < s.length by omega]
      have key : ∀ (hno : ¬ (s.length < 1 ∨ 9 < s.length ∨ (s.getD 0 0 = 48 ∧ 1 < s.length))) (B0 : Bool) (hB0 : ((((⟨s.toArray⟩ : ByteArray)[0]'hb0).toNat : Int) == 48) = B0) (hB1 : B0 = true → ¬ (1 : Int) < s.length), Calls Tryd.prog 16 #[.string ⟨s.toArray⟩] w fun e w' => e = .returned (numP (numS s)) ∧ w = w' := by
        intro hno B0 hB0 hB1
        have HNO := Lib.hid hno
        clear hno hget hgD
        have hfin : ∀ (hB : B0 = true ∨ B0 = false), Calls Tryd.prog 16 #[.string ⟨s.toArray⟩] w fun e w' => e = .returned (numP (numS s)) ∧ w = w' := by
          intro hB
          have hl9 : s.length ≤ 9 := by omega
          have hl1 : 1 ≤ s.length := by omega
          rcases hB with rfl | rfl
          all_goals (first | (have hB2 := hB1 rfl) | skip)
          all_goals clear hB1
          all_goals
            go_enter Tryd.func16, Tryd.ntmps16
            go_wp2_with fail
            go_loopw [4, 5] (fun nv iv wl => ∃ k : Nat, k ≤ s.length ∧ iv = .int .i64 k ∧ nv = .int .i64 (valD (s.take k)) ∧ Hid (∀ j (hj : j < s.length), j < k → isDg s[j] = true) ∧ Hid (w = wl)) (fun _ iv _ => s.length - (intOf iv).toNat)
            case atStart => exact ⟨0, Nat.zero_le _, rfl, rfl, fun j _ hj => absurd hj (Nat.not_lt_zero _), rfl⟩
            case round =>
              obtain ⟨k, hk, rfl, rfl, hdg, hw⟩ := hrel
              obtain rfl : w = wr := hw.out
              clear hw
              obtain ⟨hv1, hv2⟩ := valD_bd k hk hdg.out
              have hp10 : (10 : Int) ^ k ≤ 10 ^ 9 := by
                have h9 := Nat.pow_le_pow_right (n := 10) (by decide) (show k ≤ 9 by omega)
                have h8 : ((10 ^ k : Nat) : Int) ≤ ((10 ^ 9 : Nat) : Int) := by omega
                simpa using h8
              have hv3 : valD (s.take k) < 1000000000 := by omega
              clear hv2 hp10
              by_cases hlt : k < s.length
              · have hkl : (k : Int) < s.length := by omega
                have hgk : ((⟨s.toArray⟩ : ByteArray)[k]'(by rw [HS.out]; exact hlt)).toNat = s[k].toNat := rfl
                have hD := s[k].toNat_lt
                have HTK := Lib.hid (show valD (s.take (k + 1)) = valD (s.take k) * 10 + ((s[k].toNat : Int) - 48) by rw [List.take_succ_eq_append_getElem hlt, valD_snoc])
                have HN2 := Lib.hid (fun h => numS_no2 hlt h)
                have HNX := Lib.hid (show isDg s[k] = true → ∀ j (hj : j < s.length), j < k + 1 → isDg s[j] = true from fun h j hj hjk => by
                  rcases Nat.lt_or_ge j k with h2 | h2
                  · exact hdg.out j hj h2
                  · obtain rfl : j = k := by omega
                    exact h)
                have HDG := Lib.hid (show isDg s[k] = (decide (48 ≤ s[k].toNat) && decide (s[k].toNat ≤ 57)) from rfl)
                clear hdg
                generalize valD (s.take k) = VN at *
                by_cases h5 : s[k].toNat < 48
                · have HQ := Lib.hid (HN2.out (by rw [HDG.out]; simp; omega))
                  have g5 : (((⟨s.toArray⟩ : ByteArray)[k]'(by rw [HS.out]; exact hlt)).toNat : Int) < 48 := by rw [hgk]; omega
                  clear hgk hD
                  go_wp2_with fail
                  refine bodyPost_ret (v := .tuple #[.int .i64 0, .bool false]) (by simp [results, Tryd.results16, go_sem]) rfl ⟨by rw [HQ.out]; rfl, rfl⟩
                · by_cases h6 : 57 < s[k].toNat
                  · have HQ := Lib.hid (HN2.out (by rw [HDG.out]; simp; omega))
                    have g5 : ¬ (((⟨s.toArray⟩ : ByteArray)[k]'(by rw [HS.out]; exact hlt)).toNat : Int) < 48 := by rw [hgk]; omega
                    have g6 : (57 : Int) < (((⟨s.toArray⟩ : ByteArray)[k]'(by rw [HS.out]; exact hlt)).toNat : Int) := by rw [hgk]; omega
                    clear hgk hD
                    go_wp2_with fail
                    refine bodyPost_ret (v := .tuple #[.int .i64 0, .bool false]) (by simp [results, Tryd.results16, go_sem]) rfl ⟨by rw [HQ.out]; rfl, rfl⟩
                  · have HQ := Lib.hid (HNX.out (by rw [HDG.out]; simp; omega))
                    have g5 : ¬ (((⟨s.toArray⟩ : ByteArray)[k]'(by rw [HS.out]; exact hlt)).toNat : Int) < 48 := by rw [hgk]; omega
                    have g6 : ¬ (57 : Int) < (((⟨s.toArray⟩ : ByteArray)[k]'(by rw [HS.out]; exact hlt)).toNat : Int) := by rw [hgk]; omega
                    have hw1 : IntKind.u8.wrap ((((⟨s.toArray⟩ : ByteArray)[k]'(by rw [HS.out]; exact hlt)).toNat : Int) - 48) = (((⟨s.toArray⟩ : ByteArray)[k]'(by rw [HS.out]; exact hlt)).toNat : Int) - 48 := by rw [hgk]; simp [IntKind.wrap, IntKind.signed, IntKind.bits]; omega
                    have hw2 : IntKind.i64.wrap ((((⟨s.toArray⟩ : ByteArray)[k]'(by rw [HS.out]; exact hlt)).toNat : Int) - 48) = (((⟨s.toArray⟩ : ByteArray)[k]'(by rw [HS.out]; exact hlt)).toNat : Int) - 48 := i64_in _ (by rw [hgk]; omega)
                    have hw3 : IntKind.i64.wrap (VN * 10) = VN * 10 := i64_in _ (by omega)
                    have hw4 : IntKind.i64.wrap (VN * 10 + ((((⟨s.toArray⟩ : ByteArray)[k]'(by rw [HS.out]; exact hlt)).toNat : Int) - 48)) = VN * 10 + ((s[k].toNat : Int) - 48) := by rw [hgk]; exact i64_in _ (by omega)
                    clear hgk hD
                    go_wp2_with fail
                    go_roundw
                    case rel => exact ⟨k + 1, hlt, by go_num, by rw [HTK.out], HQ.out, trivial⟩
                    case measure => simp [intOf]; omega
              · obtain rfl : k = s.length := by omega
                have hnl : ¬ ((s.length : Int) < s.length) := by omega
                have HQ := Lib.hid (show numS s = some (valD (s.take s.length)) by rw [List.take_length]; exact numS_yes HNO.out (fun j hj => hdg.out j hj hj))
                go_wp2_with fail
                refine bodyPost_ret (v := .tuple #[.int .i64 (valD (s.take s.length)), .bool true]) (by simp [results, Tryd.results16, go_sem]) rfl ⟨by rw [HQ.out]; rfl, rfl⟩
        exact hfin (by cases B0 <;> simp)
      by_cases h3 : s[0]'(by omega) = 48
      · by_cases h4 : 1 < s.length
        · have HQ := Lib.hid (numS_no1 (.inr (.inr ⟨by rw [hgD]; exact h3, h4⟩)))
          have g3 : ((((⟨s.toArray⟩ : ByteArray)[0]'hb0).toNat : Int) == 48) = true := by rw [hget, h3]; rfl
          have g4 : (1 : Int) < s.length := by omega
          clear h3 hget hgD key
          go_enter Tryd.func16, Tryd.ntmps16
          go_wp2_with fail
          refine bodyPost_ret (v := .tuple #[.int .i64 0, .bool false]) (by simp [results, Tryd.results16, go_sem]) rfl ⟨by rw [HQ.out]; rfl, rfl⟩
        · exact key (fun h => by omega) true (by rw [hget, h3]; rfl) (fun _ => by omega)
      · refine key (fun h => ?_) false ?_ (fun h => by cases h)
        · rcases h with h | h | h
          · omega
          · omega
          · exact h3 (by rw [← hgD]; exact h.1)
        · rw [hget, beq_eq_false_iff_ne]
          intro e
          exact h3 (UInt8.toNat_inj.1 (by have : (48 : UInt8).toNat = 48 := rfl; omega))
theorem wrap64_small {n : Int} (h0 : -1000 ≤ n) (h1 : n ≤ 1000) : wrap64 n = n := by unfold wrap64; omega
theorem fresh_ci {α : Type} [Rep α] {H : Nat} {w : World} {n : Int} {v : Value} {y : α} (h : I64 n) (h2 : Fresh H w [v] y) : Fresh H w [v, .int .i64 n] (y, n) := by
  obtain ⟨ps, ho, hn, hH⟩ := h2
  exact ⟨ps, ⟨ps, [], [v], [_], by simp, rfl, ho, ⟨rfl, rfl, h⟩⟩, hn, hH⟩
theorem eqnS_no {s : List UInt8} (h : ¬ ((splitC 32 s).length = 3 ∧ (splitC 32 s).getD 1 [] = [61] ∧ ((splitC 32 s).getD 2 []).length = 1)) : eqnS s = none := by unfold eqnS; rw [if_neg h]
theorem eqnS_yes {s x0 : List UInt8} {d : UInt8} (h : splitC 32 s = [x0, [61], [d]]) : eqnS s = some (x0.map (fun b => (b.toNat : Int) - 48), (d.toNat : Int) - 48) := by
  unfold eqnS
  rw [h]
  rfl
set_option maxRecDepth 100000 in
set_option maxHeartbeats 8000000 in
theorem l07Line_c (s : List UInt8) (w : World) (hs : s.length ≤ 1048576) :
    Calls Tryd.prog 17 #[.string ⟨s.toArray⟩] w fun e w' => ∃ v0 v1, e = .returned (.tuple #[.agg #[v0, v1], .bool (eqnS s).isSome]) ∧ (eqnS s = none → v0 = .slice none 0 0 ∧ v1 = .int .i64 0) ∧ (∀ x, eqnS s = some x → Fresh w.heap.size w' [v0, v1] x) ∧ Below w.heap.size w w' := by
  obtain ⟨WS, hWS⟩ : ∃ WS, WS = splitC 32 s := ⟨_, rfl⟩
  have HM2 := Lib.hid (show ∀ x, x ∈ WS → x.length ≤ 1048576 from fun x hx => by rw [hWS] at hx; have := (splitC_len 32 s).2 x hx; omega)
  have HNO := Lib.hid (show ¬ (WS.length = 3 ∧ WS.getD 1 [] = [61] ∧ (WS.getD 2 []).length = 1) → eqnS s = none from fun h => eqnS_no (by rw [← hWS]; exact h))
  have HYES := Lib.hid (show ∀ x0 d, WS = [x0, [61], [d]] → eqnS s = some (x0.map (fun b => (b.toNat : Int) - 48), (d.toNat : Int) - 48) from fun x0 d h => eqnS_yes (by rw [← hWS]; exact h))
  have HSP := Lib.hid (show ∀ W : World, Calls Tryd.prog 15 #[.string ⟨s.toArray⟩, .int .u8 32] W fun e w' => ∃ v, e = .returned v ∧ Rd w' [v] WS ∧ Below W.heap.size W w' from fun W => by
    have h1 := l01Split_c s 32 W hs
    rw [← hWS] at h1
    exact h1)
  clear hWS
  have hs1 := (St.start w).alloc #[.slice none 0 0, .int .i64 0] 43 (n := w.heap.size) (by simp)
  have k0_0 := hs1.cellAt 0 rfl 0 rfl
  have k0_1 := hs1.cellAt 0 rfl 1 rfl
  clear k0_0 k0_1
  have k0_0 := hs1.cellAt 0 rfl 0 rfl
  have k0_1 := hs1.cellAt 0 rfl 1 rfl
  go_enter Tryd.func17, Tryd.ntmps17
  go_wp2_with fail
  refine (HSP.out _).mono ?_
  rintro e w2 ⟨v1, rfl, hL1, hbw2⟩
  have hz_w2 : w.heap.size + 1 ≤ w2.heap.size := by have h9 := hbw2.size; (try simp at h9); omega
  have hs3 := hs1.step hbw2
  clear k0_0 k0_1
  have k0_0 := hs3.cellAt 0 rfl 0 rfl
  have k0_1 := hs3.cellAt 0 rfl 1 rfl
  have HL1 := Lib.hid hL1
  clear hL1 HSP
  obtain ⟨a1, c1, rfl, _⟩ := rd_list HL1.out
  by_cases h3 : WS.length = 3
  · obtain ⟨x0, x1, x2, rfl⟩ := len3 h3
    obtain ⟨b1, o1, rfl, q0⟩ := rd_str_at HL1.out 0 (by simp)
    obtain ⟨b1', o1', e1, q1⟩ := rd_str_at HL1.out 1 (by simp)
    obtain ⟨b2', o2', e2, q2⟩ := rd_str_at HL1.out 2 (by simp)
    simp only [Option.some.injEq, Addr.mk.injEq] at e1 e2
    obtain ⟨rfl, rfl, -⟩ := e1
    obtain ⟨rfl, rfl, -⟩ := e2
    simp only [List.getElem_cons_succ, List.getElem_cons_zero, Nat.add_zero] at q0 q1 q2
    have hb1 : b1 < w2.heap.size := World.block_lt_of_cell? _ _ q0
    have hl0 := HM2.out x0 (by simp)
    have hl2 := HM2.out x2 (by simp)
    clear HL1 HM2 h3
    by_cases h4 : x1 = [61]
    · have gq : (x1 == [61]) = true := by simp [h4]
      by_cases h5 : x2.length = 1
      · obtain ⟨d, rfl⟩ : ∃ d, x2 = [d] := by
          match x2, h5 with
          | [d], _ => exact ⟨d, rfl⟩
        have HQ := Lib.hid (HYES.out x0 d (by rw [h4]))
        clear h4 h5 HNO HYES
        have hd := d.toNat_lt
        have hw0 : wrap64 ((((⟨#[d]⟩ : ByteArray)[0]'(Nat.zero_lt_one)).toNat : Nat) : Int) = (d.toNat : Int) := by
          rw [show (((⟨#[d]⟩ : ByteArray)[0]'(Nat.zero_lt_one)).toNat) = d.toNat from rfl]
          unfold wrap64; omega
        have hw1 : wrap64 ((d.toNat : Int) - 48) = (d.toNat : Int) - 48 := by unfold wrap64; omega
        have hI1 : I64 ((d.toNat : Int) - 48) := ⟨by omega, by omega⟩
        obtain ⟨wS, hwS⟩ : ∃ x, x = w2 := ⟨_, rfl⟩
        subst hwS
        have HB0 := Lib.hid (Below.refl wS.heap.size wS)
        have q1k := q1
        have q2k := q2
        have hs4 := hs3.alloc #[.slice none 0 0, .int .i64 ((d.toNat : Int) - 48)] 43 (n := wS.heap.size) (by simp)
        have q0_5 := cellL (belowA _ (.cells #[.slice none 0 0, .int .i64 ((d.toNat : Int) - 48)] 43)) q0
        clear q0
        have q1_6 := cellL (belowA _ (.cells #[.slice none 0 0, .int .i64 ((d.toNat : Int) - 48)] 43)) q1
        clear q1
        have q2_7 := cellL (belowA _ (.cells #[.slice none 0 0, .int .i64 ((d.toNat : Int) - 48)] 43)) q2
        clear q2
        clear k0_0 k0_1
        have k0_0 := hs4.cellAt 0 rfl 0 rfl
        have k0_1 := hs4.cellAt 0 rfl 1 rfl
        have k1_0 := hs4.cellAt 1 rfl 0 rfl
        have k1_1 := hs4.cellAt 1 rfl 1 rfl
        have HS6 := Lib.hid hs4
        have HC6 := Lib.hid q0_5
        go_wp2_with fail
        clear q1k q2k
        go_loopw [6] (fun iv wl => ∃ (k : Nat) (av : Option Addr) (cv : Nat), k ≤ x0.length ∧ iv = .int .i64 k ∧ Hid (St w (wS.heap.size + 1) wl [(w.heap.size, #[.slice none 0 0, .int .i64 0], 43), (wS.heap.size, #[.slice av k cv, .int .i64 ((d.toNat : Int) - 48)], 43)]) ∧ Hid (wl.cell? ⟨b1, o1, none⟩ = some (.string ⟨x0.toArray⟩)) ∧
          Hid (AccP (fun z => wS.heap.size + 1 ≤ z ∧ z < wl.heap.size) 2 wl (.slice av k cv) ((x0.take k).map (fun b => (b.toNat : Int) - 48)))) (fun iv _ => x0.length - (intOf iv).toNat)
        case atStart => exact ⟨0, none, 0, Nat.zero_le _, rfl, HS6.out, HC6.out, AccP.nil _ _ _⟩
        case round =>
          clear HS6 HC6
          obtain ⟨k, av, cv, hk, rfl, hst, hcb, hac⟩ := hrel
          have hzr : wS.heap.size + 1 ≤ wr.heap.size := hst.out.hi
          have HAV := Lib.hid (AccP.wk hac.out.tight (C := fun z => wS.heap.size + 1 ≤ z ∧ z < wr.heap.size) (fun z h => h.1))
          clear hac
          have qw := hcb.out
          have k0_0 := hst.out.cellAt 0 rfl 0 rfl
          have k0_1 := hst.out.cellAt 0 rfl 1 rfl
          have k1_0 := hst.out.cellAt 1 rfl 0 rfl
          have k1_1 := hst.out.cellAt 1 rfl 1 rfl
          have hszx : (⟨x0.toArray⟩ : ByteArray).size = x0.length := by simp [ByteArray.size]
          have HSX := Lib.hid hszx
          clear hszx
          by_cases hlt : k < x0.length
          · have hkl : (k : Int) < x0.length := by omega
            have hgk : ((⟨x0.toArray⟩ : ByteArray)[k]'(by rw [HSX.out]; exact hlt)).toNat = x0[k].toNat := rfl
            have hD := x0[k].toNat_lt
            have HTK := Lib.hid (show (x0.take k).map (fun b : UInt8 => (b.toNat : Int) - 48) ++ [(x0[k].toNat : Int) - 48] = (x0.take (k + 1)).map (fun b : UInt8 => (b.toNat : Int) - 48) from map_takeD (fun b : UInt8 => (b.toNat : Int) - 48) x0 hlt)
            have HLK := Lib.hid (show ((x0.take k).map (fun b : UInt8 => (b.toNat : Int) - 48)).length = k by rw [List.length_map, List.length_take]; omega)
            generalize x0[k].toNat = dd at *
            have hI2 : I64 ((dd : Int) - 48) := ⟨by omega, by omega⟩
            have HGK := Lib.hid hgk
            clear hgk
            have hw3 : IntKind.i64.wrap ((dd : Int) - 48) = (dd : Int) - 48 := by rw [IntKind.wrap_i64]; omega
            have HW2 := Lib.hid (show IntKind.i64.wrap (((⟨x0.toArray⟩ : ByteArray)[k]'(by rw [HSX.out]; exact hlt)).toNat : Int) = (dd : Int) from (congrArg (fun q : Nat => IntKind.i64.wrap (q : Int)) HGK.out).trans (by rw [IntKind.wrap_i64]; omega))
            go_upto_region 8 with fail
            clear HGK
            refine wp_region_noPanic (wp_region_tree4 (fun w' => w'.cell? ⟨w.heap.size, 0, none⟩ = some (.slice none 0 0) ∧ w'.cell? ⟨w.heap.size, 1, none⟩ = some (.int .i64 0) ∧ w'.cell? ⟨wS.heap.size, 0, none⟩ = some (.slice av k cv) ∧ w'.cell? ⟨wS.heap.size, 1, none⟩ = some (.int .i64 ((d.toNat : Int) - 48)) ∧ w'.cell? ⟨b1, o1, none⟩ = some (.string ⟨x0.toArray⟩)) (.float 0 (.float 1 (.float 2 (.float 3 (.float 4 (.float 5 (.float 6 (.float 7 (.float 8 (.hard 9 (.hard 10 (.float 11 (.last 12 .nil))))))))))))) (by kernel_rfl) (by kernel_rfl) (by kernel_rfl) rfl ?_ (fun _ _ _ _ _ h => h) ?_)
            · exact ⟨(hst.out.drew).cellAt 0 rfl 0 rfl, (hst.out.drew).cellAt 0 rfl 1 rfl, (hst.out.drew).cellAt 1 rfl 0 rfl, (hst.out.drew).cellAt 1 rfl 1 rfl, cellL (belowD _) qw⟩
            have hs8 := hst.out.drew
            have qw_9 := cellL (belowD _) qw
            clear qw
            have HAV_10 := Lib.hid (AccP.mono HAV.out (belowD _))
            clear HAV
            clear k0_0 k0_1 k1_0 k1_1
            have hz_wd11 : wr.heap.size ≤ (wr.drew).heap.size := by simp
            generalize hgen_wd11 : wr.drew = wd11 at *
            have HG_wd11 := Lib.hid hgen_wd11
            clear hgen_wd11
            (repeat (first | (apply t4_skip rfl (by rfl); try simp only [Act.put, List.setIfInBounds_toArray, List.set_cons_zero, List.set_cons_succ]) | (apply t4_float rfl (by rfl); (· (intro w' hS; go_simp <;> with_reducible rfl)); (try simp only [Act.put, List.setIfInBounds_toArray, List.set_cons_zero, List.set_cons_succ]))))
            refine t4_hard rfl (by rfl) (fun K hK => ?_)
            simp only [HW2.out, hw3]
            clear HW2
            go_wp2_with fail
            have hs12 := hs8.alloc #[.int .i64 ((dd : Int) - 48)] 2 (n := wd11.heap.size) (by simp)
            have qw_13 := cellL (belowA _ (.cells #[.int .i64 ((dd : Int) - 48)] 2)) qw_9
            clear qw_9
            have HAV_14 := Lib.hid (AccP.mono HAV_10.out (belowA _ (.cells #[.int .i64 ((dd : Int) - 48)] 2)))
            clear HAV_10
            refine ⟨⟨hs12.cellAt 0 rfl 0 rfl, hs12.cellAt 0 rfl 1 rfl, hs12.cellAt 1 rfl 0 rfl, hs12.cellAt 1 rfl 1 rfl, qw_13⟩, ?_⟩
            (repeat (first | (apply t4_skip rfl (by rfl); try simp only [Act.put, List.setIfInBounds_toArray, List.set_cons_zero, List.set_cons_succ]) | (apply t4_float rfl (by rfl); (· (intro w' hS; go_simp <;> with_reducible rfl)); (try simp only [Act.put, List.setIfInBounds_toArray, List.set_cons_zero, List.set_cons_succ]))))
            refine t4_hard rfl (by rfl) (fun K hK => ?_)
            have hsW := hs12.hi
            refine wp_append_accP _ _ _ _ rfl E_ints rfl HAV_14.out (ip_int1 (C := fun _ => False) hI2) (fun z _ h => h) ⟨wd11.heap.size, 0, none⟩ 1 rfl (news1 (hs12.cellAt 2 rfl 0 rfl)) (by rw [HLK.out]; omega) ?_
            simp only [HLK.out, HTK.out]
            intro a8 c8 w8 hA8 hB8
            have hz8 := hB8.size
            have hs8 := hs12.butP hB8 (fun z hz => by have := hz.1; omega) (fun x hx hA => by have h1 := hA.1; have h2 := hA.2; simp at hx; rcases hx with rfl | rfl | rfl <;> (try simp only at h1 h2) <;> omega)
            have HA8 := Lib.hid (AccP.wk hA8.tight (C := fun z => wS.heap.size + 1 ≤ z ∧ z < w8.heap.size) (fun z hz => ⟨by
              rcases hz.1 with h | h | h
              · exact h.1
              · exact h.elim
              · rw [h]; (try simp); omega, hz.2⟩))
            clear hA8
            clear HAV_14
            have qw_15 := cellB hB8 qw_13 (fun h => by have := h.1; omega)
            clear qw_13
            refine hK _ _ ⟨⟨hs8.cellAt 0 rfl 0 rfl, hs8.cellAt 0 rfl 1 rfl, hs8.cellAt 1 rfl 0 rfl, hs8.cellAt 1 rfl 1 rfl, qw_15⟩, ?_⟩
            (repeat (first | (apply t4_skip rfl (by rfl); try simp only [Act.put, List.setIfInBounds_toArray, List.set_cons_zero, List.set_cons_succ]) | (apply t4_float rfl (by rfl); (· (intro w' hS; go_simp <;> with_reducible rfl)); (try simp only [Act.put, List.setIfInBounds_toArray, List.set_cons_zero, List.set_cons_succ]))))
            refine t4_last rfl (by rfl) (fun K hK => ?_)
            have k0_0 := hs8.cellAt 0 rfl 0 rfl
            have k0_1 := hs8.cellAt 0 rfl 1 rfl
            have k1_0 := hs8.cellAt 1 rfl 0 rfl
            have k1_1 := hs8.cellAt 1 rfl 1 rfl
            have k2_0 := hs8.cellAt 2 rfl 0 rfl
            have hs16 := hs8.low (B' := wS.heap.size + 1) (bx' := [(w.heap.size, #[.slice none 0 0, .int .i64 0], 43), (wS.heap.size, #[.slice av k cv, .int .i64 ((d.toNat : Int) - 48)], 43)]) (by omega) (by (try simp) <;> omega) (fun x hx => by simp only [List.mem_cons, List.not_mem_nil, or_false] at hx; rcases hx with rfl | rfl <;> (refine ⟨?_, ?_⟩ <;> (try simp) <;> (try omega)))
            have f1_0 := hs16.freeAt 1 rfl 0
            have f1_1 := hs16.freeAt 1 rfl 1
            have HAV := HA8
            clear HA8
            go_wp2_with fail
            refine t4_nil (NoPanic.normal ?_)
            have hs17 := hs16.set (p := [_]) (by simp <;> omega) 0 (.slice a8 (k + 1) c8)
            have qw_18 := (cell_put (b' := wS.heap.size) (o' := 0) (u := .slice a8 (k + 1) c8) qw_15 (by (try simp) <;> omega))
            clear qw_15
            have HAV_19 := Lib.hid (AccP.setCell (b := wS.heap.size) (o := 0) HAV.out (.slice a8 (k + 1) c8) (by intro hA9; (try simp only at hA9); omega))
            clear HAV
            clear k0_0 k0_1 k1_0 k1_1 k2_0
            have hz_wP : w8.heap.size ≤ ((w8.setCell ⟨wS.heap.size, 0, none⟩ (.slice a8 (k + 1) c8))).heap.size := by simp [World.setCell]
            generalize hgen_wP : (w8.setCell ⟨wS.heap.size, 0, none⟩ (.slice a8 (k + 1) c8)) = wP at *
            clear hgen_wP
            have k0_0 := hs17.cellAt 0 rfl 0 rfl
            have k0_1 := hs17.cellAt 0 rfl 1 rfl
            have k1_0 := hs17.cellAt 1 rfl 0 rfl
            have k1_1 := hs17.cellAt 1 rfl 1 rfl
            go_wp2_with fail
            go_roundw
            case rel => exact ⟨k + 1, a8, c8, hlt, by go_num, hs17, qw_18, AccP.wk HAV_19.out (fun z hz => ⟨hz.1, by have := hz.2; omega⟩)⟩
            case measure => simp [intOf]; omega
          · obtain rfl : k = x0.length := by omega
            have hnl : ¬ ((x0.length : Int) < x0.length) := by omega
            have HFA := Lib.hid (show Fresh (wS.heap.size + 1) wr [.slice av x0.length cv] (x0.map (fun b => (b.toNat : Int) - 48)) from by
              have h := HAV.out
              rw [List.take_length] at h
              exact h.ip.fresh (fun k hk => hk.1))
            clear HAV
            have g0 := (hst.out.freeAt 0 rfl 0)
            have g1 := (hst.out.freeAt 0 rfl 1)
            have hs9 := ((hst.out.set (p := []) (by simp <;> omega) 0 (.slice av x0.length cv)).set (p := []) (by simp <;> omega) 1 (.int .i64 ((d.toNat : Int) - 48)))
            have HF9 := Lib.hid (show Fresh w.heap.size ((wr.setCell ⟨w.heap.size, 0, none⟩ (.slice av x0.length cv)).setCell ⟨w.heap.size, 1, none⟩ (.int .i64 ((d.toNat : Int) - 48))) [.slice av x0.length cv, .int .i64 ((d.toNat : Int) - 48)] (x0.map (fun b => (b.toNat : Int) - 48), (d.toNat : Int) - 48) from
              fresh_ci hI1 (((HFA.out.setCell (a := ⟨w.heap.size, 0, none⟩) (by simp <;> omega) (.slice av x0.length cv)).setCell (a := ⟨w.heap.size, 1, none⟩) (by simp <;> omega) (.int .i64 ((d.toNat : Int) - 48))).lower (by omega)))
            have HB9 := Lib.hid hs9.bel
            have y0 := hs9.cellAt 0 rfl 0 rfl
            have y1 := hs9.cellAt 0 rfl 1 rfl
            clear hs9
            go_wp2_with fail
            refine bodyPost_ret (v := .tuple #[.agg #[.slice av x0.length cv, .int .i64 ((d.toNat : Int) - 48)], .bool true]) (by simp [results, Tryd.results17, go_sem, y0, y1]) rfl ⟨.slice av x0.length cv, .int .i64 ((d.toNat : Int) - 48), by rw [HQ.out]; rfl, (fun h9 => by rw [HQ.out] at h9; cases h9), fun x y hx => (by rw [HQ.out] at hx; simp only [Option.some.injEq, Prod.mk.injEq] at hx; obtain ⟨rfl, rfl⟩ := hx; exact HF9.out), HB9.out⟩
      · have H1 := Lib.hid (HNO.out (fun h => h5 h.2.2))
        have g5 : ((x2.length : Int) != 1) = true := by rw [bne_iff_ne]; omega
        clear h4 h5 HNO HYES
        have g0 := (hs3.freeAt 0 rfl 0)
        have g1 := (hs3.freeAt 0 rfl 1)
        have hs9 := ((hs3.set (p := []) (by simp <;> omega) 0 (.slice none 0 0)).set (p := []) (by simp <;> omega) 1 (.int .i64 0))
        have HB9 := Lib.hid hs9.bel
        have y0 := hs9.cellAt 0 rfl 0 rfl
        have y1 := hs9.cellAt 0 rfl 1 rfl
        clear hs9
        go_wp2_with fail
        refine bodyPost_ret (v := .tuple #[.agg #[.slice none 0 0, .int .i64 0], .bool false]) (by simp [results, Tryd.results17, go_sem, y0, y1]) rfl ⟨_, _, by rw [H1.out]; rfl, fun _ => ⟨rfl, rfl⟩, fun x hx => (by rw [H1.out] at hx; cases hx), HB9.out⟩
    · have gq : (x1 == [61]) = false := by simp [h4]
      have H1 := Lib.hid (HNO.out (fun h => h4 h.2.1))
      clear h4 HNO HYES
      have g0 := (hs3.freeAt 0 rfl 0)
      have g1 := (hs3.freeAt 0 rfl 1)
      have hs9 := ((hs3.set (p := []) (by simp <;> omega) 0 (.slice none 0 0)).set (p := []) (by simp <;> omega) 1 (.int .i64 0))
      have HB9 := Lib.hid hs9.bel
      have y0 := hs9.cellAt 0 rfl 0 rfl
      have y1 := hs9.cellAt 0 rfl 1 rfl
      clear hs9
      go_wp2_with fail
      refine bodyPost_ret (v := .tuple #[.agg #[.slice none 0 0, .int .i64 0], .bool false]) (by simp [results, Tryd.results17, go_sem, y0, y1]) rfl ⟨_, _, by rw [H1.out]; rfl, fun _ => ⟨rfl, rfl⟩, fun x hx => (by rw [H1.out] at hx; cases hx), HB9.out⟩
  · have H1 := Lib.hid (HNO.out (fun h => h3 h.1))
    have hb : ((WS.length : Int) != 3) = true := by rw [bne_iff_ne]; omega
    clear h3 HNO HYES
    have g0 := (hs3.freeAt 0 rfl 0)
    have g1 := (hs3.freeAt 0 rfl 1)
    have hs9 := ((hs3.set (p := []) (by simp <;> omega) 0 (.slice none 0 0)).set (p := []) (by simp <;> omega) 1 (.int .i64 0))
    have HB9 := Lib.hid hs9.bel
    have y0 := hs9.cellAt 0 rfl 0 rfl
    have y1 := hs9.cellAt 0 rfl 1 rfl
    clear hs9
    go_wp2_with fail
    refine bodyPost_ret (v := .tuple #[.agg #[.slice none 0 0, .int .i64 0], .bool false]) (by simp [results, Tryd.results17, go_sem, y0, y1]) rfl ⟨_, _, by rw [H1.out]; rfl, fun _ => ⟨rfl, rfl⟩, fun x hx => (by rw [H1.out] at hx; cases hx), HB9.out⟩

end Go.Proofs.YtjnkkjgkinmhkaaDoor
