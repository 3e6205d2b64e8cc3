/-
  THE LAW FnExactAffineOp, WALKED.
-/
import Derived.Test.YtndpinikniameaaAff
import Derived.Test.YtndpinikniameaaLawOp
namespace Go.Proofs.Ytndpinikniameaa
open Go.RowKit Go.Shelf
open Rep (Rd Own sz)
set_option linter.unusedSimpArgs false
set_option linter.unusedVariables false

set_option maxRecDepth 100000 in
set_option maxHeartbeats 1000000 in
theorem FnExactAffineOp_c (p : Int) (w : World) :
    Calls Try.prog 4 #[.int .i64 p] w fun e w' => e = .returned (.bool true) ∧ Below w.heap.size w w' := by
  generalize hR : affRes p = R
  obtain ⟨⟨ar, tb⟩, code⟩ := R
  have HR := Lib.hid hR
  have hlen : tb.length ≤ 1000 := by
    have : tb = (affRes p).1.2 := by rw [hR]
    rw [this]
    unfold affRes
    cases hp : isPr p with
    | false => simp
    | true =>
      have : p = 2 ∨ p = 3 := isPr_true hp
      rcases this with rfl | rfl <;> simp [affOp]
  have hI : I64 ar := by
    have : ar = (affRes p).1.1 := by rw [hR]
    rw [this]
    unfold affRes
    split
    · exact ⟨by simp [affOp], by simp [affOp]⟩
    · exact ⟨by simp, by simp⟩
  have cS := fun W => sAffineOp_c p W
  have cI := fun W => AffineOp_c p W
  rw [hR] at cS cI
  have CS := Lib.hid cS
  have CI := Lib.hid cI
  clear cS cI hR
  go_enter Try.func4, Try.ntmps4
  go_wp2_with fail
  refine (CS.out _).mono ?_
  rintro e w1 ⟨v1, rfl, fr1, hb1⟩
  have iv1 := fr1.iv
  obtain ⟨a1, c1, rfl, _⟩ := rd_list (Iv.rd iv1)
  have hs1 := ((St.start w).step hb1).alloc #[.int .i64 ar, .slice a1 tb.length c1] 32 rfl
  have hz1 := hb1.size
  go_wp2_with fail
  refine (CI.out _).mono ?_
  rintro e w2 ⟨v2, rfl, fr2, hb2⟩
  have iv2 := fr2.iv
  obtain ⟨a2, c2, rfl, _⟩ := rd_list (Iv.rd iv2)
  have hz2 : w1.heap.size + 1 ≤ w2.heap.size := by simpa using hb2.size
  have hs2 := (hs1.step hb2).alloc #[.int .i64 ar, .slice a2 tb.length c2] 32 rfl
  have q0 := hs2.cellAt 0 rfl 0 rfl
  have q1 := hs2.cellAt 0 rfl 1 rfl
  clear fr1 fr2
  have J1 := Lib.hid ((iv1.mono (belowA _ _)).mono hb2)
  have J2 := Lib.hid iv2
  have S2 := Lib.hid hs2
  clear iv1 iv2 hs1 hs2
  go_wp2_with fail
  refine (eqOp_c (ar, tb) (ar, tb) _ _ _ _ _ (mk_cons (mk_rdint hI) (Iv.rd (J2.out.mono (belowA _ _)))) (mk_cons (mk_rdint hI) (Iv.rd (J1.out.mono (belowA _ _))))).mono ?_
  rintro e w3 ⟨rfl, hb3⟩
  have S3 := S2.out.step hb3
  have K2 := (J2.out.mono (belowA _ _)).mono hb3
  have K1 := (J1.out.mono (belowA _ _)).mono hb3
  have q2 := S3.cellAt 1 rfl 0 rfl
  have q3 := S3.cellAt 1 rfl 1 rfl
  rw [decide_eq_true (rfl : (ar, tb) = (ar, tb))]
  have hcode : (code != code) = false := by simp
  have J1' := Lib.hid K1
  have S3' := Lib.hid S3
  obtain ⟨ps, ho, hn, hps⟩ := K2
  have HO := Lib.hid ho
  clear K1 S3 ho q0 q1
  go_wp2_with fail
  refine (markOp_h (ar, tb) _ _ ps _ 1 (mk_own_op hI HO.out) (by omega) (by simp only; omega)).mono ?_
  rintro e w4 ⟨y, m, rfl, m0, m1, hy, hh, hbut⟩
  have hps' : ∀ k, k ∈ ps → w1.heap.size < k ∧ k < w2.heap.size := fun k hk => by have := hps k hk; simp at this; omega
  have S4 := S3'.out.butIv hbut (fun k hk => by have := hps' k hk; omega) (fun x hx hp => by have := hps' _ hp; simp at hx; rcases hx with rfl | rfl <;> simp at this)
  have K1 := Lib.hid (J1'.out.but hbut (fun k hk => by have := hps' k hk; omega))
  have q0 := S4.cellAt 1 rfl 0 rfl
  have q1 := S4.cellAt 1 rfl 1 rfl
  have R4 := Lib.hid (Rep.own_rd hy)
  have HY := Lib.hid hy
  have HH := Lib.hid hh
  have S4' := Lib.hid S4
  simp only at m1
  clear q2 q3 hy hh S4
  go_wp2_with fail
  refine (heldOp_h y _ _ _ 1 m R4.out HH.out (by omega) (by omega) (by omega)).mono ?_
  rintro e w5 ⟨rfl, hb5⟩
  have S5 := Lib.hid (S4'.out.step hb5)
  have hmm : (m != m) = false := by simp
  go_wp2_with fail
  refine (CI.out _).mono ?_
  rintro e w6 ⟨v3, rfl, fr3, hb6⟩
  have iv3 := fr3.iv
  obtain ⟨a3, c3, rfl, _⟩ := rd_list (Iv.rd iv3)
  have S6 := (S5.out.step hb6).alloc #[.int .i64 ar, .slice a3 tb.length c3] 32 rfl
  have hbA := (hb5.trans (hb6.mono hb5.size)).trans ((belowA w6 (.cells #[.int .i64 ar, .slice a3 tb.length c3] 32)).mono (Nat.le_trans hb5.size hb6.size))
  have K3 := Lib.hid (K1.out.mono hbA)
  have R6 := Lib.hid (Rd.mono R4.out hbA)
  have K4 := Lib.hid (iv3.mono (belowA w6 (.cells #[.int .i64 ar, .slice a3 tb.length c3] 32)))
  have q2 := S6.cellAt 0 rfl 0 rfl
  have q3 := S6.cellAt 0 rfl 1 rfl
  have S6' := Lib.hid S6
  clear q0 q1 S6 fr3 iv3
  go_wp2_with fail
  refine (eqOp_c (ar, tb) (ar, tb) _ _ _ _ _ (mk_cons (mk_rdint hI) (Iv.rd K4.out)) (mk_cons (mk_rdint hI) (Iv.rd K3.out))).mono ?_
  rintro e w7 ⟨rfl, hb7⟩
  rw [decide_eq_true (rfl : (ar, tb) = (ar, tb))]
  have S7 := S6'.out.step hb7
  have q4 := S7.cellAt 1 rfl 0 rfl
  have q5 := S7.cellAt 1 rfl 1 rfl
  have S7' := Lib.hid S7
  clear q2 q3 S7
  go_wp2_with fail
  refine (heldOp_h y _ _ _ 1 m (Rd.mono R6.out hb7) HH.out (by omega) (by omega) (by omega)).mono ?_
  rintro e w8 ⟨rfl, hb8⟩
  go_wp2_with fail
  go_ret
  exact ⟨rfl, (S7'.out.step hb8).bel⟩

end Go.Proofs.Ytndpinikniameaa
