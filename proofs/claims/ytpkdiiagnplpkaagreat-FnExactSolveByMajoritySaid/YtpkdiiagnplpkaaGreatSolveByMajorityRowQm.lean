import Derived.Test.YtpkdiiagnplpkaaGreatSolveByMajorityLawQm
import Derived.Test.YtpkdiiagnplpkaaGreatKindsQm
import Derived.ProofKit
import Derived.OpenShut
import Derived.ShutString
import Derived.ChangeOld
import Derived.Below
set_option linter.unusedSimpArgs false
set_option linter.unusedVariables false
set_option maxRecDepth 100000
namespace Go.Proofs.YtpkdiiagnplpkaaGreat.fnExactSolveByMajority
open Go.ChangeShapes Go.WideShapes Go.ChangeAt Go.RowKit
theorem own : ownKnob Tryz.prog.godebug = none := by kernel_rfl
theorem laidOut : laidOutB Tryz.prog = true := by kernel_rfl
theorem lifted (os : Os) (started : os.Started) (H : Type) (enc : TypeId × Value → H) :
 ReturnsInHanded {} Tryz.checked os 3 .any (Rows.fnExactSolveByMajoritySpec.pre6 enc Tryz.prog Tryz.f3 Rows.fnExactSolveByMajorityRow.domain false) (Rows.fnExactSolveByMajoritySpec.post enc Tryz.prog Tryz.f3 false true false false) := by
 refine returnsInHanded_of_change (C := Tryz.checked) own started (by kernel_rfl) Tryz.func3
  (ChangeSpec.witness6 (enc := enc) (C := Tryz.checked) false ⟨#[], #[.agg #[.int .i64 0, .slice none 0 0], .agg #[.int .i64 0, .slice none 0 0], .agg #[.int .i64 0, .slice none 0 0]], []⟩ 8 (by kernel_rfl) (by kernel_rfl) (by kernel_rfl) (by kernel_rfl)) ?_
 intro W base args ds gs before hval0 hW hcnd _
 have hval : ∀ (j : Nat) t v, Tryz.f3.params[j]? = some t → args[j]? = some v → Value.okWide Tryz.prog W .any base t v := hval0
 have hW' := hW
 obtain ⟨p, q, hA0, hV, rfl, hfz, hnd⟩ := hW
 have hA : DataW.TrodAll enc Tryz.prog W 0 (fun _ => true) true Tryz.f3.params.toList args.toList ds p := hA0
 rw [Tryz.params3] at hA hval
 obtain ⟨v0, vs0, d0, ds0, p0, q0, hargs, rfl, rfl, h0, r0⟩ := trodAll_cons hA
 obtain ⟨v1, vs1, d1, ds1, p1, q1, rfl, rfl, rfl, h1, r1⟩ := trodAll_cons r0
 obtain ⟨v2, vs2, d2, ds2, p2, q2, rfl, rfl, rfl, h2, r2⟩ := trodAll_cons r1
 obtain ⟨rfl, rfl, rfl⟩ := trodAll_nil r2
 obtain rfl : args = #[v0, v1, v2] := by cases args; simp_all
 obtain ⟨rfl, rfl⟩ := trodVars_none hV
 obtain ⟨cs0, rfl, sz0⟩ := okWide_struct Tryz.underlying24 (hval 0 24 v0 rfl rfl)
 have k0 := h0
 have lt0 : ∀ x ∈ p0, x.block < W.heap.size := by obtain ⟨m, hm⟩ := k0; exact DataW.trod_lt m _ _ _ hm
 obtain ⟨fuel0, hf0⟩ := h0
 obtain ⟨x0, R0⟩ := opens_Template hf0
 obtain ⟨l0⟩ := cs0
 obtain ⟨u00, u01, rfl⟩ := len_2 (show l0.length = 2 from Rep.rd_len R0)
 obtain ⟨cs1, rfl, sz1⟩ := okWide_struct Tryz.underlying27 (hval 1 27 v1 rfl rfl)
 have k1 := h1
 have lt1 : ∀ x ∈ p1, x.block < W.heap.size := by obtain ⟨m, hm⟩ := k1; exact DataW.trod_lt m _ _ _ hm
 obtain ⟨fuel1, hf1⟩ := h1
 obtain ⟨x1, R1⟩ := opens_Instance hf1
 obtain ⟨l1⟩ := cs1
 obtain ⟨u10, u11, rfl⟩ := len_2 (show l1.length = 2 from Rep.rd_len R1)
 obtain ⟨cs2, rfl, sz2⟩ := okWide_struct Tryz.underlying30 (hval 2 30 v2 rfl rfl)
 have k2 := h2
 have lt2 : ∀ x ∈ p2, x.block < W.heap.size := by obtain ⟨m, hm⟩ := k2; exact DataW.trod_lt m _ _ _ hm
 obtain ⟨fuel2, hf2⟩ := h2
 obtain ⟨x2, R2⟩ := opens_Op hf2
 obtain ⟨l2⟩ := cs2
 obtain ⟨u20, u21, rfl⟩ := len_2 (show l2.length = 2 from Rep.rd_len R2)
 clear hA0 hval0
 refine (FnExactSolveByMajority_c x0 _ _ x1 _ _ x2 _ _ W R0 R1 R2).mono fun e W' ⟨he, bel⟩ => ?_
 subst he
 exact ⟨_, rfl, _, _, _, [], _, [], hW', trodAll_mk1 (shut_bool Tryz.underlying4 _), (trodAll_cons_mk (Below.trod laidOut (by kernel_rfl) (of_decide_eq_true (by kernel_rfl)) k0 bel lt0) (trodAll_cons_mk (Below.trod laidOut (by kernel_rfl) (of_decide_eq_true (by kernel_rfl)) k1 bel lt1) (trodAll_cons_mk (Below.trod laidOut (by kernel_rfl) (of_decide_eq_true (by kernel_rfl)) k2 bel lt2) trodAll_mk0))), rfl, bel.frame _, fun h => by cases h⟩
theorem and_tt {a b : Bool} (h1 : a = true) (h2 : b = true) : (a && b) = true := by rw [h1, h2]; rfl
theorem c1 : (Rows.fnExactSolveByMajorityRow.inPlace == Tryz.pinned.checked.prog.inPlace 3) = true := by kernel_rfl
theorem c2 : (Rows.fnExactSolveByMajorityRow.unfollowed == Tryz.pinned.checked.prog.unfollowed 3) = true := by kernel_rfl
theorem c3 : (Rows.fnExactSolveByMajorityRow.recurses == Tryz.pinned.checked.prog.recurses 3) = true := by kernel_rfl
theorem c4 : (Rows.fnExactSolveByMajorityRow.named == Tryz.pinned.checked.prog.varsNamed 3) = true := by kernel_rfl
theorem closed : joinedFacts Tryz.pinned.checked.prog 3 Tryz.f3 Rows.fnExactSolveByMajoritySpec Rows.fnExactSolveByMajorityRow = true := by
 unfold joinedFacts
 repeat' (with_reducible refine and_tt ?_ ?_)
 all_goals first | with_reducible exact c1 | with_reducible exact c2 | with_reducible exact c3 | with_reducible exact c4 | kernel_rfl
theorem over : Rows.fnExactSolveByMajorityRow.holds Tryz.pinned (OpenSpec.ofChange Rows.fnExactSolveByMajoritySpec) :=
 OpenClaim.holds_of_wide 3 Tryz.f3 rfl rfl rfl rfl rfl rfl rfl ⟨rfl, rfl, rfl, rfl, rfl⟩ rfl rfl rfl rfl rfl (by kernel_rfl) Tryz.func3 closed
  (of_decide_eq_true (by kernel_rfl)) (by unfold Func.isWrapper; first | (rw [if_pos (by decide +kernel)]; kernel_rfl) | (rw [if_neg (by decide +kernel)]; exact ⟨rfl, rfl⟩))
  (fun os started H enc _ => lifted os started H enc)
theorem proved : Rows.FnExactSolveByMajoritySaid := over
end Go.Proofs.YtpkdiiagnplpkaaGreat.fnExactSolveByMajority
