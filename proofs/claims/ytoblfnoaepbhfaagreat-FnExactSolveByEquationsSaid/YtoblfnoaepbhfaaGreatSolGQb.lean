import Derived.Test.YtoblfnoaepbhfaaGreatMarkSQb
import Derived.Test.YtoblfnoaepbhfaaGreatSolEQb
set_option linter.unusedSimpArgs false
namespace Go.Proofs.YtoblfnoaepbhfaaGreat
open Go.RowKit
theorem solveF_smallG (x : Sys) : (solveF x).1.length ≤ 1000000 := by
  unfold solveF
  split
  · rename_i h
    have K := elim_ok h
    split
    · simp
    · have := K.hu
      rw [solveTo_length]; omega
  · simp
theorem refuteF_smallG (x : Sys) : (refuteF x).1.length ≤ 1000000 := by
  unfold refuteF
  split
  · rename_i h
    have K := elim_ok h
    split
    · rename_i hf
      have := (K.bad hf).1.by_
      have := K.hl
      simp [scaleS, scaleL]; omega
    · simp
  · simp
theorem solveEF_small (t : Tmpl) (x : Inst) : mc_Verdict (solveEF t x).1 ≤ 1000000 := by
  have e1 : mc_Int64S [] = 0 := rfl
  have e2 : mc_ArcStepS [] = 0 := rfl
  have e3 : mc_PairStepS [] = 0 := rfl
  have key : ∀ v : Vdct, mc_Verdict v = mc_Int64S v.2.1 + mc_ArcStepS v.2.2.1 + mc_PairStepS v.2.2.2.1 + mc_Int64S v.2.2.2.2 := fun _ => rfl
  unfold solveEF
  split
  · split
    · have h := solveF_smallG (systemF t x).1
      have e4 : mc_Int64S (solveF (systemF t x).1).1 = (solveF (systemF t x).1).1.length := rfl
      rw [key]
      show mc_Int64S (solveF (systemF t x).1).1 + mc_ArcStepS [] + mc_PairStepS [] + mc_Int64S [] ≤ 1000000
      omega
    · have h := refuteF_smallG (systemF t x).1
      have e4 : mc_Int64S (refuteF (systemF t x).1).1 = (refuteF (systemF t x).1).1.length := rfl
      rw [key]
      show mc_Int64S [] + mc_ArcStepS [] + mc_PairStepS [] + mc_Int64S (refuteF (systemF t x).1).1 ≤ 1000000
      omega
  · show mc_Int64S [] + mc_ArcStepS [] + mc_PairStepS [] + mc_Int64S [] ≤ 1000000
    omega
end Go.Proofs.YtoblfnoaepbhfaaGreat

