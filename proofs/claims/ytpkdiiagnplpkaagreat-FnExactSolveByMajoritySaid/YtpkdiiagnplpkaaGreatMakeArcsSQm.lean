import Derived.Test.YtpkdiiagnplpkaaGreatArcFBQm
import Derived.Test.YtpkdiiagnplpkaaGreatArcsSQm
set_option linter.unusedSimpArgs false
set_option linter.unusedVariables false
namespace Go.Proofs.YtpkdiiagnplpkaaGreat
open Go.RowKit Go.Shelf Go.IntWalk
open Rep (Rd Own sz)
theorem l05Arcs_c (t : Tmpl) (x : Inst) (ds : List (List Int)) (t0 t1 x0 x1 : Value) (tb xb g cd V C : Nat) (AD : Nat → Prop) (w0 w : World) (hb : Below w0.heap.size w0 w) (ht : Rd w0 [t0, t1] t) (hx : Rd w0 [x0, x1] x) (hok : instOk t x = true)
 (tc : w0.cell? ⟨tb, 1, none⟩ = some t1) (xc : w0.cell? ⟨xb, 1, none⟩ = some x1)
 (hd : Ip AD w [.slice (some ⟨g, 0, none⟩) V cd] ds) (hAD : ∀ z, AD z → w0.heap.size ≤ z) (hA : ArcOk V C (ds, [])) (hV : (V : Int) = x.1) (hC : C ≤ 1000000000) :
 Calls Tryz.prog 26 #[.pointer (some ⟨tb, 0, none⟩), .pointer (some ⟨xb, 0, none⟩), .slice (some ⟨g, 0, none⟩) V cd] w fun e w' => ∃ gs co, e = .returned (.slice (some ⟨gs, 0, none⟩) (arcsA t.2 x.2 (C + 1) (ds, [])).2.length co) ∧ ArcW w0 AD w.heap.size g cd V 126 [] w' gs co (arcsA t.2 x.2 (C + 1) (ds, [])) := by
 have H := qH (l05ArcsUntil_c t x ds t0 t1 x0 x1 tb xb g cd V C AD w0 w hb ht hx hok tc xc hd hAD hA hV hC)
 clear hb ht hx hok tc xc hd hAD hA hV hC
 go_enter Tryz.func26, Tryz.ntmps26
 go_wp2_with fail
 refine H.out.mono ?_
 rintro e w1 ⟨gs, co, rfl, h⟩
 go_wp2_with fail
 go_ret
 exact ⟨gs, co, rfl, h⟩
end Go.Proofs.YtpkdiiagnplpkaaGreat
