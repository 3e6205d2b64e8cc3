/-
  PLAIN: kinds of operations: what is so of all lists; idempotent, symmetric, associative.
-/
import Derived.Test.YtllenfkbfeanmaaGreatTmplBSa
import Derived.Test.YtllenfkbfeanmaaGreatRowsBSa
import Derived.Test.YtllenfkbfeanmaaGreatDomBSa
namespace Go.Proofs.YtllenfkbfeanmaaGreat
open Go.RowKit Go.IntWalk
open Rep (Rd Own sz)
set_option linter.unusedSimpArgs false
set_option linter.unusedVariables false

def allL (size : Int) (m N : Nat) (q : List Int → Bool) : Bool := (List.range N).all (fun (n : Nat) => q (digs size m (n : Int)))
theorem allL_no {size : Int} {m N n : Nat} {q : List Int → Bool} (hn : n < N) (h : q (digs size m (n : Int)) = false) : allL size m N q = false := by
  unfold allL
  rw [List.all_eq_false]
  exact ⟨n, List.mem_range.2 hn, by rw [h]; decide⟩
theorem allL_yes {size : Int} {m N : Nat} {q : List Int → Bool} (h : ∀ n : Nat, n < N → q (digs size m (n : Int)) = true) : allL size m N q = true := by
  unfold allL
  rw [List.all_eq_true]
  intro n hn
  exact h n (List.mem_range.1 hn)
theorem digsK_code {size : Int} (hs : 1 ≤ size) : ∀ (m : Nat) (n : Int), codeL size (digs size m n) = n % size ^ m
  | 0, n => by simp [digs, codeL]
  | m + 1, n => by
    rw [digs, codeL_snoc, digsK_code hs m, Int.pow_succ, Int.mul_comm (size ^ m) size]
    have h1 := Int.emod_add_mul_ediv n (size * size ^ m)
    have h2 := Int.emod_add_mul_ediv n size
    have h3 := Int.emod_add_mul_ediv (n / size) (size ^ m)
    have h4 : n / (size * size ^ m) = n / size / size ^ m := (Int.ediv_ediv_of_nonneg (by omega)).symm
    have e1 : size * (n / size) = size * (n / size % size ^ m) + size * size ^ m * (n / size / size ^ m) := by
      conv => lhs; rw [← h3]
      rw [Int.mul_add, Int.mul_assoc]
    have e2 : n / size % size ^ m * size = size * (n / size % size ^ m) := Int.mul_comm _ _
    rw [h4] at h1
    omega
theorem digsK_val {size : Int} (hs : 1 ≤ size) (m : Nat) (n : Int) : Val size (digs size m n) := fun a ha => by have := digs_mem size (by omega) m n a ha; omega
theorem digsK_of {size : Int} (hs : 1 ≤ size) {l : List Int} (hv : Val size l) : digs size l.length (codeL size l) = l := by
  refine code_inj hs (by simp) (digsK_val hs _ _) hv ?_
  rw [digsK_code hs]
  have h := codeL_bd hs l hv
  exact Int.emod_eq_of_lt h.1 h.2
theorem allL_iff {size : Int} (hs : 1 ≤ size) {m N : Nat} (hN : size ^ m = (N : Int)) {q : List Int → Bool} : allL size m N q = true ↔ ∀ l : List Int, l.length = m → Val size l → q l = true := by
  constructor
  · intro h l hl hv
    subst hl
    have hb := codeL_bd hs l hv
    unfold allL at h
    rw [List.all_eq_true] at h
    have := h (codeL size l).toNat (List.mem_range.2 (by omega))
    rw [Int.toNat_of_nonneg hb.1, digsK_of hs hv] at this
    exact this
  · intro h
    exact allL_yes (fun n hn => h _ (by simp) (digsK_val hs _ _))
theorem bool_iff {a b : Bool} (h : a = true ↔ b = true) : a = b := by cases a <;> cases b <;> simp_all
def idemB (size : Int) (f : OpT) : Bool := allL size 1 size.toNat (fun l => decide (valOf size f (List.replicate f.1.toNat (l.getD 0 0)) = l.getD 0 0))
def sym0B (size : Int) (f : OpT) : Bool := allL size 2 (size.toNat * size.toNat) (fun l => decide (valOf size f l = valOf size f (srtL l)))
def symB (size : Int) (f : OpT) : Bool := allL size 2 (size.toNat * size.toNat) (fun l => decide (valOf size f [l.getD 1 0, l.getD 0 0] = valOf size f l))
def assocB (size : Int) (f : OpT) : Bool := allL size 3 (size.toNat * size.toNat * size.toNat) (fun l => decide (valOf size f [valOf size f [l.getD 0 0, l.getD 1 0], l.getD 2 0] = valOf size f [l.getD 0 0, valOf size f [l.getD 1 0, l.getD 2 0]]))
def semiB (size : Int) (f : OpT) : Bool := idemB size f && (decide (f.1 = 2) && symB size f) && assocB size f
theorem srt_two (a b : Int) : srtL [a, b] = [a, b] ∨ srtL [a, b] = [b, a] := by
  have hp := List.mergeSort_perm [a, b] (fun x y => decide (x ≤ y))
  have hl : (srtL [a, b]).length = 2 := srt_len _
  unfold srtL at hl ⊢
  match h : List.mergeSort [a, b] (fun x y => decide (x ≤ y)), hl with
  | [x, y], _ =>
    rw [h] at hp
    have h1 := hp.symm.mem_iff (a := a)
    have h2 := hp.symm.mem_iff (a := b)
    have h3 := hp.mem_iff (a := x)
    have h4 := hp.mem_iff (a := y)
    simp only [List.mem_cons, List.not_mem_nil, or_false] at h1 h2 h3 h4
    have h5 := hp.length_eq
    by_cases hab : a = b
    · subst hab
      simp only [or_self] at h3 h4
      rw [h3.1 (by simp), h4.1 (by simp)]
      exact .inl rfl
    · by_cases hxa : x = a
      · subst hxa
        left
        rcases h2.1 (by simp) with h | h
        · exact absurd h.symm hab
        · rw [← h]
      · right
        have hxb : x = b := by
          rcases h3.1 (by simp) with h | h
          · exact absurd h hxa
          · exact h
        subst hxb
        rcases h1.1 (by simp) with h | h
        · exact absurd h hab
        · rw [← h]
theorem sym_same {size : Int} (hs : 1 ≤ size) (f : OpT) : sym0B size f = symB size f := by
  have hN : size ^ 2 = ((size.toNat * size.toNat : Nat) : Int) := by
    rw [Int.natCast_mul, Int.toNat_of_nonneg (by omega), Int.pow_succ, Int.pow_succ, Int.pow_zero, Int.one_mul]
  unfold sym0B symB
  refine bool_iff ?_
  rw [allL_iff hs hN, allL_iff hs hN]
  constructor
  · intro h l hl hv
    obtain ⟨a, b, rfl⟩ : ∃ a b, l = [a, b] := by
      match l, hl with
      | [a, b], _ => exact ⟨a, b, rfl⟩
    have h1 := of_decide_eq_true (h [a, b] rfl hv)
    have h2 := of_decide_eq_true (h [b, a] rfl (fun z hz => hv z (by simp at hz ⊢; omega)))
    have e : srtL [b, a] = srtL [a, b] := by
      unfold srtL
      exact List.Perm.eq_of_pairwise (le := fun x y => decide (x ≤ y) = true) (fun x y _ _ h1 h2 => by have := of_decide_eq_true h1; have := of_decide_eq_true h2; omega) (List.pairwise_mergeSort (fun x y z h1 h2 => by have := of_decide_eq_true h1; have := of_decide_eq_true h2; exact decide_eq_true (by omega)) (fun x y => by simp; omega) _) (List.pairwise_mergeSort (fun x y z h1 h2 => by have := of_decide_eq_true h1; have := of_decide_eq_true h2; exact decide_eq_true (by omega)) (fun x y => by simp; omega) _) ((List.mergeSort_perm _ _).trans ((List.Perm.swap a b []).trans (List.mergeSort_perm _ _).symm))
    refine decide_eq_true ?_
    show valOf size f [b, a] = valOf size f [a, b]
    rw [h1, h2, e]
  · intro h l hl hv
    obtain ⟨a, b, rfl⟩ : ∃ a b, l = [a, b] := by
      match l, hl with
      | [a, b], _ => exact ⟨a, b, rfl⟩
    refine decide_eq_true ?_
    rcases srt_two a b with e | e
    · rw [e]
    · rw [e]
      exact (of_decide_eq_true (h [a, b] rfl hv)).symm

end Go.Proofs.YtllenfkbfeanmaaGreat

