/-
  PLAIN: texts cut at a byte; the text of a system is read again.
-/
import Derived.Test.YthceklaoikeokaaGreatDoorText
import Derived.Lib.SplitLaws
import Derived.Lib.ParseIntB
import Derived.Lib.ItoaNum
namespace Go.Proofs.YthceklaoikeokaaGreatDoor
open Go.RowKit
set_option linter.unusedSimpArgs false
set_option linter.unusedVariables false

/-- A text cut at a byte. -/
def splitC (c : UInt8) : List UInt8 → List (List UInt8)
  | [] => [[]]
  | b :: l => if b = c then [] :: splitC c l else match splitC c l with | [] => [[b]] | x :: xs => (b :: x) :: xs
theorem splitC_ne (c : UInt8) : ∀ l, splitC c l ≠ []
  | [] => by simp [splitC]
  | b :: l => by
    rw [splitC]
    split
    · simp
    · split <;> simp
theorem splitC_free {c : UInt8} : ∀ {x : List UInt8}, c ∉ x → splitC c x = [x]
  | [], _ => rfl
  | b :: l, h => by
    have h1 : b ≠ c := fun e => h (by simp [e])
    rw [splitC, if_neg h1, splitC_free (fun hm => h (List.mem_cons_of_mem _ hm))]
theorem splitC_app {c : UInt8} : ∀ {x : List UInt8} (r : List UInt8), c ∉ x → splitC c (x ++ c :: r) = x :: splitC c r
  | [], r, _ => by rw [List.nil_append, splitC, if_pos rfl]
  | b :: l, r, h => by
    have h1 : b ≠ c := fun e => h (by simp [e])
    rw [List.cons_append, splitC, if_neg h1, splitC_app r (fun hm => h (List.mem_cons_of_mem _ hm))]
theorem splitC_snoc (c : UInt8) : ∀ x : List UInt8, splitC c (x ++ [c]) = splitC c x ++ [[]]
  | [] => by simp [splitC]
  | b :: l => by
    rw [List.cons_append, splitC, splitC, splitC_snoc c l]
    split
    · rfl
    · cases hs : splitC c l with
      | nil => exact absurd hs (splitC_ne c l)
      | cons x xs => rfl
theorem index_free {c : UInt8} : ∀ {x : List UInt8}, c ∉ x → Lib.index x [c] = -1
  | [], _ => by simp [Lib.index]
  | b :: l, h => by
    have h1 : ¬ c = b := fun e => h (by simp [e])
    have ih := index_free (x := l) (fun hm => h (List.mem_cons_of_mem _ hm))
    rw [Lib.index]
    simp [List.isPrefixOf, h1, ih]
theorem index_app {c : UInt8} : ∀ {x : List UInt8} (r : List UInt8), c ∉ x → Lib.index (x ++ c :: r) [c] = x.length
  | [], r, _ => by rw [List.nil_append, Lib.index]; simp [List.isPrefixOf]
  | b :: l, r, h => by
    have h1 : ¬ c = b := fun e => h (by simp [e])
    have ih := index_app (x := l) r (fun hm => h (List.mem_cons_of_mem _ hm))
    rw [List.cons_append, Lib.index, ih]
    have h2 : ((l.length : Int) == -1) = false := by rw [beq_eq_false_iff_ne]; omega
    simp [List.isPrefixOf, h1, h2]
/-- strings.Split at one byte. -/
theorem splitK_C (c : UInt8) : ∀ (k : Nat) (s : List UInt8), s.count c = k → Lib.splitK [c] 0 k s = splitC c s
  | 0, s, h => by
    rw [List.count_eq_zero] at h
    rw [Lib.splitK, splitC_free h]
  | k + 1, s, h => by
    have hm : c ∈ s := by rw [← List.count_pos_iff]; omega
    obtain ⟨x, r, rfl, hx⟩ := List.eq_append_cons_of_mem hm
    have hi := index_app r hx
    have h2 : ((x.length : Int) == -1) = false := by rw [beq_eq_false_iff_ne]; omega
    have hc : r.count c = k := by
      rw [List.count_append, List.count_eq_zero.2 hx, List.count_cons_self] at h
      omega
    rw [Lib.splitK, hi, h2, splitC_app r hx, ← splitK_C c k r hc]
    simp
theorem split_C (c : UInt8) (s : List UInt8) : Lib.split s [c] = splitC c s := by
  unfold Lib.split
  rw [Lib.count_one]
  exact splitK_C c _ s rfl

/-- Bytes of a number. -/
def isDg (b : UInt8) : Bool := decide (48 ≤ b.toNat) && decide (b.toNat ≤ 57)
/-- readDigits. -/
def digR (w : List UInt8) : List Int := if w.all isDg then w.map (fun b => (b.toNat : Int) - 48) else []
/-- l01Number. -/
def valD (w : List UInt8) : Int := w.foldl (fun n b => n * 10 + ((b.toNat : Int) - 48)) 0
def numS (w : List UInt8) : Option Int := if w.length < 1 ∨ 9 < w.length ∨ (w.getD 0 0 = 48 ∧ 1 < w.length) then none else if w.all isDg then some (valD w) else none
/-- readNumber. -/
def numI (w : List UInt8) : Int := match Lib.parseIntB 64 w with | .ok v => if 0 ≤ v ∧ Lib.itoa v = w then v else -2 | _ => -2

theorem decB_free {n : Nat} (h : n ≤ 12) : ∀ b, b ∈ decB n → isDg b = true := by
  have : ∀ n : Nat, n ≤ 12 → ∀ b, b ∈ decB n → isDg b = true := by decide
  exact this n h
theorem numS_dec : ∀ n : Nat, n ≤ 12 → numS (decB n) = some (n : Int) := by decide
theorem isDg_ne {b : UInt8} (h : isDg b = true) : b ≠ 10 ∧ b ≠ 32 := by
  unfold isDg at h
  simp only [Bool.and_eq_true, decide_eq_true_eq] at h
  constructor <;> (intro e; subst e; revert h; decide)
theorem digsB_dg {l : List Int} (h : ∀ a, a ∈ l → 0 ≤ a ∧ a ≤ 9) : ∀ b, b ∈ digsB l → isDg b = true := by
  intro b hb
  unfold digsB at hb
  obtain ⟨a, ha, hba⟩ := List.mem_flatMap.1 hb
  exact decB_free (by have := h a ha; omega) b hba
theorem digR_digs : ∀ {l : List Int}, (∀ a, a ∈ l → 0 ≤ a ∧ a ≤ 9) → (digsB l).map (fun b => (b.toNat : Int) - 48) = l
  | [], _ => rfl
  | a :: l, h => by
    have h0 := h a (List.mem_cons_self ..)
    have ih := digR_digs (l := l) (fun x hx => h x (List.mem_cons_of_mem _ hx))
    have e : digsB (a :: l) = UInt8.ofNat (48 + a.toNat) :: digsB l := by
      unfold digsB
      rw [List.flatMap_cons]
      unfold decB
      rw [if_pos (by omega)]
      rfl
    rw [e, List.map_cons, ih]
    congr 1
    have : (UInt8.ofNat (48 + a.toNat)).toNat = 48 + a.toNat := by
      rw [UInt8.toNat_ofNat']
      omega
    omega

def lineB (e : Eqn) : List UInt8 := digsB e.1 ++ [32, 61, 32] ++ decB e.2.toNat
def headL (p u : Int) : List UInt8 := [115, 121, 115, 116, 101, 109, 32] ++ decB p.toNat ++ [32] ++ decB u.toNat
/-- A valid system's numbers. -/
def OkE (e : Eqn) : Prop := (∀ a, a ∈ e.1 → 0 ≤ a ∧ a ≤ 9) ∧ 0 ≤ e.2 ∧ e.2 ≤ 9
def OkS (s : Sys) : Prop := (0 ≤ s.1 ∧ s.1 ≤ 12) ∧ (0 ≤ s.2.1 ∧ s.2.1 ≤ 12) ∧ ∀ e, e ∈ s.2.2 → OkE e
theorem free_of {x : List UInt8} {c : UInt8} (hc : isDg c = false) (h : ∀ b, b ∈ x → isDg b = true) : c ∉ x := fun hm => by
  rw [h c hm] at hc; exact Bool.noConfusion hc
theorem eqnB_line (e : Eqn) : eqnB e = lineB e ++ [10] := rfl
theorem headB_line (p u : Int) : headB p u = headL p u ++ [10] := rfl
theorem line_free {e : Eqn} (h : OkE e) : (10 : UInt8) ∉ lineB e := by
  unfold lineB
  simp only [List.mem_append, not_or]
  exact ⟨⟨free_of (by decide) (digsB_dg h.1), by decide⟩, free_of (by decide) (decB_free (by have := h.2; omega))⟩
theorem head_free {p u : Int} (hp : 0 ≤ p ∧ p ≤ 12) (hu : 0 ≤ u ∧ u ≤ 12) : (10 : UInt8) ∉ headL p u := by
  unfold headL
  simp only [List.mem_append, not_or]
  exact ⟨⟨⟨by decide, free_of (by decide) (decB_free (by omega))⟩, by decide⟩, free_of (by decide) (decB_free (by omega))⟩
theorem split_eqns : ∀ {l : List Eqn}, (∀ e, e ∈ l → OkE e) → splitC 10 (l.flatMap eqnB) = l.map lineB ++ [[]]
  | [], _ => rfl
  | e :: l, h => by
    rw [List.flatMap_cons, eqnB_line, List.append_assoc, List.singleton_append, splitC_app _ (line_free (h e (List.mem_cons_self ..))), split_eqns (fun x hx => h x (List.mem_cons_of_mem _ hx))]
    rfl
theorem split_text {s : Sys} (h : OkS s) : splitC 10 (textB s) = headL s.1 s.2.1 :: (s.2.2.map lineB ++ [[]]) := by
  unfold textB
  rw [headB_line, List.append_assoc, List.singleton_append, splitC_app _ (head_free h.1 h.2.1), split_eqns h.2.2]
theorem text_snoc (s : Sys) : ∃ X, textB s = X ++ [10] := by
  unfold textB
  rcases List.eq_nil_or_concat s.2.2 with h | ⟨l, e, h⟩
  · rw [h]
    exact ⟨headL s.1 s.2.1, by rw [headB_line]; simp⟩
  · rw [h]
    refine ⟨headB s.1 s.2.1 ++ l.flatMap eqnB ++ lineB e, ?_⟩
    simp [List.flatMap_append, eqnB_line]
theorem trimSuffix_snoc (X : List UInt8) (c : UInt8) : Lib.trimSuffix (X ++ [c]) [c] = X := by
  unfold Lib.trimSuffix Lib.hasSuffix
  simp
theorem split_trim {s : Sys} (h : OkS s) : splitC 10 (Lib.trimSuffix (textB s) [10]) = headL s.1 s.2.1 :: s.2.2.map lineB := by
  obtain ⟨X, hX⟩ := text_snoc s
  have h1 := split_text h
  rw [hX] at h1 ⊢
  rw [trimSuffix_snoc]
  rw [splitC_snoc, ← List.cons_append] at h1
  exact List.append_cancel_right h1
theorem split_head {p u : Int} (hp : 0 ≤ p ∧ p ≤ 12) (hu : 0 ≤ u ∧ u ≤ 12) : splitC 32 (headL p u) = [[115, 121, 115, 116, 101, 109], decB p.toNat, decB u.toNat] := by
  have e : headL p u = [115, 121, 115, 116, 101, 109] ++ 32 :: (decB p.toNat ++ 32 :: decB u.toNat) := by unfold headL; simp
  rw [e, splitC_app _ (by decide), splitC_app _ (free_of (by decide) (decB_free (by omega))), splitC_free (free_of (by decide) (decB_free (by omega)))]
theorem index_sp {sep : List UInt8} : ∀ {x : List UInt8} (r : List UInt8), (32 : UInt8) ∉ x → Lib.index (x ++ 32 :: sep ++ r) (32 :: sep) = x.length
  | [], r, _ => by
    rw [List.nil_append, List.cons_append, Lib.index]
    simp [List.isPrefixOf]
  | b :: l, r, h => by
    have h1 : ¬ (32 : UInt8) = b := fun e => h (by simp [e])
    have ih := index_sp (sep := sep) (x := l) r (fun hm => h (List.mem_cons_of_mem _ hm))
    rw [List.cons_append, List.cons_append, Lib.index, ih]
    have h2 : ((l.length : Int) == -1) = false := by rw [beq_eq_false_iff_ne]; omega
    simp [List.isPrefixOf, h1, h2]
theorem cut_line {e : Eqn} (h : OkE e) : Lib.cut (lineB e) [32, 61, 32] = (digsB e.1, decB e.2.toNat, true) := by
  have hf : (32 : UInt8) ∉ digsB e.1 := free_of (by decide) (digsB_dg h.1)
  have hi := index_sp (sep := [61, 32]) (decB e.2.toNat) hf
  have hl : lineB e = digsB e.1 ++ 32 :: [61, 32] ++ decB e.2.toNat := rfl
  unfold Lib.cut
  rw [hl, hi, if_pos (by omega), Int.toNat_natCast]
  simp
theorem split_line {e : Eqn} (h : OkE e) : splitC 32 (lineB e) = [digsB e.1, [61], decB e.2.toNat] := by
  have e1 : lineB e = digsB e.1 ++ 32 :: ([61] ++ 32 :: decB e.2.toNat) := by unfold lineB; simp
  rw [e1, splitC_app _ (free_of (by decide) (digsB_dg h.1)), splitC_app _ (by decide), splitC_free (free_of (by decide) (decB_free (by have := h.2; omega)))]

/-- The program's reading. -/
def eqnI (line : List UInt8) : Eqn := (digR (Lib.cut line [32, 61, 32]).1, numI (Lib.cut line [32, 61, 32]).2.1)
def sysI (ls : List (List UInt8)) : Sys := (numI ((splitC 32 (ls.headD [])).getD 1 []), numI ((splitC 32 (ls.headD [])).getD 2 []), ls.tail.map eqnI)
def readI (t : List UInt8) : Sys × Int :=
  if (splitC 32 ((splitC 10 (Lib.trimSuffix t [10])).headD [])).length = 3 then
    (if textF (sysI (splitC 10 (Lib.trimSuffix t [10]))) ≠ [] ∧ textF (sysI (splitC 10 (Lib.trimSuffix t [10]))) = t then (sysI (splitC 10 (Lib.trimSuffix t [10])), 0) else ((0, 0, []), 5))
  else ((0, 0, []), 5)
/-- The reference's reading. -/
def eqnS (line : List UInt8) : Option Eqn :=
  if (splitC 32 line).length = 3 ∧ (splitC 32 line).getD 1 [] = [61] ∧ ((splitC 32 line).getD 2 []).length = 1 then some (((splitC 32 line).getD 0 []).map (fun b => (b.toNat : Int) - 48), ((((splitC 32 line).getD 2 []).getD 0 0).toNat : Int) - 48) else none
def eqnsS : List (List UInt8) → Option (List Eqn)
  | [] => some []
  | x :: xs => match eqnS x with | none => none | some e => match eqnsS xs with | none => none | some es => some (e :: es)
def sysS (t : List UInt8) : Option Sys :=
  if (splitC 32 ((splitC 10 t).headD [])).length = 3 ∧ (splitC 32 ((splitC 10 t).headD [])).getD 0 [] = [115, 121, 115, 116, 101, 109] ∧ (splitC 10 t).getLastD [] = [] then
    match eqnsS ((splitC 10 t).tail.dropLast), numS ((splitC 32 ((splitC 10 t).headD [])).getD 1 []), numS ((splitC 32 ((splitC 10 t).headD [])).getD 2 []) with
    | some es, some p, some u => some (p, u, es)
    | _, _, _ => none
  else none
def readS (t : List UInt8) : Sys × Int := match sysS t with | some s => if validS s = true ∧ textB s = t then (s, 0) else ((0, 0, []), 5) | none => ((0, 0, []), 5)

theorem okS_of {s : Sys} (h : validS s = true) : OkS s := by
  unfold validS at h
  simp only [Bool.and_eq_true, decide_eq_true_eq, List.all_eq_true] at h
  obtain ⟨⟨⟨h1, h2⟩, h3⟩, h4⟩ := h
  have hp : s.1 = 2 ∨ s.1 = 3 := by
    unfold isPr at h1
    simpa using h1
  have hu := inB_true h2
  refine ⟨by omega, by omega, fun e he => ?_⟩
  have hk := h4 e he
  unfold eqnOk valsOk at hk
  simp only [Bool.and_eq_true, decide_eq_true_eq, List.all_eq_true] at hk
  obtain ⟨⟨_, h5⟩, h6⟩ := hk
  have h7 := inB_true h6
  exact ⟨fun a ha => by have := inB_true (h5 a ha); omega, by omega, by omega⟩
theorem numI_dec : ∀ n : Nat, n ≤ 12 → numI (decB n) = (n : Int) := by decide +kernel
theorem eqnI_line {e : Eqn} (h : OkE e) : eqnI (lineB e) = e := by
  unfold eqnI digR
  rw [cut_line h]
  simp only
  rw [if_pos (List.all_eq_true.2 (digsB_dg h.1)), digR_digs h.1, numI_dec _ (by have := h.2; omega)]
  exact Prod.ext rfl (by have := h.2; simp only; omega)
theorem eqnS_line {e : Eqn} (h : OkE e) : eqnS (lineB e) = some e := by
  unfold eqnS
  have hd : decB e.2.toNat = [UInt8.ofNat (48 + e.2.toNat)] := by unfold decB; rw [if_pos (by have := h.2; omega)]
  have hn : (UInt8.ofNat (48 + e.2.toNat)).toNat = 48 + e.2.toNat := by rw [UInt8.toNat_ofNat']; have := h.2; omega
  rw [split_line h, hd]
  simp only [List.length_cons, List.length_nil, List.getD_cons_zero, List.getD_cons_succ, and_self, if_true]
  rw [digR_digs h.1, hn]
  refine congrArg some (Prod.ext rfl (by have := h.2; simp only; omega))
theorem eqnsS_lines : ∀ {l : List Eqn}, (∀ e, e ∈ l → OkE e) → eqnsS (l.map lineB) = some l
  | [], _ => rfl
  | e :: l, h => by
    rw [List.map_cons, eqnsS, eqnS_line (h e (List.mem_cons_self ..)), eqnsS_lines (fun x hx => h x (List.mem_cons_of_mem _ hx))]
theorem sysI_text {s : Sys} (h : OkS s) : sysI (splitC 10 (Lib.trimSuffix (textB s) [10])) = s := by
  unfold sysI
  rw [split_trim h]
  simp only [List.headD_cons, List.tail_cons]
  rw [split_head h.1 h.2.1]
  simp only [List.getD_cons_zero, List.getD_cons_succ, List.map_map]
  rw [numI_dec _ (by have := h.1; omega), numI_dec _ (by have := h.2.1; omega)]
  have e : s.2.2.map (eqnI ∘ lineB) = s.2.2 := by
    conv => rhs; rw [← List.map_id s.2.2]
    exact List.map_congr_left (fun x hx => eqnI_line (h.2.2 x hx))
  rw [e]
  exact Prod.ext (by have := h.1; simp only; omega) (Prod.ext (by have := h.2.1; simp only; omega) rfl)
theorem sysS_text {s : Sys} (h : OkS s) : sysS (textB s) = some s := by
  have h0 := split_text h
  have h1 : (splitC 10 (textB s)).headD [] = headL s.1 s.2.1 := by rw [h0]; rfl
  have h2 : (splitC 10 (textB s)).tail.dropLast = s.2.2.map lineB := by rw [h0, List.tail_cons, List.dropLast_concat]
  have h3 : (splitC 10 (textB s)).getLastD [] = [] := by rw [h0, ← List.cons_append, List.getLastD_concat]
  have h4 : splitC 32 ((splitC 10 (textB s)).headD []) = [[115, 121, 115, 116, 101, 109], decB s.1.toNat, decB s.2.1.toNat] := by rw [h1]; exact split_head h.1 h.2.1
  unfold sysS
  rw [if_pos ⟨by rw [h4]; rfl, by rw [h4]; rfl, h3⟩, h2, h4, eqnsS_lines h.2.2]
  simp only [List.getD_cons_zero, List.getD_cons_succ]
  rw [numS_dec _ (by have := h.1; omega), numS_dec _ (by have := h.2.1; omega)]
  simp only
  refine congrArg some (Prod.ext (by have := h.1; simp only; omega) (Prod.ext (by have := h.2.1; simp only; omega) rfl))
theorem textB_ne (s : Sys) : textB s ≠ [] := by
  obtain ⟨X, hX⟩ := text_snoc s
  rw [hX]; simp
theorem read_same (t : List UInt8) : readI t = readS t := by
  by_cases hs : ∃ s, validS s = true ∧ textB s = t
  · obtain ⟨s, hv, rfl⟩ := hs
    have hk := okS_of hv
    have h1 : readS (textB s) = (s, 0) := by
      unfold readS
      rw [sysS_text hk]
      simp only
      rw [if_pos ⟨hv, by first | rfl | trivial⟩]
    have h2 : readI (textB s) = (s, 0) := by
      unfold readI
      rw [sysI_text hk]
      have h3 : textF s = textB s := by unfold textF; rw [if_pos hv]
      rw [if_pos (by rw [split_trim hk]; simp only [List.headD_cons]; rw [split_head hk.1 hk.2.1]; rfl), if_pos (by rw [h3]; exact ⟨textB_ne s, rfl⟩)]
    rw [h1, h2]
  · have h1 : readS t = ((0, 0, []), 5) := by
      unfold readS
      split
      · next s h => rw [if_neg (fun hc => hs ⟨s, hc⟩)]
      · rfl
    have h2 : readI t = ((0, 0, []), 5) := by
      unfold readI
      split
      · rw [if_neg (fun hc => ?_)]
        obtain ⟨h3, h4⟩ := hc
        unfold textF at h3 h4
        split at h4
        · next hv => exact hs ⟨_, hv, h4⟩
        · next hv => rw [if_neg hv] at h3; exact h3 rfl
      · rfl
    rw [h1, h2]

end Go.Proofs.YthceklaoikeokaaGreatDoor
