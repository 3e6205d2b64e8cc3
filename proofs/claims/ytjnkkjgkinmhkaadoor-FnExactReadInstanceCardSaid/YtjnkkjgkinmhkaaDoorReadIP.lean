/-
  PLAIN: the text of an instance is read again, by both sides alike.
-/
import Derived.Test.YtjnkkjgkinmhkaaDoorReadP
import Derived.Test.YtjnkkjgkinmhkaaDoorTmplB
namespace Go.Proofs.YtjnkkjgkinmhkaaDoor
open Go.RowKit
set_option linter.unusedSimpArgs false
set_option linter.unusedVariables false

def insW : List UInt8 := [105, 110, 115, 116, 97, 110, 99, 101]
def valB (l : List Int) : List UInt8 := l.flatMap (fun v => 32 :: decB v.toNat)
def conL1 (c : OpT) : List UInt8 := decB c.1.toNat ++ valB c.2
def conB (c : OpT) : List UInt8 := conL1 c ++ [10]
def headI1 (n : Int) : List UInt8 := insW ++ 32 :: decB n.toNat
def headI (n : Int) : List UInt8 := headI1 n ++ [10]
def instB (x : Inst) : List UInt8 := headI x.1 ++ x.2.flatMap conB
def conSh (n : Int) (c : OpT) : Bool := inB c.1 0 5 && (inB c.2.length 1 4 && valsOk n c.2 c.2.length)
def shownI (x : Inst) : Bool := inB x.1 1 10 && decide (x.2.length ≤ 24) && x.2.all (conSh x.1)
def instTF (x : Inst) : List UInt8 := if shownI x = true then instB x else []
theorem shownI_get {x : Inst} (h : shownI x = true) : (1 ≤ x.1 ∧ x.1 ≤ 10) ∧ x.2.length ≤ 24 ∧ ∀ c, c ∈ x.2 → conSh x.1 c = true := by
  simp only [shownI, Bool.and_eq_true, decide_eq_true_eq, List.all_eq_true] at h
  exact ⟨inB_true h.1.1, h.1.2, h.2⟩
theorem conSh_get {n : Int} {c : OpT} (h : conSh n c = true) : (0 ≤ c.1 ∧ c.1 ≤ 5) ∧ (1 ≤ c.2.length ∧ c.2.length ≤ 4) ∧ ∀ v, v ∈ c.2 → 0 ≤ v ∧ v ≤ n - 1 := by
  simp only [conSh, Bool.and_eq_true] at h
  have h1 := inB_true h.1
  have h2 := inB_true h.2.1
  have h3 := h.2.2
  unfold valsOk at h3
  simp only [Bool.and_eq_true, decide_eq_true_eq, List.all_eq_true] at h3
  exact ⟨h1, by omega, fun v hv => inB_true (h3.2 v hv)⟩

/-! ### Joining what was split -/
def joinC (c : UInt8) : List (List UInt8) → List UInt8
  | [] => []
  | [x] => x
  | x :: y :: r => x ++ c :: joinC c (y :: r)
theorem joinC_split (c : UInt8) : ∀ l, joinC c (splitC c l) = l
  | [] => rfl
  | b :: l => by
    have ih := joinC_split c l
    have hne := splitC_ne c l
    rw [splitC]
    split
    · rename_i hb
      subst hb
      match hs : splitC b l, hne with
      | y :: r, _ => rw [hs] at ih; rw [joinC, ih]; rfl
    · match hs : splitC c l, hne with
      | [y], _ => rw [hs] at ih; simp only [joinC] at ih ⊢; rw [ih]
      | y :: z :: r, _ => rw [hs] at ih; simp only [joinC] at ih ⊢; rw [List.cons_append, ih]
theorem joinC_snoc (c : UInt8) : ∀ (l : List (List UInt8)), l ≠ [] → joinC c (l ++ [[]]) = l.flatMap (· ++ [c])
  | [x], _ => by simp [joinC]
  | x :: y :: r, _ => by
    have ih := joinC_snoc c (y :: r) (by simp)
    rw [List.cons_append] at ih
    rw [List.cons_append, List.cons_append, joinC, ih]
    simp

/-! ### Numbers -/
theorem valD_cons (a : UInt8) (l : List UInt8) : valD (a :: l) = ((a.toNat : Int) - 48) * 10 ^ l.length + valD l := by
  have gen : ∀ (l : List UInt8) (n : Int), l.foldl (fun n b => n * 10 + ((b.toNat : Int) - 48)) n = n * 10 ^ l.length + l.foldl (fun n b => n * 10 + ((b.toNat : Int) - 48)) 0 := by
    intro l
    induction l with
    | nil => intro n; simp
    | cons b l ih =>
      intro n
      rw [List.foldl_cons, List.foldl_cons, ih, ih (0 * 10 + _), List.length_cons, Int.pow_succ]
      generalize (10 : Int) ^ l.length = q
      generalize l.foldl (fun n b => n * 10 + ((b.toNat : Int) - 48)) 0 = r
      generalize (b.toNat : Int) - 48 = d
      rw [Int.zero_mul, Int.zero_add, Int.add_mul, Int.mul_assoc, Int.mul_comm 10 q]
      omega
  unfold valD
  rw [List.foldl_cons, gen, Int.zero_mul, Int.zero_add]
theorem valD_nn : ∀ {l : List UInt8}, l.all isDg = true → 0 ≤ valD l
  | [], _ => by decide
  | a :: l, h => by
    rw [List.all_cons, Bool.and_eq_true] at h
    have ih := valD_nn h.2
    have ha := h.1
    unfold isDg at ha
    simp only [Bool.and_eq_true, decide_eq_true_eq] at ha
    rw [valD_cons]
    have : 0 ≤ ((a.toNat : Int) - 48) * 10 ^ l.length := Int.mul_nonneg (by omega) (Int.pow_nonneg (by decide))
    omega
theorem byte_of {a : UInt8} {k : Nat} (h : a.toNat = k) : a = UInt8.ofNat k := by rw [← h]; simp
theorem numS_inv {s : List UInt8} {n : Int} (h : numS s = some n) (hn : n ≤ 12) : s = decB n.toNat ∧ 0 ≤ n := by
  unfold numS at h
  split at h
  · cases h
  · rename_i h0
    split at h
    · rename_i hd
      simp only [Option.some.injEq] at h
      subst h
      have hnn := valD_nn hd
      refine ⟨?_, hnn⟩
      simp only [not_or, not_and] at h0
      obtain ⟨h1, h2, h3⟩ := h0
      match s, h1, h3 with
      | [a], _, _ =>
        rw [List.all_cons, Bool.and_eq_true] at hd
        have ha := hd.1
        unfold isDg at ha
        simp only [Bool.and_eq_true, decide_eq_true_eq] at ha
        have hv : valD [a] = (a.toNat : Int) - 48 := by rw [valD_cons]; simp [valD]
        rw [hv]
        unfold decB
        rw [if_pos (by omega)]
        rw [show 48 + ((a.toNat : Int) - 48).toNat = a.toNat by omega]
        simp
      | a :: b :: l, _, h3 =>
        rw [List.all_cons, List.all_cons, Bool.and_eq_true, Bool.and_eq_true] at hd
        obtain ⟨ha, hb, hl⟩ := hd
        have hl0 := valD_nn hl
        unfold isDg at ha hb
        simp only [Bool.and_eq_true, decide_eq_true_eq] at ha hb
        have hne : a.toNat ≠ 48 := fun e => by
          have e2 : a = 48 := byte_of e
          exact h3 e2 (by simp)
        have hv : valD (a :: b :: l) = ((a.toNat : Int) - 48) * (10 ^ l.length * 10) + (((b.toNat : Int) - 48) * 10 ^ l.length + valD l) := by
          rw [valD_cons, valD_cons, List.length_cons, Int.pow_succ]
        cases l with
        | nil =>
          have hv2 : valD [a, b] = ((a.toNat : Int) - 48) * 10 + ((b.toNat : Int) - 48) := by rw [hv]; simp [valD]
          rw [hv2] at hn ⊢
          unfold decB
          rw [if_neg (by omega)]
          rw [show 48 + (((a.toNat : Int) - 48) * 10 + ((b.toNat : Int) - 48)).toNat / 10 = a.toNat by omega, show 48 + (((a.toNat : Int) - 48) * 10 + ((b.toNat : Int) - 48)).toNat % 10 = b.toNat by omega]
          simp
        | cons c r =>
          exfalso
          have hp : (1 : Int) ≤ 10 ^ r.length := by
            have : (0 : Int) < 10 ^ r.length := Int.pow_pos (by decide)
            omega
          rw [hv, List.length_cons, Int.pow_succ] at hn
          have h4 : (100 : Int) ≤ ((a.toNat : Int) - 48) * (10 ^ r.length * 10 * 10) := by
            have h5 : (1 : Int) * 100 ≤ ((a.toNat : Int) - 48) * (10 ^ r.length * 10 * 10) := Int.mul_le_mul (by omega) (by omega) (by decide) (by omega)
            omega
          have h6 : 0 ≤ ((b.toNat : Int) - 48) * (10 ^ r.length * 10) := Int.mul_nonneg (by omega) (by omega)
          omega
    · cases h

/-! ### The program's reading -/
def numsI (s : List UInt8) : List Int := (splitC 32 s).map numI
def conI (line : List UInt8) : OpT := ((numsI line).headD 0, (numsI line).tail)
def instI (ls : List (List UInt8)) : Inst := (numI (Lib.trimPrefix (ls.headD []) (insW ++ [32])), ls.tail.map conI)
def rdI (t : List UInt8) : Inst × Int :=
  if 20000 < t.length then ((0, []), 2)
  else if instTF (instI (splitC 10 (Lib.trimSuffix t [10]))) ≠ [] ∧ instTF (instI (splitC 10 (Lib.trimSuffix t [10]))) = t then (instI (splitC 10 (Lib.trimSuffix t [10])), 0) else ((0, []), 5)
/-! ### The reference's reading -/
def numsS : List (List UInt8) → Option (List Int)
  | [] => some []
  | x :: xs => match numS x with | none => none | some n => match numsS xs with | none => none | some ns => some (n :: ns)
def conS (line : List UInt8) : Option OpT := match numsS (splitC 32 line) with | some (r :: s :: l) => some (r, s :: l) | _ => none
def consS : List (List UInt8) → Option (List OpT)
  | [] => some []
  | x :: xs => match conS x with | none => none | some e => match consS xs with | none => none | some es => some (e :: es)
def instS (t : List UInt8) : Option Inst :=
  if (splitC 32 ((splitC 10 t).headD [])).length = 2 ∧ (splitC 32 ((splitC 10 t).headD [])).getD 0 [] = insW ∧ (splitC 10 t).length ≤ 26 ∧ (splitC 10 t).getLastD [] = [] then
    match numS ((splitC 32 ((splitC 10 t).headD [])).getD 1 []), consS ((splitC 10 t).tail.dropLast) with
    | some n, some cs => some (n, cs)
    | _, _ => none
  else none
def rdS (t : List UInt8) : Inst × Int :=
  if 20000 < t.length then ((0, []), 2) else match instS t with | some x => if shownI x = true then (x, 0) else ((0, []), 5) | none => ((0, []), 5)

/-! ### Both are alike -/
theorem valB_free {l : List Int} (h : ∀ a, a ∈ l → 0 ≤ a ∧ a ≤ 12) : (10 : UInt8) ∉ valB l := by
  unfold valB
  intro hm
  obtain ⟨a, ha, hb⟩ := List.mem_flatMap.1 hm
  rcases List.mem_cons.1 hb with e | hb
  · exact absurd e (by decide)
  · exact free_of (by decide) (decB_free (n := a.toNat) (by have := h a ha; omega)) hb
theorem split_vals : ∀ {l : List Int} {x : List UInt8}, (32 : UInt8) ∉ x → (∀ a, a ∈ l → 0 ≤ a ∧ a ≤ 12) → splitC 32 (x ++ valB l) = x :: l.map (fun v => decB v.toNat)
  | [], x, hx, _ => by simp [valB, splitC_free hx]
  | a :: l, x, hx, h => by
    have e : valB (a :: l) = 32 :: (decB a.toNat ++ valB l) := rfl
    rw [e, splitC_app _ hx, split_vals (free_of (by decide) (decB_free (n := a.toNat) (by have := h a (List.mem_cons_self ..); omega))) (fun b hb => h b (List.mem_cons_of_mem _ hb))]
    rfl
theorem con_free {n : Int} (hn : n ≤ 10) {c : OpT} (h : conSh n c = true) : (10 : UInt8) ∉ conL1 c := by
  obtain ⟨h1, h2, h3⟩ := conSh_get h
  unfold conL1
  simp only [List.mem_append, not_or]
  exact ⟨free_of (by decide) (decB_free (by omega)), valB_free (fun a ha => by have := h3 a ha; omega)⟩
theorem split_con {n : Int} (hn : n ≤ 10) {c : OpT} (h : conSh n c = true) : splitC 32 (conL1 c) = decB c.1.toNat :: c.2.map (fun v => decB v.toNat) := by
  obtain ⟨h1, h2, h3⟩ := conSh_get h
  exact split_vals (free_of (by decide) (decB_free (by omega))) (fun a ha => by have := h3 a ha; omega)
theorem headI_free {n : Int} (hn : 1 ≤ n ∧ n ≤ 10) : (10 : UInt8) ∉ headI1 n := by
  unfold headI1
  simp only [List.mem_append, List.mem_cons, not_or]
  exact ⟨by decide, by decide, free_of (by decide) (decB_free (by omega))⟩
theorem split_headI {n : Int} (hn : 1 ≤ n ∧ n ≤ 10) : splitC 32 (headI1 n) = [insW, decB n.toNat] := by
  unfold headI1
  rw [splitC_app _ (by decide), splitC_free (free_of (by decide) (decB_free (by omega)))]
theorem split_cons {n : Int} (hn : n ≤ 10) : ∀ {l : List OpT}, (∀ c, c ∈ l → conSh n c = true) → splitC 10 (l.flatMap conB) = l.map conL1 ++ [[]]
  | [], _ => rfl
  | c :: l, h => by
    have e : conB c = conL1 c ++ [10] := rfl
    rw [List.flatMap_cons, e, List.append_assoc, List.singleton_append, splitC_app _ (con_free hn (h c (List.mem_cons_self ..))), split_cons hn (fun x hx => h x (List.mem_cons_of_mem _ hx))]
    rfl
theorem split_inst {x : Inst} (h : shownI x = true) : splitC 10 (instB x) = headI1 x.1 :: (x.2.map conL1 ++ [[]]) := by
  obtain ⟨h1, h2, h3⟩ := shownI_get h
  have e : instB x = headI1 x.1 ++ 10 :: x.2.flatMap conB := by unfold instB headI; simp
  rw [e, splitC_app _ (headI_free h1), split_cons h1.2 h3]
theorem inst_snoc (x : Inst) : ∃ X, instB x = X ++ [10] := by
  unfold instB
  rcases List.eq_nil_or_concat x.2 with h | ⟨l, e, h⟩
  · rw [h]
    exact ⟨headI1 x.1, by unfold headI; simp⟩
  · rw [h]
    refine ⟨headI x.1 ++ l.flatMap conB ++ conL1 e, ?_⟩
    simp [List.flatMap_append, conB]
theorem instB_ne (x : Inst) : instB x ≠ [] := by
  obtain ⟨X, hX⟩ := inst_snoc x
  rw [hX]; simp
theorem split_itrim {x : Inst} (h : shownI x = true) : splitC 10 (Lib.trimSuffix (instB x) [10]) = headI1 x.1 :: x.2.map conL1 := by
  obtain ⟨X, hX⟩ := inst_snoc x
  have h1 := split_inst h
  rw [hX] at h1 ⊢
  rw [trimSuffix_snoc]
  rw [splitC_snoc, ← List.cons_append] at h1
  exact List.append_cancel_right h1
theorem conI_line {n : Int} (hn : n ≤ 10) {c : OpT} (h : conSh n c = true) : conI (conL1 c) = c := by
  obtain ⟨h1, h2, h3⟩ := conSh_get h
  unfold conI numsI
  rw [split_con hn h]
  simp only [List.map_cons, List.headD_cons, List.tail_cons, List.map_map]
  have e : c.2.map (numI ∘ fun v => decB v.toNat) = c.2 := by
    conv => rhs; rw [← List.map_id c.2]
    refine List.map_congr_left (fun v hv => ?_)
    have := h3 v hv
    show numI (decB v.toNat) = v
    rw [numI_dec _ (by omega)]; omega
  rw [e, numI_dec _ (by omega)]
  exact Prod.ext (by simp only; omega) rfl
theorem trimPrefix_app (p x : List UInt8) : Lib.trimPrefix (p ++ x) p = x := by
  unfold Lib.trimPrefix Lib.hasPrefix
  simp
theorem instI_text {x : Inst} (h : shownI x = true) : instI (splitC 10 (Lib.trimSuffix (instB x) [10])) = x := by
  obtain ⟨h1, h2, h3⟩ := shownI_get h
  unfold instI
  rw [split_itrim h]
  simp only [List.headD_cons, List.tail_cons, List.map_map]
  have e : x.2.map (conI ∘ conL1) = x.2 := by
    conv => rhs; rw [← List.map_id x.2]
    exact List.map_congr_left (fun c hc => conI_line h1.2 (h3 c hc))
  have e2 : headI1 x.1 = (insW ++ [32]) ++ decB x.1.toNat := by unfold headI1; simp
  rw [e, e2, trimPrefix_app, numI_dec _ (by omega)]
  exact Prod.ext (by simp only; omega) rfl
theorem numsS_dec : ∀ {l : List Int}, (∀ a, a ∈ l → 0 ≤ a ∧ a ≤ 12) → numsS (l.map (fun v => decB v.toNat)) = some l
  | [], _ => rfl
  | a :: l, h => by
    have h0 := h a (List.mem_cons_self ..)
    rw [List.map_cons, numsS, numS_dec _ (by omega), numsS_dec (fun x hx => h x (List.mem_cons_of_mem _ hx))]
    simp only
    rw [show (a.toNat : Int) = a by omega]
theorem conS_line {n : Int} (hn : n ≤ 10) {c : OpT} (h : conSh n c = true) : conS (conL1 c) = some c := by
  obtain ⟨h1, h2, h3⟩ := conSh_get h
  unfold conS
  have e : decB c.1.toNat :: c.2.map (fun v => decB v.toNat) = (c.1 :: c.2).map (fun v => decB v.toNat) := rfl
  rw [split_con hn h, e, numsS_dec (fun a ha => by
    rcases List.mem_cons.1 ha with rfl | ha
    · omega
    · have := h3 a ha; omega)]
  obtain ⟨r, l⟩ := c
  match l, h2 with
  | s :: l, _ => rfl
theorem consS_lines {n : Int} (hn : n ≤ 10) : ∀ {l : List OpT}, (∀ c, c ∈ l → conSh n c = true) → consS (l.map conL1) = some l
  | [], _ => rfl
  | c :: l, h => by
    rw [List.map_cons, consS, conS_line hn (h c (List.mem_cons_self ..)), consS_lines hn (fun x hx => h x (List.mem_cons_of_mem _ hx))]
theorem instS_text {x : Inst} (h : shownI x = true) : instS (instB x) = some x := by
  obtain ⟨h1, h2, h3⟩ := shownI_get h
  have h0 := split_inst h
  have e1 : (splitC 10 (instB x)).headD [] = headI1 x.1 := by rw [h0]; rfl
  have e2 : (splitC 10 (instB x)).tail.dropLast = x.2.map conL1 := by rw [h0, List.tail_cons, List.dropLast_concat]
  have e3 : (splitC 10 (instB x)).getLastD [] = [] := by rw [h0, ← List.cons_append, List.getLastD_concat]
  have e4 : splitC 32 ((splitC 10 (instB x)).headD []) = [insW, decB x.1.toNat] := by rw [e1]; exact split_headI h1
  have e5 : (splitC 10 (instB x)).length ≤ 26 := by rw [h0]; simp; omega
  unfold instS
  rw [if_pos ⟨by rw [e4]; rfl, by rw [e4]; rfl, e5, e3⟩, e2, e4, consS_lines h1.2 h3]
  simp only [List.getD_cons_zero, List.getD_cons_succ]
  rw [numS_dec _ (by omega)]
  simp only
  exact congrArg some (Prod.ext (by simp only; omega) rfl)
/-- What the reference takes is the text again. -/
theorem numsS_inv : ∀ {l : List (List UInt8)} {ns : List Int}, numsS l = some ns → (∀ a, a ∈ ns → a ≤ 12) → l = ns.map (fun v => decB v.toNat)
  | [], ns, h, _ => by simp only [numsS, Option.some.injEq] at h; subst h; rfl
  | x :: xs, ns, h, hb => by
    rw [numsS] at h
    split at h
    · cases h
    · rename_i n hn
      split at h
      · cases h
      · rename_i ms hm
        simp only [Option.some.injEq] at h
        subst h
        rw [List.map_cons, ← numsS_inv hm (fun a ha => hb a (List.mem_cons_of_mem _ ha)), ← (numS_inv hn (hb n (List.mem_cons_self ..))).1]
theorem join_dec : ∀ (r : Int) (l : List Int), joinC 32 ((r :: l).map (fun v => decB v.toNat)) = decB r.toNat ++ valB l
  | r, [] => by simp [joinC, valB]
  | r, s :: l => by
    have ih := join_dec s l
    rw [List.map_cons] at ih
    rw [List.map_cons, List.map_cons, joinC, ih]
    rfl
theorem conS_inv {line : List UInt8} {c : OpT} (h : conS line = some c) {n : Int} (hn : n ≤ 10) (hc : conSh n c = true) : line = conL1 c := by
  unfold conS at h
  split at h
  · rename_i r s l hm
    simp only [Option.some.injEq] at h
    subst h
    obtain ⟨h1, h2, h3⟩ := conSh_get hc
    have h4 := numsS_inv hm (fun a ha => by
      rcases List.mem_cons.1 ha with rfl | ha
      · simp only at h1; omega
      · have := h3 a ha; omega)
    have h5 := congrArg (joinC 32) h4
    rw [joinC_split, join_dec] at h5
    exact h5
  · cases h
theorem consS_inv {n : Int} (hn : n ≤ 10) : ∀ {l : List (List UInt8)} {cs : List OpT}, consS l = some cs → (∀ c, c ∈ cs → conSh n c = true) → l = cs.map conL1
  | [], cs, h, _ => by simp only [consS, Option.some.injEq] at h; subst h; rfl
  | x :: xs, cs, h, hb => by
    rw [consS] at h
    split at h
    · cases h
    · rename_i e he
      split at h
      · cases h
      · rename_i ms hm
        simp only [Option.some.injEq] at h
        subst h
        rw [List.map_cons, ← consS_inv hn hm (fun a ha => hb a (List.mem_cons_of_mem _ ha)), ← conS_inv he hn (hb e (List.mem_cons_self ..))]
theorem list2 {α : Type} {l : List α} (h : l.length = 2) : ∃ a b, l = [a, b] := by
  match l, h with
  | [a, b], _ => exact ⟨a, b, rfl⟩
theorem instS_inv {t : List UInt8} {x : Inst} (h : instS t = some x) (hx : shownI x = true) : instB x = t := by
  obtain ⟨h1, h2, h3⟩ := shownI_get hx
  unfold instS at h
  split at h
  · rename_i hc
    obtain ⟨g1, g2, g3, g4⟩ := hc
    split at h
    · rename_i n cs hn hcs
      simp only [Option.some.injEq] at h
      subst h
      have e1 := consS_inv h1.2 hcs h3
      obtain ⟨a, b, hab⟩ := list2 g1
      rw [hab] at g2 hn
      simp only [List.getD_cons_zero, List.getD_cons_succ] at g2 hn
      have e2 := (numS_inv hn (by simp only at h1; omega)).1
      have e3 := congrArg (joinC 32) hab
      rw [joinC_split, g2, e2] at e3
      have e4 : (splitC 10 t).headD [] = headI1 n := e3
      have e5 : splitC 10 t = headI1 n :: (cs.map conL1 ++ [[]]) := by
        match hs : splitC 10 t, splitC_ne 10 t with
        | y :: ys, _ =>
          rw [hs] at e1 e4 g4
          simp only [List.headD_cons, List.tail_cons] at e1 e4
          rw [e4]
          congr 1
          rcases List.eq_nil_or_concat ys with h9 | ⟨zs, z, h9⟩
          · subst h9
            exfalso
            have h8 : y = [] := g4
            rw [h8] at e4
            exact absurd e4 (by unfold headI1 insW; simp)
          · subst h9
            rw [List.concat_eq_append] at e1 g4 ⊢
            rw [List.dropLast_concat] at e1
            rw [← List.cons_append, List.getLastD_concat] at g4
            rw [e1, g4]
      have e6 := congrArg (joinC 10) e5
      rw [joinC_split, ← List.cons_append, joinC_snoc _ _ (by simp)] at e6
      rw [e6]
      unfold instB headI
      rw [List.flatMap_cons, List.flatMap_map]
      rfl
    · cases h
  · cases h
theorem rd_same (t : List UInt8) : rdI t = rdS t := by
  unfold rdI rdS
  by_cases hl : 20000 < t.length
  · rw [if_pos hl, if_pos hl]
  rw [if_neg hl, if_neg hl]
  by_cases hs : ∃ x, shownI x = true ∧ instB x = t
  · obtain ⟨x, hv, rfl⟩ := hs
    rw [instS_text hv, instI_text hv]
    simp only
    have h3 : instTF x = instB x := by unfold instTF; rw [if_pos hv]
    rw [h3, if_pos ⟨instB_ne x, rfl⟩, if_pos hv]
  · have e1 : ¬ (instTF (instI (splitC 10 (Lib.trimSuffix t [10]))) ≠ [] ∧ instTF (instI (splitC 10 (Lib.trimSuffix t [10]))) = t) := by
      rintro ⟨h3, h4⟩
      unfold instTF at h3 h4
      split at h4
      · next hv => exact hs ⟨_, hv, h4⟩
      · next hv => rw [if_neg hv] at h3; exact h3 rfl
    rw [if_neg e1]
    split
    · next x h => rw [if_neg (fun hc => hs ⟨x, hc, instS_inv h hc⟩)]
    · rfl

end Go.Proofs.YtjnkkjgkinmhkaaDoor
