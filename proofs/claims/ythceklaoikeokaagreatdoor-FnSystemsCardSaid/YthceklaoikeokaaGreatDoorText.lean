/-
  CONTRACTS: decimal numbers and the text of a system, both sides.
-/
import Derived.Test.YthceklaoikeokaaGreatDoorSysB
namespace Go.Proofs.YthceklaoikeokaaGreatDoor
open Go.RowKit Go.Shelf Go.IntWalk
open Rep (Rd Own sz)
set_option linter.unusedSimpArgs false
set_option linter.unusedVariables false

/-- The digits of a number below 100. -/
def decB (n : Nat) : List UInt8 := if n < 10 then [UInt8.ofNat (48 + n)] else [UInt8.ofNat (48 + n / 10), UInt8.ofNat (48 + n % 10)]
theorem decB_len (n : Nat) : (decB n).length ≤ 2 := by unfold decB; split <;> simp
theorem upto12 {n : Int} (h0 : 0 ≤ n) (h1 : n ≤ 12) : n = 0 ∨ n = 1 ∨ n = 2 ∨ n = 3 ∨ n = 4 ∨ n = 5 ∨ n = 6 ∨ n = 7 ∨ n = 8 ∨ n = 9 ∨ n = 10 ∨ n = 11 ∨ n = 12 := by omega
set_option maxRecDepth 100000 in
set_option maxHeartbeats 4000000 in
theorem small_c (n : Int) (w : World) (h0 : 0 ≤ n) (h1 : n ≤ 12) :
    Calls Tryz.prog 108 #[.int .i64 n] w fun e w' => e = .returned (.string ⟨(decB n.toNat).toArray⟩) ∧ w = w' := by
  rcases upto12 h0 h1 with rfl | rfl | rfl | rfl | rfl | rfl | rfl | rfl | rfl | rfl | rfl | rfl | rfl <;>
  · go_enter Tryz.func108, Tryz.ntmps108
    go_wp2_with fail
    go_ret
    exact ⟨rfl, rfl⟩
set_option maxRecDepth 100000 in
set_option maxHeartbeats 4000000 in
theorem formatIntI_c (n : Int) (w : World) (h0 : 0 ≤ n) (h1 : n ≤ 12) :
    Calls Tryz.prog 95 #[.int .i64 n, .int .i64 10] w fun e w' => e = .returned (.string ⟨(decB n.toNat).toArray⟩) ∧ w = w' := by
  go_enter Tryz.func95, Tryz.ntmps95
  have h2 : n < 100 := by omega
  go_wp2_with fail
  refine (small_c n _ h0 h1).mono ?_
  rintro e w1 ⟨rfl, rfl⟩
  go_wp2_with fail
  go_ret
  exact ⟨rfl, rfl⟩
set_option maxRecDepth 100000 in
theorem formatInt_c (n : Int) (w : World) (h0 : 0 ≤ n) (h1 : n ≤ 12) :
    Calls Tryz.prog 81 #[.int .i64 n, .int .i64 10] w fun e w' => e = .returned (.string ⟨(decB n.toNat).toArray⟩) ∧ w = w' := by
  go_enter Tryz.func81, Tryz.ntmps81
  go_wp2_with fail
  refine (formatIntI_c n _ h0 h1).mono ?_
  rintro e w1 ⟨rfl, rfl⟩
  go_wp2_with fail
  go_ret
  exact ⟨rfl, rfl⟩
set_option maxRecDepth 100000 in
theorem dec_c (n : Int) (w : World) (h0 : 0 ≤ n) (h1 : n ≤ 12) :
    Calls Tryz.prog 56 #[.int .i64 n] w fun e w' => e = .returned (.string ⟨(decB n.toNat).toArray⟩) ∧ w = w' := by
  go_enter Tryz.func56, Tryz.ntmps56
  go_wp2_with fail
  refine (formatInt_c n _ h0 h1).mono ?_
  rintro e w1 ⟨rfl, rfl⟩
  go_wp2_with fail
  go_ret
  exact ⟨rfl, rfl⟩
/-! ### The text of a system -/
def digsB (l : List Int) : List UInt8 := l.flatMap (fun a => decB a.toNat)
def eqnB (e : Eqn) : List UInt8 := digsB e.1 ++ [32, 61, 32] ++ decB e.2.toNat ++ [10]
def headB (p u : Int) : List UInt8 := [115, 121, 115, 116, 101, 109, 32] ++ decB p.toNat ++ [32] ++ decB u.toNat ++ [10]
def textB (s : Sys) : List UInt8 := headB s.1 s.2.1 ++ s.2.2.flatMap eqnB
def textF (s : Sys) : List UInt8 := if validS s = true then textB s else []
def strV (l : List UInt8) : Value := .string ⟨l.toArray⟩
theorem digsB_len (l : List Int) : (digsB l).length ≤ 2 * l.length := by
  induction l with
  | nil => simp [digsB]
  | cons a l ih => have := decB_len a.toNat; simp only [digsB, List.flatMap_cons, List.length_append, List.length_cons] at ih ⊢; omega
theorem digsB_snoc (l : List Int) (k : Nat) (h : k < l.length) : digsB (l.take (k + 1)) = digsB (l.take k) ++ decB l[k].toNat := by
  unfold digsB; rw [List.take_succ_eq_append_getElem h, List.flatMap_append, List.flatMap_cons, List.flatMap_nil, List.append_nil]
set_option maxRecDepth 100000 in
set_option maxHeartbeats 4000000 in
theorem digits_c (l : List Int) (v : Value) (w : World) (h : Rd w [v] l) (hl : ∀ a, a ∈ l → 0 ≤ a ∧ a ≤ 12) (hn : l.length ≤ 1000) :
    Calls Tryz.prog 57 #[v] w fun e w' => e = .returned (.string ⟨(digsB l).toArray⟩) ∧ w = w' := by
  obtain ⟨a, c, rfl, _⟩ := rd_list h
  have HL := Lib.hid h
  have HB := Lib.hid hl
  clear h hl
  go_enter Tryz.func57, Tryz.ntmps57
  go_wp2_with fail
  go_loopw [3, 8] (fun xs xi wl => ∃ k : Nat, k ≤ l.length ∧ xs = .string ⟨(digsB (l.take k)).toArray⟩ ∧ xi = .int .i64 k ∧ w = wl) (fun _ xi _ => l.length - (intOf xi).toNat)
  case atStart => exact ⟨0, Nat.zero_le _, rfl, rfl, rfl⟩
  case round =>
    obtain ⟨k, hk, rfl, rfl, rfl⟩ := hrel
    by_cases hlt : k < l.length
    · have hkI : (k : Int) < l.length := by omega
      obtain ⟨b, o, rfl, q0, _⟩ := rd_int_at HL.out k hlt
      have hb := HB.out _ (List.getElem_mem hlt)
      have HS := Lib.hid (digsB_snoc l k hlt)
      have h1 := digsB_len (l.take k)
      have h2 := decB_len l[k].toNat
      rw [List.length_take] at h1
      generalize l[k] = A at *
      generalize digsB (l.take k) = X at *
      go_wp2_with fail
      refine (dec_c A _ hb.1 hb.2).mono ?_
      rintro e w1 ⟨rfl, rfl⟩
      generalize decB A.toNat = Y at *
      have hno : ¬ (9223372036854775807 < X.length + Y.length) := by omega
      go_wp2_with fail
      exact ⟨⟨k + 1, hlt, by rw [HS.out, ← Go.ByteArray.mk_append_mk], by go_num, trivial⟩, by simp [intOf]; omega⟩
    · obtain rfl : k = l.length := by omega
      have hnl : ¬ ((l.length : Int) < l.length) := by omega
      rw [List.take_length]
      go_wp2_with fail
      go_ret
      exact ⟨rfl, rfl⟩
theorem head_eq (P Q : List UInt8) : (((((⟨#[115, 121, 115, 116, 101, 109, 32]⟩ : ByteArray) ++ ⟨P.toArray⟩) ++ ⟨#[32]⟩) ++ ⟨Q.toArray⟩) ++ ⟨#[10]⟩) = ⟨([115, 121, 115, 116, 101, 109, 32] ++ P ++ [32] ++ Q ++ [10]).toArray⟩ := by
  apply ByteArray.ext
  simp [ByteArray.data_append]
theorem eqn_eq (X L R : List UInt8) : (⟨X.toArray⟩ : ByteArray) ++ (((⟨L.toArray⟩ ++ ⟨#[32, 61, 32]⟩) ++ ⟨R.toArray⟩) ++ ⟨#[10]⟩) = ⟨(X ++ (L ++ [32, 61, 32] ++ R ++ [10])).toArray⟩ := by
  apply ByteArray.ext
  simp [ByteArray.data_append]
theorem eqnB_snoc (l : List Eqn) (k : Nat) (h : k < l.length) : (l.take (k + 1)).flatMap eqnB = (l.take k).flatMap eqnB ++ eqnB l[k] := by
  rw [List.take_succ_eq_append_getElem h, List.flatMap_append, List.flatMap_cons, List.flatMap_nil, List.append_nil]
theorem eqnB_len {p : Int} {U : Nat} {l : List Eqn} (hU : U ≤ 12) (he : ∀ e, e ∈ l → eqnOk p U e = true) : (l.flatMap eqnB).length ≤ 40 * l.length := by
  induction l with
  | nil => simp
  | cons e l ih =>
    have h1 := ih (fun x hx => he x (List.mem_cons_of_mem _ hx))
    have h2 : e.1.length = U := by
      have h := he e (List.mem_cons_self ..)
      simp only [eqnOk, valsOk, Bool.and_eq_true, decide_eq_true_eq] at h
      omega
    have h3 := digsB_len e.1
    have h4 := decB_len e.2.toNat
    simp only [List.flatMap_cons, List.length_append, List.length_cons, eqnB, List.length_nil] at h1 ⊢
    omega
set_option maxRecDepth 100000 in
set_option maxHeartbeats 4000000 in
theorem SystemText_c (s : Sys) (v0 v1 v2 : Value) (w : World) (hx : Rd w [v0, v1, v2] s) :
    Calls Tryz.prog 21 #[.agg #[v0, v1, v2]] w fun e w' => e = .returned (.string ⟨(textF s).toArray⟩) ∧ Below w.heap.size w w' := by
  obtain ⟨p, u, l⟩ := s
  have HX := Lib.hid hx
  have z := rd_cons rfl hx
  obtain ⟨rfl, _⟩ := rd_i1 z.1
  have z2 := rd_cons rfl z.2
  obtain ⟨rfl, _⟩ := rd_i1 z2.1
  obtain ⟨a, c, rfl, _⟩ := rd_list z2.2
  have HL := Lib.hid z2.2
  clear hx z z2
  have hs1 := (St.start w).alloc #[.int .i64 p, .int .i64 u, .slice a l.length c] 26 (n := w.heap.size) (by simp)
  have k0_0 := hs1.cellAt 0 rfl 0 rfl
  have k0_1 := hs1.cellAt 0 rfl 1 rfl
  have k0_2 := hs1.cellAt 0 rfl 2 rfl
  go_enter Tryz.func21, Tryz.ntmps21
  go_wp2_with fail
  refine (ValidSystem_c (p, u, l) _ _ _ _ (Rd.mono HX.out hs1.bel)).mono ?_
  rintro e w2 ⟨rfl, hbw2⟩
  have hz_w2 : w.heap.size + 1 ≤ w2.heap.size := by have h9 := hbw2.size; (try simp at h9); omega
  have hs3 := hs1.step hbw2
  clear k0_0 k0_1 k0_2
  have k0_0 := hs3.cellAt 0 rfl 0 rfl
  have k0_1 := hs3.cellAt 0 rfl 1 rfl
  have k0_2 := hs3.cellAt 0 rfl 2 rfl
  cases hok : validS (p, u, l) with
  | false =>
    have HT := Lib.hid (show textF (p, u, l) = [] by unfold textF; rw [hok]; rfl)
    clear hok
    go_wp2_with fail
    go_ret
    exact ⟨by rw [HT.out]; rfl, hs3.bel⟩
  | true =>
    have HT := Lib.hid (show textF (p, u, l) = headB p u ++ l.flatMap eqnB by unfold textF; rw [if_pos hok]; rfl)
    obtain ⟨hp, hu, hl24, he⟩ := validS_get hok
    obtain ⟨U, rfl⟩ : ∃ U : Nat, u = U := ⟨u.toNat, by omega⟩
    have HE := Lib.hid he
    clear hok he
    have h1 := decB_len p.toNat
    have h2 := decB_len U
    have HH := Lib.hid (show headB p (U : Int) = [115, 121, 115, 116, 101, 109, 32] ++ decB p.toNat ++ [32] ++ decB U ++ [10] by unfold headB; rw [Int.toNat_natCast])
    have HHE := Lib.hid (head_eq (decB p.toNat) (decB U))
    rw [← HH.out] at HHE
    have hb1 : ¬ (9223372036854775807 < 7 + (decB p.toNat).length) := by omega
    have hb2 : ¬ (9223372036854775807 < 7 + (decB p.toNat).length + 1) := by omega
    have hb3 : ¬ (9223372036854775807 < 7 + (decB p.toNat).length + 1 + (decB U).length) := by omega
    have hb4 : ¬ (9223372036854775807 < 7 + (decB p.toNat).length + 1 + (decB U).length + 1) := by omega
    go_upto_region 3 with fail
    refine wp_region_noPanic (wp_region_tree4 (fun w' => w'.cell? ⟨w.heap.size, 0, none⟩ = some (.int .i64 p) ∧ w'.cell? ⟨w.heap.size, 1, none⟩ = some (.int .i64 (U : Int)) ∧ w'.cell? ⟨w.heap.size, 2, none⟩ = some (.slice a l.length c)) (.float 0 (.float 1 (.float 5 (.float 6 (.hard 2 (.float 3 (.float 4 (.hard 7 (.float 8 (.float 9 (.float 10 .nil))))))))))) (by kernel_rfl) (by kernel_rfl) (by kernel_rfl) rfl ?_ (fun _ _ _ _ _ h => h) ?_)
    · exact ⟨(hs3.drew).cellAt 0 rfl 0 rfl, (hs3.drew).cellAt 0 rfl 1 rfl, (hs3.drew).cellAt 0 rfl 2 rfl⟩
    have hs4 := hs3.drew
    clear k0_0 k0_1 k0_2
    have hz_wd5 : w2.heap.size ≤ (w2.drew).heap.size := by simp
    generalize hgen_wd5 : w2.drew = wd5 at *
    have HG_wd5 := Lib.hid hgen_wd5
    clear hgen_wd5
    (repeat (first | (apply t4_skip rfl (by rfl); try simp only [Act.put, List.setIfInBounds_toArray, List.set_cons_zero, List.set_cons_succ]) | (apply t4_float rfl (by rfl); (· (intro w' hS; go_simp <;> with_reducible rfl)); (try simp only [Act.put, List.setIfInBounds_toArray, List.set_cons_zero, List.set_cons_succ]))))
    refine t4_hard rfl (by rfl) (fun K hK => ?_)
    go_wp2_with (go_at_call 56; refine (dec_c p _ (by omega) (by omega)).mono ?_; rintro e w5 ⟨rfl, rfl⟩)
    refine ⟨⟨hs4.cellAt 0 rfl 0 rfl, hs4.cellAt 0 rfl 1 rfl, hs4.cellAt 0 rfl 2 rfl⟩, ?_⟩
    (repeat (first | (apply t4_skip rfl (by rfl); try simp only [Act.put, List.setIfInBounds_toArray, List.set_cons_zero, List.set_cons_succ]) | (apply t4_float rfl (by rfl); (· (intro w' hS; go_simp <;> with_reducible rfl)); (try simp only [Act.put, List.setIfInBounds_toArray, List.set_cons_zero, List.set_cons_succ]))))
    refine t4_hard rfl (by rfl) (fun K hK => ?_)
    go_wp2_with (go_at_call 56; refine (dec_c (U : Int) _ (by omega) (by omega)).mono ?_; rintro e w6 ⟨rfl, rfl⟩)
    refine ⟨⟨hs4.cellAt 0 rfl 0 rfl, hs4.cellAt 0 rfl 1 rfl, hs4.cellAt 0 rfl 2 rfl⟩, ?_⟩
    (repeat (first | (apply t4_skip rfl (by rfl); try simp only [Act.put, List.setIfInBounds_toArray, List.set_cons_zero, List.set_cons_succ]) | (apply t4_float rfl (by rfl); (· (intro w' hS; go_simp <;> with_reducible rfl)); (try simp only [Act.put, List.setIfInBounds_toArray, List.set_cons_zero, List.set_cons_succ]))))
    have k0_0 := hs4.cellAt 0 rfl 0 rfl
    have k0_1 := hs4.cellAt 0 rfl 1 rfl
    have k0_2 := hs4.cellAt 0 rfl 2 rfl
    refine t4_nil (NoPanic.normal ?_)
    have HST := Lib.hid (hs4.low (B' := w.heap.size + 1) (bx' := [(w.heap.size, #[.int .i64 p, .int .i64 U, .slice a l.length c], 26)]) (by omega) (by (try simp) <;> omega) (fun x hx => by simp only [List.mem_cons, List.not_mem_nil, or_false] at hx; rcases hx with rfl; (refine ⟨?_, ?_⟩ <;> (try simp) <;> (try omega))))
    have HHL := Lib.hid (show (headB p (U : Int)).length ≤ 13 by rw [HH.out]; simp only [List.length_append, List.length_cons, List.length_nil]; omega)
    clear hb1 hb2 hb3 hb4 h1 h2
    go_wp2_with fail
    clear k0_0 k0_1 k0_2
    go_loopw [3, 22] (fun xs xi wl => ∃ k : Nat, k ≤ l.length ∧ xs = .string ⟨(headB p (U : Int) ++ (l.take k).flatMap eqnB).toArray⟩ ∧ xi = .int .i64 k ∧ Hid (St w (w.heap.size + 1) wl [(w.heap.size, #[.int .i64 p, .int .i64 U, .slice a l.length c], 26)])) (fun _ xi _ => l.length - (intOf xi).toNat)
    case atStart => exact ⟨0, Nat.zero_le _, by rw [HHE.out]; simp, rfl, HST.out⟩
    case round =>
      clear HST
      obtain ⟨k, hk, rfl, rfl, hst⟩ := hrel
      have hs0 := hst.out
      have hszr := hst.out.hi
      have k0_0 := hs0.cellAt 0 rfl 0 rfl
      have k0_1 := hs0.cellAt 0 rfl 1 rfl
      have k0_2 := hs0.cellAt 0 rfl 2 rfl
      by_cases hlt : k < l.length
      · have hkI : (k : Int) < l.length := by omega
        obtain ⟨_, _, eS, hSl⟩ := rd_list HL.out
        simp only [Value.slice.injEq] at eS
        obtain ⟨rfl, -, rfl⟩ := eS
        obtain ⟨b, o, y0, y1, rfl, p0, p1, hy⟩ := rdSl_two rfl hSl k hlt
        have hq := HE.out _ (List.getElem_mem hlt)
        have HSN := Lib.hid (eqnB_snoc l k hlt)
        have hlX : ((l.take k).flatMap eqnB).length ≤ 40 * (l.take k).length := eqnB_len (by omega) (fun e he => HE.out e (List.mem_of_mem_take he))
        rw [List.length_take] at hlX
        have hXL : (headB p (U : Int) ++ (l.take k).flatMap eqnB).length ≤ 2000 := by rw [List.length_append]; have := HHL.out; omega
        generalize l[k] = E at *
        obtain ⟨L, R⟩ := E
        obtain ⟨a1, c1, rfl, _⟩ := rd_list (rd_cons rfl hy).1
        obtain ⟨rfl, _⟩ := rd_i1 (rd_cons rfl hy).2
        have HL1 := Lib.hid (rd_cons rfl hy).1
        simp only [eqnOk, valsOk, Bool.and_eq_true, decide_eq_true_eq, List.all_eq_true] at hq
        obtain ⟨⟨hlen, hall⟩, hR⟩ := hq
        have hR2 := inB_true hR
        have HAL := Lib.hid (show ∀ x, x ∈ L → 0 ≤ x ∧ x ≤ 12 from fun x hx => by have := inB_true (hall x hx); omega)
        have hLU : L.length ≤ 12 := by omega
        clear hall hR hSl hy hlX hlen
        have q0 := cellL hs0.bel p0
        have q1 := cellL hs0.bel p1
        clear p0 p1
        have hd1 := digsB_len L
        have hd2 := decB_len R.toNat
        have hb1 : ¬ (9223372036854775807 < (digsB L).length + 3) := by omega
        have hb2 : ¬ (9223372036854775807 < (digsB L).length + 3 + (decB R.toNat).length) := by omega
        have hb3 : ¬ (9223372036854775807 < (digsB L).length + 3 + (decB R.toNat).length + 1) := by omega
        have HXS := Lib.hid (show (headB p (U : Int) ++ (l.take (k + 1)).flatMap eqnB) = (headB p (U : Int) ++ (l.take k).flatMap eqnB) ++ (digsB L ++ [32, 61, 32] ++ decB R.toNat ++ [10]) by rw [HSN.out, List.append_assoc]; rfl)
        generalize headB p (U : Int) ++ (l.take k).flatMap eqnB = X at *
        have HXE := Lib.hid (eqn_eq X (digsB L) (decB R.toNat))
        have hb4 : ¬ (9223372036854775807 < X.length + ((digsB L).length + 3 + (decB R.toNat).length + 1)) := by omega
        clear hd1 hd2
        go_upto_region 7 with fail
        have hs6 := hs0.alloc #[.slice a1 L.length c1, .int .i64 R] 73 (n := wr.heap.size) (by simp)
        have q0_7 := cellL (belowA _ (.cells #[.slice a1 L.length c1, .int .i64 R] 73)) q0
        clear q0
        have q1_8 := cellL (belowA _ (.cells #[.slice a1 L.length c1, .int .i64 R] 73)) q1
        clear q1
        clear k0_0 k0_1 k0_2
        have k0_0 := hs6.cellAt 0 rfl 0 rfl
        have k0_1 := hs6.cellAt 0 rfl 1 rfl
        have k0_2 := hs6.cellAt 0 rfl 2 rfl
        have k1_0 := hs6.cellAt 1 rfl 0 rfl
        have k1_1 := hs6.cellAt 1 rfl 1 rfl
        have hz_wE : wr.heap.size + 1 ≤ ((wr.alloc (.cells #[.slice a1 L.length c1, .int .i64 R] 73))).heap.size := by simp
        generalize hgen_wE : (wr.alloc (.cells #[.slice a1 L.length c1, .int .i64 R] 73)) = wE at *
        clear hgen_wE
        refine wp_region_noPanic (wp_region_tree4 (fun w' => w'.cell? ⟨w.heap.size, 0, none⟩ = some (.int .i64 p) ∧ w'.cell? ⟨w.heap.size, 1, none⟩ = some (.int .i64 U) ∧ w'.cell? ⟨w.heap.size, 2, none⟩ = some (.slice (some ⟨b, o, none⟩) l.length c) ∧ w'.cell? ⟨wr.heap.size, 0, none⟩ = some (.slice a1 L.length c1) ∧ w'.cell? ⟨wr.heap.size, 1, none⟩ = some (.int .i64 R) ∧ w'.cell? ⟨b, o + k * 2, none⟩ = some (.slice a1 L.length c1) ∧ w'.cell? ⟨b, o + k * 2 + 1, none⟩ = some (.int .i64 R)) (.float 0 (.float 1 (.float 2 (.float 5 (.float 6 (.hard 3 (.float 4 (.hard 7 (.float 8 (.float 9 (.float 10 (.float 11 .nil)))))))))))) (by kernel_rfl) (by kernel_rfl) (by kernel_rfl) rfl ?_ (fun _ _ _ _ _ h => h) ?_)
        · exact ⟨(hs6.drew).cellAt 0 rfl 0 rfl, (hs6.drew).cellAt 0 rfl 1 rfl, (hs6.drew).cellAt 0 rfl 2 rfl, (hs6.drew).cellAt 1 rfl 0 rfl, (hs6.drew).cellAt 1 rfl 1 rfl, cellL (belowD _) q0_7, cellL (belowD _) q1_8⟩
        have hs9 := hs6.drew
        have q0_10 := cellL (belowD _) q0_7
        clear q0_7
        have q1_11 := cellL (belowD _) q1_8
        clear q1_8
        clear k0_0 k0_1 k0_2 k1_0 k1_1
        have hz_wd12 : wE.heap.size ≤ (wE.drew).heap.size := by simp
        generalize hgen_wd12 : wE.drew = wd12 at *
        have HG_wd12 := Lib.hid hgen_wd12
        clear hgen_wd12
        (repeat (first | (apply t4_skip rfl (by rfl); try simp only [Act.put, List.setIfInBounds_toArray, List.set_cons_zero, List.set_cons_succ]) | (apply t4_float rfl (by rfl); (· (intro w' hS; go_simp <;> with_reducible rfl)); (try simp only [Act.put, List.setIfInBounds_toArray, List.set_cons_zero, List.set_cons_succ]))))
        refine t4_hard rfl (by rfl) (fun K hK => ?_)
        go_wp2_with (go_at_call 57; refine (digits_c L _ _ (Rd.mono HL1.out hs9.bel) HAL.out (by omega)).mono ?_; rintro e w5 ⟨rfl, rfl⟩)
        refine ⟨⟨hs9.cellAt 0 rfl 0 rfl, hs9.cellAt 0 rfl 1 rfl, hs9.cellAt 0 rfl 2 rfl, hs9.cellAt 1 rfl 0 rfl, hs9.cellAt 1 rfl 1 rfl, q0_10, q1_11⟩, ?_⟩
        (repeat (first | (apply t4_skip rfl (by rfl); try simp only [Act.put, List.setIfInBounds_toArray, List.set_cons_zero, List.set_cons_succ]) | (apply t4_float rfl (by rfl); (· (intro w' hS; go_simp <;> with_reducible rfl)); (try simp only [Act.put, List.setIfInBounds_toArray, List.set_cons_zero, List.set_cons_succ]))))
        refine t4_hard rfl (by rfl) (fun K hK => ?_)
        go_wp2_with (go_at_call 56; refine (dec_c R _ (by omega) (by omega)).mono ?_; rintro e w6 ⟨rfl, rfl⟩)
        refine ⟨⟨hs9.cellAt 0 rfl 0 rfl, hs9.cellAt 0 rfl 1 rfl, hs9.cellAt 0 rfl 2 rfl, hs9.cellAt 1 rfl 0 rfl, hs9.cellAt 1 rfl 1 rfl, q0_10, q1_11⟩, ?_⟩
        (repeat (first | (apply t4_skip rfl (by rfl); try simp only [Act.put, List.setIfInBounds_toArray, List.set_cons_zero, List.set_cons_succ]) | (apply t4_float rfl (by rfl); (· (intro w' hS; go_simp <;> with_reducible rfl)); (try simp only [Act.put, List.setIfInBounds_toArray, List.set_cons_zero, List.set_cons_succ]))))
        have k0_0 := hs9.cellAt 0 rfl 0 rfl
        have k0_1 := hs9.cellAt 0 rfl 1 rfl
        have k0_2 := hs9.cellAt 0 rfl 2 rfl
        have k1_0 := hs9.cellAt 1 rfl 0 rfl
        have k1_1 := hs9.cellAt 1 rfl 1 rfl
        refine t4_nil (NoPanic.normal ?_)
        have hs13 := hs9.low (B' := w.heap.size + 1) (bx' := [(w.heap.size, #[.int .i64 p, .int .i64 U, .slice (some ⟨b, o, none⟩) l.length c], 26)]) (by omega) (by (try simp) <;> omega) (fun x hx => by simp only [List.mem_cons, List.not_mem_nil, or_false] at hx; rcases hx with rfl <;> (refine ⟨?_, ?_⟩ <;> (try simp) <;> (try omega)))
        go_wp2_with fail
        go_roundw
        case rel => exact ⟨k + 1, hlt, by rw [HXS.out, ← HXE.out], by go_num, hs13⟩
        case measure => simp [intOf]; omega
      · obtain rfl : k = l.length := by omega
        have hnl : ¬ ((l.length : Int) < l.length) := by omega
        rw [List.take_length, ← HT.out]
        go_wp2_with fail
        go_ret
        exact ⟨rfl, hs0.bel⟩

end Go.Proofs.YthceklaoikeokaaGreatDoor
