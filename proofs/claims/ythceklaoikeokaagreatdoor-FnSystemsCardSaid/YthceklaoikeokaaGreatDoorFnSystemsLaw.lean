/-
  THE LAW FnSystems, WALKED.
-/
import Derived.Test.YthceklaoikeokaaGreatDoorSrc
import Derived.Test.YthceklaoikeokaaGreatDoorSysL
import Derived.Test.YthceklaoikeokaaGreatDoorAnswersT
import Derived.Test.YthceklaoikeokaaGreatDoorSameS
import Derived.Test.YthceklaoikeokaaGreatDoorReadV
import Derived.Test.YthceklaoikeokaaGreatDoorA2
namespace Go.Proofs.YthceklaoikeokaaGreatDoor
open Go.RowKit Go.Shelf Go.IntWalk
open Rep (Rd Own sz)
set_option linter.unusedSimpArgs false
set_option linter.unusedVariables false

theorem read_text {s : Sys} (hv : validS s = true) : readI (textF s) = (s, 0) := by
  have hk := okS_of hv
  have h3 : textF s = textB s := by unfold textF; rw [if_pos hv]
  have h4 := h3
  rw [h3]
  unfold readI
  rw [sysI_text hk, h3, if_pos (by rw [split_trim hk]; simp only [List.headD_cons]; rw [split_head hk.1 hk.2.1]; rfl), if_pos ⟨textB_ne s, rfl⟩]
theorem text_small {p u : Int} {l : List Eqn} (hv : validS (p, u, l) = true) : (textF (p, u, l)).length ≤ 1048576 := by
  obtain ⟨hp, hu, hl, he⟩ := validS_get hv
  obtain ⟨U, rfl⟩ : ∃ U : Nat, u = U := ⟨u.toNat, by omega⟩
  have h1 := eqnB_len (p := p) (U := U) (l := l) (by omega) he
  have h2 := decB_len p.toNat
  have h3 := decB_len U
  unfold textF
  rw [if_pos hv]
  show (headB p (U : Int) ++ l.flatMap eqnB).length ≤ _
  unfold headB
  simp only [List.length_append, List.length_cons, List.length_nil, Int.toNat_natCast]
  omega
set_option maxRecDepth 100000 in
set_option maxHeartbeats 16000000 in
theorem FnSystems_c (co mo : List Byte) (ac am : Option Addr) (nc nm cc cm : Nat) (w : World) (h0 : Rd w [.slice ac nc cc] co) (h1 : Rd w [.slice am nm cm] mo) (he : RdEnv w) :
    Calls Tryz.prog 3 #[.slice ac nc cc, .slice am nm cm] w fun e w' => e = .returned (.bool true) ∧ Below w.heap.size w w' := by
  have hl0 := (byt_of h0).2.2
  have hl1 := (byt_of h1).2.2
  have HCo := Lib.hid h0
  have HENV := Lib.hid he
  clear h0 h1 he
  go_enter Tryz.func3, Tryz.ntmps3
  go_wp2_with fail
  refine (a2Long_c ac am nc cc nm cm _ hl0 hl1).mono ?_
  rintro e w1 ⟨rfl, rfl⟩
  cases hlg : (decide (3000 < nc) || decide (3000 < nm)) with
  | true =>
    clear hlg
    go_wp2_with fail
    go_ret
    exact ⟨rfl, (St.start w).bel⟩
  | false =>
    clear hlg
    go_wp2_with fail
    refine (A2System_c ac nc cc co _ (Rd.mono HCo.out (St.start w).bel)).mono ?_
    rintro e w2 ⟨p, U, vs, l, rfl, hfr, ⟨hv, hU5, hl6⟩, hbw2⟩
    have hz_w2 : w.heap.size ≤ w2.heap.size := by have h9 := hbw2.size; (try simp at h9); omega
    have hs3 := (St.start w).step hbw2
    obtain ⟨aS, cS, rfl, hrS⟩ := rd_list (rd_cons rfl (rd_cons rfl hfr.rd).2).2
    have HSY := Lib.hid hfr.rd
    have hp := (validS_get hv).1
    have hU1 := (validS_get hv).2.1
    clear hrS hfr
    have hs4 := hs3.alloc #[.int .i64 p, .int .i64 U, .slice aS l.length cS] 26 (n := w2.heap.size) (by simp)
    have HSY_5 := Lib.hid (Rd.mono HSY.out (belowA _ (.cells #[.int .i64 p, .int .i64 U, .slice aS l.length cS] 26)))
    clear HSY
    have k0_0 := hs4.cellAt 0 rfl 0 rfl
    have k0_1 := hs4.cellAt 0 rfl 1 rfl
    have k0_2 := hs4.cellAt 0 rfl 2 rfl
    obtain ⟨RL, hRL⟩ : ∃ RL, reducedF (p, (U : Int), l) = (p, (U : Int), RL) := ⟨(reducedF (p, (U : Int), l)).2.2, rfl⟩
    have hv2 := reduced_valid hv
    rw [hRL] at hv2
    have CRD := Lib.hid (show ∀ (W : World) (a b c : Value), Rd W [a, b, c] ((p, (U : Int), l) : Sys) → Calls Tryz.prog 14 #[.agg #[a, b, c]] W fun e w' => ∃ u0 u1 u2, e = .returned (.tuple #[.agg #[u0, u1, u2], .int .i64 0]) ∧ Fresh W.heap.size w' [u0, u1, u2] ((p, (U : Int), RL) : Sys) ∧ Below W.heap.size W w' from fun W a b c h => by
      have h1 := ReduceSystem_c _ a b c W h
      have e1 : reduceF (p, (U : Int), l) = ((p, (U : Int), RL), 0) := by unfold reduceF; rw [if_pos hv, hRL]
      rw [e1] at h1
      exact h1)
    have CR2 := Lib.hid (show ∀ (W : World) (a b c : Value), Rd W [a, b, c] ((p, (U : Int), RL) : Sys) → Calls Tryz.prog 14 #[.agg #[a, b, c]] W fun e w' => ∃ u0 u1 u2, e = .returned (.tuple #[.agg #[u0, u1, u2], .int .i64 0]) ∧ Fresh W.heap.size w' [u0, u1, u2] ((p, (U : Int), RL) : Sys) ∧ Below W.heap.size W w' from fun W a b c h => by
      have h1 := ReduceSystem_c _ a b c W h
      have e1 : reduceF (p, (U : Int), RL) = ((p, (U : Int), RL), 0) := by
        have h2 := reduced_again hv
        rw [hRL] at h2
        unfold reduceF
        rw [if_pos hv2, h2]
      rw [e1] at h1
      exact h1)
    have CVS := Lib.hid (show ∀ (W : World) (a b c : Value), Rd W [a, b, c] ((p, (U : Int), l) : Sys) → Calls Tryz.prog 11 #[.agg #[a, b, c]] W fun e w' => e = .returned (.bool true) ∧ Below W.heap.size W w' from fun W a b c h => by
      have h1 := ValidSystem_c _ a b c W h
      rw [hv] at h1
      exact h1)
    have CSS := Lib.hid (show ∀ (W : World) (x : Sys) (a b c a' b' c' : Value), Rd W [a, b, c] x → Rd W [a', b', c'] x → Calls Tryz.prog 15 #[.agg #[a, b, c], .agg #[a', b', c']] W fun e w' => e = .returned (.bool true) ∧ Below W.heap.size W w' from fun W x a b c a' b' c' h h' => by
      have h1 := sSameSystem_c x a b c x a' b' c' W h h'
      simp only [sameS, decide_true] at h1
      exact h1)
    have CSI := Lib.hid (show ∀ (W : World) (x : Sys) (a b c a' b' c' : Value), Rd W [a, b, c] x → Rd W [a', b', c'] x → Calls Tryz.prog 22 #[.agg #[a, b, c], .agg #[a', b', c']] W fun e w' => e = .returned (.bool true) ∧ Below W.heap.size W w' from fun W x a b c a' b' c' h h' => by
      have h1 := SameSystem_c x a b c x a' b' c' W h h'
      simp only [sameS, decide_true] at h1
      exact h1)
    obtain ⟨TX, hTX⟩ : ∃ TX, TX = textF (p, (U : Int), l) := ⟨_, rfl⟩
    have CTX := Lib.hid (show ∀ (W : World) (a b c : Value), Rd W [a, b, c] ((p, (U : Int), l) : Sys) → Calls Tryz.prog 21 #[.agg #[a, b, c]] W fun e w' => e = .returned (.string ⟨TX.toArray⟩) ∧ Below W.heap.size W w' from fun W a b c h => by
      rw [hTX]
      exact SystemText_c _ a b c W h)
    have CRS := Lib.hid (show ∀ (W : World), RdEnv W → Calls Tryz.prog 20 #[.string ⟨TX.toArray⟩] W fun e w' => ∃ u0 u1 u2, e = .returned (.tuple #[.agg #[u0, u1, u2], .int .i64 0]) ∧ Fresh W.heap.size w' [u0, u1, u2] ((p, (U : Int), l) : Sys) ∧ Below W.heap.size W w' from fun W h => by
      have h1 := ReadSystem_c TX W h (by rw [hTX]; exact text_small hv)
      rw [hTX, read_text hv] at h1
      rw [hTX]
      exact h1)
    clear hTX hv2
    by_cases hf : 0 ≤ falseS (p, (U : Int), l)
    · obtain ⟨Y, e1, e2, e6, e5, e3, e4⟩ := sys_none hv hf
      obtain ⟨X, hX⟩ : ∃ X : List Int, X = [] := ⟨_, rfl⟩
      obtain ⟨AL, hAL⟩ : ∃ AL : List (List Int), AL = [] := ⟨_, rfl⟩
      rw [← hX] at e1
      rw [← hAL] at e4
      have hL0 : ((AL.length : Int) == 0) = true := by rw [hAL]; rfl
      have CIR := Lib.hid (show ∀ (W : World) (a b c v : Value), Rd W [a, b, c] ((p, (U : Int), l) : Sys) → Rd W [v] Y → Calls Tryz.prog 16 #[.agg #[a, b, c], v] W fun e w' => e = .returned (.tuple #[.bool true, .int .i64 0]) ∧ Below W.heap.size W w' from fun W a b c v h h' => by
        have h1 := IsRefutation_c _ a b c Y v W h h'
        rw [e6] at h1
        exact h1)
      clear hX hAL e6 hf hv hRL
      have CSO := Lib.hid (show ∀ (W : World) (a b c : Value), Rd W [a, b, c] ((p, (U : Int), l) : Sys) → Calls Tryz.prog 6 #[.agg #[a, b, c]] W fun e w' => ∃ v, e = .returned (.tuple #[v, .int .i64 6]) ∧ Fresh W.heap.size w' [v] X ∧ Below W.heap.size W w' from fun W a b c h => by
        have h1 := SolveSystem_c _ a b c W h
        rw [e1] at h1
        exact h1)
      have CSP := Lib.hid (show ∀ (W : World) (a b c : Value), Rd W [a, b, c] ((p, (U : Int), l) : Sys) → Calls Tryz.prog 8 #[.agg #[a, b, c]] W fun e w' => ∃ v, e = .returned (.tuple #[v, .int .i64 6]) ∧ Fresh W.heap.size w' [v] X ∧ Below W.heap.size W w' from fun W a b c h => by
        have h1 := sSolveSystem_c _ a b c W h
        rw [e1] at h1
        exact h1)
      have CRO := Lib.hid (show ∀ (W : World) (a b c : Value), Rd W [a, b, c] ((p, (U : Int), l) : Sys) → Calls Tryz.prog 7 #[.agg #[a, b, c]] W fun e w' => ∃ v, e = .returned (.tuple #[v, .int .i64 0]) ∧ Fresh W.heap.size w' [v] Y ∧ Below W.heap.size W w' from fun W a b c h => by
        have h1 := RefuteSystem_c _ a b c W h
        rw [e2] at h1
        exact h1)
      have CRP := Lib.hid (show ∀ (W : World) (a b c : Value), Rd W [a, b, c] ((p, (U : Int), l) : Sys) → Calls Tryz.prog 9 #[.agg #[a, b, c]] W fun e w' => ∃ v, e = .returned (.tuple #[v, .int .i64 0]) ∧ Fresh W.heap.size w' [v] Y ∧ Below W.heap.size W w' from fun W a b c h => by
        have h1 := sRefuteSystem_c _ a b c W h
        rw [e2] at h1
        exact h1)
      have CCN := Lib.hid (show ∀ (W : World) (a b c : Value), Rd W [a, b, c] ((p, (U : Int), l) : Sys) → Calls Tryz.prog 12 #[.agg #[a, b, c]] W fun e w' => e = .returned (.tuple #[.int .i64 0, .int .i64 0]) ∧ Below W.heap.size W w' from fun W a b c h => by
        have h1 := CountAnswers_c _ a b c W h
        rw [e3] at h1
        exact h1)
      have CAO := Lib.hid (show ∀ (W : World) (a b c : Value), Rd W [a, b, c] ((p, (U : Int), l) : Sys) → Calls Tryz.prog 13 #[.agg #[a, b, c]] W fun e w' => ∃ v, e = .returned (.tuple #[v, .int .i64 0]) ∧ Fresh W.heap.size w' [v] AL ∧ Below W.heap.size W w' from fun W a b c h => by
        have h1 := AnswersOf_c _ a b c W h
        rw [e4] at h1
        exact h1)
      have CRK := Lib.hid (show ∀ (W : World) (a b c : Value), Rd W [a, b, c] ((p, (U : Int), l) : Sys) → Calls Tryz.prog 17 #[.agg #[a, b, c]] W fun e w' => e = .returned (.tuple #[.int .i64 0, .int .i64 4]) ∧ Below W.heap.size W w' from fun W a b c h => by
        have h1 := RankOfSystem_c _ a b c W h
        rw [e5] at h1
        exact h1)
      clear e1 e2 e3 e4 e5
      go_wp2_with fail
      refine (CSO.out _ _ _ _ HSY_5.out).mono ?_
      rintro e w6 ⟨vX, rfl, hXa, hbw6⟩
      have hz_w6 : w2.heap.size + 1 ≤ w6.heap.size := by have h9 := hbw6.size; (try simp at h9); omega
      have hs7 := hs4.step hbw6
      have HSY_8 := Lib.hid (Rd.mono HSY_5.out hbw6)
      clear HSY_5
      clear k0_0 k0_1 k0_2
      have k0_0 := hs7.cellAt 0 rfl 0 rfl
      have k0_1 := hs7.cellAt 0 rfl 1 rfl
      have k0_2 := hs7.cellAt 0 rfl 2 rfl
      obtain ⟨aXa, cXa, rfl, _⟩ := rd_list hXa.rd
      have HXa := Lib.hid hXa.rd
      clear hXa
      go_wp2_with fail
      refine (CRO.out _ _ _ _ HSY_8.out).mono ?_
      rintro e w9 ⟨vX, rfl, hYa, hbw9⟩
      have hz_w9 : w6.heap.size ≤ w9.heap.size := by have h9 := hbw9.size; (try simp at h9); omega
      have hs10 := hs7.step hbw9
      have HSY_11 := Lib.hid (Rd.mono HSY_8.out hbw9)
      clear HSY_8
      have HXa_12 := Lib.hid (Rd.mono HXa.out hbw9)
      clear HXa
      clear k0_0 k0_1 k0_2
      have k0_0 := hs10.cellAt 0 rfl 0 rfl
      have k0_1 := hs10.cellAt 0 rfl 1 rfl
      have k0_2 := hs10.cellAt 0 rfl 2 rfl
      obtain ⟨aYa, cYa, rfl, _⟩ := rd_list hYa.rd
      have HYa := Lib.hid hYa.rd
      clear hYa
      go_wp2_with fail
      refine (CSP.out _ _ _ _ HSY_11.out).mono ?_
      rintro e w13 ⟨vX, rfl, hXb, hbw13⟩
      have hz_w13 : w9.heap.size ≤ w13.heap.size := by have h9 := hbw13.size; (try simp at h9); omega
      have hs14 := hs10.step hbw13
      have HSY_15 := Lib.hid (Rd.mono HSY_11.out hbw13)
      clear HSY_11
      have HXa_16 := Lib.hid (Rd.mono HXa_12.out hbw13)
      clear HXa_12
      have HYa_17 := Lib.hid (Rd.mono HYa.out hbw13)
      clear HYa
      clear k0_0 k0_1 k0_2
      have k0_0 := hs14.cellAt 0 rfl 0 rfl
      have k0_1 := hs14.cellAt 0 rfl 1 rfl
      have k0_2 := hs14.cellAt 0 rfl 2 rfl
      obtain ⟨aXb, cXb, rfl, _⟩ := rd_list hXb.rd
      have HXb := Lib.hid hXb.rd
      clear hXb
      go_wp2_with fail
      refine (CRP.out _ _ _ _ HSY_15.out).mono ?_
      rintro e w18 ⟨vX, rfl, hYb, hbw18⟩
      have hz_w18 : w13.heap.size ≤ w18.heap.size := by have h9 := hbw18.size; (try simp at h9); omega
      have hs19 := hs14.step hbw18
      have HSY_20 := Lib.hid (Rd.mono HSY_15.out hbw18)
      clear HSY_15
      have HXa_21 := Lib.hid (Rd.mono HXa_16.out hbw18)
      clear HXa_16
      have HYa_22 := Lib.hid (Rd.mono HYa_17.out hbw18)
      clear HYa_17
      have HXb_23 := Lib.hid (Rd.mono HXb.out hbw18)
      clear HXb
      clear k0_0 k0_1 k0_2
      have k0_0 := hs19.cellAt 0 rfl 0 rfl
      have k0_1 := hs19.cellAt 0 rfl 1 rfl
      have k0_2 := hs19.cellAt 0 rfl 2 rfl
      obtain ⟨aYb, cYb, rfl, _⟩ := rd_list hYb.rd
      have HYb := Lib.hid hYb.rd
      clear hYb
      clear CSO CRO CSP CRP
      go_wp2_with fail
      refine (A2Same_t X _ _ _ HXa_21.out HXb_23.out).mono ?_
      rintro e w24 ⟨rfl, hbw24⟩
      have hz_w24 : w18.heap.size ≤ w24.heap.size := by have h9 := hbw24.size; (try simp at h9); omega
      have hs25 := hs19.step hbw24
      have HSY_26 := Lib.hid (Rd.mono HSY_20.out hbw24)
      clear HSY_20
      have HXa_27 := Lib.hid (Rd.mono HXa_21.out hbw24)
      clear HXa_21
      have HYa_28 := Lib.hid (Rd.mono HYa_22.out hbw24)
      clear HYa_22
      have HXb_29 := Lib.hid (Rd.mono HXb_23.out hbw24)
      clear HXb_23
      have HYb_30 := Lib.hid (Rd.mono HYb.out hbw24)
      clear HYb
      clear k0_0 k0_1 k0_2
      have k0_0 := hs25.cellAt 0 rfl 0 rfl
      have k0_1 := hs25.cellAt 0 rfl 1 rfl
      have k0_2 := hs25.cellAt 0 rfl 2 rfl
      go_wp2_with fail
      refine (A2Same_t Y _ _ _ HYa_28.out HYb_30.out).mono ?_
      rintro e w31 ⟨rfl, hbw31⟩
      have hz_w31 : w24.heap.size ≤ w31.heap.size := by have h9 := hbw31.size; (try simp at h9); omega
      have hs32 := hs25.step hbw31
      have HSY_33 := Lib.hid (Rd.mono HSY_26.out hbw31)
      clear HSY_26
      have HXa_34 := Lib.hid (Rd.mono HXa_27.out hbw31)
      clear HXa_27
      have HYa_35 := Lib.hid (Rd.mono HYa_28.out hbw31)
      clear HYa_28
      have HXb_36 := Lib.hid (Rd.mono HXb_29.out hbw31)
      clear HXb_29
      have HYb_37 := Lib.hid (Rd.mono HYb_30.out hbw31)
      clear HYb_30
      clear k0_0 k0_1 k0_2
      have k0_0 := hs32.cellAt 0 rfl 0 rfl
      have k0_1 := hs32.cellAt 0 rfl 1 rfl
      have k0_2 := hs32.cellAt 0 rfl 2 rfl
      go_wp2_with fail
      refine (CVS.out _ _ _ _ HSY_33.out).mono ?_
      rintro e w38 ⟨rfl, hbw38⟩
      have hz_w38 : w31.heap.size ≤ w38.heap.size := by have h9 := hbw38.size; (try simp at h9); omega
      have hs39 := hs32.step hbw38
      have HSY_40 := Lib.hid (Rd.mono HSY_33.out hbw38)
      clear HSY_33
      have HXa_41 := Lib.hid (Rd.mono HXa_34.out hbw38)
      clear HXa_34
      have HYa_42 := Lib.hid (Rd.mono HYa_35.out hbw38)
      clear HYa_35
      have HXb_43 := Lib.hid (Rd.mono HXb_36.out hbw38)
      clear HXb_36
      have HYb_44 := Lib.hid (Rd.mono HYb_37.out hbw38)
      clear HYb_37
      clear k0_0 k0_1 k0_2
      have k0_0 := hs39.cellAt 0 rfl 0 rfl
      have k0_1 := hs39.cellAt 0 rfl 1 rfl
      have k0_2 := hs39.cellAt 0 rfl 2 rfl
      clear HXa_41
      clear HYa_42
      go_wp2_with fail
      refine (CCN.out _ _ _ _ HSY_40.out).mono ?_
      rintro e w45 ⟨rfl, hbw45⟩
      have hz_w45 : w38.heap.size ≤ w45.heap.size := by have h9 := hbw45.size; (try simp at h9); omega
      have hs46 := hs39.step hbw45
      have HSY_47 := Lib.hid (Rd.mono HSY_40.out hbw45)
      clear HSY_40
      have HXb_48 := Lib.hid (Rd.mono HXb_43.out hbw45)
      clear HXb_43
      have HYb_49 := Lib.hid (Rd.mono HYb_44.out hbw45)
      clear HYb_44
      clear k0_0 k0_1 k0_2
      have k0_0 := hs46.cellAt 0 rfl 0 rfl
      have k0_1 := hs46.cellAt 0 rfl 1 rfl
      have k0_2 := hs46.cellAt 0 rfl 2 rfl
      go_wp2_with fail
      refine (CAO.out _ _ _ _ HSY_47.out).mono ?_
      rintro e w50 ⟨vX, rfl, hLa, hbw50⟩
      have hz_w50 : w45.heap.size ≤ w50.heap.size := by have h9 := hbw50.size; (try simp at h9); omega
      have hs51 := hs46.step hbw50
      have HSY_52 := Lib.hid (Rd.mono HSY_47.out hbw50)
      clear HSY_47
      have HXb_53 := Lib.hid (Rd.mono HXb_48.out hbw50)
      clear HXb_48
      have HYb_54 := Lib.hid (Rd.mono HYb_49.out hbw50)
      clear HYb_49
      clear k0_0 k0_1 k0_2
      have k0_0 := hs51.cellAt 0 rfl 0 rfl
      have k0_1 := hs51.cellAt 0 rfl 1 rfl
      have k0_2 := hs51.cellAt 0 rfl 2 rfl
      obtain ⟨aLa, cLa, rfl, _⟩ := rd_list hLa.rd
      have HLa := Lib.hid hLa.rd
      clear hLa
      clear CVS CCN CAO
      go_wp2_with fail
      refine (CRD.out _ _ _ _ HSY_52.out).mono ?_
      rintro e w55 ⟨u0, u1, u2, rfl, hRa, hbw55⟩
      have hz_w55 : w50.heap.size ≤ w55.heap.size := by have h9 := hbw55.size; (try simp at h9); omega
      have hs56 := hs51.step hbw55
      have HSY_57 := Lib.hid (Rd.mono HSY_52.out hbw55)
      clear HSY_52
      have HXb_58 := Lib.hid (Rd.mono HXb_53.out hbw55)
      clear HXb_53
      have HYb_59 := Lib.hid (Rd.mono HYb_54.out hbw55)
      clear HYb_54
      have HLa_60 := Lib.hid (Rd.mono HLa.out hbw55)
      clear HLa
      clear k0_0 k0_1 k0_2
      have k0_0 := hs56.cellAt 0 rfl 0 rfl
      have k0_1 := hs56.cellAt 0 rfl 1 rfl
      have k0_2 := hs56.cellAt 0 rfl 2 rfl
      have zW0 := rd_cons rfl hRa.rd
      obtain ⟨rfl, _⟩ := rd_i1 zW0.1
      have zW1 := rd_cons rfl zW0.2
      obtain ⟨rfl, _⟩ := rd_i1 zW1.1
      obtain ⟨aRa, cRa, rfl, _⟩ := rd_list zW1.2
      have HRa := Lib.hid hRa.rd
      clear hRa zW0 zW1
      have hs61 := hs56.alloc #[.int .i64 p, .int .i64 U, .slice aRa RL.length cRa] 26 (n := w55.heap.size) (by simp)
      have HSY_62 := Lib.hid (Rd.mono HSY_57.out (belowA _ (.cells #[.int .i64 p, .int .i64 U, .slice aRa RL.length cRa] 26)))
      clear HSY_57
      have HXb_63 := Lib.hid (Rd.mono HXb_58.out (belowA _ (.cells #[.int .i64 p, .int .i64 U, .slice aRa RL.length cRa] 26)))
      clear HXb_58
      have HYb_64 := Lib.hid (Rd.mono HYb_59.out (belowA _ (.cells #[.int .i64 p, .int .i64 U, .slice aRa RL.length cRa] 26)))
      clear HYb_59
      have HLa_65 := Lib.hid (Rd.mono HLa_60.out (belowA _ (.cells #[.int .i64 p, .int .i64 U, .slice aRa RL.length cRa] 26)))
      clear HLa_60
      have HRa_66 := Lib.hid (Rd.mono HRa.out (belowA _ (.cells #[.int .i64 p, .int .i64 U, .slice aRa RL.length cRa] 26)))
      clear HRa
      clear k0_0 k0_1 k0_2
      have k0_0 := hs61.cellAt 0 rfl 0 rfl
      have k0_1 := hs61.cellAt 0 rfl 1 rfl
      have k0_2 := hs61.cellAt 0 rfl 2 rfl
      have k1_0 := hs61.cellAt 1 rfl 0 rfl
      have k1_1 := hs61.cellAt 1 rfl 1 rfl
      have k1_2 := hs61.cellAt 1 rfl 2 rfl
      go_wp2_with fail
      refine (CR2.out _ _ _ _ HRa_66.out).mono ?_
      rintro e w67 ⟨u0, u1, u2, rfl, hRb, hbw67⟩
      have hz_w67 : w55.heap.size + 1 ≤ w67.heap.size := by have h9 := hbw67.size; (try simp at h9); omega
      have hs68 := hs61.step hbw67
      have HSY_69 := Lib.hid (Rd.mono HSY_62.out hbw67)
      clear HSY_62
      have HXb_70 := Lib.hid (Rd.mono HXb_63.out hbw67)
      clear HXb_63
      have HYb_71 := Lib.hid (Rd.mono HYb_64.out hbw67)
      clear HYb_64
      have HLa_72 := Lib.hid (Rd.mono HLa_65.out hbw67)
      clear HLa_65
      have HRa_73 := Lib.hid (Rd.mono HRa_66.out hbw67)
      clear HRa_66
      clear k0_0 k0_1 k0_2 k1_0 k1_1 k1_2
      have k0_0 := hs68.cellAt 0 rfl 0 rfl
      have k0_1 := hs68.cellAt 0 rfl 1 rfl
      have k0_2 := hs68.cellAt 0 rfl 2 rfl
      have k1_0 := hs68.cellAt 1 rfl 0 rfl
      have k1_1 := hs68.cellAt 1 rfl 1 rfl
      have k1_2 := hs68.cellAt 1 rfl 2 rfl
      have zW0 := rd_cons rfl hRb.rd
      obtain ⟨rfl, _⟩ := rd_i1 zW0.1
      have zW1 := rd_cons rfl zW0.2
      obtain ⟨rfl, _⟩ := rd_i1 zW1.1
      obtain ⟨aRb, cRb, rfl, _⟩ := rd_list zW1.2
      have HRb := Lib.hid hRb.rd
      clear hRb zW0 zW1
      have hs74 := hs68.alloc #[.int .i64 p, .int .i64 U, .slice aRb RL.length cRb] 26 (n := w67.heap.size) (by simp)
      have HSY_75 := Lib.hid (Rd.mono HSY_69.out (belowA _ (.cells #[.int .i64 p, .int .i64 U, .slice aRb RL.length cRb] 26)))
      clear HSY_69
      have HXb_76 := Lib.hid (Rd.mono HXb_70.out (belowA _ (.cells #[.int .i64 p, .int .i64 U, .slice aRb RL.length cRb] 26)))
      clear HXb_70
      have HYb_77 := Lib.hid (Rd.mono HYb_71.out (belowA _ (.cells #[.int .i64 p, .int .i64 U, .slice aRb RL.length cRb] 26)))
      clear HYb_71
      have HLa_78 := Lib.hid (Rd.mono HLa_72.out (belowA _ (.cells #[.int .i64 p, .int .i64 U, .slice aRb RL.length cRb] 26)))
      clear HLa_72
      have HRa_79 := Lib.hid (Rd.mono HRa_73.out (belowA _ (.cells #[.int .i64 p, .int .i64 U, .slice aRb RL.length cRb] 26)))
      clear HRa_73
      have HRb_80 := Lib.hid (Rd.mono HRb.out (belowA _ (.cells #[.int .i64 p, .int .i64 U, .slice aRb RL.length cRb] 26)))
      clear HRb
      clear k0_0 k0_1 k0_2 k1_0 k1_1 k1_2
      have k0_0 := hs74.cellAt 0 rfl 0 rfl
      have k0_1 := hs74.cellAt 0 rfl 1 rfl
      have k0_2 := hs74.cellAt 0 rfl 2 rfl
      have k1_0 := hs74.cellAt 1 rfl 0 rfl
      have k1_1 := hs74.cellAt 1 rfl 1 rfl
      have k1_2 := hs74.cellAt 1 rfl 2 rfl
      have k2_0 := hs74.cellAt 2 rfl 0 rfl
      have k2_1 := hs74.cellAt 2 rfl 1 rfl
      have k2_2 := hs74.cellAt 2 rfl 2 rfl
      clear CRD CR2
      go_wp2_with fail
      refine (CSS.out _ _ _ _ _ _ _ _ HRb_80.out HRa_79.out).mono ?_
      rintro e w81 ⟨rfl, hbw81⟩
      have hz_w81 : w67.heap.size + 1 ≤ w81.heap.size := by have h9 := hbw81.size; (try simp at h9); omega
      have hs82 := hs74.step hbw81
      have HSY_83 := Lib.hid (Rd.mono HSY_75.out hbw81)
      clear HSY_75
      have HXb_84 := Lib.hid (Rd.mono HXb_76.out hbw81)
      clear HXb_76
      have HYb_85 := Lib.hid (Rd.mono HYb_77.out hbw81)
      clear HYb_77
      have HLa_86 := Lib.hid (Rd.mono HLa_78.out hbw81)
      clear HLa_78
      have HRa_87 := Lib.hid (Rd.mono HRa_79.out hbw81)
      clear HRa_79
      have HRb_88 := Lib.hid (Rd.mono HRb_80.out hbw81)
      clear HRb_80
      clear k0_0 k0_1 k0_2 k1_0 k1_1 k1_2 k2_0 k2_1 k2_2
      have k0_0 := hs82.cellAt 0 rfl 0 rfl
      have k0_1 := hs82.cellAt 0 rfl 1 rfl
      have k0_2 := hs82.cellAt 0 rfl 2 rfl
      have k1_0 := hs82.cellAt 1 rfl 0 rfl
      have k1_1 := hs82.cellAt 1 rfl 1 rfl
      have k1_2 := hs82.cellAt 1 rfl 2 rfl
      have k2_0 := hs82.cellAt 2 rfl 0 rfl
      have k2_1 := hs82.cellAt 2 rfl 1 rfl
      have k2_2 := hs82.cellAt 2 rfl 2 rfl
      clear HRb_88
      go_wp2_with fail
      refine (CIR.out _ _ _ _ _ HSY_83.out HYb_85.out).mono ?_
      rintro e w89 ⟨rfl, hbw89⟩
      have hz_w89 : w81.heap.size ≤ w89.heap.size := by have h9 := hbw89.size; (try simp at h9); omega
      have hs90 := hs82.step hbw89
      have HSY_91 := Lib.hid (Rd.mono HSY_83.out hbw89)
      clear HSY_83
      have HXb_92 := Lib.hid (Rd.mono HXb_84.out hbw89)
      clear HXb_84
      have HYb_93 := Lib.hid (Rd.mono HYb_85.out hbw89)
      clear HYb_85
      have HLa_94 := Lib.hid (Rd.mono HLa_86.out hbw89)
      clear HLa_86
      have HRa_95 := Lib.hid (Rd.mono HRa_87.out hbw89)
      clear HRa_87
      clear k0_0 k0_1 k0_2 k1_0 k1_1 k1_2 k2_0 k2_1 k2_2
      have k0_0 := hs90.cellAt 0 rfl 0 rfl
      have k0_1 := hs90.cellAt 0 rfl 1 rfl
      have k0_2 := hs90.cellAt 0 rfl 2 rfl
      have k1_0 := hs90.cellAt 1 rfl 0 rfl
      have k1_1 := hs90.cellAt 1 rfl 1 rfl
      have k1_2 := hs90.cellAt 1 rfl 2 rfl
      have k2_0 := hs90.cellAt 2 rfl 0 rfl
      have k2_1 := hs90.cellAt 2 rfl 1 rfl
      have k2_2 := hs90.cellAt 2 rfl 2 rfl
      go_wp2_with fail
      refine (CRK.out _ _ _ _ HSY_91.out).mono ?_
      rintro e w96 ⟨rfl, hbw96⟩
      have hz_w96 : w89.heap.size ≤ w96.heap.size := by have h9 := hbw96.size; (try simp at h9); omega
      have hs97 := hs90.step hbw96
      have HSY_98 := Lib.hid (Rd.mono HSY_91.out hbw96)
      clear HSY_91
      have HXb_99 := Lib.hid (Rd.mono HXb_92.out hbw96)
      clear HXb_92
      have HYb_100 := Lib.hid (Rd.mono HYb_93.out hbw96)
      clear HYb_93
      have HLa_101 := Lib.hid (Rd.mono HLa_94.out hbw96)
      clear HLa_94
      have HRa_102 := Lib.hid (Rd.mono HRa_95.out hbw96)
      clear HRa_95
      clear k0_0 k0_1 k0_2 k1_0 k1_1 k1_2 k2_0 k2_1 k2_2
      have k0_0 := hs97.cellAt 0 rfl 0 rfl
      have k0_1 := hs97.cellAt 0 rfl 1 rfl
      have k0_2 := hs97.cellAt 0 rfl 2 rfl
      have k1_0 := hs97.cellAt 1 rfl 0 rfl
      have k1_1 := hs97.cellAt 1 rfl 1 rfl
      have k1_2 := hs97.cellAt 1 rfl 2 rfl
      have k2_0 := hs97.cellAt 2 rfl 0 rfl
      have k2_1 := hs97.cellAt 2 rfl 1 rfl
      have k2_2 := hs97.cellAt 2 rfl 2 rfl
      go_wp2_with fail
      go_ret
      exact ⟨rfl, hs97.bel⟩
    · obtain ⟨X, r, n, e1, e2, e6, e5, hr1, hr2, e3, hn1, e4, e7, e8, e9, e10⟩ := sys_some hv hf
      rw [hRL] at hr2 e8
      simp only at hr1 hr2
      subst hr2
      obtain ⟨AA, hAA⟩ : ∃ AA, AA = answersS (p, (U : Int), l) := ⟨_, rfl⟩
      rw [← hAA] at e4 e7 e9
      subst e7
      obtain ⟨Y, hY⟩ : ∃ Y : List Int, Y = [] := ⟨_, rfl⟩
      rw [← hY] at e2
      clear hY
      have CHO := Lib.hid (show ∀ (W : World) (a b c v : Value), Rd W [a, b, c] ((p, (U : Int), l) : Sys) → Rd W [v] X → Calls Tryz.prog 18 #[.agg #[a, b, c], v] W fun e w' => e = .returned (.tuple #[.bool true, .int .i64 0]) ∧ Below W.heap.size W w' from fun W a b c v h h' => by
        have h1 := HoldsIn_c _ a b c X v W h h'
        rw [e6] at h1
        exact h1)
      have CHL := Lib.hid (show ∀ (W : World) (a b c v : Value) (x : List Int), x ∈ AA → Rd W [a, b, c] ((p, (U : Int), l) : Sys) → Rd W [v] x → Calls Tryz.prog 18 #[.agg #[a, b, c], v] W fun e w' => e = .returned (.tuple #[.bool true, .int .i64 0]) ∧ Below W.heap.size W w' from fun W a b c v x hm h h' => by
        have h1 := HoldsIn_c _ a b c x v W h h'
        rw [e9 x hm] at h1
        exact h1)
      have CIR := Lib.hid (show ∀ (W : World) (a b c v : Value), Rd W [a, b, c] ((p, (U : Int), l) : Sys) → Rd W [v] (List.replicate l.length (0 : Int)) → Calls Tryz.prog 16 #[.agg #[a, b, c], v] W fun e w' => e = .returned (.tuple #[.bool false, .int .i64 0]) ∧ Below W.heap.size W w' from fun W a b c v h h' => by
        have h1 := IsRefutation_c _ a b c _ v W h h'
        rw [e10] at h1
        exact h1)
      have CA2 := Lib.hid (show ∀ (W : World) (a b c : Value), ¬ (500 : Int) < AA.length → Rd W [a, b, c] ((p, (U : Int), RL) : Sys) → Calls Tryz.prog 13 #[.agg #[a, b, c]] W fun e w' => ∃ v, e = .returned (.tuple #[v, .int .i64 0]) ∧ Fresh W.heap.size w' [v] AA ∧ Below W.heap.size W w' from fun W a b c h5 h => by
        have h1 := AnswersOf_c _ a b c W h
        rw [e8, e4, if_neg h5] at h1
        exact h1)
      have hrU : ¬ ((U : Int) < RL.length) := by omega
      have hrr : ((RL.length : Int) != (RL.length : Int)) = false := by simp
      have hn2 : ¬ ((AA.length : Int) < 1) := by omega
      have hnn : ((AA.length : Int) != (AA.length : Int)) = false := by simp
      clear e6 e8 e9 e10 hf hRL hAA hr1 hn1
      by_cases h5 : (500 : Int) < AA.length
      · obtain ⟨AL, hAL⟩ : ∃ AL : List (List Int), AL = [] := ⟨_, rfl⟩
        rw [if_pos h5, ← hAL] at e4
        clear hAL CA2 CHL CIR hv
        have CSO := Lib.hid (show ∀ (W : World) (a b c : Value), Rd W [a, b, c] ((p, (U : Int), l) : Sys) → Calls Tryz.prog 6 #[.agg #[a, b, c]] W fun e w' => ∃ v, e = .returned (.tuple #[v, .int .i64 0]) ∧ Fresh W.heap.size w' [v] X ∧ Below W.heap.size W w' from fun W a b c h => by
          have h1 := SolveSystem_c _ a b c W h
          rw [e1] at h1
          exact h1)
        have CSP := Lib.hid (show ∀ (W : World) (a b c : Value), Rd W [a, b, c] ((p, (U : Int), l) : Sys) → Calls Tryz.prog 8 #[.agg #[a, b, c]] W fun e w' => ∃ v, e = .returned (.tuple #[v, .int .i64 0]) ∧ Fresh W.heap.size w' [v] X ∧ Below W.heap.size W w' from fun W a b c h => by
          have h1 := sSolveSystem_c _ a b c W h
          rw [e1] at h1
          exact h1)
        have CRO := Lib.hid (show ∀ (W : World) (a b c : Value), Rd W [a, b, c] ((p, (U : Int), l) : Sys) → Calls Tryz.prog 7 #[.agg #[a, b, c]] W fun e w' => ∃ v, e = .returned (.tuple #[v, .int .i64 6]) ∧ Fresh W.heap.size w' [v] Y ∧ Below W.heap.size W w' from fun W a b c h => by
          have h1 := RefuteSystem_c _ a b c W h
          rw [e2] at h1
          exact h1)
        have CRP := Lib.hid (show ∀ (W : World) (a b c : Value), Rd W [a, b, c] ((p, (U : Int), l) : Sys) → Calls Tryz.prog 9 #[.agg #[a, b, c]] W fun e w' => ∃ v, e = .returned (.tuple #[v, .int .i64 6]) ∧ Fresh W.heap.size w' [v] Y ∧ Below W.heap.size W w' from fun W a b c h => by
          have h1 := sRefuteSystem_c _ a b c W h
          rw [e2] at h1
          exact h1)
        have CCN := Lib.hid (show ∀ (W : World) (a b c : Value), Rd W [a, b, c] ((p, (U : Int), l) : Sys) → Calls Tryz.prog 12 #[.agg #[a, b, c]] W fun e w' => e = .returned (.tuple #[.int .i64 AA.length, .int .i64 0]) ∧ Below W.heap.size W w' from fun W a b c h => by
          have h1 := CountAnswers_c _ a b c W h
          rw [e3] at h1
          exact h1)
        have CAO := Lib.hid (show ∀ (W : World) (a b c : Value), Rd W [a, b, c] ((p, (U : Int), l) : Sys) → Calls Tryz.prog 13 #[.agg #[a, b, c]] W fun e w' => ∃ v, e = .returned (.tuple #[v, .int .i64 3]) ∧ Fresh W.heap.size w' [v] AL ∧ Below W.heap.size W w' from fun W a b c h => by
          have h1 := AnswersOf_c _ a b c W h
          rw [e4] at h1
          exact h1)
        have CRK := Lib.hid (show ∀ (W : World) (a b c : Value), Rd W [a, b, c] ((p, (U : Int), l) : Sys) → Calls Tryz.prog 17 #[.agg #[a, b, c]] W fun e w' => e = .returned (.tuple #[.int .i64 RL.length, .int .i64 0]) ∧ Below W.heap.size W w' from fun W a b c h => by
          have h1 := RankOfSystem_c _ a b c W h
          rw [e5] at h1
          exact h1)
        clear e1 e2 e3 e4 e5
        go_wp2_with fail
        refine (CSO.out _ _ _ _ HSY_5.out).mono ?_
        rintro e w103 ⟨vX, rfl, hXa, hbw103⟩
        have hz_w103 : w2.heap.size + 1 ≤ w103.heap.size := by have h9 := hbw103.size; (try simp at h9); omega
        have hs104 := hs4.step hbw103
        have HSY_105 := Lib.hid (Rd.mono HSY_5.out hbw103)
        clear HSY_5
        clear k0_0 k0_1 k0_2
        have k0_0 := hs104.cellAt 0 rfl 0 rfl
        have k0_1 := hs104.cellAt 0 rfl 1 rfl
        have k0_2 := hs104.cellAt 0 rfl 2 rfl
        obtain ⟨aXa, cXa, rfl, _⟩ := rd_list hXa.rd
        have HXa := Lib.hid hXa.rd
        clear hXa
        go_wp2_with fail
        refine (CRO.out _ _ _ _ HSY_105.out).mono ?_
        rintro e w106 ⟨vX, rfl, hYa, hbw106⟩
        have hz_w106 : w103.heap.size ≤ w106.heap.size := by have h9 := hbw106.size; (try simp at h9); omega
        have hs107 := hs104.step hbw106
        have HSY_108 := Lib.hid (Rd.mono HSY_105.out hbw106)
        clear HSY_105
        have HXa_109 := Lib.hid (Rd.mono HXa.out hbw106)
        clear HXa
        clear k0_0 k0_1 k0_2
        have k0_0 := hs107.cellAt 0 rfl 0 rfl
        have k0_1 := hs107.cellAt 0 rfl 1 rfl
        have k0_2 := hs107.cellAt 0 rfl 2 rfl
        obtain ⟨aYa, cYa, rfl, _⟩ := rd_list hYa.rd
        have HYa := Lib.hid hYa.rd
        clear hYa
        go_wp2_with fail
        refine (CSP.out _ _ _ _ HSY_108.out).mono ?_
        rintro e w110 ⟨vX, rfl, hXb, hbw110⟩
        have hz_w110 : w106.heap.size ≤ w110.heap.size := by have h9 := hbw110.size; (try simp at h9); omega
        have hs111 := hs107.step hbw110
        have HSY_112 := Lib.hid (Rd.mono HSY_108.out hbw110)
        clear HSY_108
        have HXa_113 := Lib.hid (Rd.mono HXa_109.out hbw110)
        clear HXa_109
        have HYa_114 := Lib.hid (Rd.mono HYa.out hbw110)
        clear HYa
        clear k0_0 k0_1 k0_2
        have k0_0 := hs111.cellAt 0 rfl 0 rfl
        have k0_1 := hs111.cellAt 0 rfl 1 rfl
        have k0_2 := hs111.cellAt 0 rfl 2 rfl
        obtain ⟨aXb, cXb, rfl, _⟩ := rd_list hXb.rd
        have HXb := Lib.hid hXb.rd
        clear hXb
        go_wp2_with fail
        refine (CRP.out _ _ _ _ HSY_112.out).mono ?_
        rintro e w115 ⟨vX, rfl, hYb, hbw115⟩
        have hz_w115 : w110.heap.size ≤ w115.heap.size := by have h9 := hbw115.size; (try simp at h9); omega
        have hs116 := hs111.step hbw115
        have HSY_117 := Lib.hid (Rd.mono HSY_112.out hbw115)
        clear HSY_112
        have HXa_118 := Lib.hid (Rd.mono HXa_113.out hbw115)
        clear HXa_113
        have HYa_119 := Lib.hid (Rd.mono HYa_114.out hbw115)
        clear HYa_114
        have HXb_120 := Lib.hid (Rd.mono HXb.out hbw115)
        clear HXb
        clear k0_0 k0_1 k0_2
        have k0_0 := hs116.cellAt 0 rfl 0 rfl
        have k0_1 := hs116.cellAt 0 rfl 1 rfl
        have k0_2 := hs116.cellAt 0 rfl 2 rfl
        obtain ⟨aYb, cYb, rfl, _⟩ := rd_list hYb.rd
        have HYb := Lib.hid hYb.rd
        clear hYb
        clear CSO CRO CSP CRP
        go_wp2_with fail
        refine (A2Same_t X _ _ _ HXa_118.out HXb_120.out).mono ?_
        rintro e w121 ⟨rfl, hbw121⟩
        have hz_w121 : w115.heap.size ≤ w121.heap.size := by have h9 := hbw121.size; (try simp at h9); omega
        have hs122 := hs116.step hbw121
        have HSY_123 := Lib.hid (Rd.mono HSY_117.out hbw121)
        clear HSY_117
        have HXa_124 := Lib.hid (Rd.mono HXa_118.out hbw121)
        clear HXa_118
        have HYa_125 := Lib.hid (Rd.mono HYa_119.out hbw121)
        clear HYa_119
        have HXb_126 := Lib.hid (Rd.mono HXb_120.out hbw121)
        clear HXb_120
        have HYb_127 := Lib.hid (Rd.mono HYb.out hbw121)
        clear HYb
        clear k0_0 k0_1 k0_2
        have k0_0 := hs122.cellAt 0 rfl 0 rfl
        have k0_1 := hs122.cellAt 0 rfl 1 rfl
        have k0_2 := hs122.cellAt 0 rfl 2 rfl
        go_wp2_with fail
        refine (A2Same_t Y _ _ _ HYa_125.out HYb_127.out).mono ?_
        rintro e w128 ⟨rfl, hbw128⟩
        have hz_w128 : w121.heap.size ≤ w128.heap.size := by have h9 := hbw128.size; (try simp at h9); omega
        have hs129 := hs122.step hbw128
        have HSY_130 := Lib.hid (Rd.mono HSY_123.out hbw128)
        clear HSY_123
        have HXa_131 := Lib.hid (Rd.mono HXa_124.out hbw128)
        clear HXa_124
        have HYa_132 := Lib.hid (Rd.mono HYa_125.out hbw128)
        clear HYa_125
        have HXb_133 := Lib.hid (Rd.mono HXb_126.out hbw128)
        clear HXb_126
        have HYb_134 := Lib.hid (Rd.mono HYb_127.out hbw128)
        clear HYb_127
        clear k0_0 k0_1 k0_2
        have k0_0 := hs129.cellAt 0 rfl 0 rfl
        have k0_1 := hs129.cellAt 0 rfl 1 rfl
        have k0_2 := hs129.cellAt 0 rfl 2 rfl
        go_wp2_with fail
        refine (CVS.out _ _ _ _ HSY_130.out).mono ?_
        rintro e w135 ⟨rfl, hbw135⟩
        have hz_w135 : w128.heap.size ≤ w135.heap.size := by have h9 := hbw135.size; (try simp at h9); omega
        have hs136 := hs129.step hbw135
        have HSY_137 := Lib.hid (Rd.mono HSY_130.out hbw135)
        clear HSY_130
        have HXa_138 := Lib.hid (Rd.mono HXa_131.out hbw135)
        clear HXa_131
        have HYa_139 := Lib.hid (Rd.mono HYa_132.out hbw135)
        clear HYa_132
        have HXb_140 := Lib.hid (Rd.mono HXb_133.out hbw135)
        clear HXb_133
        have HYb_141 := Lib.hid (Rd.mono HYb_134.out hbw135)
        clear HYb_134
        clear k0_0 k0_1 k0_2
        have k0_0 := hs136.cellAt 0 rfl 0 rfl
        have k0_1 := hs136.cellAt 0 rfl 1 rfl
        have k0_2 := hs136.cellAt 0 rfl 2 rfl
        clear HXa_138
        clear HYa_139
        go_wp2_with fail
        refine (CCN.out _ _ _ _ HSY_137.out).mono ?_
        rintro e w142 ⟨rfl, hbw142⟩
        have hz_w142 : w135.heap.size ≤ w142.heap.size := by have h9 := hbw142.size; (try simp at h9); omega
        have hs143 := hs136.step hbw142
        have HSY_144 := Lib.hid (Rd.mono HSY_137.out hbw142)
        clear HSY_137
        have HXb_145 := Lib.hid (Rd.mono HXb_140.out hbw142)
        clear HXb_140
        have HYb_146 := Lib.hid (Rd.mono HYb_141.out hbw142)
        clear HYb_141
        clear k0_0 k0_1 k0_2
        have k0_0 := hs143.cellAt 0 rfl 0 rfl
        have k0_1 := hs143.cellAt 0 rfl 1 rfl
        have k0_2 := hs143.cellAt 0 rfl 2 rfl
        go_wp2_with fail
        refine (CAO.out _ _ _ _ HSY_144.out).mono ?_
        rintro e w147 ⟨vX, rfl, hLa, hbw147⟩
        have hz_w147 : w142.heap.size ≤ w147.heap.size := by have h9 := hbw147.size; (try simp at h9); omega
        have hs148 := hs143.step hbw147
        have HSY_149 := Lib.hid (Rd.mono HSY_144.out hbw147)
        clear HSY_144
        have HXb_150 := Lib.hid (Rd.mono HXb_145.out hbw147)
        clear HXb_145
        have HYb_151 := Lib.hid (Rd.mono HYb_146.out hbw147)
        clear HYb_146
        clear k0_0 k0_1 k0_2
        have k0_0 := hs148.cellAt 0 rfl 0 rfl
        have k0_1 := hs148.cellAt 0 rfl 1 rfl
        have k0_2 := hs148.cellAt 0 rfl 2 rfl
        obtain ⟨aLa, cLa, rfl, _⟩ := rd_list hLa.rd
        have HLa := Lib.hid hLa.rd
        clear hLa
        clear CVS CCN CAO
        go_wp2_with fail
        refine (CRD.out _ _ _ _ HSY_149.out).mono ?_
        rintro e w152 ⟨u0, u1, u2, rfl, hRa, hbw152⟩
        have hz_w152 : w147.heap.size ≤ w152.heap.size := by have h9 := hbw152.size; (try simp at h9); omega
        have hs153 := hs148.step hbw152
        have HSY_154 := Lib.hid (Rd.mono HSY_149.out hbw152)
        clear HSY_149
        have HXb_155 := Lib.hid (Rd.mono HXb_150.out hbw152)
        clear HXb_150
        have HYb_156 := Lib.hid (Rd.mono HYb_151.out hbw152)
        clear HYb_151
        have HLa_157 := Lib.hid (Rd.mono HLa.out hbw152)
        clear HLa
        clear k0_0 k0_1 k0_2
        have k0_0 := hs153.cellAt 0 rfl 0 rfl
        have k0_1 := hs153.cellAt 0 rfl 1 rfl
        have k0_2 := hs153.cellAt 0 rfl 2 rfl
        have zW0 := rd_cons rfl hRa.rd
        obtain ⟨rfl, _⟩ := rd_i1 zW0.1
        have zW1 := rd_cons rfl zW0.2
        obtain ⟨rfl, _⟩ := rd_i1 zW1.1
        obtain ⟨aRa, cRa, rfl, _⟩ := rd_list zW1.2
        have HRa := Lib.hid hRa.rd
        clear hRa zW0 zW1
        have hs158 := hs153.alloc #[.int .i64 p, .int .i64 U, .slice aRa RL.length cRa] 26 (n := w152.heap.size) (by simp)
        have HSY_159 := Lib.hid (Rd.mono HSY_154.out (belowA _ (.cells #[.int .i64 p, .int .i64 U, .slice aRa RL.length cRa] 26)))
        clear HSY_154
        have HXb_160 := Lib.hid (Rd.mono HXb_155.out (belowA _ (.cells #[.int .i64 p, .int .i64 U, .slice aRa RL.length cRa] 26)))
        clear HXb_155
        have HYb_161 := Lib.hid (Rd.mono HYb_156.out (belowA _ (.cells #[.int .i64 p, .int .i64 U, .slice aRa RL.length cRa] 26)))
        clear HYb_156
        have HLa_162 := Lib.hid (Rd.mono HLa_157.out (belowA _ (.cells #[.int .i64 p, .int .i64 U, .slice aRa RL.length cRa] 26)))
        clear HLa_157
        have HRa_163 := Lib.hid (Rd.mono HRa.out (belowA _ (.cells #[.int .i64 p, .int .i64 U, .slice aRa RL.length cRa] 26)))
        clear HRa
        clear k0_0 k0_1 k0_2
        have k0_0 := hs158.cellAt 0 rfl 0 rfl
        have k0_1 := hs158.cellAt 0 rfl 1 rfl
        have k0_2 := hs158.cellAt 0 rfl 2 rfl
        have k1_0 := hs158.cellAt 1 rfl 0 rfl
        have k1_1 := hs158.cellAt 1 rfl 1 rfl
        have k1_2 := hs158.cellAt 1 rfl 2 rfl
        go_wp2_with fail
        refine (CR2.out _ _ _ _ HRa_163.out).mono ?_
        rintro e w164 ⟨u0, u1, u2, rfl, hRb, hbw164⟩
        have hz_w164 : w152.heap.size + 1 ≤ w164.heap.size := by have h9 := hbw164.size; (try simp at h9); omega
        have hs165 := hs158.step hbw164
        have HSY_166 := Lib.hid (Rd.mono HSY_159.out hbw164)
        clear HSY_159
        have HXb_167 := Lib.hid (Rd.mono HXb_160.out hbw164)
        clear HXb_160
        have HYb_168 := Lib.hid (Rd.mono HYb_161.out hbw164)
        clear HYb_161
        have HLa_169 := Lib.hid (Rd.mono HLa_162.out hbw164)
        clear HLa_162
        have HRa_170 := Lib.hid (Rd.mono HRa_163.out hbw164)
        clear HRa_163
        clear k0_0 k0_1 k0_2 k1_0 k1_1 k1_2
        have k0_0 := hs165.cellAt 0 rfl 0 rfl
        have k0_1 := hs165.cellAt 0 rfl 1 rfl
        have k0_2 := hs165.cellAt 0 rfl 2 rfl
        have k1_0 := hs165.cellAt 1 rfl 0 rfl
        have k1_1 := hs165.cellAt 1 rfl 1 rfl
        have k1_2 := hs165.cellAt 1 rfl 2 rfl
        have zW0 := rd_cons rfl hRb.rd
        obtain ⟨rfl, _⟩ := rd_i1 zW0.1
        have zW1 := rd_cons rfl zW0.2
        obtain ⟨rfl, _⟩ := rd_i1 zW1.1
        obtain ⟨aRb, cRb, rfl, _⟩ := rd_list zW1.2
        have HRb := Lib.hid hRb.rd
        clear hRb zW0 zW1
        have hs171 := hs165.alloc #[.int .i64 p, .int .i64 U, .slice aRb RL.length cRb] 26 (n := w164.heap.size) (by simp)
        have HSY_172 := Lib.hid (Rd.mono HSY_166.out (belowA _ (.cells #[.int .i64 p, .int .i64 U, .slice aRb RL.length cRb] 26)))
        clear HSY_166
        have HXb_173 := Lib.hid (Rd.mono HXb_167.out (belowA _ (.cells #[.int .i64 p, .int .i64 U, .slice aRb RL.length cRb] 26)))
        clear HXb_167
        have HYb_174 := Lib.hid (Rd.mono HYb_168.out (belowA _ (.cells #[.int .i64 p, .int .i64 U, .slice aRb RL.length cRb] 26)))
        clear HYb_168
        have HLa_175 := Lib.hid (Rd.mono HLa_169.out (belowA _ (.cells #[.int .i64 p, .int .i64 U, .slice aRb RL.length cRb] 26)))
        clear HLa_169
        have HRa_176 := Lib.hid (Rd.mono HRa_170.out (belowA _ (.cells #[.int .i64 p, .int .i64 U, .slice aRb RL.length cRb] 26)))
        clear HRa_170
        have HRb_177 := Lib.hid (Rd.mono HRb.out (belowA _ (.cells #[.int .i64 p, .int .i64 U, .slice aRb RL.length cRb] 26)))
        clear HRb
        clear k0_0 k0_1 k0_2 k1_0 k1_1 k1_2
        have k0_0 := hs171.cellAt 0 rfl 0 rfl
        have k0_1 := hs171.cellAt 0 rfl 1 rfl
        have k0_2 := hs171.cellAt 0 rfl 2 rfl
        have k1_0 := hs171.cellAt 1 rfl 0 rfl
        have k1_1 := hs171.cellAt 1 rfl 1 rfl
        have k1_2 := hs171.cellAt 1 rfl 2 rfl
        have k2_0 := hs171.cellAt 2 rfl 0 rfl
        have k2_1 := hs171.cellAt 2 rfl 1 rfl
        have k2_2 := hs171.cellAt 2 rfl 2 rfl
        clear CRD CR2
        go_wp2_with fail
        refine (CSS.out _ _ _ _ _ _ _ _ HRb_177.out HRa_176.out).mono ?_
        rintro e w178 ⟨rfl, hbw178⟩
        have hz_w178 : w164.heap.size + 1 ≤ w178.heap.size := by have h9 := hbw178.size; (try simp at h9); omega
        have hs179 := hs171.step hbw178
        have HSY_180 := Lib.hid (Rd.mono HSY_172.out hbw178)
        clear HSY_172
        have HXb_181 := Lib.hid (Rd.mono HXb_173.out hbw178)
        clear HXb_173
        have HYb_182 := Lib.hid (Rd.mono HYb_174.out hbw178)
        clear HYb_174
        have HLa_183 := Lib.hid (Rd.mono HLa_175.out hbw178)
        clear HLa_175
        have HRa_184 := Lib.hid (Rd.mono HRa_176.out hbw178)
        clear HRa_176
        have HRb_185 := Lib.hid (Rd.mono HRb_177.out hbw178)
        clear HRb_177
        clear k0_0 k0_1 k0_2 k1_0 k1_1 k1_2 k2_0 k2_1 k2_2
        have k0_0 := hs179.cellAt 0 rfl 0 rfl
        have k0_1 := hs179.cellAt 0 rfl 1 rfl
        have k0_2 := hs179.cellAt 0 rfl 2 rfl
        have k1_0 := hs179.cellAt 1 rfl 0 rfl
        have k1_1 := hs179.cellAt 1 rfl 1 rfl
        have k1_2 := hs179.cellAt 1 rfl 2 rfl
        have k2_0 := hs179.cellAt 2 rfl 0 rfl
        have k2_1 := hs179.cellAt 2 rfl 1 rfl
        have k2_2 := hs179.cellAt 2 rfl 2 rfl
        clear HRb_185
        go_wp2_with fail
        refine (CHO.out _ _ _ _ _ HSY_180.out HXb_181.out).mono ?_
        rintro e w186 ⟨rfl, hbw186⟩
        have hz_w186 : w178.heap.size ≤ w186.heap.size := by have h9 := hbw186.size; (try simp at h9); omega
        have hs187 := hs179.step hbw186
        have HSY_188 := Lib.hid (Rd.mono HSY_180.out hbw186)
        clear HSY_180
        have HXb_189 := Lib.hid (Rd.mono HXb_181.out hbw186)
        clear HXb_181
        have HYb_190 := Lib.hid (Rd.mono HYb_182.out hbw186)
        clear HYb_182
        have HLa_191 := Lib.hid (Rd.mono HLa_183.out hbw186)
        clear HLa_183
        have HRa_192 := Lib.hid (Rd.mono HRa_184.out hbw186)
        clear HRa_184
        clear k0_0 k0_1 k0_2 k1_0 k1_1 k1_2 k2_0 k2_1 k2_2
        have k0_0 := hs187.cellAt 0 rfl 0 rfl
        have k0_1 := hs187.cellAt 0 rfl 1 rfl
        have k0_2 := hs187.cellAt 0 rfl 2 rfl
        have k1_0 := hs187.cellAt 1 rfl 0 rfl
        have k1_1 := hs187.cellAt 1 rfl 1 rfl
        have k1_2 := hs187.cellAt 1 rfl 2 rfl
        have k2_0 := hs187.cellAt 2 rfl 0 rfl
        have k2_1 := hs187.cellAt 2 rfl 1 rfl
        have k2_2 := hs187.cellAt 2 rfl 2 rfl
        go_wp2_with fail
        refine (CRK.out _ _ _ _ HSY_188.out).mono ?_
        rintro e w193 ⟨rfl, hbw193⟩
        have hz_w193 : w186.heap.size ≤ w193.heap.size := by have h9 := hbw193.size; (try simp at h9); omega
        have hs194 := hs187.step hbw193
        have HSY_195 := Lib.hid (Rd.mono HSY_188.out hbw193)
        clear HSY_188
        have HXb_196 := Lib.hid (Rd.mono HXb_189.out hbw193)
        clear HXb_189
        have HYb_197 := Lib.hid (Rd.mono HYb_190.out hbw193)
        clear HYb_190
        have HLa_198 := Lib.hid (Rd.mono HLa_191.out hbw193)
        clear HLa_191
        have HRa_199 := Lib.hid (Rd.mono HRa_192.out hbw193)
        clear HRa_192
        clear k0_0 k0_1 k0_2 k1_0 k1_1 k1_2 k2_0 k2_1 k2_2
        have k0_0 := hs194.cellAt 0 rfl 0 rfl
        have k0_1 := hs194.cellAt 0 rfl 1 rfl
        have k0_2 := hs194.cellAt 0 rfl 2 rfl
        have k1_0 := hs194.cellAt 1 rfl 0 rfl
        have k1_1 := hs194.cellAt 1 rfl 1 rfl
        have k1_2 := hs194.cellAt 1 rfl 2 rfl
        have k2_0 := hs194.cellAt 2 rfl 0 rfl
        have k2_1 := hs194.cellAt 2 rfl 1 rfl
        have k2_2 := hs194.cellAt 2 rfl 2 rfl
        go_wp2_with fail
        go_ret
        exact ⟨rfl, hs194.bel⟩
      · rw [if_neg h5] at e4
        have H5 := Lib.hid h5
        clear h5 hv
        have CSO := Lib.hid (show ∀ (W : World) (a b c : Value), Rd W [a, b, c] ((p, (U : Int), l) : Sys) → Calls Tryz.prog 6 #[.agg #[a, b, c]] W fun e w' => ∃ v, e = .returned (.tuple #[v, .int .i64 0]) ∧ Fresh W.heap.size w' [v] X ∧ Below W.heap.size W w' from fun W a b c h => by
          have h1 := SolveSystem_c _ a b c W h
          rw [e1] at h1
          exact h1)
        have CSP := Lib.hid (show ∀ (W : World) (a b c : Value), Rd W [a, b, c] ((p, (U : Int), l) : Sys) → Calls Tryz.prog 8 #[.agg #[a, b, c]] W fun e w' => ∃ v, e = .returned (.tuple #[v, .int .i64 0]) ∧ Fresh W.heap.size w' [v] X ∧ Below W.heap.size W w' from fun W a b c h => by
          have h1 := sSolveSystem_c _ a b c W h
          rw [e1] at h1
          exact h1)
        have CRO := Lib.hid (show ∀ (W : World) (a b c : Value), Rd W [a, b, c] ((p, (U : Int), l) : Sys) → Calls Tryz.prog 7 #[.agg #[a, b, c]] W fun e w' => ∃ v, e = .returned (.tuple #[v, .int .i64 6]) ∧ Fresh W.heap.size w' [v] Y ∧ Below W.heap.size W w' from fun W a b c h => by
          have h1 := RefuteSystem_c _ a b c W h
          rw [e2] at h1
          exact h1)
        have CRP := Lib.hid (show ∀ (W : World) (a b c : Value), Rd W [a, b, c] ((p, (U : Int), l) : Sys) → Calls Tryz.prog 9 #[.agg #[a, b, c]] W fun e w' => ∃ v, e = .returned (.tuple #[v, .int .i64 6]) ∧ Fresh W.heap.size w' [v] Y ∧ Below W.heap.size W w' from fun W a b c h => by
          have h1 := sRefuteSystem_c _ a b c W h
          rw [e2] at h1
          exact h1)
        have CCN := Lib.hid (show ∀ (W : World) (a b c : Value), Rd W [a, b, c] ((p, (U : Int), l) : Sys) → Calls Tryz.prog 12 #[.agg #[a, b, c]] W fun e w' => e = .returned (.tuple #[.int .i64 AA.length, .int .i64 0]) ∧ Below W.heap.size W w' from fun W a b c h => by
          have h1 := CountAnswers_c _ a b c W h
          rw [e3] at h1
          exact h1)
        have CAO := Lib.hid (show ∀ (W : World) (a b c : Value), Rd W [a, b, c] ((p, (U : Int), l) : Sys) → Calls Tryz.prog 13 #[.agg #[a, b, c]] W fun e w' => ∃ v, e = .returned (.tuple #[v, .int .i64 0]) ∧ Fresh W.heap.size w' [v] AA ∧ Below W.heap.size W w' from fun W a b c h => by
          have h1 := AnswersOf_c _ a b c W h
          rw [e4] at h1
          exact h1)
        have CRK := Lib.hid (show ∀ (W : World) (a b c : Value), Rd W [a, b, c] ((p, (U : Int), l) : Sys) → Calls Tryz.prog 17 #[.agg #[a, b, c]] W fun e w' => e = .returned (.tuple #[.int .i64 RL.length, .int .i64 0]) ∧ Below W.heap.size W w' from fun W a b c h => by
          have h1 := RankOfSystem_c _ a b c W h
          rw [e5] at h1
          exact h1)
        clear e1 e2 e3 e4 e5
        go_wp2_with fail
        refine (CSO.out _ _ _ _ HSY_5.out).mono ?_
        rintro e w200 ⟨vX, rfl, hXa, hbw200⟩
        have hz_w200 : w2.heap.size + 1 ≤ w200.heap.size := by have h9 := hbw200.size; (try simp at h9); omega
        have hs201 := hs4.step hbw200
        have HSY_202 := Lib.hid (Rd.mono HSY_5.out hbw200)
        clear HSY_5
        clear k0_0 k0_1 k0_2
        have k0_0 := hs201.cellAt 0 rfl 0 rfl
        have k0_1 := hs201.cellAt 0 rfl 1 rfl
        have k0_2 := hs201.cellAt 0 rfl 2 rfl
        obtain ⟨aXa, cXa, rfl, _⟩ := rd_list hXa.rd
        have HXa := Lib.hid hXa.rd
        clear hXa
        go_wp2_with fail
        refine (CRO.out _ _ _ _ HSY_202.out).mono ?_
        rintro e w203 ⟨vX, rfl, hYa, hbw203⟩
        have hz_w203 : w200.heap.size ≤ w203.heap.size := by have h9 := hbw203.size; (try simp at h9); omega
        have hs204 := hs201.step hbw203
        have HSY_205 := Lib.hid (Rd.mono HSY_202.out hbw203)
        clear HSY_202
        have HXa_206 := Lib.hid (Rd.mono HXa.out hbw203)
        clear HXa
        clear k0_0 k0_1 k0_2
        have k0_0 := hs204.cellAt 0 rfl 0 rfl
        have k0_1 := hs204.cellAt 0 rfl 1 rfl
        have k0_2 := hs204.cellAt 0 rfl 2 rfl
        obtain ⟨aYa, cYa, rfl, _⟩ := rd_list hYa.rd
        have HYa := Lib.hid hYa.rd
        clear hYa
        go_wp2_with fail
        refine (CSP.out _ _ _ _ HSY_205.out).mono ?_
        rintro e w207 ⟨vX, rfl, hXb, hbw207⟩
        have hz_w207 : w203.heap.size ≤ w207.heap.size := by have h9 := hbw207.size; (try simp at h9); omega
        have hs208 := hs204.step hbw207
        have HSY_209 := Lib.hid (Rd.mono HSY_205.out hbw207)
        clear HSY_205
        have HXa_210 := Lib.hid (Rd.mono HXa_206.out hbw207)
        clear HXa_206
        have HYa_211 := Lib.hid (Rd.mono HYa.out hbw207)
        clear HYa
        clear k0_0 k0_1 k0_2
        have k0_0 := hs208.cellAt 0 rfl 0 rfl
        have k0_1 := hs208.cellAt 0 rfl 1 rfl
        have k0_2 := hs208.cellAt 0 rfl 2 rfl
        obtain ⟨aXb, cXb, rfl, _⟩ := rd_list hXb.rd
        have HXb := Lib.hid hXb.rd
        clear hXb
        go_wp2_with fail
        refine (CRP.out _ _ _ _ HSY_209.out).mono ?_
        rintro e w212 ⟨vX, rfl, hYb, hbw212⟩
        have hz_w212 : w207.heap.size ≤ w212.heap.size := by have h9 := hbw212.size; (try simp at h9); omega
        have hs213 := hs208.step hbw212
        have HSY_214 := Lib.hid (Rd.mono HSY_209.out hbw212)
        clear HSY_209
        have HXa_215 := Lib.hid (Rd.mono HXa_210.out hbw212)
        clear HXa_210
        have HYa_216 := Lib.hid (Rd.mono HYa_211.out hbw212)
        clear HYa_211
        have HXb_217 := Lib.hid (Rd.mono HXb.out hbw212)
        clear HXb
        clear k0_0 k0_1 k0_2
        have k0_0 := hs213.cellAt 0 rfl 0 rfl
        have k0_1 := hs213.cellAt 0 rfl 1 rfl
        have k0_2 := hs213.cellAt 0 rfl 2 rfl
        obtain ⟨aYb, cYb, rfl, _⟩ := rd_list hYb.rd
        have HYb := Lib.hid hYb.rd
        clear hYb
        clear CSO CRO CSP CRP
        go_wp2_with fail
        refine (A2Same_t X _ _ _ HXa_215.out HXb_217.out).mono ?_
        rintro e w218 ⟨rfl, hbw218⟩
        have hz_w218 : w212.heap.size ≤ w218.heap.size := by have h9 := hbw218.size; (try simp at h9); omega
        have hs219 := hs213.step hbw218
        have HSY_220 := Lib.hid (Rd.mono HSY_214.out hbw218)
        clear HSY_214
        have HXa_221 := Lib.hid (Rd.mono HXa_215.out hbw218)
        clear HXa_215
        have HYa_222 := Lib.hid (Rd.mono HYa_216.out hbw218)
        clear HYa_216
        have HXb_223 := Lib.hid (Rd.mono HXb_217.out hbw218)
        clear HXb_217
        have HYb_224 := Lib.hid (Rd.mono HYb.out hbw218)
        clear HYb
        clear k0_0 k0_1 k0_2
        have k0_0 := hs219.cellAt 0 rfl 0 rfl
        have k0_1 := hs219.cellAt 0 rfl 1 rfl
        have k0_2 := hs219.cellAt 0 rfl 2 rfl
        go_wp2_with fail
        refine (A2Same_t Y _ _ _ HYa_222.out HYb_224.out).mono ?_
        rintro e w225 ⟨rfl, hbw225⟩
        have hz_w225 : w218.heap.size ≤ w225.heap.size := by have h9 := hbw225.size; (try simp at h9); omega
        have hs226 := hs219.step hbw225
        have HSY_227 := Lib.hid (Rd.mono HSY_220.out hbw225)
        clear HSY_220
        have HXa_228 := Lib.hid (Rd.mono HXa_221.out hbw225)
        clear HXa_221
        have HYa_229 := Lib.hid (Rd.mono HYa_222.out hbw225)
        clear HYa_222
        have HXb_230 := Lib.hid (Rd.mono HXb_223.out hbw225)
        clear HXb_223
        have HYb_231 := Lib.hid (Rd.mono HYb_224.out hbw225)
        clear HYb_224
        clear k0_0 k0_1 k0_2
        have k0_0 := hs226.cellAt 0 rfl 0 rfl
        have k0_1 := hs226.cellAt 0 rfl 1 rfl
        have k0_2 := hs226.cellAt 0 rfl 2 rfl
        go_wp2_with fail
        refine (CVS.out _ _ _ _ HSY_227.out).mono ?_
        rintro e w232 ⟨rfl, hbw232⟩
        have hz_w232 : w225.heap.size ≤ w232.heap.size := by have h9 := hbw232.size; (try simp at h9); omega
        have hs233 := hs226.step hbw232
        have HSY_234 := Lib.hid (Rd.mono HSY_227.out hbw232)
        clear HSY_227
        have HXa_235 := Lib.hid (Rd.mono HXa_228.out hbw232)
        clear HXa_228
        have HYa_236 := Lib.hid (Rd.mono HYa_229.out hbw232)
        clear HYa_229
        have HXb_237 := Lib.hid (Rd.mono HXb_230.out hbw232)
        clear HXb_230
        have HYb_238 := Lib.hid (Rd.mono HYb_231.out hbw232)
        clear HYb_231
        clear k0_0 k0_1 k0_2
        have k0_0 := hs233.cellAt 0 rfl 0 rfl
        have k0_1 := hs233.cellAt 0 rfl 1 rfl
        have k0_2 := hs233.cellAt 0 rfl 2 rfl
        clear HXa_235
        clear HYa_236
        go_wp2_with fail
        refine (CCN.out _ _ _ _ HSY_234.out).mono ?_
        rintro e w239 ⟨rfl, hbw239⟩
        have hz_w239 : w232.heap.size ≤ w239.heap.size := by have h9 := hbw239.size; (try simp at h9); omega
        have hs240 := hs233.step hbw239
        have HSY_241 := Lib.hid (Rd.mono HSY_234.out hbw239)
        clear HSY_234
        have HXb_242 := Lib.hid (Rd.mono HXb_237.out hbw239)
        clear HXb_237
        have HYb_243 := Lib.hid (Rd.mono HYb_238.out hbw239)
        clear HYb_238
        clear k0_0 k0_1 k0_2
        have k0_0 := hs240.cellAt 0 rfl 0 rfl
        have k0_1 := hs240.cellAt 0 rfl 1 rfl
        have k0_2 := hs240.cellAt 0 rfl 2 rfl
        go_wp2_with fail
        refine (CAO.out _ _ _ _ HSY_241.out).mono ?_
        rintro e w244 ⟨vX, rfl, hLa, hbw244⟩
        have hz_w244 : w239.heap.size ≤ w244.heap.size := by have h9 := hbw244.size; (try simp at h9); omega
        have hs245 := hs240.step hbw244
        have HSY_246 := Lib.hid (Rd.mono HSY_241.out hbw244)
        clear HSY_241
        have HXb_247 := Lib.hid (Rd.mono HXb_242.out hbw244)
        clear HXb_242
        have HYb_248 := Lib.hid (Rd.mono HYb_243.out hbw244)
        clear HYb_243
        clear k0_0 k0_1 k0_2
        have k0_0 := hs245.cellAt 0 rfl 0 rfl
        have k0_1 := hs245.cellAt 0 rfl 1 rfl
        have k0_2 := hs245.cellAt 0 rfl 2 rfl
        obtain ⟨aLa, cLa, rfl, _⟩ := rd_list hLa.rd
        have HLa := Lib.hid hLa.rd
        clear hLa
        clear CVS CCN CAO
        go_wp2_with fail
        refine (CRD.out _ _ _ _ HSY_246.out).mono ?_
        rintro e w249 ⟨u0, u1, u2, rfl, hRa, hbw249⟩
        have hz_w249 : w244.heap.size ≤ w249.heap.size := by have h9 := hbw249.size; (try simp at h9); omega
        have hs250 := hs245.step hbw249
        have HSY_251 := Lib.hid (Rd.mono HSY_246.out hbw249)
        clear HSY_246
        have HXb_252 := Lib.hid (Rd.mono HXb_247.out hbw249)
        clear HXb_247
        have HYb_253 := Lib.hid (Rd.mono HYb_248.out hbw249)
        clear HYb_248
        have HLa_254 := Lib.hid (Rd.mono HLa.out hbw249)
        clear HLa
        clear k0_0 k0_1 k0_2
        have k0_0 := hs250.cellAt 0 rfl 0 rfl
        have k0_1 := hs250.cellAt 0 rfl 1 rfl
        have k0_2 := hs250.cellAt 0 rfl 2 rfl
        have zW0 := rd_cons rfl hRa.rd
        obtain ⟨rfl, _⟩ := rd_i1 zW0.1
        have zW1 := rd_cons rfl zW0.2
        obtain ⟨rfl, _⟩ := rd_i1 zW1.1
        obtain ⟨aRa, cRa, rfl, _⟩ := rd_list zW1.2
        have HRa := Lib.hid hRa.rd
        clear hRa zW0 zW1
        have hs255 := hs250.alloc #[.int .i64 p, .int .i64 U, .slice aRa RL.length cRa] 26 (n := w249.heap.size) (by simp)
        have HSY_256 := Lib.hid (Rd.mono HSY_251.out (belowA _ (.cells #[.int .i64 p, .int .i64 U, .slice aRa RL.length cRa] 26)))
        clear HSY_251
        have HXb_257 := Lib.hid (Rd.mono HXb_252.out (belowA _ (.cells #[.int .i64 p, .int .i64 U, .slice aRa RL.length cRa] 26)))
        clear HXb_252
        have HYb_258 := Lib.hid (Rd.mono HYb_253.out (belowA _ (.cells #[.int .i64 p, .int .i64 U, .slice aRa RL.length cRa] 26)))
        clear HYb_253
        have HLa_259 := Lib.hid (Rd.mono HLa_254.out (belowA _ (.cells #[.int .i64 p, .int .i64 U, .slice aRa RL.length cRa] 26)))
        clear HLa_254
        have HRa_260 := Lib.hid (Rd.mono HRa.out (belowA _ (.cells #[.int .i64 p, .int .i64 U, .slice aRa RL.length cRa] 26)))
        clear HRa
        clear k0_0 k0_1 k0_2
        have k0_0 := hs255.cellAt 0 rfl 0 rfl
        have k0_1 := hs255.cellAt 0 rfl 1 rfl
        have k0_2 := hs255.cellAt 0 rfl 2 rfl
        have k1_0 := hs255.cellAt 1 rfl 0 rfl
        have k1_1 := hs255.cellAt 1 rfl 1 rfl
        have k1_2 := hs255.cellAt 1 rfl 2 rfl
        go_wp2_with fail
        refine (CR2.out _ _ _ _ HRa_260.out).mono ?_
        rintro e w261 ⟨u0, u1, u2, rfl, hRb, hbw261⟩
        have hz_w261 : w249.heap.size + 1 ≤ w261.heap.size := by have h9 := hbw261.size; (try simp at h9); omega
        have hs262 := hs255.step hbw261
        have HSY_263 := Lib.hid (Rd.mono HSY_256.out hbw261)
        clear HSY_256
        have HXb_264 := Lib.hid (Rd.mono HXb_257.out hbw261)
        clear HXb_257
        have HYb_265 := Lib.hid (Rd.mono HYb_258.out hbw261)
        clear HYb_258
        have HLa_266 := Lib.hid (Rd.mono HLa_259.out hbw261)
        clear HLa_259
        have HRa_267 := Lib.hid (Rd.mono HRa_260.out hbw261)
        clear HRa_260
        clear k0_0 k0_1 k0_2 k1_0 k1_1 k1_2
        have k0_0 := hs262.cellAt 0 rfl 0 rfl
        have k0_1 := hs262.cellAt 0 rfl 1 rfl
        have k0_2 := hs262.cellAt 0 rfl 2 rfl
        have k1_0 := hs262.cellAt 1 rfl 0 rfl
        have k1_1 := hs262.cellAt 1 rfl 1 rfl
        have k1_2 := hs262.cellAt 1 rfl 2 rfl
        have zW0 := rd_cons rfl hRb.rd
        obtain ⟨rfl, _⟩ := rd_i1 zW0.1
        have zW1 := rd_cons rfl zW0.2
        obtain ⟨rfl, _⟩ := rd_i1 zW1.1
        obtain ⟨aRb, cRb, rfl, _⟩ := rd_list zW1.2
        have HRb := Lib.hid hRb.rd
        clear hRb zW0 zW1
        have hs268 := hs262.alloc #[.int .i64 p, .int .i64 U, .slice aRb RL.length cRb] 26 (n := w261.heap.size) (by simp)
        have HSY_269 := Lib.hid (Rd.mono HSY_263.out (belowA _ (.cells #[.int .i64 p, .int .i64 U, .slice aRb RL.length cRb] 26)))
        clear HSY_263
        have HXb_270 := Lib.hid (Rd.mono HXb_264.out (belowA _ (.cells #[.int .i64 p, .int .i64 U, .slice aRb RL.length cRb] 26)))
        clear HXb_264
        have HYb_271 := Lib.hid (Rd.mono HYb_265.out (belowA _ (.cells #[.int .i64 p, .int .i64 U, .slice aRb RL.length cRb] 26)))
        clear HYb_265
        have HLa_272 := Lib.hid (Rd.mono HLa_266.out (belowA _ (.cells #[.int .i64 p, .int .i64 U, .slice aRb RL.length cRb] 26)))
        clear HLa_266
        have HRa_273 := Lib.hid (Rd.mono HRa_267.out (belowA _ (.cells #[.int .i64 p, .int .i64 U, .slice aRb RL.length cRb] 26)))
        clear HRa_267
        have HRb_274 := Lib.hid (Rd.mono HRb.out (belowA _ (.cells #[.int .i64 p, .int .i64 U, .slice aRb RL.length cRb] 26)))
        clear HRb
        clear k0_0 k0_1 k0_2 k1_0 k1_1 k1_2
        have k0_0 := hs268.cellAt 0 rfl 0 rfl
        have k0_1 := hs268.cellAt 0 rfl 1 rfl
        have k0_2 := hs268.cellAt 0 rfl 2 rfl
        have k1_0 := hs268.cellAt 1 rfl 0 rfl
        have k1_1 := hs268.cellAt 1 rfl 1 rfl
        have k1_2 := hs268.cellAt 1 rfl 2 rfl
        have k2_0 := hs268.cellAt 2 rfl 0 rfl
        have k2_1 := hs268.cellAt 2 rfl 1 rfl
        have k2_2 := hs268.cellAt 2 rfl 2 rfl
        clear CRD CR2
        go_wp2_with fail
        refine (CSS.out _ _ _ _ _ _ _ _ HRb_274.out HRa_273.out).mono ?_
        rintro e w275 ⟨rfl, hbw275⟩
        have hz_w275 : w261.heap.size + 1 ≤ w275.heap.size := by have h9 := hbw275.size; (try simp at h9); omega
        have hs276 := hs268.step hbw275
        have HSY_277 := Lib.hid (Rd.mono HSY_269.out hbw275)
        clear HSY_269
        have HXb_278 := Lib.hid (Rd.mono HXb_270.out hbw275)
        clear HXb_270
        have HYb_279 := Lib.hid (Rd.mono HYb_271.out hbw275)
        clear HYb_271
        have HLa_280 := Lib.hid (Rd.mono HLa_272.out hbw275)
        clear HLa_272
        have HRa_281 := Lib.hid (Rd.mono HRa_273.out hbw275)
        clear HRa_273
        have HRb_282 := Lib.hid (Rd.mono HRb_274.out hbw275)
        clear HRb_274
        clear k0_0 k0_1 k0_2 k1_0 k1_1 k1_2 k2_0 k2_1 k2_2
        have k0_0 := hs276.cellAt 0 rfl 0 rfl
        have k0_1 := hs276.cellAt 0 rfl 1 rfl
        have k0_2 := hs276.cellAt 0 rfl 2 rfl
        have k1_0 := hs276.cellAt 1 rfl 0 rfl
        have k1_1 := hs276.cellAt 1 rfl 1 rfl
        have k1_2 := hs276.cellAt 1 rfl 2 rfl
        have k2_0 := hs276.cellAt 2 rfl 0 rfl
        have k2_1 := hs276.cellAt 2 rfl 1 rfl
        have k2_2 := hs276.cellAt 2 rfl 2 rfl
        clear HRb_282
        go_wp2_with fail
        refine (CHO.out _ _ _ _ _ HSY_277.out HXb_278.out).mono ?_
        rintro e w283 ⟨rfl, hbw283⟩
        have hz_w283 : w275.heap.size ≤ w283.heap.size := by have h9 := hbw283.size; (try simp at h9); omega
        have hs284 := hs276.step hbw283
        have HSY_285 := Lib.hid (Rd.mono HSY_277.out hbw283)
        clear HSY_277
        have HXb_286 := Lib.hid (Rd.mono HXb_278.out hbw283)
        clear HXb_278
        have HYb_287 := Lib.hid (Rd.mono HYb_279.out hbw283)
        clear HYb_279
        have HLa_288 := Lib.hid (Rd.mono HLa_280.out hbw283)
        clear HLa_280
        have HRa_289 := Lib.hid (Rd.mono HRa_281.out hbw283)
        clear HRa_281
        clear k0_0 k0_1 k0_2 k1_0 k1_1 k1_2 k2_0 k2_1 k2_2
        have k0_0 := hs284.cellAt 0 rfl 0 rfl
        have k0_1 := hs284.cellAt 0 rfl 1 rfl
        have k0_2 := hs284.cellAt 0 rfl 2 rfl
        have k1_0 := hs284.cellAt 1 rfl 0 rfl
        have k1_1 := hs284.cellAt 1 rfl 1 rfl
        have k1_2 := hs284.cellAt 1 rfl 2 rfl
        have k2_0 := hs284.cellAt 2 rfl 0 rfl
        have k2_1 := hs284.cellAt 2 rfl 1 rfl
        have k2_2 := hs284.cellAt 2 rfl 2 rfl
        go_wp2_with fail
        refine (CRK.out _ _ _ _ HSY_285.out).mono ?_
        rintro e w290 ⟨rfl, hbw290⟩
        have hz_w290 : w283.heap.size ≤ w290.heap.size := by have h9 := hbw290.size; (try simp at h9); omega
        have hs291 := hs284.step hbw290
        have HSY_292 := Lib.hid (Rd.mono HSY_285.out hbw290)
        clear HSY_285
        have HXb_293 := Lib.hid (Rd.mono HXb_286.out hbw290)
        clear HXb_286
        have HYb_294 := Lib.hid (Rd.mono HYb_287.out hbw290)
        clear HYb_287
        have HLa_295 := Lib.hid (Rd.mono HLa_288.out hbw290)
        clear HLa_288
        have HRa_296 := Lib.hid (Rd.mono HRa_289.out hbw290)
        clear HRa_289
        clear k0_0 k0_1 k0_2 k1_0 k1_1 k1_2 k2_0 k2_1 k2_2
        have k0_0 := hs291.cellAt 0 rfl 0 rfl
        have k0_1 := hs291.cellAt 0 rfl 1 rfl
        have k0_2 := hs291.cellAt 0 rfl 2 rfl
        have k1_0 := hs291.cellAt 1 rfl 0 rfl
        have k1_1 := hs291.cellAt 1 rfl 1 rfl
        have k1_2 := hs291.cellAt 1 rfl 2 rfl
        have k2_0 := hs291.cellAt 2 rfl 0 rfl
        have k2_1 := hs291.cellAt 2 rfl 1 rfl
        have k2_2 := hs291.cellAt 2 rfl 2 rfl
        go_wp2_with fail
        refine (CA2.out _ _ _ _ H5.out HRa_296.out).mono ?_
        rintro e w297 ⟨vX, rfl, hLb, hbw297⟩
        have hz_w297 : w290.heap.size ≤ w297.heap.size := by have h9 := hbw297.size; (try simp at h9); omega
        have hs298 := hs291.step hbw297
        have HSY_299 := Lib.hid (Rd.mono HSY_292.out hbw297)
        clear HSY_292
        have HXb_300 := Lib.hid (Rd.mono HXb_293.out hbw297)
        clear HXb_293
        have HYb_301 := Lib.hid (Rd.mono HYb_294.out hbw297)
        clear HYb_294
        have HLa_302 := Lib.hid (Rd.mono HLa_295.out hbw297)
        clear HLa_295
        have HRa_303 := Lib.hid (Rd.mono HRa_296.out hbw297)
        clear HRa_296
        clear k0_0 k0_1 k0_2 k1_0 k1_1 k1_2 k2_0 k2_1 k2_2
        have k0_0 := hs298.cellAt 0 rfl 0 rfl
        have k0_1 := hs298.cellAt 0 rfl 1 rfl
        have k0_2 := hs298.cellAt 0 rfl 2 rfl
        have k1_0 := hs298.cellAt 1 rfl 0 rfl
        have k1_1 := hs298.cellAt 1 rfl 1 rfl
        have k1_2 := hs298.cellAt 1 rfl 2 rfl
        have k2_0 := hs298.cellAt 2 rfl 0 rfl
        have k2_1 := hs298.cellAt 2 rfl 1 rfl
        have k2_2 := hs298.cellAt 2 rfl 2 rfl
        obtain ⟨aLb, cLb, rfl, _⟩ := rd_list hLb.rd
        have HLb := Lib.hid hLb.rd
        clear hLb
        go_wp2_with fail
        refine (A2SameLists_t AA _ _ _ HLb.out HLa_302.out).mono ?_
        rintro e w304 ⟨rfl, hbw304⟩
        have hz_w304 : w297.heap.size ≤ w304.heap.size := by have h9 := hbw304.size; (try simp at h9); omega
        have hs305 := hs298.step hbw304
        have HSY_306 := Lib.hid (Rd.mono HSY_299.out hbw304)
        clear HSY_299
        have HXb_307 := Lib.hid (Rd.mono HXb_300.out hbw304)
        clear HXb_300
        have HYb_308 := Lib.hid (Rd.mono HYb_301.out hbw304)
        clear HYb_301
        have HLa_309 := Lib.hid (Rd.mono HLa_302.out hbw304)
        clear HLa_302
        have HRa_310 := Lib.hid (Rd.mono HRa_303.out hbw304)
        clear HRa_303
        have HLb_311 := Lib.hid (Rd.mono HLb.out hbw304)
        clear HLb
        clear k0_0 k0_1 k0_2 k1_0 k1_1 k1_2 k2_0 k2_1 k2_2
        have k0_0 := hs305.cellAt 0 rfl 0 rfl
        have k0_1 := hs305.cellAt 0 rfl 1 rfl
        have k0_2 := hs305.cellAt 0 rfl 2 rfl
        have k1_0 := hs305.cellAt 1 rfl 0 rfl
        have k1_1 := hs305.cellAt 1 rfl 1 rfl
        have k1_2 := hs305.cellAt 1 rfl 2 rfl
        have k2_0 := hs305.cellAt 2 rfl 0 rfl
        have k2_1 := hs305.cellAt 2 rfl 1 rfl
        have k2_2 := hs305.cellAt 2 rfl 2 rfl
        clear HLb_311
        clear HRa_310
        clear HXb_307
        clear HYb_308
        clear CHO CRK CA2
        obtain ⟨wE, hwE⟩ : ∃ x, x = w304 := ⟨_, rfl⟩
        subst hwE
        have HBE := Lib.hid (Below.refl wE.heap.size wE)
        go_wp2_with fail
        go_loopw [32] (fun iv wl => ∃ k : Nat, k ≤ AA.length ∧ iv = .int .i64 k ∧ Hid (Below wE.heap.size wE wl)) (fun iv _ => AA.length - (intOf iv).toNat)
        case atStart => exact ⟨0, Nat.zero_le _, rfl, HBE.out⟩
        case round =>
          clear HBE
          obtain ⟨k, hk, rfl, hbl⟩ := hrel
          have hbl2 := hbl.out
          have HBL := Lib.hid (Below.refl wE.heap.size wE)
          have hz_wr : wE.heap.size ≤ wr.heap.size := by have h9 := hbl2.size; (try simp at h9); omega
          have hs312 := hs305.step hbl2
          have HSY_313 := Lib.hid (Rd.mono HSY_306.out hbl2)
          clear HSY_306
          have HLa_314 := Lib.hid (Rd.mono HLa_309.out hbl2)
          clear HLa_309
          have HBL_315 := Lib.hid (HBL.out.trans ((hbl2).mono HBL.out.size))
          clear HBL
          clear k0_0 k0_1 k0_2 k1_0 k1_1 k1_2 k2_0 k2_1 k2_2
          have k0_0 := hs312.cellAt 0 rfl 0 rfl
          have k0_1 := hs312.cellAt 0 rfl 1 rfl
          have k0_2 := hs312.cellAt 0 rfl 2 rfl
          have k1_0 := hs312.cellAt 1 rfl 0 rfl
          have k1_1 := hs312.cellAt 1 rfl 1 rfl
          have k1_2 := hs312.cellAt 1 rfl 2 rfl
          have k2_0 := hs312.cellAt 2 rfl 0 rfl
          have k2_1 := hs312.cellAt 2 rfl 1 rfl
          have k2_2 := hs312.cellAt 2 rfl 2 rfl
          clear hbl2 hbl
          have hAA5 : AA.length ≤ 500 := by have := H5.out; omega
          by_cases hlt : k < AA.length
          · have hkI : (k : Int) < AA.length := by omega
            obtain ⟨_, _, eS, hSl⟩ := rd_list HLa_314.out
            simp only [Value.slice.injEq] at eS
            obtain ⟨rfl, -, rfl⟩ := eS
            obtain ⟨b9, o9, u9, rfl, q9, hx9⟩ := rdSl_one rfl hSl k hlt
            have hm := List.getElem_mem hlt
            generalize AA[k] = x at *
            obtain ⟨a9, c9, rfl, _⟩ := rd_list hx9
            have HX9 := Lib.hid hx9
            have HHL := Lib.hid (fun W a b c v h h' => CHL.out W a b c v x hm h h')
            clear hSl hx9 hm
            clear k0_0 k0_1 k0_2 k1_0 k1_1 k1_2 k2_0 k2_1 k2_2
            have k0_0 := hs312.cellAt 0 rfl 0 rfl
            have k0_1 := hs312.cellAt 0 rfl 1 rfl
            have k0_2 := hs312.cellAt 0 rfl 2 rfl
            have k1_0 := hs312.cellAt 1 rfl 0 rfl
            have k1_1 := hs312.cellAt 1 rfl 1 rfl
            have k1_2 := hs312.cellAt 1 rfl 2 rfl
            have k2_0 := hs312.cellAt 2 rfl 0 rfl
            have k2_1 := hs312.cellAt 2 rfl 1 rfl
            have k2_2 := hs312.cellAt 2 rfl 2 rfl
            go_upto_region 32 with fail
            refine wp_region_noPanic (wp_region_tree4 (fun w' => w'.cell? ⟨w2.heap.size, 0, none⟩ = some (.int .i64 p) ∧ w'.cell? ⟨w2.heap.size, 1, none⟩ = some (.int .i64 U) ∧ w'.cell? ⟨w2.heap.size, 2, none⟩ = some (.slice aS l.length cS) ∧ w'.cell? ⟨w249.heap.size, 0, none⟩ = some (.int .i64 p) ∧ w'.cell? ⟨w249.heap.size, 1, none⟩ = some (.int .i64 U) ∧ w'.cell? ⟨w249.heap.size, 2, none⟩ = some (.slice aRa RL.length cRa) ∧ w'.cell? ⟨w261.heap.size, 0, none⟩ = some (.int .i64 p) ∧ w'.cell? ⟨w261.heap.size, 1, none⟩ = some (.int .i64 U) ∧ w'.cell? ⟨w261.heap.size, 2, none⟩ = some (.slice aRb RL.length cRb) ∧ w'.cell? ⟨b9, o9 + k, none⟩ = some (.slice a9 x.length c9)) (.float 0 (.float 1 (.float 2 (.float 3 (.float 4 (.hard 5 (.float 6 (.float 7 (.float 8 (.float 9 (.float 10 .nil))))))))))) (by kernel_rfl) (by kernel_rfl) (by kernel_rfl) rfl ?_ (fun _ _ _ _ _ h => h) ?_)
            · exact ⟨(hs312.drew).cellAt 0 rfl 0 rfl, (hs312.drew).cellAt 0 rfl 1 rfl, (hs312.drew).cellAt 0 rfl 2 rfl, (hs312.drew).cellAt 1 rfl 0 rfl, (hs312.drew).cellAt 1 rfl 1 rfl, (hs312.drew).cellAt 1 rfl 2 rfl, (hs312.drew).cellAt 2 rfl 0 rfl, (hs312.drew).cellAt 2 rfl 1 rfl, (hs312.drew).cellAt 2 rfl 2 rfl, cellL (belowD _) q9⟩
            have hs316 := hs312.drew
            have q9_317 := cellL (belowD _) q9
            clear q9
            have HSY_318 := Lib.hid (Rd.mono HSY_313.out (belowD _))
            clear HSY_313
            have HLa_319 := Lib.hid (Rd.mono HLa_314.out (belowD _))
            clear HLa_314
            have HBL_320 := Lib.hid (HBL_315.out.trans (((belowD _)).mono HBL_315.out.size))
            clear HBL_315
            have HX9_321 := Lib.hid (Rd.mono HX9.out (belowD _))
            clear HX9
            clear k0_0 k0_1 k0_2 k1_0 k1_1 k1_2 k2_0 k2_1 k2_2
            have hz_wd322 : wr.heap.size ≤ (wr.drew).heap.size := by simp
            generalize hgen_wd322 : wr.drew = wd322 at *
            have HG_wd322 := Lib.hid hgen_wd322
            clear hgen_wd322
            (repeat (first | (apply t4_skip rfl (by rfl); try simp only [Act.put, List.setIfInBounds_toArray, List.set_cons_zero, List.set_cons_succ]) | (apply t4_float rfl (by rfl); (· (intro w' hS; go_simp <;> with_reducible rfl)); (try simp only [Act.put, List.setIfInBounds_toArray, List.set_cons_zero, List.set_cons_succ]))))
            refine t4_hard rfl (by rfl) (fun K hK => ?_)
            go_wp2_with (go_at_call 18; refine (HHL.out _ _ _ _ _ HSY_318.out HX9_321.out).mono ?_; rintro e w323 ⟨rfl, hbw323⟩)
            have hz_w323 : wd322.heap.size ≤ w323.heap.size := by have h9 := hbw323.size; (try simp at h9); omega
            have hs324 := hs316.step hbw323
            have q9_325 := cellL hbw323 q9_317
            clear q9_317
            have HSY_326 := Lib.hid (Rd.mono HSY_318.out hbw323)
            clear HSY_318
            have HLa_327 := Lib.hid (Rd.mono HLa_319.out hbw323)
            clear HLa_319
            have HBL_328 := Lib.hid (HBL_320.out.trans ((hbw323).mono HBL_320.out.size))
            clear HBL_320
            have HX9_329 := Lib.hid (Rd.mono HX9_321.out hbw323)
            clear HX9_321
            refine ⟨⟨hs324.cellAt 0 rfl 0 rfl, hs324.cellAt 0 rfl 1 rfl, hs324.cellAt 0 rfl 2 rfl, hs324.cellAt 1 rfl 0 rfl, hs324.cellAt 1 rfl 1 rfl, hs324.cellAt 1 rfl 2 rfl, hs324.cellAt 2 rfl 0 rfl, hs324.cellAt 2 rfl 1 rfl, hs324.cellAt 2 rfl 2 rfl, q9_325⟩, ?_⟩
            (repeat (first | (apply t4_skip rfl (by rfl); try simp only [Act.put, List.setIfInBounds_toArray, List.set_cons_zero, List.set_cons_succ]) | (apply t4_float rfl (by rfl); (· (intro w' hS; go_simp <;> with_reducible rfl)); (try simp only [Act.put, List.setIfInBounds_toArray, List.set_cons_zero, List.set_cons_succ]))))
            have k0_0 := hs324.cellAt 0 rfl 0 rfl
            have k0_1 := hs324.cellAt 0 rfl 1 rfl
            have k0_2 := hs324.cellAt 0 rfl 2 rfl
            have k1_0 := hs324.cellAt 1 rfl 0 rfl
            have k1_1 := hs324.cellAt 1 rfl 1 rfl
            have k1_2 := hs324.cellAt 1 rfl 2 rfl
            have k2_0 := hs324.cellAt 2 rfl 0 rfl
            have k2_1 := hs324.cellAt 2 rfl 1 rfl
            have k2_2 := hs324.cellAt 2 rfl 2 rfl
            refine t4_nil (NoPanic.normal ?_)
            go_wp2_with fail
            go_roundw
            case rel => exact ⟨k + 1, hlt, by go_num, HBL_328.out⟩
            case measure => simp [intOf]; omega
          · obtain rfl : k = AA.length := by omega
            have hnl : ¬ ((AA.length : Int) < AA.length) := by omega
            clear HLa_314
            clear HBL_315
            clear CHL
            go_upto_region 35 with fail
            refine wp_region_noPanic (wp_region_tree4 (fun w' => w'.cell? ⟨w2.heap.size, 0, none⟩ = some (.int .i64 p) ∧ w'.cell? ⟨w2.heap.size, 1, none⟩ = some (.int .i64 U) ∧ w'.cell? ⟨w2.heap.size, 2, none⟩ = some (.slice aS l.length cS) ∧ w'.cell? ⟨w249.heap.size, 0, none⟩ = some (.int .i64 p) ∧ w'.cell? ⟨w249.heap.size, 1, none⟩ = some (.int .i64 U) ∧ w'.cell? ⟨w249.heap.size, 2, none⟩ = some (.slice aRa RL.length cRa) ∧ w'.cell? ⟨w261.heap.size, 0, none⟩ = some (.int .i64 p) ∧ w'.cell? ⟨w261.heap.size, 1, none⟩ = some (.int .i64 U) ∧ w'.cell? ⟨w261.heap.size, 2, none⟩ = some (.slice aRb RL.length cRb)) (.float 0 (.float 1 (.float 2 (.float 3 (.hard 4 (.hard 5 (.float 6 (.float 7 (.float 8 (.float 9 (.float 10 .nil))))))))))) (by kernel_rfl) (by kernel_rfl) (by kernel_rfl) rfl ?_ (fun _ _ _ _ _ h => h) ?_)
            · exact ⟨(hs312.drew).cellAt 0 rfl 0 rfl, (hs312.drew).cellAt 0 rfl 1 rfl, (hs312.drew).cellAt 0 rfl 2 rfl, (hs312.drew).cellAt 1 rfl 0 rfl, (hs312.drew).cellAt 1 rfl 1 rfl, (hs312.drew).cellAt 1 rfl 2 rfl, (hs312.drew).cellAt 2 rfl 0 rfl, (hs312.drew).cellAt 2 rfl 1 rfl, (hs312.drew).cellAt 2 rfl 2 rfl⟩
            have hs330 := hs312.drew
            have HSY_331 := Lib.hid (Rd.mono HSY_313.out (belowD _))
            clear HSY_313
            clear k0_0 k0_1 k0_2 k1_0 k1_1 k1_2 k2_0 k2_1 k2_2
            have hz_wd332 : wr.heap.size ≤ (wr.drew).heap.size := by simp
            generalize hgen_wd332 : wr.drew = wd332 at *
            have HG_wd332 := Lib.hid hgen_wd332
            clear hgen_wd332
            (repeat (first | (apply t4_skip rfl (by rfl); try simp only [Act.put, List.setIfInBounds_toArray, List.set_cons_zero, List.set_cons_succ]) | (apply t4_float rfl (by rfl); (· (intro w' hS; go_simp <;> with_reducible rfl)); (try simp only [Act.put, List.setIfInBounds_toArray, List.set_cons_zero, List.set_cons_succ]))))
            refine t4_hard rfl (by rfl) (fun K hK => ?_)
            refine wp_make_rep _ _ _ 28 rfl E_ints (0 : Int) own0_int l.length (by omega) rfl rfl ?_
            intro wM hownM hbM hzM
            have HMK : Hid (Rd wM [.slice (some ⟨wd332.heap.size, 0, none⟩) l.length l.length] (List.replicate l.length (0 : Int))) := Lib.hid (by
              have h9 : Own _ wM [.slice (some ⟨wd332.heap.size, 0, none⟩) l.length l.length] (List.replicate l.length (0 : Int)) := ⟨_, rfl, by simpa using hownM⟩
              exact Rep.own_rd h9)
            clear hownM
            have hz_wM : wd332.heap.size ≤ wM.heap.size := by have h9 := hbM.size; (try simp at h9); omega
            have hs333 := hs330.step hbM
            have HSY_334 := Lib.hid (Rd.mono HSY_331.out hbM)
            clear HSY_331
            refine hK _ _ ⟨⟨hs333.cellAt 0 rfl 0 rfl, hs333.cellAt 0 rfl 1 rfl, hs333.cellAt 0 rfl 2 rfl, hs333.cellAt 1 rfl 0 rfl, hs333.cellAt 1 rfl 1 rfl, hs333.cellAt 1 rfl 2 rfl, hs333.cellAt 2 rfl 0 rfl, hs333.cellAt 2 rfl 1 rfl, hs333.cellAt 2 rfl 2 rfl⟩, ?_⟩
            (repeat (first | (apply t4_skip rfl (by rfl); try simp only [Act.put, List.setIfInBounds_toArray, List.set_cons_zero, List.set_cons_succ]) | (apply t4_float rfl (by rfl); (· (intro w' hS; go_simp <;> with_reducible rfl)); (try simp only [Act.put, List.setIfInBounds_toArray, List.set_cons_zero, List.set_cons_succ]))))
            refine t4_hard rfl (by rfl) (fun K hK => ?_)
            go_wp2_with (go_at_call 16; refine (CIR.out _ _ _ _ _ HSY_334.out HMK.out).mono ?_; rintro e w335 ⟨rfl, hbw335⟩)
            have hz_w335 : wM.heap.size ≤ w335.heap.size := by have h9 := hbw335.size; (try simp at h9); omega
            have hs336 := hs333.step hbw335
            have HSY_337 := Lib.hid (Rd.mono HSY_334.out hbw335)
            clear HSY_334
            have HMK_338 := Lib.hid (Rd.mono HMK.out hbw335)
            clear HMK
            refine ⟨⟨hs336.cellAt 0 rfl 0 rfl, hs336.cellAt 0 rfl 1 rfl, hs336.cellAt 0 rfl 2 rfl, hs336.cellAt 1 rfl 0 rfl, hs336.cellAt 1 rfl 1 rfl, hs336.cellAt 1 rfl 2 rfl, hs336.cellAt 2 rfl 0 rfl, hs336.cellAt 2 rfl 1 rfl, hs336.cellAt 2 rfl 2 rfl⟩, ?_⟩
            (repeat (first | (apply t4_skip rfl (by rfl); try simp only [Act.put, List.setIfInBounds_toArray, List.set_cons_zero, List.set_cons_succ]) | (apply t4_float rfl (by rfl); (· (intro w' hS; go_simp <;> with_reducible rfl)); (try simp only [Act.put, List.setIfInBounds_toArray, List.set_cons_zero, List.set_cons_succ]))))
            have k0_0 := hs336.cellAt 0 rfl 0 rfl
            have k0_1 := hs336.cellAt 0 rfl 1 rfl
            have k0_2 := hs336.cellAt 0 rfl 2 rfl
            have k1_0 := hs336.cellAt 1 rfl 0 rfl
            have k1_1 := hs336.cellAt 1 rfl 1 rfl
            have k1_2 := hs336.cellAt 1 rfl 2 rfl
            have k2_0 := hs336.cellAt 2 rfl 0 rfl
            have k2_1 := hs336.cellAt 2 rfl 1 rfl
            have k2_2 := hs336.cellAt 2 rfl 2 rfl
            refine t4_nil (NoPanic.normal ?_)
            clear CIR
            clear HMK_338
            go_wp2_with fail
            refine (CTX.out _ _ _ _ HSY_337.out).mono ?_
            rintro e w339 ⟨rfl, hbw339⟩
            have hz_w339 : w335.heap.size ≤ w339.heap.size := by have h9 := hbw339.size; (try simp at h9); omega
            have hs340 := hs336.step hbw339
            have HSY_341 := Lib.hid (Rd.mono HSY_337.out hbw339)
            clear HSY_337
            clear k0_0 k0_1 k0_2 k1_0 k1_1 k1_2 k2_0 k2_1 k2_2
            have k0_0 := hs340.cellAt 0 rfl 0 rfl
            have k0_1 := hs340.cellAt 0 rfl 1 rfl
            have k0_2 := hs340.cellAt 0 rfl 2 rfl
            have k1_0 := hs340.cellAt 1 rfl 0 rfl
            have k1_1 := hs340.cellAt 1 rfl 1 rfl
            have k1_2 := hs340.cellAt 1 rfl 2 rfl
            have k2_0 := hs340.cellAt 2 rfl 0 rfl
            have k2_1 := hs340.cellAt 2 rfl 1 rfl
            have k2_2 := hs340.cellAt 2 rfl 2 rfl
            go_wp2_with fail
            refine (CRS.out _ (HENV.out.mono hs340.bel)).mono ?_
            rintro e w342 ⟨u0, u1, u2, rfl, hRc, hbw342⟩
            have hz_w342 : w339.heap.size ≤ w342.heap.size := by have h9 := hbw342.size; (try simp at h9); omega
            have hs343 := hs340.step hbw342
            have HSY_344 := Lib.hid (Rd.mono HSY_341.out hbw342)
            clear HSY_341
            clear k0_0 k0_1 k0_2 k1_0 k1_1 k1_2 k2_0 k2_1 k2_2
            have k0_0 := hs343.cellAt 0 rfl 0 rfl
            have k0_1 := hs343.cellAt 0 rfl 1 rfl
            have k0_2 := hs343.cellAt 0 rfl 2 rfl
            have k1_0 := hs343.cellAt 1 rfl 0 rfl
            have k1_1 := hs343.cellAt 1 rfl 1 rfl
            have k1_2 := hs343.cellAt 1 rfl 2 rfl
            have k2_0 := hs343.cellAt 2 rfl 0 rfl
            have k2_1 := hs343.cellAt 2 rfl 1 rfl
            have k2_2 := hs343.cellAt 2 rfl 2 rfl
            have zW0 := rd_cons rfl hRc.rd
            obtain ⟨rfl, _⟩ := rd_i1 zW0.1
            have zW1 := rd_cons rfl zW0.2
            obtain ⟨rfl, _⟩ := rd_i1 zW1.1
            obtain ⟨aRc, cRc, rfl, _⟩ := rd_list zW1.2
            have HRc := Lib.hid hRc.rd
            clear hRc zW0 zW1
            have hs345 := hs343.alloc #[.int .i64 p, .int .i64 U, .slice aRc l.length cRc] 26 (n := w342.heap.size) (by simp)
            have HSY_346 := Lib.hid (Rd.mono HSY_344.out (belowA _ (.cells #[.int .i64 p, .int .i64 U, .slice aRc l.length cRc] 26)))
            clear HSY_344
            have HRc_347 := Lib.hid (Rd.mono HRc.out (belowA _ (.cells #[.int .i64 p, .int .i64 U, .slice aRc l.length cRc] 26)))
            clear HRc
            clear k0_0 k0_1 k0_2 k1_0 k1_1 k1_2 k2_0 k2_1 k2_2
            have k0_0 := hs345.cellAt 0 rfl 0 rfl
            have k0_1 := hs345.cellAt 0 rfl 1 rfl
            have k0_2 := hs345.cellAt 0 rfl 2 rfl
            have k1_0 := hs345.cellAt 1 rfl 0 rfl
            have k1_1 := hs345.cellAt 1 rfl 1 rfl
            have k1_2 := hs345.cellAt 1 rfl 2 rfl
            have k2_0 := hs345.cellAt 2 rfl 0 rfl
            have k2_1 := hs345.cellAt 2 rfl 1 rfl
            have k2_2 := hs345.cellAt 2 rfl 2 rfl
            have k3_0 := hs345.cellAt 3 rfl 0 rfl
            have k3_1 := hs345.cellAt 3 rfl 1 rfl
            have k3_2 := hs345.cellAt 3 rfl 2 rfl
            clear CTX CRS
            go_wp2_with fail
            refine (CSS.out _ _ _ _ _ _ _ _ HRc_347.out HSY_346.out).mono ?_
            rintro e w348 ⟨rfl, hbw348⟩
            have hz_w348 : w342.heap.size + 1 ≤ w348.heap.size := by have h9 := hbw348.size; (try simp at h9); omega
            have hs349 := hs345.step hbw348
            have HSY_350 := Lib.hid (Rd.mono HSY_346.out hbw348)
            clear HSY_346
            have HRc_351 := Lib.hid (Rd.mono HRc_347.out hbw348)
            clear HRc_347
            clear k0_0 k0_1 k0_2 k1_0 k1_1 k1_2 k2_0 k2_1 k2_2 k3_0 k3_1 k3_2
            have k0_0 := hs349.cellAt 0 rfl 0 rfl
            have k0_1 := hs349.cellAt 0 rfl 1 rfl
            have k0_2 := hs349.cellAt 0 rfl 2 rfl
            have k1_0 := hs349.cellAt 1 rfl 0 rfl
            have k1_1 := hs349.cellAt 1 rfl 1 rfl
            have k1_2 := hs349.cellAt 1 rfl 2 rfl
            have k2_0 := hs349.cellAt 2 rfl 0 rfl
            have k2_1 := hs349.cellAt 2 rfl 1 rfl
            have k2_2 := hs349.cellAt 2 rfl 2 rfl
            have k3_0 := hs349.cellAt 3 rfl 0 rfl
            have k3_1 := hs349.cellAt 3 rfl 1 rfl
            have k3_2 := hs349.cellAt 3 rfl 2 rfl
            go_wp2_with fail
            refine (CSI.out _ _ _ _ _ _ _ _ HRc_351.out HSY_350.out).mono ?_
            rintro e w352 ⟨rfl, hbw352⟩
            have hz_w352 : w348.heap.size ≤ w352.heap.size := by have h9 := hbw352.size; (try simp at h9); omega
            have hs353 := hs349.step hbw352
            have HSY_354 := Lib.hid (Rd.mono HSY_350.out hbw352)
            clear HSY_350
            have HRc_355 := Lib.hid (Rd.mono HRc_351.out hbw352)
            clear HRc_351
            clear k0_0 k0_1 k0_2 k1_0 k1_1 k1_2 k2_0 k2_1 k2_2 k3_0 k3_1 k3_2
            have k0_0 := hs353.cellAt 0 rfl 0 rfl
            have k0_1 := hs353.cellAt 0 rfl 1 rfl
            have k0_2 := hs353.cellAt 0 rfl 2 rfl
            have k1_0 := hs353.cellAt 1 rfl 0 rfl
            have k1_1 := hs353.cellAt 1 rfl 1 rfl
            have k1_2 := hs353.cellAt 1 rfl 2 rfl
            have k2_0 := hs353.cellAt 2 rfl 0 rfl
            have k2_1 := hs353.cellAt 2 rfl 1 rfl
            have k2_2 := hs353.cellAt 2 rfl 2 rfl
            have k3_0 := hs353.cellAt 3 rfl 0 rfl
            have k3_1 := hs353.cellAt 3 rfl 1 rfl
            have k3_2 := hs353.cellAt 3 rfl 2 rfl
            go_wp2_with fail
            go_ret
            exact ⟨rfl, hs353.bel⟩

end Go.Proofs.YthceklaoikeokaaGreatDoor
