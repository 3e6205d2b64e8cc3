/-
  CONTRACTS: numbers and digits read from a text; what variables of the library hold.
-/
import Derived.Test.YthceklaoikeokaaGreatDoorReadP
import Derived.Test.YthceklaoikeokaaGreatDoorShelf
import Derived.Lib.SmallJoins
import Derived.Test.YthceklaoikeokaaGreatDoorRowsB
namespace Go.Proofs.YthceklaoikeokaaGreatDoor
open Go.RowKit Go.Shelf Go.IntWalk
open Rep (Rd Own sz)
set_option linter.unusedSimpArgs false
set_option linter.unusedVariables false

/-- What variables of the library hold. -/
structure RdEnv (w : World) : Prop where
  ml : ∃ m, w.cell? ⟨0, 0, none⟩ = some (.int .i64 m)
  es : ∃ te pe, w.cell? ⟨1, 0, none⟩ = some (.iface te pe)
  er : ∃ te pe, w.cell? ⟨2, 0, none⟩ = some (.iface te pe)
  tab : Lib.TabIs Tryz.prog w "internal/strconv.uint64pow10" .u64 Lib.pow10Tab
theorem RdEnv.mono {w w' : World} (h : RdEnv w) (hb : Below w.heap.size w w') : RdEnv w' := by
  obtain ⟨⟨m, h1⟩, ⟨te, pe, h2⟩, ⟨te', pe', h3⟩, h4⟩ := h
  refine ⟨⟨m, cellL hb h1⟩, ⟨te, pe, cellL hb h2⟩, ⟨te', pe', cellL hb h3⟩, ?_⟩
  have hg : Tryz.prog.globalNamed "internal/strconv.uint64pow10" = some 3 := by kernel_rfl
  unfold Lib.TabIs World.var? at h4 ⊢
  rw [hg] at h4 ⊢
  simp only [Option.bind_some] at h4 ⊢
  have hlt : 3 < w.heap.size := by
    rcases Nat.lt_or_ge 3 w.heap.size with h' | h'
    · exact h'
    · rw [Array.getElem?_eq_none h'] at h4; cases h4
  rw [hb.block _ hlt]
  exact h4
theorem below_grow1 (w : World) (q : Nat) (os : Array Obj) : Below w.heap.size w (Go.Sort.grow (w.drewN q) os) :=
  ⟨rfl, rfl, rfl, by simp [Go.Sort.grow], fun i hi => by
    show ((w.drewN q).heap ++ os)[i]? = _
    rw [Array.getElem?_append_left (by show i < w.heap.size; omega)]
    rfl⟩
theorem decG_c (n : Int) (w : World) (hI : I64 n) (he : RdEnv w) :
    Calls Tryz.prog 56 #[.int .i64 n] w fun e w' => e = .returned (.string ⟨(Lib.itoa n).toArray⟩) ∧ Below w.heap.size w w' := by
  have HT := Lib.hid he.tab
  have HL := Lib.hid hI
  clear he hI
  go_enter Tryz.func56, Tryz.ntmps56
  go_wp2_with (go_at_call 81; refine (Tryz.strconv_FormatInt_10 n HL.out.1 HL.out.2 _ HT.out).mono ?_; rintro e w1 ⟨rfl, hx⟩)
  have hb : Below w.heap.size w w1 := by obtain ⟨k, os, rfl⟩ := hx; exact below_grow1 w k os
  clear hx
  go_ret
  exact ⟨rfl, hb⟩
theorem parseInt_i64 {l : List UInt8} {v : Int} (h : Lib.parseIntB 64 l = .ok v) : I64 v := by
  unfold Lib.parseIntB at h
  split at h
  · cases h
  · simp only at h
    split at h
    · cases h
    · cases h
    · next u hu =>
      split at h
      · cases h
      · next h1 =>
        split at h
        · cases h
        · next h2 =>
          simp only [Lib.NumEnd.ok.injEq] at h
          subst h
          split
          · next hn =>
            have hle : ¬ 2 ^ (64 - 1) < u := fun h3 => h2 ⟨hn, h3⟩
            exact ⟨by omega, by omega⟩
          · next hn =>
            have hle : ¬ 2 ^ (64 - 1) ≤ u := fun h3 => h1 ⟨hn, h3⟩
            exact ⟨by omega, by omega⟩
set_option maxRecDepth 100000 in
set_option maxHeartbeats 4000000 in
theorem readNumber_c (s : List UInt8) (w : World) (he : RdEnv w) (hs : s.length ≤ 1048576) :
    Calls Tryz.prog 53 #[.string ⟨s.toArray⟩] w fun e w' => e = .returned (.int .i64 (numI s)) ∧ Below w.heap.size w w' := by
  have hsz : (⟨s.toArray⟩ : ByteArray).size = s.length := by simp [ByteArray.size]
  have HE := Lib.hid he
  obtain ⟨te, pe, he1⟩ := he.es
  obtain ⟨te', pe', he2⟩ := he.er
  have H1 := Lib.hid he1
  have H2 := Lib.hid he2
  clear he he1 he2
  cases hp : Lib.parseIntB 64 s with
  | ok v =>
    have hv := parseInt_i64 hp
    have HV := Lib.hid hv
    have HNO := Lib.hid (show ¬ (0 ≤ v ∧ Lib.itoa v = s) → numI s = -2 from fun h => by unfold numI; rw [hp]; simp only; rw [if_neg h])
    have HYES := Lib.hid (show (0 ≤ v ∧ Lib.itoa v = s) → numI s = v from fun h => by unfold numI; rw [hp]; simp only; rw [if_pos h])
    have HC := Lib.hid (Tryz.strconv_ParseInt_10_at64_ok ⟨s.toArray⟩ (by rw [hsz]; omega) v hp w)
    clear hp hv
    go_enter Tryz.func53, Tryz.ntmps53
    go_wp2_with fail
    refine HC.out.mono ?_
    rintro e w1 ⟨rfl, hx⟩
    have hb1 : Below w.heap.size w w1 := by
      rcases hx with rfl | ⟨t, rfl⟩
      · exact Below.refl _ _
      · exact Go.Joins.below_bytesWorld _ _ _ _ (Nat.le_refl _)
    have HE1 := Lib.hid (HE.out.mono hb1)
    have HB1 := Lib.hid hb1
    clear hx hb1 HC
    by_cases h0 : v < 0
    · have HQ := Lib.hid (HNO.out (by omega))
      go_wp2_with fail
      go_ret
      exact ⟨ret_int HQ.out.symm, HB1.out⟩
    · have h0' : ¬ v < 0 := h0
      go_wp2_with fail
      refine (decG_c v _ HV.out HE1.out).mono ?_
      rintro e w2 ⟨rfl, hb2⟩
      have HB2 := Lib.hid (HB1.out.trans (hb2.mono HB1.out.size))
      by_cases h3 : Lib.itoa v = s
      · have HQ := Lib.hid (HYES.out ⟨by omega, h3⟩)
        have hne : (Lib.itoa v == s) = true := by simp [h3]
        clear h3
        go_wp2_with fail
        go_ret
        exact ⟨ret_int HQ.out.symm, HB2.out⟩
      · have HQ := Lib.hid (HNO.out (fun h => h3 h.2))
        have hne : (Lib.itoa v == s) = false := by simp [h3]
        clear h3
        go_wp2_with fail
        go_ret
        exact ⟨ret_int HQ.out.symm, HB2.out⟩
  | range =>
    have HQ := Lib.hid (show numI s = -2 by unfold numI; rw [hp])
    have HC := Lib.hid (Tryz.strconv_ParseInt_10_at64_range ⟨s.toArray⟩ (by rw [hsz]; omega) hp _ w H2.out (.inr ⟨_, _, rfl⟩))
    clear hp
    go_enter Tryz.func53, Tryz.ntmps53
    go_wp2_with fail
    refine HC.out.mono ?_
    rintro e w1 ⟨N, rfl, _, _, hb1⟩
    have HB1 := Lib.hid hb1
    clear HC hb1
    go_wp2_with fail
    go_ret
    exact ⟨ret_int HQ.out.symm, HB1.out⟩
  | _ =>
    have HQ := Lib.hid (show numI s = -2 by unfold numI; rw [hp])
    have HC := Lib.hid (Tryz.strconv_ParseInt_10_at64_syntax ⟨s.toArray⟩ (by rw [hsz]; omega) (fun v h9 => by rw [hp] at h9; cases h9) (fun h9 => by rw [hp] at h9; cases h9) _ w H1.out (.inr ⟨_, _, rfl⟩))
    clear hp
    go_enter Tryz.func53, Tryz.ntmps53
    go_wp2_with fail
    refine HC.out.mono ?_
    rintro e w1 ⟨N, rfl, _, _, hb1⟩
    have HB1 := Lib.hid hb1
    clear HC hb1
    go_wp2_with fail
    go_ret
    exact ⟨ret_int HQ.out.symm, HB1.out⟩
/-- '[]byte(s)'. -/
theorem bytes_of (w : World) (s : List UInt8) : ∃ (c : Nat) (wB : World), (convert 9 22 (.string ⟨s.toArray⟩)).run Tryz.prog w = .ok (.slice (some ⟨w.heap.size, 0, none⟩) s.length c) wB ∧ Below w.heap.size w wB ∧ wB.heap.size = w.heap.size + 1 ∧
    ∀ j, j < s.length → wB.cell? ⟨w.heap.size, j, none⟩ = some (.int .u8 ((s.getD j 0).toNat : Int)) := by
  have h := Lib.run_convert_string_bytes (P := Tryz.prog) w 9 22 5 ⟨s.toArray⟩ Tryz.underlying9 Tryz.underlying22 Tryz.underlying5
  have hsz : (⟨s.toArray⟩ : ByteArray).size = s.length := by simp [ByteArray.size]
  rw [hsz] at h
  exact ⟨_, _, h, Go.Joins.below_bytesWorld _ _ _ _ (Nat.le_refl _), Lib.bytesWorld_size _ _ _, fun j hj => Lib.bytesWorld_cell w _ _ j (by rw [hsz]; exact hj)⟩
theorem digR_no {s : List UInt8} {k : Nat} (hk : k < s.length) (h : isDg s[k] = false) : digR s = [] := by
  unfold digR
  rw [if_neg (fun ha => by rw [List.all_eq_true] at ha; have := ha _ (List.getElem_mem hk); rw [h] at this; cases this)]
theorem digR_yes {s : List UInt8} (h : ∀ j (hj : j < s.length), isDg s[j] = true) : digR s = s.map (fun b => (b.toNat : Int) - 48) := by
  unfold digR
  rw [if_pos (List.all_eq_true.2 (fun b hb => by obtain ⟨j, hj, rfl⟩ := List.getElem_of_mem hb; exact h j hj))]
theorem map_takeD {α β : Type} (f : α → β) (l : List α) {k : Nat} (h : k < l.length) : (l.take k).map f ++ [f l[k]] = (l.take (k + 1)).map f := by
  rw [List.take_succ_eq_append_getElem h, List.map_append]; rfl
set_option maxRecDepth 100000 in
set_option maxHeartbeats 4000000 in
theorem readDigits_c (s : List UInt8) (w : World) (hs : s.length ≤ 1048576) :
    Calls Tryz.prog 55 #[.string ⟨s.toArray⟩] w fun e w' => ∃ v, e = .returned v ∧ Fresh w.heap.size w' [v] (digR s) ∧ Below w.heap.size w w' := by
  have HS0 := Lib.hid ((St.start w).step (belowA w (.cells #[] 2)))
  have HA0 := Lib.hid ((accP_made (α := Int) w 2))
  obtain ⟨cB, wB, hcv, hbB, hsB, hcB⟩ := bytes_of (w.alloc (.cells #[] 2)) s
  rw [show (w.alloc (.cells #[] 2)).heap.size = w.heap.size + 1 by simp] at hcv hcB hsB
  have HSB := Lib.hid (HS0.out.step hbB)
  have HAB := Lib.hid (AccP.mono HA0.out hbB)
  have HCB := Lib.hid hcB
  have hsB2 : w.heap.size + 1 + 1 ≤ wB.heap.size := by omega
  clear hbB hsB hcB HS0 HA0
  go_enter Tryz.func55, Tryz.ntmps55
  go_wp2_with fail
  clear hcv
  go_loopw [3, 10] (fun oo iv wl => ∃ (k : Nat) (ao : Option Addr) (co : Nat), k ≤ s.length ∧ oo = .slice ao k co ∧ iv = .int .i64 k ∧ w.heap.size + 1 < wl.heap.size ∧ Hid (∀ j (hj : j < s.length), j < k → isDg s[j] = true) ∧ Hid (St w w.heap.size wl []) ∧
    Hid (∀ j, j < s.length → wl.cell? ⟨w.heap.size + 1, j, none⟩ = some (.int .u8 ((s.getD j 0).toNat : Int))) ∧ Hid (AccP (fun z => w.heap.size ≤ z ∧ z < wl.heap.size ∧ z ≠ w.heap.size + 1) 2 wl (.slice ao k co) ((s.take k).map (fun b => (b.toNat : Int) - 48)))) (fun _ i _ => s.length - (intOf i).toNat)
  case atStart => exact ⟨0, _, _, Nat.zero_le _, rfl, rfl, by omega, fun j _ hj => absurd hj (Nat.not_lt_zero _), HSB.out, HCB.out, AccP.wk HAB.out (fun z hz => by (try simp at hz); omega)⟩
  case round =>
    clear HSB HAB HCB
    obtain ⟨k, ao, co, hk, rfl, rfl, hsz, hdg, hst, hcb, hac⟩ := hrel
    have HAC := hac
    clear hac
    by_cases hlt : k < s.length
    · have hkl : (k : Int) < s.length := by omega
      have q0 := hcb.out k hlt
      rw [show s.getD k 0 = s[k] by simp [List.getD, hlt]] at q0
      have HTK := Lib.hid (map_takeD (fun b : UInt8 => (b.toNat : Int) - 48) s hlt)
      have HLK := Lib.hid (show ((s.take k).map (fun b : UInt8 => (b.toNat : Int) - 48)).length = k by rw [List.length_map, List.length_take]; omega)
      have HNO := Lib.hid (fun h => digR_no hlt h)
      have HNX := Lib.hid (show isDg s[k] = true → ∀ j (hj : j < s.length), j < k + 1 → isDg s[j] = true from fun h j hj hjk => by
        rcases Nat.lt_or_ge j k with h2 | h2
        · exact hdg.out j hj h2
        · obtain rfl : j = k := by omega
          exact h)
      generalize s[k] = D at *
      have hD := D.toNat_lt
      have HDG := Lib.hid (show isDg D = (decide (48 ≤ D.toNat) && decide (D.toNat ≤ 57)) from rfl)
      generalize D.toNat = d at *
      by_cases h1 : d < 48
      · have HQ := Lib.hid (HNO.out (by rw [HDG.out]; simp; omega))
        have g1 : (d : Int) < 48 := by omega
        have HB9 := Lib.hid hst.out.bel
        go_wp2_with fail
        go_ret
        exact ⟨_, rfl, by rw [HQ.out]; exact fresh_nil_list, HB9.out⟩
      · by_cases h2 : 57 < d
        · have HQ := Lib.hid (HNO.out (by rw [HDG.out]; simp; omega))
          have g1 : ¬ (d : Int) < 48 := by omega
          have g2 : (57 : Int) < d := by omega
          have HB9 := Lib.hid hst.out.bel
          go_wp2_with fail
          go_ret
          exact ⟨_, rfl, by rw [HQ.out]; exact fresh_nil_list, HB9.out⟩
        · have HQ := Lib.hid (HNX.out (by rw [HDG.out]; simp; omega))
          have g1 : ¬ (d : Int) < 48 := by omega
          have g2 : ¬ (57 : Int) < d := by omega
          have hw1 : IntKind.u8.wrap ((d : Int) - 48) = (d : Int) - 48 := by simp [IntKind.wrap, IntKind.signed, IntKind.bits]; omega
          have hw2 : IntKind.i64.wrap ((d : Int) - 48) = (d : Int) - 48 := i64_in _ (by omega)
          have hI1 : I64 ((d : Int) - 48) := ⟨by omega, by omega⟩
          have HS8 := Lib.hid (hst.out.step (belowA wr (.cells #[.int .i64 ((d : Int) - 48)] 2)))
          have HC8 := Lib.hid (fun j hj => cellL (belowA wr (.cells #[.int .i64 ((d : Int) - 48)] 2)) (hcb.out j hj))
          go_wp2_with (at_builtin; refine wpList_append_accP _ rfl _ _ _ rfl E_ints rfl (AccP.mono HAC.out (belowA _ _)) (ip_int1 (C := fun _ => False) hI1) (fun z _ h => h) ⟨wr.heap.size, 0, none⟩ 1 rfl (news1 (cell_at_block (heap_alloc_new _ _))) (by rw [HLK.out]; omega) ?_; simp only [HLK.out, HTK.out]; intro a7 c7 w7 hA7 hB7; refine Hid.out ?_)
          refine Lib.hid ?_
          have hz7 := hB7.size
          (try simp at hz7)
          have HB7 := Lib.hid ((HS8.out.bel).trans ((hB7.below (B := w.heap.size) (fun z hz => hz.1) (by (try simp) <;> omega)).mono (Nat.le_refl _)))
          have HC7 := Lib.hid (fun j hj => cellB hB7 (HC8.out j hj) (fun h => by have h3 := h.2.2; omega))
          have HA7 := Lib.hid (AccP.wk hA7.tight (C := fun z => w.heap.size ≤ z ∧ z < w7.heap.size ∧ z ≠ w.heap.size + 1) (fun z hz => ⟨by
            rcases hz.1 with h | h | h
            · exact h.1
            · exact h.elim
            · simp at h; omega, hz.2, by
            rcases hz.1 with h | h | h
            · exact h.2.2
            · exact h.elim
            · simp at h; omega⟩))
          clear hA7 hB7
          (try go_wp2_with fail)
          go_roundw
          case rel => exact ⟨k + 1, a7, c7, hlt, rfl, by go_num, by omega, HQ.out, (St.start w).stepB HB7.out, HC7.out, HA7.out⟩
          case measure => simp [intOf]; omega
    · obtain rfl : k = s.length := by omega
      have hnl : ¬ ((s.length : Int) < s.length) := by omega
      have HF := Lib.hid (show Fresh w.heap.size wr [.slice ao s.length co] (digR s) from by
        have h := HAC.out
        rw [List.take_length] at h
        rw [digR_yes (fun j hj => hdg.out j hj hj)]
        exact h.ip.fresh (fun k hk => hk.1))
      have HB9 := Lib.hid hst.out.bel
      go_wp2_with fail
      go_ret
      exact ⟨_, rfl, HF.out, HB9.out⟩

end Go.Proofs.YthceklaoikeokaaGreatDoor
