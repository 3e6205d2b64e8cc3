/-
  CONTRACTS: ReadInstance; the program's side.
-/
import Derived.Test.YtjnkkjgkinmhkaaDoorReadS
import Derived.Test.YtjnkkjgkinmhkaaDoorReadIP
import Derived.Test.YtjnkkjgkinmhkaaDoorTmplB
namespace Go.Proofs.YtjnkkjgkinmhkaaDoor
open Go.RowKit Go.Shelf Go.IntWalk
open Rep (Rd Own sz)
set_option linter.unusedSimpArgs false
set_option linter.unusedVariables false

/-- What is owned but for the first element. -/
theorem ip_tail {α : Type} [Rep α] {A : Nat → Prop} {w : World} {g o n c : Nat} {x : α} {l : List α} (h : Ip A w [.slice (some ⟨g, o, none⟩) n c] (x :: l)) {aT : Option Addr} {cT : Nat} (h1 : 0 < l.length → aT = some ⟨g, o + sz α, none⟩ ∧ cT = c - 1) (h2 : cT ≤ maxLen) :
    Ip A w [.slice aT l.length cT] l := by
  obtain ⟨ps, ⟨v', e', ho⟩, hn, hb⟩ := h
  by_cases hl : l = []
  · subst hl
    exact ⟨[], ⟨_, rfl, .inl ⟨rfl, rfl, aT, cT, rfl, h2⟩⟩, List.nodup_nil, fun k hk => by cases hk⟩
  have hl0 : 0 < l.length := by cases l with | nil => exact absurd rfl hl | cons y ys => simp
  obtain ⟨rfl, rfl⟩ := h1 hl0
  obtain rfl : Value.slice (some ⟨g, o, none⟩) n c = v' := by simpa using e'
  rcases ho with ⟨h0, _⟩ | ⟨g', o', c', cur, e, pss, hv, q1, q2, q3, rfl, q5, q6⟩
  · cases h0
  simp only [Value.slice.injEq, Option.some.injEq, Addr.mk.injEq, and_true] at hv
  obtain ⟨⟨rfl, rfl⟩, rfl, rfl⟩ := hv
  match pss, q5 with
  | p0 :: pss, q5 =>
    simp only [List.flatten_cons, List.nodup_cons, List.mem_append, not_or] at hn
    obtain ⟨⟨n1, n2⟩, n3⟩ := hn
    simp only [List.length_cons] at q1 q5
    refine ⟨g :: List.flatten pss, ⟨_, rfl, .inr ⟨g, o + sz α, c - 1, cur, e, pss, rfl, by omega, by omega, q3, rfl, by omega, fun i hi => ?_⟩⟩, ?_, ?_⟩
    · obtain ⟨p, vs, hp, hO, hc⟩ := q6 (i + 1) (by simp; omega)
      refine ⟨p, vs, by simpa using hp, by simpa using hO, fun k hk => ?_⟩
      have := hc k hk
      rw [Nat.add_mul, Nat.one_mul] at this
      rw [← this]
      congr 1
      omega
    · exact List.nodup_cons.2 ⟨n2, (List.nodup_append.1 n3).2.1⟩
    · intro k hk
      refine hb k ?_
      rcases List.mem_cons.1 hk with rfl | hk
      · simp
      · simp [hk]
theorem join_len (sep : List UInt8) {L : List (List UInt8)} {m : Nat} (h : ∀ x, x ∈ L → x.length ≤ m) : (Lib.join L sep).length ≤ L.length * (m + sep.length) := by
  have key : ∀ r : List (List UInt8), (∀ x, x ∈ r → x.length ≤ m) → (Lib.joinTail sep r).length ≤ r.length * (m + sep.length) := by
    intro r
    induction r with
    | nil => intro _; simp [Lib.joinTail]
    | cons y ys ih =>
      intro h
      have h1 := ih (fun x hx => h x (List.mem_cons_of_mem _ hx))
      have h2 := h y (List.mem_cons_self ..)
      unfold Lib.joinTail at h1 ⊢
      rw [List.map_cons, List.flatten_cons, List.length_append, List.length_append, List.length_cons, Nat.add_mul, Nat.one_mul]
      omega
  match L with
  | [] => simp [Lib.join_nil]
  | x :: r =>
    have h1 := key r (fun y hy => h y (List.mem_cons_of_mem _ hy))
    have h2 := h x (List.mem_cons_self ..)
    rw [Lib.join_cons, List.length_append, List.length_cons, Nat.add_mul, Nat.one_mul]
    omega
theorem join_vals : ∀ {l : List Int}, l ≠ [] → 32 :: Lib.join (l.map (fun v => decB v.toNat)) [32] = valB l
  | a :: l, _ => by
    have key : ∀ r : List Int, Lib.joinTail [32] (r.map (fun v => decB v.toNat)) = valB r := by
      intro r
      induction r with
      | nil => rfl
      | cons b r ih =>
        unfold Lib.joinTail valB at ih ⊢
        rw [List.map_cons, List.map_cons, List.flatten_cons, ih, List.flatMap_cons]
        rfl
    rw [List.map_cons, Lib.join_cons, key]
    rfl
theorem join_c (L : List (List UInt8)) (a : Option Addr) (c : Nat) (w : World) (h : Rd w [.slice a L.length c] L) (h0 : 0 < L.length) (hN : L.length ≤ 1000) (hm : ∀ x, x ∈ L → x.length ≤ 1000) :
    Calls Tryd.prog 80 #[.slice a L.length c, .string ⟨#[32]⟩] w fun e w' => e = .returned (.string ⟨(Lib.join L [32]).toArray⟩) ∧ Below w.heap.size w w' := by
  obtain ⟨b, o, rfl, q0⟩ := rd_str_at h 0 h0
  obtain ⟨a', c', e', hr⟩ := rd_list h
  simp only [Value.slice.injEq] at e'
  obtain ⟨rfl, -, rfl⟩ := e'
  have hcap := hr.1
  have hl := join_len [32] hm
  have e1 : (L.map (fun x => (⟨x.toArray⟩ : ByteArray))).map (·.data.toList) = L := by
    rw [List.map_map]
    conv => rhs; rw [← List.map_id L]
    exact List.map_congr_left (fun x _ => by simp)
  have h1 := Tryd.strings_Join b o c (L.map (fun x => (⟨x.toArray⟩ : ByteArray))) ⟨#[32]⟩ w (fun j x hx => by
      rw [List.getElem?_map] at hx
      cases hj : L[j]? with
      | none => rw [hj] at hx; cases hx
      | some y =>
        rw [hj] at hx
        simp only [Option.map_some, Option.some.injEq] at hx
        subst hx
        obtain ⟨hj1, hj2⟩ := List.getElem?_eq_some_iff.1 hj
        obtain ⟨b2, o2, e2, q2⟩ := rd_str_at h j hj1
        simp only [Option.some.injEq, Addr.mk.injEq, and_true] at e2
        obtain ⟨rfl, rfl⟩ := e2
        rw [q2, hj2])
    (World.block_lt_of_cell? _ _ q0) (by rw [List.length_map]; omega) (by rw [List.length_map]; omega)
    (by
      rw [e1]
      have h3 : L.length * (1000 + 1) ≤ 1000 * (1000 + 1) := Nat.mul_le_mul_right _ hN
      have h4 : (Lib.join L [32]).length ≤ L.length * (1000 + 1) := hl
      show (Lib.join L [32]).length ≤ _
      omega)
  rw [e1, List.length_map] at h1
  exact h1
set_option maxRecDepth 100000 in
set_option maxHeartbeats 4000000 in
theorem spaced_c (l : List Int) (v : Value) (w : World) (h : Rd w [v] l) (hl : ∀ a, a ∈ l → 0 ≤ a ∧ a ≤ 12) (h1 : 0 < l.length) (hn : l.length ≤ 1000) :
    Calls Tryd.prog 60 #[v] w fun e w' => e = .returned (.string ⟨(Lib.join (l.map (fun v => decB v.toNat)) [32]).toArray⟩) ∧ Below w.heap.size w w' := by
  obtain ⟨a, c, rfl, _⟩ := rd_list h
  have HL := Lib.hid h
  have HB := Lib.hid hl
  clear h hl
  have HS0 := Lib.hid ((St.start w).step (belowA w (.cells #[] 9)))
  have HA0 := Lib.hid ((accP_made (α := List UInt8) w 9))
  go_enter Tryd.func60, Tryd.ntmps60
  go_wp2_with fail
  go_loopw [3, 9] (fun oo iv wl => ∃ (k : Nat) (ao : Option Addr) (co : Nat), k ≤ l.length ∧ oo = .slice ao k co ∧ iv = .int .i64 k ∧ Hid (St w w.heap.size wl []) ∧
    Hid (AccP (fun z => w.heap.size ≤ z ∧ z < wl.heap.size) 9 wl (.slice ao k co) ((l.take k).map (fun v => decB v.toNat)))) (fun _ i _ => l.length - (intOf i).toNat)
  case atStart => exact ⟨0, _, _, Nat.zero_le _, rfl, rfl, HS0.out, AccP.wk HA0.out (fun z hz => by (try simp at hz ⊢); omega)⟩
  case round =>
    clear HS0 HA0
    obtain ⟨k, ao, co, hk, rfl, rfl, hst, hac⟩ := hrel
    have hzr : w.heap.size ≤ wr.heap.size := hst.out.hi
    have HAC := hac
    clear hac
    by_cases hlt : k < l.length
    · have hkI : (k : Int) < l.length := by omega
      obtain ⟨b, o, rfl, q0, _⟩ := rd_int_at HL.out k hlt
      have q1 := cellL hst.out.bel q0
      clear q0
      have hb := HB.out _ (List.getElem_mem hlt)
      have HTK := Lib.hid (map_takeD (fun v : Int => decB v.toNat) l hlt)
      have HLK := Lib.hid (show ((l.take k).map (fun v : Int => decB v.toNat)).length = k by rw [List.length_map, List.length_take]; omega)
      generalize l[k] = A at *
      go_wp2_with fail
      refine (dec_c A _ hb.1 hb.2).mono ?_
      rintro e w1 ⟨rfl, rfl⟩
      generalize decB A.toNat = Y at *
      have HS8 := Lib.hid (hst.out.step (belowA wr (.cells #[.string ⟨Y.toArray⟩] 9)))
      go_wp2_with (at_builtin; refine wpList_append_accP _ rfl _ _ _ rfl E_strs rfl (AccP.mono HAC.out (belowA _ _)) (ip_str (C := fun _ => False) (x := Y)) (fun z _ h => h) ⟨wr.heap.size, 0, none⟩ 1 rfl (news1 (cell_at_block (heap_alloc_new _ _))) (by rw [HLK.out]; omega) ?_; simp only [HLK.out, HTK.out]; intro a7 c7 w7 hA7 hB7; refine Hid.out ?_)
      refine Lib.hid ?_
      have hz7 := hB7.size
      (try simp at hz7)
      have HB7 := Lib.hid ((HS8.out.bel).trans ((hB7.below (B := w.heap.size) (fun z hz => hz.1) (by (try simp) <;> omega)).mono (Nat.le_refl _)))
      have HA7 := Lib.hid (AccP.wk hA7.tight (C := fun z => w.heap.size ≤ z ∧ z < w7.heap.size) (fun z hz => ⟨by
        rcases hz.1 with h | h | h
        · exact h.1
        · exact h.elim
        · simp at h; omega, hz.2⟩))
      clear hA7 hB7 q1
      (try go_wp2_with fail)
      go_roundw
      case rel => exact ⟨k + 1, a7, c7, hlt, rfl, by go_num, (St.start w).stepB HB7.out, HA7.out⟩
      case measure => simp [intOf]; omega
    · obtain rfl : k = l.length := by omega
      have hnl : ¬ ((l.length : Int) < l.length) := by omega
      have HJ := Lib.hid (show ∀ W : World, Rd W [.slice ao l.length co] (l.map (fun v : Int => decB v.toNat)) → Calls Tryd.prog 80 #[.slice ao l.length co, .string ⟨#[32]⟩] W fun e w' => e = .returned (.string ⟨(Lib.join (l.map (fun v => decB v.toNat)) [32]).toArray⟩) ∧ Below W.heap.size W w' from fun W h => by
        have h2 := join_c (l.map (fun v : Int => decB v.toNat)) ao co W (by rw [List.length_map]; exact h) (by rw [List.length_map]; exact h1) (by rw [List.length_map]; exact hn) (fun x hx => by
          obtain ⟨y, _, rfl⟩ := List.mem_map.1 hx
          have := decB_len y.toNat
          omega)
        rw [List.length_map] at h2
        exact h2)
      have HRD := Lib.hid (show Rd wr [.slice ao l.length co] (l.map (fun v : Int => decB v.toNat)) from by have h := HAC.out.rd; rwa [List.take_length] at h)
      go_wp2_with fail
      refine (HJ.out _ HRD.out).mono ?_
      rintro e w2 ⟨rfl, hbw2⟩
      have hz_w2 : wr.heap.size ≤ w2.heap.size := by have h9 := hbw2.size; (try simp at h9); omega
      have hs3 := hst.out.step hbw2
      have HAC_4 := Lib.hid (AccP.mono HAC.out hbw2)
      clear HAC
      go_wp2_with fail
      go_ret
      exact ⟨rfl, hs3.bel⟩
theorem conSh_rel {n r : Int} {sc : List Int} (h : inB r 0 5 = false) : conSh n (r, sc) = false := by unfold conSh; simp only; rw [h]; rfl
theorem conSh_ar {n r : Int} {sc : List Int} (h1 : inB r 0 5 = true) (h : inB sc.length 1 4 = false) : conSh n (r, sc) = false := by unfold conSh; simp only; rw [h1, h]; rfl
theorem conSh_vals {n r : Int} {sc : List Int} (h1 : inB r 0 5 = true) (h : inB sc.length 1 4 = true) : conSh n (r, sc) = valsOk n sc sc.length := by unfold conSh; simp only; rw [h1, h]; rfl
set_option maxRecDepth 100000 in
set_option maxHeartbeats 4000000 in
theorem instanceText1_by (xb : Nat) (vars : Int) (w : World) (l : List OpT) (hc1 : w.cell? ⟨xb, 0, none⟩ = some (.int .i64 vars)) (hv : 1 ≤ vars ∧ vars ≤ 10) :
    PredC 56 #[.pointer (some ⟨xb, 0, none⟩)] w l (fun c => !conSh vars c) := by
  intro W x v0 v1 hb hx _
  have g1 := cellL hb hc1
  clear hc1 hb
  show Calls Tryd.prog 56 #[_, .pointer (some ⟨xb, 0, none⟩)] W _
  obtain ⟨ci, sc⟩ := x
  have z := rd_cons rfl hx
  obtain ⟨rfl, hIc⟩ := rd_i1 z.1
  have HSC := Lib.hid z.2
  obtain ⟨a2, c2, rfl, hrl⟩ := rd_list z.2
  have hb0 := (rdSl_len hrl).2
  unfold maxLen at hb0
  clear hx z hrl
  simp only at hIc
  have g1_ := cellL (St.start W).bel g1
  have hs5 := (St.start W).alloc #[.int .i64 ci, .slice a2 sc.length c2] 61 (n := W.heap.size) (by simp)
  clear g1_
  have k0_0 := hs5.cellAt 0 rfl 0 rfl
  have k0_1 := hs5.cellAt 0 rfl 1 rfl
  have g1_ := cellL hs5.bel g1
  go_enter Tryd.func56, Tryd.ntmps56
  go_wp2_with fail
  refine (within_c ci 0 5 _).mono ?_
  rintro e w6 ⟨rfl, rfl, rfl⟩
  cases h1 : inB ci 0 5 with
  | false =>
    have H1 := Lib.hid (conSh_rel (n := vars) (sc := sc) h1)
    clear h1
    go_wp2_with fail
    go_ret
    exact ⟨ret_bool (by rw [H1.out]; rfl), hs5.bel⟩
  | true =>
    have H1 := Lib.hid h1
    clear h1
    go_wp2_with fail
    refine (isArity_c sc.length _).mono ?_
    rintro e w7 ⟨rfl, rfl, rfl⟩
    cases h2 : inB sc.length 1 4 with
    | false =>
      have H2 := Lib.hid (conSh_ar (n := vars) H1.out h2)
      clear h2
      go_wp2_with fail
      go_ret
      exact ⟨ret_bool (by rw [H2.out]; rfl), hs5.bel⟩
    | true =>
      have H2 := Lib.hid (conSh_vals (n := vars) H1.out h2)
      clear h2
      go_wp2_with fail
      refine (areValues_c vars sc _ sc.length _ (Rd.mono HSC.out hs5.bel) (by omega) (by omega)).mono ?_
      rintro e w8 ⟨rfl, hbw8⟩
      have hz_w8 : W.heap.size + 1 ≤ w8.heap.size := by have h9 := hbw8.size; (try simp at h9); omega
      have hs9 := hs5.step hbw8
      clear k0_0 k0_1 g1_
      have k0_0 := hs9.cellAt 0 rfl 0 rfl
      have k0_1 := hs9.cellAt 0 rfl 1 rfl
      have g1_ := cellL hs9.bel g1
      go_wp2_with fail
      go_ret
      exact ⟨ret_bool (by rw [H2.out]), hs9.bel⟩
def headE (n : Int) : List UInt8 := headI n
theorem headI_eq (P : List UInt8) : ((⟨#[105, 110, 115, 116, 97, 110, 99, 101, 32]⟩ : ByteArray) ++ ⟨P.toArray⟩) ++ ⟨#[10]⟩ = ⟨(insW ++ 32 :: P ++ [10]).toArray⟩ := by
  apply ByteArray.ext
  simp [ByteArray.data_append, insW]
theorem con_eq (X P Q : List UInt8) : (⟨X.toArray⟩ : ByteArray) ++ (((⟨P.toArray⟩ ++ ⟨#[32]⟩) ++ ⟨Q.toArray⟩) ++ ⟨#[10]⟩) = ⟨(X ++ (P ++ 32 :: Q ++ [10])).toArray⟩ := by
  apply ByteArray.ext
  simp [ByteArray.data_append]
theorem conB_snoc (l : List OpT) (k : Nat) (h : k < l.length) : (l.take (k + 1)).flatMap conB = (l.take k).flatMap conB ++ conB l[k] := by
  rw [List.take_succ_eq_append_getElem h, List.flatMap_append, List.flatMap_cons, List.flatMap_nil, List.append_nil]
theorem valB_len (l : List Int) : (valB l).length ≤ 3 * l.length := by
  induction l with
  | nil => simp [valB]
  | cons a l ih => have := decB_len a.toNat; simp only [valB, List.flatMap_cons, List.length_append, List.length_cons] at ih ⊢; omega
theorem conB_len {n : Int} {l : List OpT} (he : ∀ e, e ∈ l → conSh n e = true) : (l.flatMap conB).length ≤ 20 * l.length := by
  induction l with
  | nil => simp
  | cons e l ih =>
    have h1 := ih (fun x hx => he x (List.mem_cons_of_mem _ hx))
    have h2 := conSh_get (he e (List.mem_cons_self ..))
    have h3 := valB_len e.2
    have h4 := decB_len e.1.toNat
    simp only [List.flatMap_cons, List.length_append, List.length_cons, conB, conL1, List.length_nil] at h1 ⊢
    omega
set_option maxRecDepth 100000 in
set_option maxHeartbeats 4000000 in
theorem InstanceText_c (x : Inst) (v0 v1 : Value) (w : World) (hx : Rd w [v0, v1] x) :
    Calls Tryd.prog 33 #[.agg #[v0, v1]] w fun e w' => e = .returned (.string ⟨(instTF x).toArray⟩) ∧ Below w.heap.size w w' := by
  obtain ⟨vars, l⟩ := x
  have zx := rd_cons rfl hx
  obtain ⟨rfl, _⟩ := rd_i1 zx.1
  have HL := Lib.hid zx.2
  obtain ⟨a, c, rfl, hrl⟩ := rd_list zx.2
  have hb0 := (rdSl_len hrl).2
  unfold maxLen at hb0
  clear hx zx hrl
  have eg : ∀ args w, (callFunc 56 args).run Tryd.prog w = .ok (.enter 56 args) w := enters_of Tryd.func56 (by kernel_rfl) rfl
  have hs10 := (St.start w).alloc #[.int .i64 vars, .slice a l.length c] 32 (n := w.heap.size) (by simp)
  have k0_0 := hs10.cellAt 0 rfl 0 rfl
  have k0_1 := hs10.cellAt 0 rfl 1 rfl
  go_enter Tryd.func33, Tryd.ntmps33
  go_wp2_with fail
  refine (isVars_c vars _).mono ?_
  rintro e w11 ⟨rfl, rfl, rfl⟩
  cases h2 : inB vars 1 10 with
  | false =>
    have H2 := Lib.hid (show instTF (vars, l) = [] by unfold instTF shownI; simp only [h2, Bool.and_false, Bool.false_and]; rfl)
    clear h2
    go_wp2_with fail
    go_ret
    exact ⟨by rw [H2.out]; rfl, hs10.bel⟩
  | true =>
    have hv := inB_true h2
    by_cases hl : l.length ≤ 24
    · have H3 := Lib.hid (show shownI (vars, l) = l.all (conSh vars) by unfold shownI; simp only [h2, decide_eq_true hl, Bool.true_and])
      clear h2
      go_wp2_with fail
      refine (containsCons_c l _ 56 _ _ _ (Rd.mono HL.out hs10.bel) eg (instanceText1_by _ vars _ l (hs10.cellAt 0 rfl 0 rfl) hv)).mono ?_
      rintro e w12 ⟨rfl, hbw12⟩
      have hz_w12 : w.heap.size + 1 ≤ w12.heap.size := by have h9 := hbw12.size; (try simp at h9); omega
      have hs13 := hs10.step hbw12
      clear k0_0 k0_1
      have k0_0 := hs13.cellAt 0 rfl 0 rfl
      have k0_1 := hs13.cellAt 0 rfl 1 rfl
      have H4 := Lib.hid (show (l.any fun c => !conSh vars c) = !shownI (vars, l) by rw [H3.out, ← all_of_any]; simp)
      rw [H4.out]
      cases hok : shownI (vars, l) with
      | false =>
        have HT := Lib.hid (show instTF (vars, l) = [] by unfold instTF; rw [hok]; rfl)
        clear hok
        go_wp2_with fail
        go_ret
        exact ⟨by rw [HT.out]; rfl, hs13.bel⟩
      | true =>
        have HT := Lib.hid (show instTF (vars, l) = headI vars ++ l.flatMap conB by unfold instTF; rw [if_pos hok]; rfl)
        have HE := Lib.hid (shownI_get hok).2.2
        clear hok H3 H4
        have h1 := decB_len vars.toNat
        have HH := Lib.hid (show headI vars = insW ++ 32 :: decB vars.toNat ++ [10] from rfl)
        have HHE := Lib.hid (headI_eq (decB vars.toNat))
        rw [← HH.out] at HHE
        have hb1 : ¬ (9223372036854775807 < 9 + (decB vars.toNat).length) := by omega
        have hb2 : ¬ (9223372036854775807 < 9 + (decB vars.toNat).length + 1) := by omega
        go_wp2_with fail
        refine (dec_c vars _ (by omega) (by omega)).mono ?_
        rintro e w14 ⟨rfl, rfl⟩
        have HHL := Lib.hid (show (headI vars).length ≤ 12 by rw [HH.out]; simp only [insW, List.length_append, List.length_cons, List.length_nil]; omega)
        have HST := Lib.hid (hs13.low (B' := w.heap.size + 1) (bx' := [(w.heap.size, #[.int .i64 vars, .slice a l.length c], 32)]) (by omega) (by (try simp) <;> omega) (fun x hx => by simp only [List.mem_cons, List.not_mem_nil, or_false] at hx; rcases hx with rfl; (refine ⟨?_, ?_⟩ <;> (try simp) <;> (try omega))))
        clear h1
        go_wp2_with fail
        clear k0_0 k0_1
        clear hb1 hb2
        go_loopw [3, 30] (fun xs xi wl => ∃ k : Nat, k ≤ l.length ∧ xs = .string ⟨(headI vars ++ (l.take k).flatMap conB).toArray⟩ ∧ xi = .int .i64 k ∧ Hid (St w (w.heap.size + 1) wl [(w.heap.size, #[.int .i64 vars, .slice a l.length c], 32)])) (fun _ xi _ => l.length - (intOf xi).toNat)
        case atStart => exact ⟨0, Nat.zero_le _, by rw [HHE.out]; simp, rfl, HST.out⟩
        case round =>
          clear HST
          obtain ⟨k, hk, rfl, rfl, hst⟩ := hrel
          have hs0 := hst.out
          have hszr := hst.out.hi
          have k0_0 := hs0.cellAt 0 rfl 0 rfl
          have k0_1 := hs0.cellAt 0 rfl 1 rfl
          by_cases hlt : k < l.length
          · have hkI : (k : Int) < l.length := by omega
            obtain ⟨b, o, y0, y1, rfl, p0, p1, hy⟩ := rd_two_at rfl HL.out k hlt
            have hq := conSh_get (HE.out _ (List.getElem_mem hlt))
            have HSN := Lib.hid (conB_snoc l k hlt)
            have hlX : ((l.take k).flatMap conB).length ≤ 20 * (l.take k).length := conB_len (fun e he => HE.out e (List.mem_of_mem_take he))
            rw [List.length_take] at hlX
            have hXL : (headI vars ++ (l.take k).flatMap conB).length ≤ 2000 := by rw [List.length_append]; have := HHL.out; omega
            generalize l[k] = E at *
            obtain ⟨R, L⟩ := E
            obtain ⟨rfl, _⟩ := rd_i1 (rd_cons rfl hy).1
            obtain ⟨a1, c1, rfl, _⟩ := rd_list (rd_cons rfl hy).2
            have HL1 := Lib.hid (rd_cons rfl hy).2
            obtain ⟨hR, hLn, hLv⟩ := hq
            simp only at hR hLn
            have HAL := Lib.hid (show ∀ x, x ∈ L → 0 ≤ x ∧ x ≤ 12 from fun x hx => by have := hLv x hx; omega)
            clear hLv hy hlX
            have q0 := cellL hs0.bel p0
            have q1 := cellL hs0.bel p1
            clear p0 p1
            have hd2 := decB_len R.toNat
            have HJV := Lib.hid (join_vals (l := L) (fun e => by subst e; simp at hLn))
            have HXS := Lib.hid (show (headI vars ++ (l.take (k + 1)).flatMap conB) = (headI vars ++ (l.take k).flatMap conB) ++ (decB R.toNat ++ 32 :: Lib.join (L.map (fun v => decB v.toNat)) [32] ++ [10]) by
              rw [HSN.out, List.append_assoc, HJV.out]; rfl)
            have hvl := valB_len L
            rw [← HJV.out, List.length_cons] at hvl
            have HSP := Lib.hid (fun W h => spaced_c L (.slice a1 L.length c1) W h HAL.out (by omega) (by omega))
            generalize Lib.join (L.map (fun v => decB v.toNat)) [32] = J at *
            generalize headI vars ++ (l.take k).flatMap conB = X at *
            have HXE := Lib.hid (con_eq X (decB R.toNat) J)
            have hb1 : ¬ (9223372036854775807 < (decB R.toNat).length + 1) := by omega
            have hb2 : ¬ (9223372036854775807 < (decB R.toNat).length + 1 + J.length) := by omega
            have hb3 : ¬ (9223372036854775807 < (decB R.toNat).length + 1 + J.length + 1) := by omega
            have hb4 : ¬ (9223372036854775807 < X.length + ((decB R.toNat).length + 1 + J.length + 1)) := by omega
            clear hd2 hvl
            go_upto_region 7 with fail
            have hs15 := hs0.alloc #[.int .i64 R, .slice a1 L.length c1] 61 (n := wr.heap.size) (by simp)
            have q0_16 := cellL (belowA _ (.cells #[.int .i64 R, .slice a1 L.length c1] 61)) q0
            clear q0
            have q1_17 := cellL (belowA _ (.cells #[.int .i64 R, .slice a1 L.length c1] 61)) q1
            clear q1
            clear k0_0 k0_1
            have k0_0 := hs15.cellAt 0 rfl 0 rfl
            have k0_1 := hs15.cellAt 0 rfl 1 rfl
            have k1_0 := hs15.cellAt 1 rfl 0 rfl
            have k1_1 := hs15.cellAt 1 rfl 1 rfl
            have hz_wE : wr.heap.size + 1 ≤ ((wr.alloc (.cells #[.int .i64 R, .slice a1 L.length c1] 61))).heap.size := by simp
            generalize hgen_wE : (wr.alloc (.cells #[.int .i64 R, .slice a1 L.length c1] 61)) = wE at *
            clear hgen_wE
            refine wp_region_noPanic (wp_region_tree4 (fun w' => w'.cell? ⟨w.heap.size, 0, none⟩ = some (.int .i64 vars) ∧ w'.cell? ⟨w.heap.size, 1, none⟩ = some (.slice (some ⟨b, o, none⟩) l.length c) ∧ w'.cell? ⟨wr.heap.size, 0, none⟩ = some (.int .i64 R) ∧ w'.cell? ⟨wr.heap.size, 1, none⟩ = some (.slice a1 L.length c1) ∧ w'.cell? ⟨b, o + k * 2, none⟩ = some (.int .i64 R) ∧ w'.cell? ⟨b, o + k * 2 + 1, none⟩ = some (.slice a1 L.length c1)) (.float 0 (.float 1 (.float 2 (.float 5 (.float 6 (.hard 3 (.float 4 (.hard 7 (.float 8 (.float 9 (.float 10 (.float 11 .nil)))))))))))) (by kernel_rfl) (by kernel_rfl) (by kernel_rfl) rfl ?_ (fun _ _ _ _ _ h => h) ?_)
            · exact ⟨(hs15.drew).cellAt 0 rfl 0 rfl, (hs15.drew).cellAt 0 rfl 1 rfl, (hs15.drew).cellAt 1 rfl 0 rfl, (hs15.drew).cellAt 1 rfl 1 rfl, cellL (belowD _) q0_16, cellL (belowD _) q1_17⟩
            have hs18 := hs15.drew
            have q0_19 := cellL (belowD _) q0_16
            clear q0_16
            have q1_20 := cellL (belowD _) q1_17
            clear q1_17
            clear k0_0 k0_1 k1_0 k1_1
            have hz_wd21 : wE.heap.size ≤ (wE.drew).heap.size := by simp
            generalize hgen_wd21 : wE.drew = wd21 at *
            have HG_wd21 := Lib.hid hgen_wd21
            clear hgen_wd21
            (repeat (first | (apply t4_skip rfl (by rfl); try simp only [Act.put, List.setIfInBounds_toArray, List.set_cons_zero, List.set_cons_succ]) | (apply t4_float rfl (by rfl); (· (intro w' hS; go_simp <;> with_reducible rfl)); (try simp only [Act.put, List.setIfInBounds_toArray, List.set_cons_zero, List.set_cons_succ]))))
            refine t4_hard rfl (by rfl) (fun K hK => ?_)
            go_wp2_with (go_at_call 44; refine (dec_c R _ (by omega) (by omega)).mono ?_; rintro e w22 ⟨rfl, rfl⟩)
            refine ⟨⟨hs18.cellAt 0 rfl 0 rfl, hs18.cellAt 0 rfl 1 rfl, hs18.cellAt 1 rfl 0 rfl, hs18.cellAt 1 rfl 1 rfl, q0_19, q1_20⟩, ?_⟩
            (repeat (first | (apply t4_skip rfl (by rfl); try simp only [Act.put, List.setIfInBounds_toArray, List.set_cons_zero, List.set_cons_succ]) | (apply t4_float rfl (by rfl); (· (intro w' hS; go_simp <;> with_reducible rfl)); (try simp only [Act.put, List.setIfInBounds_toArray, List.set_cons_zero, List.set_cons_succ]))))
            refine t4_hard rfl (by rfl) (fun K hK => ?_)
            go_wp2_with (go_at_call 60; refine (HSP.out _ (Rd.mono HL1.out hs18.bel)).mono ?_; rintro e w23 ⟨rfl, hbw23⟩)
            have hz_w23 : wd21.heap.size ≤ w23.heap.size := by have h9 := hbw23.size; (try simp at h9); omega
            have hs24 := hs18.step hbw23
            have q0_25 := cellL hbw23 q0_19
            clear q0_19
            have q1_26 := cellL hbw23 q1_20
            clear q1_20
            refine ⟨⟨hs24.cellAt 0 rfl 0 rfl, hs24.cellAt 0 rfl 1 rfl, hs24.cellAt 1 rfl 0 rfl, hs24.cellAt 1 rfl 1 rfl, q0_25, q1_26⟩, ?_⟩
            (repeat (first | (apply t4_skip rfl (by rfl); try simp only [Act.put, List.setIfInBounds_toArray, List.set_cons_zero, List.set_cons_succ]) | (apply t4_float rfl (by rfl); (· (intro w' hS; go_simp <;> with_reducible rfl)); (try simp only [Act.put, List.setIfInBounds_toArray, List.set_cons_zero, List.set_cons_succ]))))
            have k0_0 := hs24.cellAt 0 rfl 0 rfl
            have k0_1 := hs24.cellAt 0 rfl 1 rfl
            have k1_0 := hs24.cellAt 1 rfl 0 rfl
            have k1_1 := hs24.cellAt 1 rfl 1 rfl
            refine t4_nil (NoPanic.normal ?_)
            have hs27 := hs24.low (B' := w.heap.size + 1) (bx' := [(w.heap.size, #[.int .i64 vars, .slice (some ⟨b, o, none⟩) l.length c], 32)]) (by omega) (by (try simp) <;> omega) (fun x hx => by simp only [List.mem_cons, List.not_mem_nil, or_false] at hx; rcases hx with rfl <;> (refine ⟨?_, ?_⟩ <;> (try simp) <;> (try omega)))
            go_wp2_with fail
            go_roundw
            case rel => exact ⟨k + 1, hlt, by rw [HXS.out, ← HXE.out], by go_num, hs27⟩
            case measure => simp [intOf]; omega
          · obtain rfl : k = l.length := by omega
            have hnl : ¬ ((l.length : Int) < l.length) := by omega
            rw [List.take_length, ← HT.out]
            go_wp2_with fail
            go_ret
            exact ⟨rfl, hs0.bel⟩
    · have H2 := Lib.hid (show instTF (vars, l) = [] by unfold instTF shownI; simp only [decide_eq_false hl, Bool.and_false, Bool.false_and]; rfl)
      clear h2
      go_wp2_with fail
      go_ret
      exact ⟨by rw [H2.out]; rfl, hs10.bel⟩
theorem numsI_ne (s : List UInt8) : ∃ x xs, numsI s = x :: xs := by
  unfold numsI
  match splitC 32 s, splitC_ne 32 s with
  | y :: ys, _ => exact ⟨_, _, rfl⟩
theorem numsI_len (s : List UInt8) : (numsI s).length ≤ s.length + 1 := by
  unfold numsI
  rw [List.length_map]
  exact (splitC_len 32 s).1
set_option maxRecDepth 100000 in
set_option maxHeartbeats 4000000 in
theorem readNumbers_c (s : List UInt8) (w : World) (he : RdEnv w) (hs : s.length ≤ 1048576) :
    Calls Tryd.prog 32 #[.string ⟨s.toArray⟩] w fun e w' => ∃ v, e = .returned v ∧ Fresh w.heap.size w' [v] (numsI s) ∧ Below w.heap.size w w' := by
  have HE := Lib.hid he
  clear he
  obtain ⟨L, hL⟩ : ∃ L, L = splitC 32 s := ⟨_, rfl⟩
  obtain ⟨hn1, hn2⟩ := splitC_len 32 s
  rw [← hL] at hn1 hn2
  have HN2 := Lib.hid (show ∀ x, x ∈ L → x.length ≤ 1048576 from fun x hx => by have := hn2 x hx; omega)
  have HNI := Lib.hid (show numsI s = L.map numI by unfold numsI; rw [hL])
  have HSP := Lib.hid (show ∀ W : World, RdEnv W → Calls Tryd.prog 20 #[.string ⟨s.toArray⟩, .string ⟨#[32]⟩] W fun e w' => ∃ v, e = .returned v ∧ Rd w' [v] L ∧ Below W.heap.size W w' from fun W h => by
    have h1 := split_c s 32 W h (by omega)
    rw [← hL] at h1
    exact h1)
  have hLn : L.length ≤ 1048577 := by omega
  have hL0 : 0 < L.length := by rw [hL]; exact List.length_pos_iff.2 (splitC_ne 32 s)
  clear hL hn1 hn2
  have HS0 := Lib.hid ((St.start w).step (belowA w (.cells #[] 2)))
  have HA0 := Lib.hid (AccP.wk (accP_made (α := Int) w 2) (C := fun z => w.heap.size ≤ z ∧ z < w.heap.size + 1) (fun z hz => by (try simp at hz ⊢); omega))
  go_enter Tryd.func32, Tryd.ntmps32
  go_wp2_with fail
  refine (HSP.out _ (HE.out.mono (HS0.out.bel))).mono ?_
  rintro e w1 ⟨v1, rfl, hL1, hb1⟩
  have HS1 := Lib.hid (HS0.out.step hb1)
  have HA1 := Lib.hid (AccP.mono HA0.out hb1)
  have hz1 := hb1.size
  (try simp at hz1)
  have HL1 := Lib.hid hL1
  obtain ⟨a1, c1, rfl, _⟩ := rd_list HL1.out
  obtain ⟨b, o, rfl, q0⟩ := rd_str_at HL1.out 0 hL0
  have hb1b : b < w1.heap.size := World.block_lt_of_cell? _ _ q0
  have hbne : b ≠ w.heap.size := fun e => by
    subst e
    have h9 := hb1.block w.heap.size (by simp)
    rw [heap_alloc_new] at h9
    rw [cell_at_block h9] at q0
    simp at q0
  have HCB := Lib.hid (show ∀ j (hj : j < L.length), w1.cell? ⟨b, o + j, none⟩ = some (.string ⟨L[j].toArray⟩) from fun j hj => by
    obtain ⟨b2, o2, e2, q2⟩ := rd_str_at HL1.out j hj
    simp only [Option.some.injEq, Addr.mk.injEq, and_true] at e2
    obtain ⟨rfl, rfl⟩ := e2
    exact q2)
  clear hb1 hL1 HS0 HA0 HSP HL1 q0
  go_wp2_with fail
  go_loopw [3, 10] (fun oo iv wl => ∃ (k : Nat) (ao : Option Addr) (co : Nat), k ≤ L.length ∧ oo = .slice ao k co ∧ iv = .int .i64 k ∧ Hid (St w w.heap.size wl []) ∧ w1.heap.size ≤ wl.heap.size ∧ Hid (∀ j (hj : j < L.length), wl.cell? ⟨b, o + j, none⟩ = some (.string ⟨L[j].toArray⟩)) ∧
    Hid (AccP (fun z => w.heap.size ≤ z ∧ z ≠ b) 2 wl (.slice ao k co) ((L.take k).map numI))) (fun _ i _ => L.length - (intOf i).toNat)
  case atStart => exact ⟨0, _, _, Nat.zero_le _, rfl, rfl, HS1.out, Nat.le_refl _, HCB.out, AccP.wk HA1.out (fun z hz => ⟨hz.1, by omega⟩)⟩
  case round =>
    clear HS1 HA1 HCB
    obtain ⟨k, ao, co, hk, rfl, rfl, hst, hzr, hcb, hac⟩ := hrel
    have HAC := hac
    clear hac
    have HBR := Lib.hid (Below.refl wr.heap.size wr)
    by_cases hlt : k < L.length
    · have hkI : (k : Int) < L.length := by omega
      have q1 := hcb.out k hlt
      have hln := HN2.out _ (List.getElem_mem hlt)
      have HTK := Lib.hid (map_takeD numI L hlt)
      have HLK := Lib.hid (show ((L.take k).map numI).length = k by rw [List.length_map, List.length_take]; omega)
      generalize L[k] = A at *
      go_wp2_with fail
      refine (readNumber_c A _ (HE.out.mono hst.out.bel) hln).mono ?_
      rintro e w28 ⟨rfl, hbw28⟩
      have hz_w28 : wr.heap.size ≤ w28.heap.size := by have h9 := hbw28.size; (try simp at h9); omega
      have hs29 := hst.out.step hbw28
      have HAC_30 := Lib.hid (AccP.mono HAC.out hbw28)
      clear HAC
      have HBR_31 := Lib.hid (HBR.out.trans ((hbw28).mono HBR.out.size))
      clear HBR
      have hIA := numI_i64 A
      generalize numI A = Y at *
      have HS8 := Lib.hid (hs29.step (belowA w28 (.cells #[.int .i64 Y] 2)))
      have HC8 := Lib.hid (fun j hj => cellL (belowA w28 (.cells #[.int .i64 Y] 2)) (cellL HBR_31.out (hcb.out j hj)))
      go_wp2_with (at_builtin; refine wpList_append_accP _ rfl _ _ _ rfl E_ints rfl (AccP.mono HAC_30.out (belowA _ _)) (ip_int1 (C := fun _ => False) hIA) (fun z _ h => h) ⟨w28.heap.size, 0, none⟩ 1 rfl (news1 (cell_at_block (heap_alloc_new _ _))) (by rw [HLK.out]; omega) ?_; simp only [HLK.out, HTK.out]; intro a7 c7 w7 hA7 hB7; refine Hid.out ?_)
      refine Lib.hid ?_
      have hz7 := hB7.size
      (try simp at hz7)
      have HB7 := Lib.hid ((HS8.out.bel).trans ((hB7.below (B := w.heap.size) (fun z hz => hz.1) (by (try simp) <;> omega)).mono (Nat.le_refl _)))
      have HA7 := Lib.hid (AccP.wk hA7.tight (C := fun z => w.heap.size ≤ z ∧ z ≠ b) (fun z hz => by
        rcases hz.1 with h | h | h
        · exact h
        · exact h.elim
        · simp at h; exact ⟨by omega, by omega⟩))
      have HC7 := Lib.hid (fun j hj => cellB hB7 (HC8.out j hj) (fun h => h.2 rfl))
      clear hA7 hB7
      (try go_wp2_with fail)
      go_roundw
      case rel => exact ⟨k + 1, a7, c7, hlt, rfl, by go_num, (St.start w).stepB HB7.out, by omega, HC7.out, HA7.out⟩
      case measure => simp [intOf]; omega
    · obtain rfl : k = L.length := by omega
      have hnl : ¬ ((L.length : Int) < L.length) := by omega
      have HF := Lib.hid (show Fresh w.heap.size wr [.slice ao L.length co] (numsI s) from by
        have h := HAC.out
        rw [List.take_length] at h
        rw [HNI.out]
        exact h.ip.fresh (fun k hk => hk.1))
      have HB9 := Lib.hid hst.out.bel
      go_wp2_with fail
      go_ret
      exact ⟨_, rfl, HF.out, HB9.out⟩
theorem cutPrefix_c (s : List UInt8) (w : World) :
    Calls Tryd.prog 31 #[.string ⟨s.toArray⟩, .string ⟨#[105, 110, 115, 116, 97, 110, 99, 101, 32]⟩] w fun e w' => e = .returned (.tuple #[.string ⟨(Lib.trimPrefix s (insW ++ [32])).toArray⟩, .bool (Lib.hasPrefix s (insW ++ [32]))]) ∧ w = w' :=
  (Tryd.strings_CutPrefix ⟨s.toArray⟩ ⟨#[105, 110, 115, 116, 97, 110, 99, 101, 32]⟩ w).mono fun e w' h => ⟨h.1, h.2.symm⟩
theorem trimPrefix_le (s p : List UInt8) : (Lib.trimPrefix s p).length ≤ s.length := by
  unfold Lib.trimPrefix
  split
  · rw [List.length_drop]; omega
  · exact Nat.le_refl _
theorem fresh_ic {β : Type} [Rep β] {H : Nat} {w : World} {p : Int} {v : Value} {l : β} (hp : I64 p) (h : Fresh H w [v] l) : Fresh H w [.int .i64 p, v] (p, l) := by
  obtain ⟨ps, ho, hn, hH⟩ := h
  exact ⟨ps, ⟨[], ps, [_], _, rfl, rfl, ⟨rfl, rfl, hp⟩, ho⟩, hn, hH⟩
theorem fresh_inst0 {H : Nat} {w : World} : Fresh H w [.int .i64 0, .slice none 0 0] ((0, []) : Inst) := fresh_ic ⟨by decide, by decide⟩ fresh_nil_list
set_option maxRecDepth 100000 in
set_option maxHeartbeats 16000000 in
theorem ReadInstance_c (t : List UInt8) (w : World) (he : RdEnv w) (hs : t.length ≤ 1048576) :
    Calls Tryd.prog 11 #[.string ⟨t.toArray⟩] w fun e w' => ∃ u0 u1, e = .returned (.tuple #[.agg #[u0, u1], .int .i64 (rdI t).2]) ∧ Fresh w.heap.size w' [u0, u1] (rdI t).1 ∧ Below w.heap.size w w' := by
  have HE := Lib.hid he
  clear he
  have hs32 := (St.start w).alloc #[.int .i64 0, .slice none 0 0] 32 (n := w.heap.size) (by simp)
  have k0_0 := hs32.cellAt 0 rfl 0 rfl
  have k0_1 := hs32.cellAt 0 rfl 1 rfl
  clear k0_0 k0_1
  have k0_0 := hs32.cellAt 0 rfl 0 rfl
  have k0_1 := hs32.cellAt 0 rfl 1 rfl
  have hszt : (⟨t.toArray⟩ : ByteArray).size = t.length := by simp [ByteArray.size]
  by_cases hbig : 20000 < t.length
  · have H1 := Lib.hid (show rdI t = ((0, []), 2) by unfold rdI; rw [if_pos hbig])
    have hbg : (20000 : Int) < t.length := by omega
    go_enter Tryd.func11, Tryd.ntmps11
    have y0 := (hs32.cellAt 0 rfl 0 rfl)
    have y1 := (hs32.cellAt 0 rfl 1 rfl)
    go_wp2_with fail
    refine bodyPost_ret (v := .tuple #[.agg #[.int .i64 0, .slice none 0 0], .int .i64 2]) (by simp [results, Tryd.results11, go_sem, y0, y1]) rfl ⟨_, _, by rw [H1.out], ?_, hs32.bel⟩
    rw [H1.out]; exact fresh_inst0
  have hbg : ¬ ((20000 : Int) < t.length) := by omega
  have hxl := Lib.trimSuffix_le t [10]
  obtain ⟨X, hX⟩ : ∃ X, X = Lib.trimSuffix t [10] := ⟨_, rfl⟩
  obtain ⟨L0, LT, hLS⟩ : ∃ x xs, splitC 10 X = x :: xs := by
    have hne := splitC_ne 10 X
    match splitC 10 X, hne with
    | x :: xs, _ => exact ⟨x, xs, rfl⟩
  obtain ⟨V0, hV0⟩ : ∃ V0, V0 = Lib.trimPrefix L0 (insW ++ [32]) := ⟨_, rfl⟩
  rw [← hX] at hxl
  obtain ⟨hn1, hn2⟩ := splitC_len 10 X
  rw [hLS] at hn1 hn2
  have hLT : LT.length ≤ 1048576 := by simp only [List.length_cons] at hn1; omega
  have h0l := hn2 L0 (List.mem_cons_self ..)
  have hv0l : V0.length ≤ 1048576 := by rw [hV0]; have := trimPrefix_le L0 (insW ++ [32]); omega
  have HN2 := Lib.hid (show ∀ x, x ∈ LT → x.length ≤ 1048576 from fun x hx => by have := hn2 x (List.mem_cons_of_mem _ hx); omega)
  have HQ := Lib.hid (show rdI t = if instTF (numI V0, LT.map conI) ≠ [] ∧ instTF (numI V0, LT.map conI) = t then ((numI V0, LT.map conI), 0) else ((0, []), 5) from by
    have e : instI (splitC 10 X) = (numI V0, LT.map conI) := by unfold instI; rw [hLS, hV0]; rfl
    unfold rdI
    rw [if_neg hbig, ← hX, e])
  have HTR := Lib.hid (show ∀ W : World, Calls Tryd.prog 21 #[.string ⟨t.toArray⟩, .string ⟨#[10]⟩] W fun e w' => e = .returned (.string ⟨X.toArray⟩) ∧ W = w' from fun W => by rw [hX]; exact trim_c t W hs)
  have HSP := Lib.hid (show ∀ W : World, RdEnv W → Calls Tryd.prog 20 #[.string ⟨X.toArray⟩, .string ⟨#[10]⟩] W fun e w' => ∃ v, e = .returned v ∧ Rd w' [v] (L0 :: LT) ∧ Below W.heap.size W w' from fun W h => by
    have h1 := split_c X 10 W h (by omega)
    rw [hLS] at h1
    exact h1)
  obtain ⟨BP, hBP⟩ : ∃ b, b = Lib.hasPrefix L0 (insW ++ [32]) := ⟨_, rfl⟩
  have HCP := Lib.hid (show ∀ W : World, Calls Tryd.prog 31 #[.string ⟨L0.toArray⟩, .string ⟨#[105, 110, 115, 116, 97, 110, 99, 101, 32]⟩] W fun e w' => e = .returned (.tuple #[.string ⟨V0.toArray⟩, .bool BP]) ∧ W = w' from fun W => by rw [hV0, hBP]; exact cutPrefix_c L0 W)
  clear hX hLS hV0 hBP hn1 hn2 hbig
  go_enter Tryd.func11, Tryd.ntmps11
  go_wp2_with fail
  refine (HTR.out _).mono ?_
  rintro e w33 ⟨rfl, rfl⟩
  go_wp2_with fail
  refine (HSP.out _ (HE.out.mono hs32.bel)).mono ?_
  rintro e w34 ⟨v1, rfl, hL1, hbw34⟩
  have hz_w34 : w.heap.size + 1 ≤ w34.heap.size := by have h9 := hbw34.size; (try simp at h9); omega
  have hs35 := hs32.step hbw34
  clear k0_0 k0_1
  have k0_0 := hs35.cellAt 0 rfl 0 rfl
  have k0_1 := hs35.cellAt 0 rfl 1 rfl
  have HL1 := Lib.hid hL1
  clear hL1
  obtain ⟨a1, c1, rfl, hr1⟩ := rd_list HL1.out
  have HCAP := Lib.hid (show LT.length + 1 ≤ c1 from by have := hr1.1; simpa using this)
  clear hr1
  obtain ⟨b1, o1, rfl, q0⟩ := rd_str_at HL1.out 0 (by simp)
  rw [Nat.add_zero] at q0
  have q0' : w34.cell? ⟨b1, o1, none⟩ = some (.string ⟨L0.toArray⟩) := q0
  clear q0
  have HCB := Lib.hid (show ∀ j (hj : j < LT.length), w34.cell? ⟨b1, o1 + 1 + j, none⟩ = some (.string ⟨LT[j].toArray⟩) from fun j hj => by
    obtain ⟨b, o, e, q⟩ := rd_str_at HL1.out (j + 1) (by simpa using hj)
    simp only [Option.some.injEq, Addr.mk.injEq] at e
    obtain ⟨rfl, rfl, -⟩ := e
    rw [show o1 + 1 + j = o1 + (j + 1) by omega]
    simpa using q)
  have hb1 : b1 < w34.heap.size := World.block_lt_of_cell? _ _ q0'
  clear HL1 HTR HSP
  obtain ⟨wL, hwL⟩ : ∃ x, x = w34 := ⟨_, rfl⟩
  subst hwL
  have HBL := Lib.hid (Below.refl wL.heap.size wL)
  go_wp2_with fail
  refine (HCP.out _).mono ?_
  rintro e w36 ⟨rfl, rfl⟩
  clear q0' HCP
  go_wp2_with fail
  refine (readNumber_c V0 _ (HE.out.mono hs35.bel) hv0l).mono ?_
  rintro e w37 ⟨rfl, hbw37⟩
  have hz_w37 : wL.heap.size ≤ w37.heap.size := by have h9 := hbw37.size; (try simp at h9); omega
  have hs38 := hs35.step hbw37
  have HBL_39 := Lib.hid (HBL.out.trans ((hbw37).mono HBL.out.size))
  clear HBL
  clear k0_0 k0_1
  have k0_0 := hs38.cellAt 0 rfl 0 rfl
  have k0_1 := hs38.cellAt 0 rfl 1 rfl
  have hIp := numI_i64 V0
  generalize numI V0 = PP at *
  have HCC := Lib.hid (fun j hj => cellL HBL_39.out (HCB.out j hj))
  have hzL := HBL_39.out.size
  clear HCB
  clear HBL_39
  obtain ⟨wE, hwE⟩ : ∃ x, x = w37 := ⟨_, rfl⟩
  subst hwE
  have hs40 := hs38.alloc #[.int .i64 PP, .slice none 0 0] 32 (n := wE.heap.size) (by simp)
  clear k0_0 k0_1
  have k0_0 := hs40.cellAt 0 rfl 0 rfl
  have k0_1 := hs40.cellAt 0 rfl 1 rfl
  have k1_0 := hs40.cellAt 1 rfl 0 rfl
  have k1_1 := hs40.cellAt 1 rfl 1 rfl
  have HS1 := Lib.hid hs40
  have HCD := Lib.hid (fun j hj => cellL (belowA wE (.cells #[.int .i64 PP, .slice none 0 0] 32)) (HCC.out j hj))
  clear HCC
  go_upto_region 6 with fail
  go_cut [4, 30, 31, 32] from 12 to 29 (fun x4 x30 x31 x32 wx => ∃ (aT : Option Addr) (cT : Nat), x30 = .slice aT LT.length cT ∧ x31 = .int .i64 LT.length ∧ x32 = .int .i64 0 ∧ Hid (0 < LT.length → aT = some ⟨b1, o1 + 1, none⟩) ∧ Hid ((wE.alloc (.cells #[.int .i64 PP, .slice none 0 0] 32)) = wx))
  case first =>
    have hcL : LT.length + 1 ≤ c1 := HCAP.out
    go_wp2_with fail
    all_goals go_meet
    all_goals exact ⟨_, _, rfl, rfl, rfl, (fun h9 => by first | rfl | (exfalso; omega)), rfl⟩
  case rest =>
    obtain ⟨aT, cT, rfl, rfl, rfl, haT, hwx⟩ := hcut
    obtain rfl := hwx.out
    clear hwx
    clear k0_0 k0_1 k1_0 k1_1
    go_wp2_with fail
    go_loopw [32] (fun iv wl => ∃ (k : Nat) (av : Option Addr) (cv : Nat), k ≤ LT.length ∧ iv = .int .i64 k ∧ Hid (St w (wE.heap.size + 1) wl [(w.heap.size, #[.int .i64 0, .slice none 0 0], 32), (wE.heap.size, #[.int .i64 PP, .slice av k cv], 32)]) ∧ Hid (∀ j (hj : j < LT.length), wl.cell? ⟨b1, o1 + 1 + j, none⟩ = some (.string ⟨LT[j].toArray⟩)) ∧
      Hid (AccP (fun z => wE.heap.size + 1 ≤ z ∧ z < wl.heap.size) 61 wl (.slice av k cv) ((LT.take k).map conI))) (fun iv _ => LT.length - (intOf iv).toNat)
    case atStart => exact ⟨0, none, 0, Nat.zero_le _, rfl, HS1.out, HCD.out, AccP.nil _ _ _⟩
    case round =>
      clear HS1 HCD
      obtain ⟨k, av, cv, hk, rfl, hst2, hcb, hac⟩ := hrel
      have hzr : wE.heap.size + 1 ≤ wr.heap.size := hst2.out.hi
      have HAV := Lib.hid (AccP.wk hac.out.tight (C := fun z => wE.heap.size + 1 ≤ z ∧ z < wr.heap.size) (fun z h => h.1))
      clear hac
      have k0_0 := hst2.out.cellAt 0 rfl 0 rfl
      have k0_1 := hst2.out.cellAt 0 rfl 1 rfl
      have k1_0 := hst2.out.cellAt 1 rfl 0 rfl
      have k1_1 := hst2.out.cellAt 1 rfl 1 rfl
      by_cases hlt : k < LT.length
      · have hkl : (k : Int) < LT.length := by omega
        obtain rfl := haT.out (by omega)
        have q0 := hcb.out k hlt
        have hln := HN2.out _ (List.getElem_mem hlt)
        have HTK := Lib.hid (map_takeD conI LT hlt)
        have HLK := Lib.hid (show ((LT.take k).map conI).length = k by rw [List.length_map, List.length_take]; omega)
        have HEQ := Lib.hid (show conI LT[k] = ((numsI LT[k]).headD 0, (numsI LT[k]).tail) from rfl)
        have HRN := Lib.hid (fun W h => readNumbers_c LT[k] W h hln)
        obtain ⟨z0, zs, hzz⟩ := numsI_ne LT[k]
        have hzl := numsI_len LT[k]
        rw [hzz] at HEQ hzl
        simp only [hzz] at HRN
        simp only [List.headD_cons, List.tail_cons] at HEQ
        simp only [List.length_cons] at hzl
        have hzl2 : zs.length ≤ 1048576 := by omega
        have HBR := Lib.hid (Below.refl wr.heap.size wr)
        have HCB2 := Lib.hid hcb.out
        clear hzz hzl
        go_wp2_with fail
        refine (HRN.out _ (HE.out.mono hst2.out.bel)).mono ?_
        rintro e w41 ⟨v5, rfl, hF5, hbw41⟩
        have hz_w41 : wr.heap.size ≤ w41.heap.size := by have h9 := hbw41.size; (try simp at h9); omega
        have hs42 := hst2.out.step hbw41
        have HAV_43 := Lib.hid (AccP.mono HAV.out hbw41)
        clear HAV
        have HBR_44 := Lib.hid (HBR.out.trans ((hbw41).mono HBR.out.size))
        clear HBR
        clear k0_0 k0_1 k1_0 k1_1
        have k0_0 := hs42.cellAt 0 rfl 0 rfl
        have k0_1 := hs42.cellAt 0 rfl 1 rfl
        have k1_0 := hs42.cellAt 1 rfl 0 rfl
        have k1_1 := hs42.cellAt 1 rfl 1 rfl
        have HF5 := Lib.hid hF5
        obtain ⟨a5, c5, rfl, hr5⟩ := rd_list hF5.rd
        have hc5 := hr5.1
        have hcm5 := hr5.2.1
        unfold maxLen at hcm5
        simp only [List.length_cons] at hc5
        obtain ⟨b5, o5, rfl, q5, hIz⟩ := rd_int_at hF5.rd 0 (by simp)
        rw [Nat.add_zero, List.getElem_cons_zero] at q5
        rw [List.getElem_cons_zero] at hIz
        have hbz : wr.heap.size ≤ b5 := by
          obtain ⟨g5, o6, c6, cur6, e6, hv6, _, _, _, hA6, _⟩ := ip_form hF5.ip (by simp)
          simp only [Value.slice.injEq, Option.some.injEq, Addr.mk.injEq, and_true] at hv6
          obtain ⟨⟨rfl, rfl⟩, -⟩ := hv6
          exact hA6.1
        clear hF5 hr5 q0
        have hlz : (1 : Int) ≤ (zs.length : Int) + 1 := by omega
        by_cases hcc : c5 = 1
        · obtain rfl : zs = [] := List.length_eq_zero_iff.1 (by omega)
          go_upto_region 10 with fail
          refine wp_region_noPanic (wp_region_tree4 (fun w' => w'.cell? ⟨w.heap.size, 0, none⟩ = some (.int .i64 0) ∧ w'.cell? ⟨w.heap.size, 1, none⟩ = some (.slice none 0 0) ∧ w'.cell? ⟨wE.heap.size, 0, none⟩ = some (.int .i64 PP) ∧ w'.cell? ⟨wE.heap.size, 1, none⟩ = some (.slice av k cv) ∧ w'.cell? ⟨b5, o5, none⟩ = some (.int .i64 z0)) (.float 0 (.float 1 (.float 2 (.float 3 (.float 4 (.float 5 (.float 6 (.float 7 (.hard 8 (.hard 9 (.float 10 (.last 11 .nil)))))))))))) (by kernel_rfl) (by kernel_rfl) (by kernel_rfl) rfl ?_ (fun _ _ _ _ _ h => h) ?_)
          · exact ⟨(hs42.drew).cellAt 0 rfl 0 rfl, (hs42.drew).cellAt 0 rfl 1 rfl, (hs42.drew).cellAt 1 rfl 0 rfl, (hs42.drew).cellAt 1 rfl 1 rfl, cellL (belowD _) q5⟩
          have hs45 := hs42.drew
          have q5_46 := cellL (belowD _) q5
          clear q5
          have HAV_47 := Lib.hid (AccP.mono HAV_43.out (belowD _))
          clear HAV_43
          have HBR_48 := Lib.hid (HBR_44.out.trans (((belowD _)).mono HBR_44.out.size))
          clear HBR_44
          have HF5_49 := Lib.hid (Fresh.mono HF5.out (belowD _))
          clear HF5
          clear k0_0 k0_1 k1_0 k1_1
          have hz_wd50 : w41.heap.size ≤ (w41.drew).heap.size := by simp
          generalize hgen_wd50 : w41.drew = wd50 at *
          have HG_wd50 := Lib.hid hgen_wd50
          clear hgen_wd50
          (repeat (first | (apply t4_skip rfl (by rfl); try simp only [Act.put, List.setIfInBounds_toArray, List.set_cons_zero, List.set_cons_succ]) | (apply t4_float rfl (by rfl); (· (intro w' hS; go_simp <;> with_reducible rfl)); (try simp only [Act.put, List.setIfInBounds_toArray, List.set_cons_zero, List.set_cons_succ]))))
          refine t4_hard rfl (by rfl) (fun K hK => ?_)
          go_wp2_with fail
          have hs51 := hs45.alloc #[.int .i64 z0, .slice (some ⟨b5, o5, none⟩) 0 0] 61 (n := wd50.heap.size) (by simp)
          have q5_52 := cellL (belowA _ (.cells #[.int .i64 z0, .slice (some ⟨b5, o5, none⟩) 0 0] 61)) q5_46
          clear q5_46
          have HAV_53 := Lib.hid (AccP.mono HAV_47.out (belowA _ (.cells #[.int .i64 z0, .slice (some ⟨b5, o5, none⟩) 0 0] 61)))
          clear HAV_47
          have HBR_54 := Lib.hid (HBR_48.out.trans (((belowA _ (.cells #[.int .i64 z0, .slice (some ⟨b5, o5, none⟩) 0 0] 61))).mono HBR_48.out.size))
          clear HBR_48
          have HF5_55 := Lib.hid (Fresh.mono HF5_49.out (belowA _ (.cells #[.int .i64 z0, .slice (some ⟨b5, o5, none⟩) 0 0] 61)))
          clear HF5_49
          refine ⟨⟨hs51.cellAt 0 rfl 0 rfl, hs51.cellAt 0 rfl 1 rfl, hs51.cellAt 1 rfl 0 rfl, hs51.cellAt 1 rfl 1 rfl, q5_52⟩, ?_⟩
          (repeat (first | (apply t4_skip rfl (by rfl); try simp only [Act.put, List.setIfInBounds_toArray, List.set_cons_zero, List.set_cons_succ]) | (apply t4_float rfl (by rfl); (· (intro w' hS; go_simp <;> with_reducible rfl)); (try simp only [Act.put, List.setIfInBounds_toArray, List.set_cons_zero, List.set_cons_succ]))))
          refine t4_hard rfl (by rfl) (fun K hK => ?_)
          have hsW := hs51.hi
          have IY := ip_cons (C := fun z => wr.heap.size ≤ z) (ip_int1 (C := fun _ => False) hIz) (ip_tail HF5_55.out.ip (aT := some ⟨b5, o5, none⟩) (cT := 0) (fun h => absurd h (by simp)) (by unfold maxLen; omega)) (fun z h => h.elim) (fun z h => h.elim) (fun z h => by (try simp at h ⊢); omega)
          refine wp_append_accP _ _ _ _ rfl E_cons rfl HAV_53.out IY (fun z h1 h2 => by have h3 := h1.2; omega) ⟨wd50.heap.size, 0, none⟩ 1 rfl (news2 (hs51.cellAt 2 rfl 0 rfl) (hs51.cellAt 2 rfl 1 rfl)) (by rw [HLK.out]; omega) ?_
          simp only [HLK.out]
          intro a8 c8 w8 hA8 hB8
          rw [← HEQ.out, HTK.out] at hA8
          have hz8 := hB8.size
          have hs8 := hs51.butP hB8 (fun z hz => by have := hz.1; omega) (fun x hx hA => by have h1 := hA.1; have h2 := hA.2; simp at hx; rcases hx with rfl | rfl | rfl <;> (try simp only at h1 h2) <;> omega)
          have HA8 := Lib.hid (AccP.wk hA8.tight (C := fun z => wE.heap.size + 1 ≤ z ∧ z < w8.heap.size) (fun z hz => ⟨by
            rcases hz.1 with h | h | h
            · exact h.1
            · omega
            · rw [h]; (try simp); omega, hz.2⟩))
          have HC8 := Lib.hid (fun j hj => cellB hB8 (cellL HBR_54.out (HCB2.out j hj)) (fun h => by have h3 := h.1; omega))
          clear hA8 IY
          clear HAV_53
          clear HF5_55
          clear HBR_54
          have q5_56 := cellB hB8 q5_52 (fun h => by have := h.2; omega)
          clear q5_52
          refine hK _ _ ⟨⟨hs8.cellAt 0 rfl 0 rfl, hs8.cellAt 0 rfl 1 rfl, hs8.cellAt 1 rfl 0 rfl, hs8.cellAt 1 rfl 1 rfl, q5_56⟩, ?_⟩
          (repeat (first | (apply t4_skip rfl (by rfl); try simp only [Act.put, List.setIfInBounds_toArray, List.set_cons_zero, List.set_cons_succ]) | (apply t4_float rfl (by rfl); (· (intro w' hS; go_simp <;> with_reducible rfl)); (try simp only [Act.put, List.setIfInBounds_toArray, List.set_cons_zero, List.set_cons_succ]))))
          refine t4_last rfl (by rfl) (fun K hK => ?_)
          have k0_0 := hs8.cellAt 0 rfl 0 rfl
          have k0_1 := hs8.cellAt 0 rfl 1 rfl
          have k1_0 := hs8.cellAt 1 rfl 0 rfl
          have k1_1 := hs8.cellAt 1 rfl 1 rfl
          have k2_0 := hs8.cellAt 2 rfl 0 rfl
          have k2_1 := hs8.cellAt 2 rfl 1 rfl
          have hs57 := hs8.low (B' := wE.heap.size + 1) (bx' := [(w.heap.size, #[.int .i64 0, .slice none 0 0], 32), (wE.heap.size, #[.int .i64 PP, .slice av k cv], 32)]) (by omega) (by (try simp) <;> omega) (fun x hx => by simp only [List.mem_cons, List.not_mem_nil, or_false] at hx; rcases hx with rfl | rfl <;> (refine ⟨?_, ?_⟩ <;> (try simp) <;> (try omega)))
          have f1_0 := hs57.freeAt 1 rfl 0
          have f1_1 := hs57.freeAt 1 rfl 1
          have HC9 := Lib.hid (fun j hj => cell_put (b' := wE.heap.size) (o' := 1) (u := .slice a8 (k + 1) c8) (HC8.out j hj) (by omega))
          have HAV := HA8
          clear HA8
          go_wp2_with fail
          refine t4_nil (NoPanic.normal ?_)
          have hs58 := hs57.set (p := [_]) (by simp <;> omega) 1 (.slice a8 (k + 1) c8)
          have q5_59 := (cell_put (b' := wE.heap.size) (o' := 1) (u := .slice a8 (k + 1) c8) q5_56 (by (try simp) <;> omega))
          clear q5_56
          have HAV_60 := Lib.hid (AccP.setCell (b := wE.heap.size) (o := 1) HAV.out (.slice a8 (k + 1) c8) (by intro hA9; (try simp only at hA9); omega))
          clear HAV
          clear k0_0 k0_1 k1_0 k1_1 k2_0 k2_1
          have hz_wP : w8.heap.size ≤ ((w8.setCell ⟨wE.heap.size, 1, none⟩ (.slice a8 (k + 1) c8))).heap.size := by simp [World.setCell]
          generalize hgen_wP : (w8.setCell ⟨wE.heap.size, 1, none⟩ (.slice a8 (k + 1) c8)) = wP at *
          clear hgen_wP
          have k0_0 := hs58.cellAt 0 rfl 0 rfl
          have k0_1 := hs58.cellAt 0 rfl 1 rfl
          have k1_0 := hs58.cellAt 1 rfl 0 rfl
          have k1_1 := hs58.cellAt 1 rfl 1 rfl
          go_wp2_with fail
          go_roundw
          case rel => exact ⟨k + 1, a8, c8, hlt, by go_num, hs58, HC9.out, AccP.wk HAV_60.out (fun z hz => ⟨hz.1, by have := hz.2; omega⟩)⟩
          case measure => simp [intOf]; omega
        · have hcn : ¬ c5 = 1 := hcc
          have hci2 : (2 : Int) ≤ c5 := by omega
          go_upto_region 10 with fail
          refine wp_region_noPanic (wp_region_tree4 (fun w' => w'.cell? ⟨w.heap.size, 0, none⟩ = some (.int .i64 0) ∧ w'.cell? ⟨w.heap.size, 1, none⟩ = some (.slice none 0 0) ∧ w'.cell? ⟨wE.heap.size, 0, none⟩ = some (.int .i64 PP) ∧ w'.cell? ⟨wE.heap.size, 1, none⟩ = some (.slice av k cv) ∧ w'.cell? ⟨b5, o5, none⟩ = some (.int .i64 z0)) (.float 0 (.float 1 (.float 2 (.float 3 (.float 4 (.float 5 (.float 6 (.float 7 (.hard 8 (.hard 9 (.float 10 (.last 11 .nil)))))))))))) (by kernel_rfl) (by kernel_rfl) (by kernel_rfl) rfl ?_ (fun _ _ _ _ _ h => h) ?_)
          · exact ⟨(hs42.drew).cellAt 0 rfl 0 rfl, (hs42.drew).cellAt 0 rfl 1 rfl, (hs42.drew).cellAt 1 rfl 0 rfl, (hs42.drew).cellAt 1 rfl 1 rfl, cellL (belowD _) q5⟩
          have hs61 := hs42.drew
          have q5_62 := cellL (belowD _) q5
          clear q5
          have HAV_63 := Lib.hid (AccP.mono HAV_43.out (belowD _))
          clear HAV_43
          have HBR_64 := Lib.hid (HBR_44.out.trans (((belowD _)).mono HBR_44.out.size))
          clear HBR_44
          have HF5_65 := Lib.hid (Fresh.mono HF5.out (belowD _))
          clear HF5
          clear k0_0 k0_1 k1_0 k1_1
          have hz_wd66 : w41.heap.size ≤ (w41.drew).heap.size := by simp
          generalize hgen_wd66 : w41.drew = wd66 at *
          have HG_wd66 := Lib.hid hgen_wd66
          clear hgen_wd66
          (repeat (first | (apply t4_skip rfl (by rfl); try simp only [Act.put, List.setIfInBounds_toArray, List.set_cons_zero, List.set_cons_succ]) | (apply t4_float rfl (by rfl); (· (intro w' hS; go_simp <;> with_reducible rfl)); (try simp only [Act.put, List.setIfInBounds_toArray, List.set_cons_zero, List.set_cons_succ]))))
          refine t4_hard rfl (by rfl) (fun K hK => ?_)
          go_wp2_with fail
          have hs67 := hs61.alloc #[.int .i64 z0, .slice (some ⟨b5, (o5 + 1), none⟩) zs.length (c5 - 1)] 61 (n := wd66.heap.size) (by simp)
          have q5_68 := cellL (belowA _ (.cells #[.int .i64 z0, .slice (some ⟨b5, (o5 + 1), none⟩) zs.length (c5 - 1)] 61)) q5_62
          clear q5_62
          have HAV_69 := Lib.hid (AccP.mono HAV_63.out (belowA _ (.cells #[.int .i64 z0, .slice (some ⟨b5, (o5 + 1), none⟩) zs.length (c5 - 1)] 61)))
          clear HAV_63
          have HBR_70 := Lib.hid (HBR_64.out.trans (((belowA _ (.cells #[.int .i64 z0, .slice (some ⟨b5, (o5 + 1), none⟩) zs.length (c5 - 1)] 61))).mono HBR_64.out.size))
          clear HBR_64
          have HF5_71 := Lib.hid (Fresh.mono HF5_65.out (belowA _ (.cells #[.int .i64 z0, .slice (some ⟨b5, (o5 + 1), none⟩) zs.length (c5 - 1)] 61)))
          clear HF5_65
          refine ⟨⟨hs67.cellAt 0 rfl 0 rfl, hs67.cellAt 0 rfl 1 rfl, hs67.cellAt 1 rfl 0 rfl, hs67.cellAt 1 rfl 1 rfl, q5_68⟩, ?_⟩
          (repeat (first | (apply t4_skip rfl (by rfl); try simp only [Act.put, List.setIfInBounds_toArray, List.set_cons_zero, List.set_cons_succ]) | (apply t4_float rfl (by rfl); (· (intro w' hS; go_simp <;> with_reducible rfl)); (try simp only [Act.put, List.setIfInBounds_toArray, List.set_cons_zero, List.set_cons_succ]))))
          refine t4_hard rfl (by rfl) (fun K hK => ?_)
          have hsW := hs67.hi
          have IY := ip_cons (C := fun z => wr.heap.size ≤ z) (ip_int1 (C := fun _ => False) hIz) (ip_tail HF5_71.out.ip (aT := some ⟨b5, (o5 + 1), none⟩) (cT := (c5 - 1)) (fun h => ⟨rfl, rfl⟩) (by unfold maxLen; omega)) (fun z h => h.elim) (fun z h => h.elim) (fun z h => by (try simp at h ⊢); omega)
          refine wp_append_accP _ _ _ _ rfl E_cons rfl HAV_69.out IY (fun z h1 h2 => by have h3 := h1.2; omega) ⟨wd66.heap.size, 0, none⟩ 1 rfl (news2 (hs67.cellAt 2 rfl 0 rfl) (hs67.cellAt 2 rfl 1 rfl)) (by rw [HLK.out]; omega) ?_
          simp only [HLK.out]
          intro a8 c8 w8 hA8 hB8
          rw [← HEQ.out, HTK.out] at hA8
          have hz8 := hB8.size
          have hs8 := hs67.butP hB8 (fun z hz => by have := hz.1; omega) (fun x hx hA => by have h1 := hA.1; have h2 := hA.2; simp at hx; rcases hx with rfl | rfl | rfl <;> (try simp only at h1 h2) <;> omega)
          have HA8 := Lib.hid (AccP.wk hA8.tight (C := fun z => wE.heap.size + 1 ≤ z ∧ z < w8.heap.size) (fun z hz => ⟨by
            rcases hz.1 with h | h | h
            · exact h.1
            · omega
            · rw [h]; (try simp); omega, hz.2⟩))
          have HC8 := Lib.hid (fun j hj => cellB hB8 (cellL HBR_70.out (HCB2.out j hj)) (fun h => by have h3 := h.1; omega))
          clear hA8 IY
          clear HAV_69
          clear HF5_71
          clear HBR_70
          have q5_72 := cellB hB8 q5_68 (fun h => by have := h.2; omega)
          clear q5_68
          refine hK _ _ ⟨⟨hs8.cellAt 0 rfl 0 rfl, hs8.cellAt 0 rfl 1 rfl, hs8.cellAt 1 rfl 0 rfl, hs8.cellAt 1 rfl 1 rfl, q5_72⟩, ?_⟩
          (repeat (first | (apply t4_skip rfl (by rfl); try simp only [Act.put, List.setIfInBounds_toArray, List.set_cons_zero, List.set_cons_succ]) | (apply t4_float rfl (by rfl); (· (intro w' hS; go_simp <;> with_reducible rfl)); (try simp only [Act.put, List.setIfInBounds_toArray, List.set_cons_zero, List.set_cons_succ]))))
          refine t4_last rfl (by rfl) (fun K hK => ?_)
          have k0_0 := hs8.cellAt 0 rfl 0 rfl
          have k0_1 := hs8.cellAt 0 rfl 1 rfl
          have k1_0 := hs8.cellAt 1 rfl 0 rfl
          have k1_1 := hs8.cellAt 1 rfl 1 rfl
          have k2_0 := hs8.cellAt 2 rfl 0 rfl
          have k2_1 := hs8.cellAt 2 rfl 1 rfl
          have hs73 := hs8.low (B' := wE.heap.size + 1) (bx' := [(w.heap.size, #[.int .i64 0, .slice none 0 0], 32), (wE.heap.size, #[.int .i64 PP, .slice av k cv], 32)]) (by omega) (by (try simp) <;> omega) (fun x hx => by simp only [List.mem_cons, List.not_mem_nil, or_false] at hx; rcases hx with rfl | rfl <;> (refine ⟨?_, ?_⟩ <;> (try simp) <;> (try omega)))
          have f1_0 := hs73.freeAt 1 rfl 0
          have f1_1 := hs73.freeAt 1 rfl 1
          have HC9 := Lib.hid (fun j hj => cell_put (b' := wE.heap.size) (o' := 1) (u := .slice a8 (k + 1) c8) (HC8.out j hj) (by omega))
          have HAV := HA8
          clear HA8
          go_wp2_with fail
          refine t4_nil (NoPanic.normal ?_)
          have hs74 := hs73.set (p := [_]) (by simp <;> omega) 1 (.slice a8 (k + 1) c8)
          have q5_75 := (cell_put (b' := wE.heap.size) (o' := 1) (u := .slice a8 (k + 1) c8) q5_72 (by (try simp) <;> omega))
          clear q5_72
          have HAV_76 := Lib.hid (AccP.setCell (b := wE.heap.size) (o := 1) HAV.out (.slice a8 (k + 1) c8) (by intro hA9; (try simp only at hA9); omega))
          clear HAV
          clear k0_0 k0_1 k1_0 k1_1 k2_0 k2_1
          have hz_wP : w8.heap.size ≤ ((w8.setCell ⟨wE.heap.size, 1, none⟩ (.slice a8 (k + 1) c8))).heap.size := by simp [World.setCell]
          generalize hgen_wP : (w8.setCell ⟨wE.heap.size, 1, none⟩ (.slice a8 (k + 1) c8)) = wP at *
          clear hgen_wP
          have k0_0 := hs74.cellAt 0 rfl 0 rfl
          have k0_1 := hs74.cellAt 0 rfl 1 rfl
          have k1_0 := hs74.cellAt 1 rfl 0 rfl
          have k1_1 := hs74.cellAt 1 rfl 1 rfl
          go_wp2_with fail
          go_roundw
          case rel => exact ⟨k + 1, a8, c8, hlt, by go_num, hs74, HC9.out, AccP.wk HAV_76.out (fun z hz => ⟨hz.1, by have := hz.2; omega⟩)⟩
          case measure => simp [intOf]; omega
      · obtain rfl : k = LT.length := by omega
        have hnl : ¬ ((LT.length : Int) < LT.length) := by omega
        have HRD := Lib.hid (show Rd wr [.slice av LT.length cv] (LT.map conI) from by have h := HAV.out.rd; rwa [List.take_length] at h)
        have HFA := Lib.hid (show Fresh (wE.heap.size + 1) wr [.slice av LT.length cv] (LT.map conI) from by
          have h := HAV.out
          rw [List.take_length] at h
          exact h.ip.fresh (fun k hk => hk.1))
        clear HAV
        have HTX := Lib.hid (show ∀ W : World, Rd W [.slice av LT.length cv] (LT.map conI) → ∀ TX, TX = instTF (PP, LT.map conI) → Calls Tryd.prog 33 #[.agg #[.int .i64 PP, .slice av LT.length cv]] W fun e w' => e = .returned (.string ⟨TX.toArray⟩) ∧ Below W.heap.size W w' from fun W h TX hT => by
          rw [hT]
          exact InstanceText_c (PP, LT.map conI) _ _ W (mk_cons (mk_rdint hIp) h))
        obtain ⟨TX, hTX⟩ : ∃ TX, TX = instTF (PP, LT.map conI) := ⟨_, rfl⟩
        have HTW := Lib.hid (fun W h => HTX.out W h TX hTX)
        have HSJ := Lib.hid (show rdI t = if TX ≠ [] ∧ TX = t then ((PP, LT.map conI), 0) else ((0, []), 5) by rw [HQ.out, hTX])
        clear hTX HTX HQ
        go_wp2_with fail
        refine (HTW.out _ HRD.out).mono ?_
        rintro e w77 ⟨rfl, hbw77⟩
        have hz_w77 : wr.heap.size ≤ w77.heap.size := by have h9 := hbw77.size; (try simp at h9); omega
        have hs78 := hst2.out.step hbw77
        have HFA_79 := Lib.hid (Fresh.mono HFA.out hbw77)
        clear HFA
        clear k0_0 k0_1 k1_0 k1_1
        have k0_0 := hs78.cellAt 0 rfl 0 rfl
        have k0_1 := hs78.cellAt 0 rfl 1 rfl
        have k1_0 := hs78.cellAt 1 rfl 0 rfl
        have k1_1 := hs78.cellAt 1 rfl 1 rfl
        clear HTW
        by_cases hA : TX = []
        · have H1 := Lib.hid (show rdI t = ((0, []), 5) by rw [HSJ.out, if_neg (fun h => h.1 hA)])
          have hb8 : (TX == []) = true := by simp [hA]
          have hb9 : TX.isEmpty = true := by simp [hA]
          clear hA
          have g0 := (hs78.freeAt 0 rfl 0)
          have g1 := (hs78.freeAt 0 rfl 1)
          have hs9 := ((hs78.set (p := []) (by simp <;> omega) 0 (.int .i64 0)).set (p := []) (by simp <;> omega) 1 (.slice none 0 0))
          have HB9 := Lib.hid hs9.bel
          have y0 := hs9.cellAt 0 rfl 0 rfl
          have y1 := hs9.cellAt 0 rfl 1 rfl
          clear hs9
          go_wp2_with fail
          refine bodyPost_ret (v := .tuple #[.agg #[.int .i64 0, .slice none 0 0], .int .i64 5]) (by simp [results, Tryd.results11, go_sem, y0, y1]) rfl ⟨_, _, by rw [H1.out], ?_, HB9.out⟩
          rw [H1.out]; exact fresh_inst0
        · have hb8 : (TX == []) = false := by simp [hA]
          have hb9 : TX.isEmpty = false := by simp [hA]
          by_cases hB : TX = t
          · have H1 := Lib.hid (show rdI t = ((PP, LT.map conI), 0) by rw [HSJ.out, if_pos ⟨hA, hB⟩])
            have hb7 : (TX == t) = true := by simp [hB]
            clear hA hB HSJ
            have g0 := (hs78.freeAt 0 rfl 0)
            have g1 := (hs78.freeAt 0 rfl 1)
            have hs9 := ((hs78.set (p := []) (by simp <;> omega) 0 (.int .i64 PP)).set (p := []) (by simp <;> omega) 1 (.slice av LT.length cv))
            have HF9 := Lib.hid (show Fresh w.heap.size ((w77.setCell ⟨w.heap.size, 0, none⟩ (.int .i64 PP)).setCell ⟨w.heap.size, 1, none⟩ (.slice av LT.length cv)) [.int .i64 PP, .slice av LT.length cv] ((PP, LT.map conI) : Inst) from
              fresh_ic hIp (((HFA_79.out.setCell (a := ⟨w.heap.size, 0, none⟩) (by simp <;> omega) (.int .i64 PP)).setCell (a := ⟨w.heap.size, 1, none⟩) (by simp <;> omega) (.slice av LT.length cv)).lower (by omega)))
            have HB9 := Lib.hid hs9.bel
            have y0 := hs9.cellAt 0 rfl 0 rfl
            have y1 := hs9.cellAt 0 rfl 1 rfl
            clear hs9
            go_wp2_with fail
            refine bodyPost_ret (v := .tuple #[.agg #[.int .i64 PP, .slice av LT.length cv], .int .i64 0]) (by simp [results, Tryd.results11, go_sem, y0, y1]) rfl ⟨_, _, by rw [H1.out], ?_, HB9.out⟩
            rw [H1.out]; exact HF9.out
          · have H1 := Lib.hid (show rdI t = ((0, []), 5) by rw [HSJ.out, if_neg (fun h => hB h.2)])
            have hb7 : (TX == t) = false := by simp [hB]
            clear hA hB
            have g0 := (hs78.freeAt 0 rfl 0)
            have g1 := (hs78.freeAt 0 rfl 1)
            have hs9 := ((hs78.set (p := []) (by simp <;> omega) 0 (.int .i64 0)).set (p := []) (by simp <;> omega) 1 (.slice none 0 0))
            have HB9 := Lib.hid hs9.bel
            have y0 := hs9.cellAt 0 rfl 0 rfl
            have y1 := hs9.cellAt 0 rfl 1 rfl
            clear hs9
            go_wp2_with fail
            refine bodyPost_ret (v := .tuple #[.agg #[.int .i64 0, .slice none 0 0], .int .i64 5]) (by simp [results, Tryd.results11, go_sem, y0, y1]) rfl ⟨_, _, by rw [H1.out], ?_, HB9.out⟩
            rw [H1.out]; exact fresh_inst0

end Go.Proofs.YtjnkkjgkinmhkaaDoor
