import Derived.Test.YtoblfnoaepbhfaaGreatEqBQb
set_option linter.unusedSimpArgs false
set_option linter.unusedVariables false
namespace Go.Proofs.YtoblfnoaepbhfaaGreat
open Go.RowKit Go.Shelf Go.IntWalk
open Rep (Rd Own sz)
theorem ip_el2 {α : Type} [Rep α] (hα : sz α = 2) {A : Nat → Prop} {w : World} {g o n c : Nat} {l : List α} (h : Ip A w [.slice (some ⟨g, o, none⟩) n c] l) (j : Nat) (hj : j < l.length) :
    ∃ v0 v1, w.cell? ⟨g, o + j * 2, none⟩ = some v0 ∧ w.cell? ⟨g, o + j * 2 + 1, none⟩ = some v1 ∧ Ip A w [v0, v1] l[j] := by
  obtain ⟨ps, ho, hn, hA⟩ := h
  rcases own_list ho with ⟨rfl, _⟩ | ⟨g', o', c', cur, e, pss, hv, _, _, hg, rfl, hp, hel⟩
  · simp at hj
  · simp only [Value.slice.injEq, Option.some.injEq, Addr.mk.injEq, and_true] at hv
    obtain ⟨⟨rfl, rfl⟩, _, rfl⟩ := hv
    obtain ⟨p, vs, h1, h2, h3⟩ := hel j hj
    have hl := Rep.rd_len (Rep.own_rd h2)
    rw [hα] at hl h3
    obtain ⟨v0, v1, rfl⟩ : ∃ v0 v1, vs = [v0, v1] := by
      match vs, hl with
      | [a, b], _ => exact ⟨a, b, rfl⟩
    have hpm : ∀ k, k ∈ p → k ∈ List.flatten pss := fun k hk => List.mem_flatten.2 ⟨p, List.mem_of_getElem? h1, hk⟩
    refine ⟨v0, v1, ?_, ?_, p, h2, (List.pairwise_flatten.1 (List.nodup_cons.1 hn).2).1 _ (List.mem_of_getElem? h1), fun k hk => hA k (List.mem_cons_of_mem _ (hpm k hk))⟩
    · rw [cell_at_block hg]; have := h3 0 (by simp); simpa using this
    · rw [cell_at_block hg]; have := h3 1 (by simp); simpa using this
theorem ip_fst {α β : Type} [Rep α] [Rep β] (hα : sz α = 1) {A : Nat → Prop} {w : World} {v : Value} {vs : List Value} {x : α × β} (h : Ip A w (v :: vs) x) : Ip A w [v] x.1 := by
  obtain ⟨ps, ho, hn, hA⟩ := h
  obtain ⟨p, q, rfl, h1, _⟩ := own_cons hα ho
  exact ⟨p, h1, (List.nodup_append.1 hn).1, fun k hk => hA k (by simp [hk])⟩
theorem freshT {α β : Type} [Rep α] [Rep β] {lo : Nat} {w : World} {v : Value} {vs : List Value} {x : α × β} (hα : sz α = 1) (h : Fresh lo w (v :: vs) x) : Fresh lo w vs x.2 := by
  obtain ⟨ps, h1, h2, h3⟩ := h
  obtain ⟨p, q, rfl, _, h5⟩ := own_cons hα h1
  exact ⟨q, h5, (List.nodup_append.1 h2).2.1, fun k hk => h3 k (by simp [hk])⟩
theorem sys_by (p u : Int) (a : Option Addr) (n c : Nat) (w : World) : (Instr.field 61 (.agg #[.int .i64 p, .int .i64 u, .slice a n c]) 2).run Tryz.prog w = .ok (.slice a n c) w := by kernel_rfl
def sysAt (t : Tmpl) (V : Nat) (cs : List OpT) (k : Nat) (sc : List Int) (E : List Eqn) (j : Nat) : List Eqn := sysTo t V cs k ++ (E.map (spreadE t.1 V sc)).take j
theorem sysAt_zero (t : Tmpl) (V : Nat) (cs : List OpT) (k : Nat) (sc : List Int) (E : List Eqn) : sysAt t V cs k sc E 0 = sysTo t V cs k := by unfold sysAt; simp
theorem sysAt_succ {t : Tmpl} {V : Nat} {cs : List OpT} {k : Nat} {sc : List Int} {E : List Eqn} {j : Nat} (h : j < E.length) : sysAt t V cs k sc E (j + 1) = sysAt t V cs k sc E j ++ [spreadE t.1 V sc E[j]] := by
  unfold sysAt
  rw [List.take_succ_eq_append_getElem (by simpa using h), List.getElem_map, List.append_assoc]
theorem sysAt_all (t : Tmpl) (V : Nat) (cs : List OpT) (k : Nat) (sc : List Int) (E : List Eqn) : sysAt t V cs k sc E E.length = sysTo t V cs k ++ E.map (spreadE t.1 V sc) := by
  unfold sysAt
  rw [List.take_of_length_le (by simp)]
set_option maxHeartbeats 4000000 in
theorem systemOf1_by (t : Tmpl) (x : Inst) (tb : Nat) (t0 t1 : Value) (w : World) (ht : Rd w [t0, t1] t) (hok : instOk t x = true) (hp : isPr t.1 = true) (h0 : w.cell? ⟨tb, 0, none⟩ = some t0) (h1 : w.cell? ⟨tb, 1, none⟩ = some t1) :
    PredC 149 #[.pointer (some ⟨tb, 0, none⟩)] w x.2 (fun c => !affIs t.1 (relAt t c)) := by
  intro W c u0 u1 hb hx hmem
  have g0 := cellL hb h0
  have g1 := cellL hb h1
  obtain ⟨hrk, hci, _⟩ := relAt_ok hok c hmem
  have HT := Lib.hid (Rd.mono ht hb)
  have HRK := Lib.hid hrk
  have HPR := Lib.hid hp
  obtain ⟨size, rs⟩ := t
  obtain ⟨ci, sc⟩ := c
  simp only at hci
  obtain ⟨n, rfl⟩ : ∃ n : Nat, ci = (n : Int) := ⟨ci.toNat, by omega⟩
  have hn : n < rs.length := by omega
  have HRA := Lib.hid (show relAt (size, rs) ((n : Int), sc) = rs[n] by unfold relAt; simp only [Int.toNat_natCast]; rw [List.getD, List.getElem?_eq_getElem hn]; rfl)
  show Calls Tryz.prog 149 #[_, .pointer (some ⟨tb, 0, none⟩)] W (fun e w' => e = .returned (.bool (!affIs size (relAt (size, rs) ((n : Int), sc)))) ∧ _)
  rw [HRA.out] at HRK ⊢
  simp only at HRK HPR
  have zx := rd_cons rfl hx
  obtain ⟨rfl, _⟩ := rd_i1 zx.1
  obtain ⟨ax, cx, rfl, _⟩ := rd_list zx.2
  have zt := rd_cons rfl HT.out
  obtain ⟨rfl, _⟩ := rd_i1 zt.1
  obtain ⟨at0, ct0, rfl, _⟩ := rd_list zt.2
  obtain ⟨br, orr, r0, r1, rfl, q0, q1, hr⟩ := rd_two_at rfl zt.2 n hn
  have HR := Lib.hid hr
  clear hx zx zt ht hb h0 h1 hmem hok hrk hr HRA
  generalize rs[n] = RL at *
  obtain ⟨ar, tl⟩ := RL
  have zr := rd_cons rfl HR.out
  obtain ⟨rfl, _⟩ := rd_i1 zr.1
  obtain ⟨ar0, cr0, rfl, _⟩ := rd_list zr.2
  clear zr
  have hni : (n : Int) < rs.length := by omega
  have g0_ := cellL (St.start W).bel g0
  clear g0_
  have g0_ := cellL (St.start W).bel g0
  have g1_ := cellL (St.start W).bel g1
  clear g0_ g1_
  have g0_ := cellL (St.start W).bel g0
  have g1_ := cellL (St.start W).bel g1
  have q0_ := cellL (St.start W).bel q0
  clear g0_ g1_ q0_
  have g0_ := cellL (St.start W).bel g0
  have g1_ := cellL (St.start W).bel g1
  have q0_ := cellL (St.start W).bel q0
  have q1_ := cellL (St.start W).bel q1
  have hs1 := (St.start W).alloc #[.int .i64 n, .slice ax sc.length cx] 150 (n := W.heap.size) (by simp)
  clear g0_ g1_ q0_ q1_
  have k0_0 := hs1.cellAt 0 rfl 0 rfl
  have k0_1 := hs1.cellAt 0 rfl 1 rfl
  have g0_ := cellL hs1.bel g0
  have g1_ := cellL hs1.bel g1
  have q0_ := cellL hs1.bel q0
  have q1_ := cellL hs1.bel q1
  go_enter Tryz.func149, Tryz.ntmps149
  go_upto_region 1 with fail
  refine wp_region_noPanic (wp_region_tree4 (fun w' => w'.cell? ⟨W.heap.size, 0, none⟩ = some (.int .i64 n) ∧ w'.cell? ⟨W.heap.size, 1, none⟩ = some (.slice ax sc.length cx) ∧ w'.cell? ⟨tb, 0, none⟩ = some (.int .i64 size) ∧ w'.cell? ⟨tb, 1, none⟩ = some (.slice (some ⟨br, orr, none⟩) rs.length ct0) ∧ w'.cell? ⟨br, orr + n * 2, none⟩ = some (.int .i64 ar) ∧ w'.cell? ⟨br, orr + n * 2 + 1, none⟩ = some (.slice ar0 tl.length cr0)) (.float 0 (.float 1 (.float 2 (.float 3 (.float 4 (.float 5 (.float 6 (.float 7 (.hard 8 (.float 9 (.float 10 .nil))))))))))) (by kernel_rfl) (by kernel_rfl) (by kernel_rfl) rfl ?_ (fun _ _ _ _ _ h => h) ?_)
  · exact ⟨(hs1.drew).cellAt 0 rfl 0 rfl, (hs1.drew).cellAt 0 rfl 1 rfl, cellL (hs1.drew).bel g0, cellL (hs1.drew).bel g1, cellL (hs1.drew).bel q0, cellL (hs1.drew).bel q1⟩
  have hs2 := hs1.drew
  clear k0_0 k0_1 g0_ g1_ q0_ q1_
  have hz_wd3 : W.heap.size + 1 ≤ ((W.alloc (.cells #[.int .i64 n, .slice ax sc.length cx] 150)).drew).heap.size := by simp
  generalize hgen_wd3 : (W.alloc (.cells #[.int .i64 n, .slice ax sc.length cx] 150)).drew = wd3 at *
  have HG_wd3 := Lib.hid hgen_wd3
  clear hgen_wd3
  (repeat (first | (apply t4_skip rfl (by rfl); try simp only [Act.put, sI, sZ, sS]) | (apply t4_float rfl (by rfl); (· (intro w' hS; go_simp <;> with_reducible rfl)); (try simp only [Act.put, sI, sZ, sS]))))
  refine t4_hard rfl (by rfl) (fun K hK => ?_)
  go_wp2_with (go_at_call 150; refine (isAffine1_c size (ar, tl) _ _ _ (Rd.mono HR.out hs2.bel) HPR.out HRK.out).mono ?_; rintro e w4 ⟨rfl, hbw4⟩)
  have hz_w4 : wd3.heap.size ≤ w4.heap.size := by have h9 := hbw4.size; (try simp at h9); omega
  have hs5 := hs2.step hbw4
  refine ⟨⟨hs5.cellAt 0 rfl 0 rfl, hs5.cellAt 0 rfl 1 rfl, cellL hs5.bel g0, cellL hs5.bel g1, cellL hs5.bel q0, cellL hs5.bel q1⟩, ?_⟩
  (repeat (first | (apply t4_skip rfl (by rfl); try simp only [Act.put, sI, sZ, sS]) | (apply t4_float rfl (by rfl); (· (intro w' hS; go_simp <;> with_reducible rfl)); (try simp only [Act.put, sI, sZ, sS]))))
  have k0_0 := hs5.cellAt 0 rfl 0 rfl
  have k0_1 := hs5.cellAt 0 rfl 1 rfl
  have g0_ := cellL hs5.bel g0
  have g1_ := cellL hs5.bel g1
  have q0_ := cellL hs5.bel q0
  have q1_ := cellL hs5.bel q1
  refine t4_nil (NoPanic.normal ?_)
  go_wp2_with fail
  go_ret
  exact ⟨rfl, hs5.bel⟩
set_option maxRecDepth 100000 in
set_option maxHeartbeats 16000000 in
theorem systemOf_c (t : Tmpl) (x : Inst) (t0 t1 x0 x1 : Value) (w : World) (ht : Rd w [t0, t1] t) (hx : Rd w [x0, x1] x) (hok : instOk t x = true) :
    Calls Tryz.prog 82 #[.agg #[t0, t1], .agg #[x0, x1]] w fun e w' => ∃ u0 u1 u2, e = .returned (.tuple #[.agg #[u0, u1, u2], .int .i64 (sysF t x).2]) ∧ Fresh w.heap.size w' [u0, u1, u2] (sysF t x).1 ∧ Below w.heap.size w w' := by
  have hV := (instOk_get hok).2.1
  have hcl := (instOk_get hok).2.2.1
  have hs1 := (tmplOk_get (instOk_get hok).1).1
  have HRA := Lib.hid (relAt_ok hok)
  obtain ⟨size, rs⟩ := t
  obtain ⟨vars, cs⟩ := x
  simp only at hV hcl hs1
  obtain ⟨V, rfl⟩ : ∃ V : Nat, vars = (V : Int) := ⟨vars.toNat, by omega⟩
  have HOK := Lib.hid hok
  have HT := Lib.hid ht
  have HCS := Lib.hid (rd_cons rfl hx).2
  have HRS := Lib.hid (rd_cons rfl ht).2
  have zt := rd_cons rfl ht
  obtain ⟨rfl, _⟩ := rd_i1 zt.1
  obtain ⟨at0, ct0, rfl, _⟩ := rd_list zt.2
  have zx := rd_cons rfl hx
  obtain ⟨rfl, _⟩ := rd_i1 zx.1
  obtain ⟨ax, cx, rfl, _⟩ := rd_list zx.2
  have eg : ∀ args w, (callFunc 149 args).run Tryz.prog w = .ok (.enter 149 args) w := enters_of Tryz.func149 (by kernel_rfl) rfl
  clear hok ht hx zt zx
  have hs6 := (St.start w).alloc #[.int .i64 size, .slice at0 rs.length ct0] 42 (n := w.heap.size) (by simp)
  have k0_0 := hs6.cellAt 0 rfl 0 rfl
  have k0_1 := hs6.cellAt 0 rfl 1 rfl
  have hs7 := hs6.alloc #[.int .i64 V, .slice ax cs.length cx] 46 (n := w.heap.size + 1) (by simp)
  clear k0_0 k0_1
  have k0_0 := hs7.cellAt 0 rfl 0 rfl
  have k0_1 := hs7.cellAt 0 rfl 1 rfl
  have k1_0 := hs7.cellAt 1 rfl 0 rfl
  have k1_1 := hs7.cellAt 1 rfl 1 rfl
  have hs8 := hs7.alloc #[.int .i64 0, .int .i64 0, .slice none 0 0] 61 (n := w.heap.size + 1 + 1) (by simp)
  clear k0_0 k0_1 k1_0 k1_1
  have k0_0 := hs8.cellAt 0 rfl 0 rfl
  have k0_1 := hs8.cellAt 0 rfl 1 rfl
  have k1_0 := hs8.cellAt 1 rfl 0 rfl
  have k1_1 := hs8.cellAt 1 rfl 1 rfl
  have k2_0 := hs8.cellAt 2 rfl 0 rfl
  have k2_1 := hs8.cellAt 2 rfl 1 rfl
  have k2_2 := hs8.cellAt 2 rfl 2 rfl
  go_enter Tryz.func82, Tryz.ntmps82
  go_wp2_with fail
  refine (isPrime_c size _).mono ?_
  rintro e w9 ⟨rfl, rfl⟩
  cases h1 : isPr size with
  | false =>
    have H1 := Lib.hid (show sysF (size, rs) ((V : Int), cs) = ((0, 0, []), 4) by unfold sysF; simp only; rw [h1]; rfl)
    clear h1
    have f2_0 := hs8.freeAt 2 rfl 0
    have f2_1 := hs8.freeAt 2 rfl 1
    have f2_2 := hs8.freeAt 2 rfl 2
    go_wp2_with fail
    have x0 := (hs8.cellAt 2 rfl 0 rfl)
    have x1 := (hs8.cellAt 2 rfl 1 rfl)
    have x2 := (hs8.cellAt 2 rfl 2 rfl)
    refine bodyPost_ret (v := .tuple #[.agg #[.int .i64 0, .int .i64 0, .slice none 0 0], .int .i64 4]) (by simp [results, Tryz.results82, go_sem, x0, x1, x2]) rfl ⟨_, _, _, by rw [H1.out], ?_, hs8.bel⟩
    rw [H1.out]; exact ⟨[], own0_sys, by simp, by simp⟩
  | true =>
    have HPR := Lib.hid h1
    clear h1
    go_wp2_with fail
    refine (containsCons_c cs _ 149 _ (fun c => !affIs size (relAt (size, rs) c)) _ (Rd.mono HCS.out hs8.bel) eg (systemOf1_by (size, rs) ((V : Int), cs) (w.heap.size) _ _ _ (Rd.mono HT.out hs8.bel) HOK.out HPR.out (hs8.cellAt 0 rfl 0 rfl) (hs8.cellAt 0 rfl 1 rfl))).mono ?_
    rintro e w1 ⟨rfl, hb1⟩
    have hz_w1 : w.heap.size + 1 + 1 + 1 ≤ w1.heap.size := by have h9 := hb1.size; (try simp at h9); omega
    have hs10 := hs8.step hb1
    clear k0_0 k0_1 k1_0 k1_1 k2_0 k2_1 k2_2
    have k0_0 := hs10.cellAt 0 rfl 0 rfl
    have k0_1 := hs10.cellAt 0 rfl 1 rfl
    have k1_0 := hs10.cellAt 1 rfl 0 rfl
    have k1_1 := hs10.cellAt 1 rfl 1 rfl
    have k2_0 := hs10.cellAt 2 rfl 0 rfl
    have k2_1 := hs10.cellAt 2 rfl 1 rfl
    have k2_2 := hs10.cellAt 2 rfl 2 rfl
    cases h2 : cs.any (fun c => !affIs size (relAt (size, rs) c)) with
    | true =>
      have H1 := Lib.hid (show sysF (size, rs) ((V : Int), cs) = ((0, 0, []), 4) by
        have h3 := all_of_any cs (fun c => affIs size (relAt (size, rs) c))
        rw [h2] at h3
        unfold sysF affAll
        simp only
        rw [HPR.out, ← h3]; rfl)
      clear h2
      have f2_0 := hs10.freeAt 2 rfl 0
      have f2_1 := hs10.freeAt 2 rfl 1
      have f2_2 := hs10.freeAt 2 rfl 2
      go_wp2_with fail
      have hs11 := hs10.set (p := [_, _]) (by simp <;> omega) 0 (.int .i64 0)
      have hs12 := hs11.set (p := [_, _]) (by simp <;> omega) 1 (.int .i64 0)
      have hs13 := hs12.set (p := [_, _]) (by simp <;> omega) 2 (.slice none 0 0)
      have x0 := (hs13.cellAt 2 rfl 0 rfl)
      have x1 := (hs13.cellAt 2 rfl 1 rfl)
      have x2 := (hs13.cellAt 2 rfl 2 rfl)
      refine bodyPost_ret (v := .tuple #[.agg #[.int .i64 0, .int .i64 0, .slice none 0 0], .int .i64 4]) (by simp [results, Tryz.results82, go_sem, x0, x1, x2]) rfl ⟨_, _, _, by rw [H1.out], ?_, hs13.bel⟩
      rw [H1.out]; exact ⟨[], own0_sys, by simp, by simp⟩
    | false =>
      have h3 := all_of_any cs (fun c => affIs size (relAt (size, rs) c))
      rw [h2] at h3
      have HAF := Lib.hid (show ∀ c, c ∈ cs → affIs size (relAt (size, rs) c) = true from List.all_eq_true.1 h3.symm)
      have H1 := Lib.hid (show sysF (size, rs) ((V : Int), cs) = (if 24 < (sysTo (size, rs) V cs cs.length).length then ((0, 0, []), 3) else ((size, (V : Int), sysTo (size, rs) V cs cs.length), 0)) by
        unfold sysF affAll
        simp only
        rw [HPR.out, ← h3]; rfl)
      have HSL := Lib.hid (fun k (hk : k ≤ cs.length) => sysTo_len (t := (size, rs)) (V := V) (cs := cs) HPR.out (fun c hc => ⟨(HRA.out c hc).1, HAF.out c hc⟩) k hk)
      clear h2 h3
      have hlo1 := hs10.hi
      have p0 := (hs10.cellAt 0 rfl 0 rfl)
      have p1 := (hs10.cellAt 1 rfl 0 rfl)
      have hs14 := hs10.alloc #[.int .i64 size, .int .i64 V, .slice none 0 0] 61 (n := w1.heap.size) (by simp)
      clear k0_0 k0_1 k1_0 k1_1 k2_0 k2_1 k2_2
      have k0_0 := hs14.cellAt 0 rfl 0 rfl
      have k0_1 := hs14.cellAt 0 rfl 1 rfl
      have k1_0 := hs14.cellAt 1 rfl 0 rfl
      have k1_1 := hs14.cellAt 1 rfl 1 rfl
      have k2_0 := hs14.cellAt 2 rfl 0 rfl
      have k2_1 := hs14.cellAt 2 rfl 1 rfl
      have k2_2 := hs14.cellAt 2 rfl 2 rfl
      have k3_0 := hs14.cellAt 3 rfl 0 rfl
      have k3_1 := hs14.cellAt 3 rfl 1 rfl
      have k3_2 := hs14.cellAt 3 rfl 2 rfl
      have HS1 := Lib.hid hs14
      go_wp2_with fail
      go_loopw [33] (fun kv wl => ∃ (k : Nat) (va : Option Addr) (vc : Nat), k ≤ cs.length ∧ kv = .int .i64 k ∧ Hid (St w (w1.heap.size + 1) wl [(w.heap.size, #[.int .i64 size, .slice at0 rs.length ct0], 42), (w.heap.size + 1, #[.int .i64 V, .slice ax cs.length cx], 46), (w.heap.size + 1 + 1, #[.int .i64 0, .int .i64 0, .slice none 0 0], 61), (w1.heap.size, #[.int .i64 size, .int .i64 V, .slice va (sysTo (size, rs) V cs k).length vc], 61)]) ∧ Hid (AccP (fun z => w1.heap.size + 1 ≤ z ∧ z < wl.heap.size) 200 wl (.slice va (sysTo (size, rs) V cs k).length vc) (sysTo (size, rs) V cs k))) (fun kv _ => cs.length - (intOf kv).toNat)
      case atStart => exact ⟨0, none, 0, Nat.zero_le _, rfl, HS1.out, AccP.nil _ _ _⟩
      case round =>
        clear HS1
        obtain ⟨k, va, vc, hk, rfl, hst, hac⟩ := hrel
        obtain ⟨wK, rfl⟩ : ∃ x, x = wr := ⟨_, rfl⟩
        have hs2 := hst.out
        have hlo := hs2.hi
        have k0_0 := hs2.cellAt 0 rfl 0 rfl
        have k0_1 := hs2.cellAt 0 rfl 1 rfl
        have k1_0 := hs2.cellAt 1 rfl 0 rfl
        have k1_1 := hs2.cellAt 1 rfl 1 rfl
        have k2_0 := hs2.cellAt 2 rfl 0 rfl
        have k2_1 := hs2.cellAt 2 rfl 1 rfl
        have k2_2 := hs2.cellAt 2 rfl 2 rfl
        have k3_0 := hs2.cellAt 3 rfl 0 rfl
        have k3_1 := hs2.cellAt 3 rfl 1 rfl
        have k3_2 := hs2.cellAt 3 rfl 2 rfl
        by_cases hlt : k < cs.length
        · have hkI : (k : Int) < cs.length := by omega
          obtain ⟨bc, oc, c0, c1, ec, qc0, qc1, hrc⟩ := rd_two_at rfl HCS.out k hlt
          subst ec
          obtain ⟨hrk, hci, hvo⟩ := HRA.out _ (List.getElem_mem hlt)
          have hSU := sysTo_succ (size, rs) V cs k hlt
          have haf := HAF.out _ (List.getElem_mem hlt)
          generalize cs[k] = CK at *
          obtain ⟨ci, sc⟩ := CK
          simp only at hci hvo
          obtain ⟨n, rfl⟩ : ∃ n : Nat, ci = (n : Int) := ⟨ci.toNat, by omega⟩
          have hn : n < rs.length := by omega
          have hni : (n : Int) < rs.length := by omega
          have hra : relAt (size, rs) ((n : Int), sc) = rs[n] := by unfold relAt; simp only [Int.toNat_natCast]; rw [List.getD, List.getElem?_eq_getElem hn]; rfl
          have hcE : conE (size, rs) V ((n : Int), sc) = (eqsF size rs[n]).2.2.map (spreadE size V sc) := by unfold conE; rw [hra]
          rw [hra] at hrk hvo haf
          (try simp only at hrk haf)
          obtain ⟨br, orr, r0, r1, er, qr0, qr1, hrr⟩ := rd_two_at rfl HRS.out n hn
          subst er
          generalize rs[n] = RL at *
          obtain ⟨ar, tl⟩ := RL
          obtain ⟨N, _, _, hEF, hE4, hEO⟩ := eqsF_ok HPR.out hrk haf
          generalize ofTo size (ar, tl).1.toNat (ar, tl).2 N = E at *
          simp only at hvo hEF hEO
          rw [hEF] at hcE
          simp only at hcE
          have zc := rd_cons rfl hrc
          obtain ⟨rfl, _⟩ := rd_i1 zc.1
          obtain ⟨asx, csx, rfl, _⟩ := rd_list zc.2
          have zr := rd_cons rfl hrr
          obtain ⟨rfl, _⟩ := rd_i1 zr.1
          obtain ⟨arx, crx, rfl, _⟩ := rd_list zr.2
          have HSC := Lib.hid zc.2
          have HRL := Lib.hid hrr
          have HRK := Lib.hid hrk
          have HAK := Lib.hid haf
          have HEF := Lib.hid hEF
          have HEO := Lib.hid hEO
          have HSV := Lib.hid (valsOk_get hvo)
          have HSU := Lib.hid (show sysTo (size, rs) V cs (k + 1) = sysTo (size, rs) V cs k ++ E.map (spreadE size V sc) by rw [hSU, hcE])
          have hAR := (relOk_get hrk).2.1
          simp only at hAR
          clear hrc hrr hrk hvo haf hSU hcE hra hEF hEO zc zr hci
          clear k0_0 k0_1 k1_0 k1_1 k2_0 k2_1 k2_2 k3_0 k3_1 k3_2
          have k0_0 := hs2.cellAt 0 rfl 0 rfl
          have k0_1 := hs2.cellAt 0 rfl 1 rfl
          have k1_0 := hs2.cellAt 1 rfl 0 rfl
          have k1_1 := hs2.cellAt 1 rfl 1 rfl
          have k2_0 := hs2.cellAt 2 rfl 0 rfl
          have k2_1 := hs2.cellAt 2 rfl 1 rfl
          have k2_2 := hs2.cellAt 2 rfl 2 rfl
          have k3_0 := hs2.cellAt 3 rfl 0 rfl
          have k3_1 := hs2.cellAt 3 rfl 1 rfl
          have k3_2 := hs2.cellAt 3 rfl 2 rfl
          have qc0_ := cellL hs2.bel qc0
          clear k0_0 k0_1 k1_0 k1_1 k2_0 k2_1 k2_2 k3_0 k3_1 k3_2 qc0_
          have k0_0 := hs2.cellAt 0 rfl 0 rfl
          have k0_1 := hs2.cellAt 0 rfl 1 rfl
          have k1_0 := hs2.cellAt 1 rfl 0 rfl
          have k1_1 := hs2.cellAt 1 rfl 1 rfl
          have k2_0 := hs2.cellAt 2 rfl 0 rfl
          have k2_1 := hs2.cellAt 2 rfl 1 rfl
          have k2_2 := hs2.cellAt 2 rfl 2 rfl
          have k3_0 := hs2.cellAt 3 rfl 0 rfl
          have k3_1 := hs2.cellAt 3 rfl 1 rfl
          have k3_2 := hs2.cellAt 3 rfl 2 rfl
          have qc0_ := cellL hs2.bel qc0
          have qc1_ := cellL hs2.bel qc1
          clear k0_0 k0_1 k1_0 k1_1 k2_0 k2_1 k2_2 k3_0 k3_1 k3_2 qc0_ qc1_
          have k0_0 := hs2.cellAt 0 rfl 0 rfl
          have k0_1 := hs2.cellAt 0 rfl 1 rfl
          have k1_0 := hs2.cellAt 1 rfl 0 rfl
          have k1_1 := hs2.cellAt 1 rfl 1 rfl
          have k2_0 := hs2.cellAt 2 rfl 0 rfl
          have k2_1 := hs2.cellAt 2 rfl 1 rfl
          have k2_2 := hs2.cellAt 2 rfl 2 rfl
          have k3_0 := hs2.cellAt 3 rfl 0 rfl
          have k3_1 := hs2.cellAt 3 rfl 1 rfl
          have k3_2 := hs2.cellAt 3 rfl 2 rfl
          have qc0_ := cellL hs2.bel qc0
          have qc1_ := cellL hs2.bel qc1
          have qr0_ := cellL hs2.bel qr0
          clear k0_0 k0_1 k1_0 k1_1 k2_0 k2_1 k2_2 k3_0 k3_1 k3_2 qc0_ qc1_ qr0_
          have k0_0 := hs2.cellAt 0 rfl 0 rfl
          have k0_1 := hs2.cellAt 0 rfl 1 rfl
          have k1_0 := hs2.cellAt 1 rfl 0 rfl
          have k1_1 := hs2.cellAt 1 rfl 1 rfl
          have k2_0 := hs2.cellAt 2 rfl 0 rfl
          have k2_1 := hs2.cellAt 2 rfl 1 rfl
          have k2_2 := hs2.cellAt 2 rfl 2 rfl
          have k3_0 := hs2.cellAt 3 rfl 0 rfl
          have k3_1 := hs2.cellAt 3 rfl 1 rfl
          have k3_2 := hs2.cellAt 3 rfl 2 rfl
          have qc0_ := cellL hs2.bel qc0
          have qc1_ := cellL hs2.bel qc1
          have qr0_ := cellL hs2.bel qr0
          have qr1_ := cellL hs2.bel qr1
          have HACC := hac
          clear hac
          have p4 := (hs2.cellAt 1 rfl 1 rfl)
          have p5 := (cellL hs2.bel qc0)
          have p6 := (cellL hs2.bel qc1)
          have hs15 := hs2.alloc #[.int .i64 n, .slice asx sc.length csx] 150 (n := wK.heap.size) (by simp)
          have HACC_16 := Lib.hid (AccP.mono HACC.out (belowA _ (.cells #[.int .i64 n, .slice asx sc.length csx] 150)))
          clear HACC
          clear k0_0 k0_1 k1_0 k1_1 k2_0 k2_1 k2_2 k3_0 k3_1 k3_2 qc0_ qc1_ qr0_ qr1_
          have k0_0 := hs15.cellAt 0 rfl 0 rfl
          have k0_1 := hs15.cellAt 0 rfl 1 rfl
          have k1_0 := hs15.cellAt 1 rfl 0 rfl
          have k1_1 := hs15.cellAt 1 rfl 1 rfl
          have k2_0 := hs15.cellAt 2 rfl 0 rfl
          have k2_1 := hs15.cellAt 2 rfl 1 rfl
          have k2_2 := hs15.cellAt 2 rfl 2 rfl
          have k3_0 := hs15.cellAt 3 rfl 0 rfl
          have k3_1 := hs15.cellAt 3 rfl 1 rfl
          have k3_2 := hs15.cellAt 3 rfl 2 rfl
          have k4_0 := hs15.cellAt 4 rfl 0 rfl
          have k4_1 := hs15.cellAt 4 rfl 1 rfl
          have qc0_ := cellL hs15.bel qc0
          have qc1_ := cellL hs15.bel qc1
          have qr0_ := cellL hs15.bel qr0
          have qr1_ := cellL hs15.bel qr1
          go_upto_region 7 with fail
          refine wp_region_noPanic (wp_region_tree4 (fun w' => w'.cell? ⟨w.heap.size, 0, none⟩ = some (.int .i64 size) ∧ w'.cell? ⟨w.heap.size, 1, none⟩ = some (.slice (some ⟨br, orr, none⟩) rs.length ct0) ∧ w'.cell? ⟨w.heap.size + 1, 0, none⟩ = some (.int .i64 V) ∧ w'.cell? ⟨w.heap.size + 1, 1, none⟩ = some (.slice (some ⟨bc, oc, none⟩) cs.length cx) ∧ w'.cell? ⟨w.heap.size + 1 + 1, 0, none⟩ = some (.int .i64 0) ∧ w'.cell? ⟨w.heap.size + 1 + 1, 1, none⟩ = some (.int .i64 0) ∧ w'.cell? ⟨w.heap.size + 1 + 1, 2, none⟩ = some (.slice none 0 0) ∧ w'.cell? ⟨w1.heap.size, 0, none⟩ = some (.int .i64 size) ∧ w'.cell? ⟨w1.heap.size, 1, none⟩ = some (.int .i64 V) ∧ w'.cell? ⟨w1.heap.size, 2, none⟩ = some (.slice va (sysTo (size, rs) V cs k).length vc) ∧ w'.cell? ⟨wK.heap.size, 0, none⟩ = some (.int .i64 n) ∧ w'.cell? ⟨wK.heap.size, 1, none⟩ = some (.slice asx sc.length csx) ∧ w'.cell? ⟨bc, oc + k * 2, none⟩ = some (.int .i64 n) ∧ w'.cell? ⟨bc, oc + k * 2 + 1, none⟩ = some (.slice asx sc.length csx) ∧ w'.cell? ⟨br, orr + n * 2, none⟩ = some (.int .i64 ar) ∧ w'.cell? ⟨br, orr + n * 2 + 1, none⟩ = some (.slice arx tl.length crx)) (.float 0 (.float 1 (.float 2 (.float 3 (.float 4 (.float 5 (.float 6 (.float 7 (.float 11 (.hard 8 (.float 9 (.float 10 .nil)))))))))))) (by kernel_rfl) (by kernel_rfl) (by kernel_rfl) rfl ?_ (fun _ _ _ _ _ h => h) ?_)
          · exact ⟨(hs15.drew).cellAt 0 rfl 0 rfl, (hs15.drew).cellAt 0 rfl 1 rfl, (hs15.drew).cellAt 1 rfl 0 rfl, (hs15.drew).cellAt 1 rfl 1 rfl, (hs15.drew).cellAt 2 rfl 0 rfl, (hs15.drew).cellAt 2 rfl 1 rfl, (hs15.drew).cellAt 2 rfl 2 rfl, (hs15.drew).cellAt 3 rfl 0 rfl, (hs15.drew).cellAt 3 rfl 1 rfl, (hs15.drew).cellAt 3 rfl 2 rfl, (hs15.drew).cellAt 4 rfl 0 rfl, (hs15.drew).cellAt 4 rfl 1 rfl, cellL (hs15.drew).bel qc0, cellL (hs15.drew).bel qc1, cellL (hs15.drew).bel qr0, cellL (hs15.drew).bel qr1⟩
          have hs17 := hs15.drew
          have HACC_18 := Lib.hid (AccP.mono HACC_16.out (belowD _))
          clear HACC_16
          clear k0_0 k0_1 k1_0 k1_1 k2_0 k2_1 k2_2 k3_0 k3_1 k3_2 k4_0 k4_1 qc0_ qc1_ qr0_ qr1_
          have hz_wd19 : wK.heap.size + 1 ≤ ((wK.alloc (.cells #[.int .i64 n, .slice asx sc.length csx] 150)).drew).heap.size := by simp
          generalize hgen_wd19 : (wK.alloc (.cells #[.int .i64 n, .slice asx sc.length csx] 150)).drew = wd19 at *
          have HG_wd19 := Lib.hid hgen_wd19
          clear hgen_wd19
          (repeat (first | (apply t4_skip rfl (by rfl); try simp only [Act.put, sI, sZ, sS]) | (apply t4_float rfl (by rfl); (· (intro w' hS; go_simp <;> with_reducible rfl)); (try simp only [Act.put, sI, sZ, sS]))))
          refine t4_hard rfl (by rfl) (fun K hK => ?_)
          go_wp2_with (go_at_call 151; refine (equationsOf_c size (ar, tl) _ _ _ (Rd.mono HRL.out hs17.bel) HPR.out HRK.out HAK.out).mono ?_; rintro e w20 ⟨a9, n9, c9, rfl, fr9, hbw20⟩)
          have hz_w20 : wd19.heap.size ≤ w20.heap.size := by have h9 := hbw20.size; (try simp at h9); omega
          have hs21 := hs17.step hbw20
          have HACC_22 := Lib.hid (AccP.mono HACC_18.out hbw20)
          clear HACC_18
          rw [HEF.out] at fr9
          have fr9 := freshT rfl (freshT rfl fr9)
          obtain ⟨a8, c8, e8, _⟩ := rd_list fr9.rd
          simp only [Value.slice.injEq] at e8
          obtain ⟨rfl, rfl, rfl⟩ := e8
          have HE := Lib.hid (Fresh.ip fr9)
          have hfd : ∀ w : World, (Instr.field 61 (.agg #[.int .i64 size, .int .i64 ar, .slice a9 E.length c9]) 2).run Tryz.prog w = .ok (.slice a9 E.length c9) w := fun w => sys_by _ _ _ _ _ w
          clear fr9
          refine ⟨⟨hs21.cellAt 0 rfl 0 rfl, hs21.cellAt 0 rfl 1 rfl, hs21.cellAt 1 rfl 0 rfl, hs21.cellAt 1 rfl 1 rfl, hs21.cellAt 2 rfl 0 rfl, hs21.cellAt 2 rfl 1 rfl, hs21.cellAt 2 rfl 2 rfl, hs21.cellAt 3 rfl 0 rfl, hs21.cellAt 3 rfl 1 rfl, hs21.cellAt 3 rfl 2 rfl, hs21.cellAt 4 rfl 0 rfl, hs21.cellAt 4 rfl 1 rfl, cellL hs21.bel qc0, cellL hs21.bel qc1, cellL hs21.bel qr0, cellL hs21.bel qr1⟩, ?_⟩
          (repeat (first | (apply t4_skip rfl (by rfl); try simp only [Act.put, sI, sZ, sS]) | (apply t4_float rfl (by rfl); (· (intro w' hS; go_simp <;> with_reducible rfl)); (try simp only [Act.put, sI, sZ, sS]))))
          have k0_0 := hs21.cellAt 0 rfl 0 rfl
          have k0_1 := hs21.cellAt 0 rfl 1 rfl
          have k1_0 := hs21.cellAt 1 rfl 0 rfl
          have k1_1 := hs21.cellAt 1 rfl 1 rfl
          have k2_0 := hs21.cellAt 2 rfl 0 rfl
          have k2_1 := hs21.cellAt 2 rfl 1 rfl
          have k2_2 := hs21.cellAt 2 rfl 2 rfl
          have k3_0 := hs21.cellAt 3 rfl 0 rfl
          have k3_1 := hs21.cellAt 3 rfl 1 rfl
          have k3_2 := hs21.cellAt 3 rfl 2 rfl
          have k4_0 := hs21.cellAt 4 rfl 0 rfl
          have k4_1 := hs21.cellAt 4 rfl 1 rfl
          have qc0_ := cellL hs21.bel qc0
          have qc1_ := cellL hs21.bel qc1
          have qr0_ := cellL hs21.bel qr0
          have qr1_ := cellL hs21.bel qr1
          refine t4_nil (NoPanic.normal ?_)
          have hz_wB : w20.heap.size ≤ (w20).heap.size := by simp
          generalize hgen_wB : w20 = wB at *
          clear hgen_wB
          have HSB := Lib.hid (hs21.low (B' := wK.heap.size + 1) (bx' := [(w.heap.size, #[.int .i64 size, .slice (some ⟨br, orr, none⟩) rs.length ct0], 42), (w.heap.size + 1, #[.int .i64 V, .slice (some ⟨bc, oc, none⟩) cs.length cx], 46), (w.heap.size + 1 + 1, #[.int .i64 0, .int .i64 0, .slice none 0 0], 61), (w1.heap.size, #[.int .i64 size, .int .i64 V, .slice va (sysTo (size, rs) V cs k).length vc], 61), (wK.heap.size, #[.int .i64 n, .slice asx sc.length csx], 150)]) (by omega) (by omega) (fun x hx => by simp only [List.mem_cons, List.not_mem_nil, or_false] at hx; rcases hx with rfl | rfl | rfl | rfl | rfl <;> (refine ⟨?_, ?_⟩ <;> (try simp) <;> (try omega))))
          have HAB := Lib.hid ((HACC_22.out).wk (C := fun z => w1.heap.size + 1 ≤ z ∧ z ≠ wK.heap.size ∧ (z < wK.heap.size ∨ wB.heap.size ≤ z) ∧ z < wB.heap.size) (fun z hz => by (try simp only at hz); omega))
          have HEB := Lib.hid ((HE.out).wk (B := fun z => wK.heap.size + 1 ≤ z ∧ z < wB.heap.size) (fun z hz => by (try simp only at hz); omega))
          clear HACC_22
          clear HE
          have hloB : wK.heap.size + 1 ≤ wB.heap.size := by omega
          go_wp2_with fail
          go_loopw [48] (fun jv wl => ∃ (j : Nat) (va : Option Addr) (vc : Nat), j ≤ E.length ∧ jv = .int .i64 j ∧ Hid (St w (wK.heap.size + 1) wl [(w.heap.size, #[.int .i64 size, .slice (some ⟨br, orr, none⟩) rs.length ct0], 42), (w.heap.size + 1, #[.int .i64 V, .slice (some ⟨bc, oc, none⟩) cs.length cx], 46), (w.heap.size + 1 + 1, #[.int .i64 0, .int .i64 0, .slice none 0 0], 61), (w1.heap.size, #[.int .i64 size, .int .i64 V, .slice va (sysAt (size, rs) V cs k sc E j).length vc], 61), (wK.heap.size, #[.int .i64 n, .slice asx sc.length csx], 150)]) ∧ Hid (wB.heap.size ≤ wl.heap.size) ∧
            Hid (AccP (fun z => w1.heap.size + 1 ≤ z ∧ z ≠ wK.heap.size ∧ (z < wK.heap.size ∨ wB.heap.size ≤ z) ∧ z < wl.heap.size) 200 wl (.slice va (sysAt (size, rs) V cs k sc E j).length vc) (sysAt (size, rs) V cs k sc E j)) ∧ Hid (Ip (fun z => wK.heap.size + 1 ≤ z ∧ z < wB.heap.size) wl [.slice a9 E.length c9] E)) (fun jv _ => E.length - (intOf jv).toNat)
          case atStart => exact ⟨0, va, vc, Nat.zero_le _, rfl, by rw [sysAt_zero]; exact HSB.out, Nat.le_refl _, by rw [sysAt_zero]; exact HAB.out, HEB.out⟩
          case round =>
            clear HSB HAB HEB
            obtain ⟨j, vb, vd, hj, rfl, hst2, hzB, hac2, hE2⟩ := hrel
            obtain ⟨wJ, rfl⟩ : ∃ x, x = wr := ⟨_, rfl⟩
            have hzB := hzB.out
            have hs4 := hst2.out
            have hlo2 := hs4.hi
            have hln2 : (sysAt (size, rs) V cs k sc E j).length ≤ 200 := by
              have h1 := HSL.out k hk
              unfold sysAt
              rw [List.length_append, List.length_take, List.length_map]
              omega
            have k0_0 := hs4.cellAt 0 rfl 0 rfl
            have k0_1 := hs4.cellAt 0 rfl 1 rfl
            have k1_0 := hs4.cellAt 1 rfl 0 rfl
            have k1_1 := hs4.cellAt 1 rfl 1 rfl
            have k2_0 := hs4.cellAt 2 rfl 0 rfl
            have k2_1 := hs4.cellAt 2 rfl 1 rfl
            have k2_2 := hs4.cellAt 2 rfl 2 rfl
            have k3_0 := hs4.cellAt 3 rfl 0 rfl
            have k3_1 := hs4.cellAt 3 rfl 1 rfl
            have k3_2 := hs4.cellAt 3 rfl 2 rfl
            have k4_0 := hs4.cellAt 4 rfl 0 rfl
            have k4_1 := hs4.cellAt 4 rfl 1 rfl
            have qc0_ := cellL hs4.bel qc0
            have qc1_ := cellL hs4.bel qc1
            have qr0_ := cellL hs4.bel qr0
            have qr1_ := cellL hs4.bel qr1
            by_cases hlt2 : j < E.length
            · have hjI : (j : Int) < E.length := by omega
              obtain ⟨be, oe, ee⟩ : ∃ be oe, a9 = some ⟨be, oe, none⟩ := (rd_two_at rfl hE2.out.rd j hlt2).elim (fun be h => h.elim (fun oe h => h.elim (fun _ h => h.elim (fun _ h => ⟨be, oe, h.1⟩))))
              subst ee
              obtain ⟨v0, v1, qe0, qe1, hIel⟩ := ip_el2 rfl hE2.out j hlt2
              have hEOj := HEO.out _ (List.getElem_mem hlt2)
              have hTK := sysAt_succ (t := (size, rs)) (V := V) (cs := cs) (k := k) (sc := sc) hlt2
              generalize E[j] = EJ at *
              obtain ⟨L, R⟩ := EJ
              have ze := rd_cons rfl hIel.rd
              obtain ⟨rfl, hIR⟩ := rd_i1 ze.2
              obtain ⟨aL, cL, rfl, _⟩ := rd_list ze.1
              have HLI := Lib.hid (ip_fst rfl hIel)
              have HTK := Lib.hid (show sysAt (size, rs) V cs k sc E (j + 1) = sysAt (size, rs) V cs k sc E j ++ [(spreadTo size V sc L sc.length, R)] from hTK)
              have HGD := Lib.hid (eqn_good (U := ar.toNat) (by rw [Int.toNat_of_nonneg (by omega)]; exact hEOj))
              have HAC2 := hac2
              have HE2 := hE2
              clear ze hIel hEOj hTK hac2 hE2
              have p7 := qe0
              have p8 := qe1
              have hs23 := hs4.alloc #[.slice aL L.length cL, .int .i64 R] 200 (n := wJ.heap.size) (by simp)
              have HAC2_24 := Lib.hid (AccP.mono HAC2.out (belowA _ (.cells #[.slice aL L.length cL, .int .i64 R] 200)))
              clear HAC2
              have HE2_25 := Lib.hid (Ip.mono HE2.out (belowA _ (.cells #[.slice aL L.length cL, .int .i64 R] 200)))
              clear HE2
              have HLI_26 := Lib.hid (Ip.mono HLI.out (belowA _ (.cells #[.slice aL L.length cL, .int .i64 R] 200)))
              clear HLI
              clear k0_0 k0_1 k1_0 k1_1 k2_0 k2_1 k2_2 k3_0 k3_1 k3_2 k4_0 k4_1 qc0_ qc1_ qr0_ qr1_
              have k0_0 := hs23.cellAt 0 rfl 0 rfl
              have k0_1 := hs23.cellAt 0 rfl 1 rfl
              have k1_0 := hs23.cellAt 1 rfl 0 rfl
              have k1_1 := hs23.cellAt 1 rfl 1 rfl
              have k2_0 := hs23.cellAt 2 rfl 0 rfl
              have k2_1 := hs23.cellAt 2 rfl 1 rfl
              have k2_2 := hs23.cellAt 2 rfl 2 rfl
              have k3_0 := hs23.cellAt 3 rfl 0 rfl
              have k3_1 := hs23.cellAt 3 rfl 1 rfl
              have k3_2 := hs23.cellAt 3 rfl 2 rfl
              have k4_0 := hs23.cellAt 4 rfl 0 rfl
              have k4_1 := hs23.cellAt 4 rfl 1 rfl
              have k5_0 := hs23.cellAt 5 rfl 0 rfl
              have k5_1 := hs23.cellAt 5 rfl 1 rfl
              have qc0_ := cellL hs23.bel qc0
              have qc1_ := cellL hs23.bel qc1
              have qr0_ := cellL hs23.bel qr0
              have qr1_ := cellL hs23.bel qr1
              go_upto_region 10 with fail
              clear p7 p8 qe0 qe1
              have hz_wC : wJ.heap.size + 1 ≤ ((wJ.alloc (.cells #[.slice aL L.length cL, .int .i64 R] 200))).heap.size := by simp
              generalize hgen_wC : (wJ.alloc (.cells #[.slice aL L.length cL, .int .i64 R] 200)) = wC at *
              clear hgen_wC
              have HBL := Lib.hid (Below.refl wC.heap.size wC)
              go_cut [11] from 52 to 57 (fun x11 wx => ∃ g gM : Nat, x11 = .pointer (some ⟨g, 0, none⟩) ∧ Hid (St w wx.heap.size wx [(w.heap.size, #[.int .i64 size, .slice (some ⟨br, orr, none⟩) rs.length ct0], 42), (w.heap.size + 1, #[.int .i64 V, .slice (some ⟨bc, oc, none⟩) cs.length cx], 46), (w.heap.size + 1 + 1, #[.int .i64 0, .int .i64 0, .slice none 0 0], 61), (w1.heap.size, #[.int .i64 size, .int .i64 V, .slice vb (sysAt (size, rs) V cs k sc E j).length vd], 61), (wK.heap.size, #[.int .i64 n, .slice asx sc.length csx], 150), (wJ.heap.size, #[.slice aL L.length cL, .int .i64 R], 200), (g, #[.slice (some ⟨gM, 0, none⟩) V V, .int .i64 R], 200)]) ∧ Hid (OwnSl [gM] wx (.slice (some ⟨gM, 0, none⟩) V V) (List.replicate V (0 : Int))) ∧ Hid (Below wC.heap.size wC wx ∧ g ≠ gM ∧ wC.heap.size ≤ g ∧ wC.heap.size ≤ gM ∧ g < wx.heap.size ∧ gM < wx.heap.size))
              case first =>
                refine wp_region_noPanic (wp_region_tree4 (fun w' => w'.cell? ⟨w.heap.size, 0, none⟩ = some (.int .i64 size) ∧ w'.cell? ⟨w.heap.size, 1, none⟩ = some (.slice (some ⟨br, orr, none⟩) rs.length ct0) ∧ w'.cell? ⟨w.heap.size + 1, 0, none⟩ = some (.int .i64 V) ∧ w'.cell? ⟨w.heap.size + 1, 1, none⟩ = some (.slice (some ⟨bc, oc, none⟩) cs.length cx) ∧ w'.cell? ⟨w.heap.size + 1 + 1, 0, none⟩ = some (.int .i64 0) ∧ w'.cell? ⟨w.heap.size + 1 + 1, 1, none⟩ = some (.int .i64 0) ∧ w'.cell? ⟨w.heap.size + 1 + 1, 2, none⟩ = some (.slice none 0 0) ∧ w'.cell? ⟨w1.heap.size, 0, none⟩ = some (.int .i64 size) ∧ w'.cell? ⟨w1.heap.size, 1, none⟩ = some (.int .i64 V) ∧ w'.cell? ⟨w1.heap.size, 2, none⟩ = some (.slice vb (sysAt (size, rs) V cs k sc E j).length vd) ∧ w'.cell? ⟨wK.heap.size, 0, none⟩ = some (.int .i64 n) ∧ w'.cell? ⟨wK.heap.size, 1, none⟩ = some (.slice asx sc.length csx) ∧ w'.cell? ⟨wJ.heap.size, 0, none⟩ = some (.slice aL L.length cL) ∧ w'.cell? ⟨wJ.heap.size, 1, none⟩ = some (.int .i64 R) ∧ w'.cell? ⟨bc, oc + k * 2, none⟩ = some (.int .i64 n) ∧ w'.cell? ⟨bc, oc + k * 2 + 1, none⟩ = some (.slice asx sc.length csx) ∧ w'.cell? ⟨br, orr + n * 2, none⟩ = some (.int .i64 ar) ∧ w'.cell? ⟨br, orr + n * 2 + 1, none⟩ = some (.slice arx tl.length crx)) (.float 0 (.float 1 (.float 3 (.float 4 (.fork2 2 (.float 5 (.hard 6 (.last 7 .nil))) 6 (.hard 2 (.float 5 (.last 7 .nil)))))))) (by kernel_rfl) (by kernel_rfl) (by kernel_rfl) rfl ?_ (fun _ _ _ _ _ h => h) ?_)
                · exact ⟨(hs23.drew).cellAt 0 rfl 0 rfl, (hs23.drew).cellAt 0 rfl 1 rfl, (hs23.drew).cellAt 1 rfl 0 rfl, (hs23.drew).cellAt 1 rfl 1 rfl, (hs23.drew).cellAt 2 rfl 0 rfl, (hs23.drew).cellAt 2 rfl 1 rfl, (hs23.drew).cellAt 2 rfl 2 rfl, (hs23.drew).cellAt 3 rfl 0 rfl, (hs23.drew).cellAt 3 rfl 1 rfl, (hs23.drew).cellAt 3 rfl 2 rfl, (hs23.drew).cellAt 4 rfl 0 rfl, (hs23.drew).cellAt 4 rfl 1 rfl, (hs23.drew).cellAt 5 rfl 0 rfl, (hs23.drew).cellAt 5 rfl 1 rfl, cellL (hs23.drew).bel qc0, cellL (hs23.drew).bel qc1, cellL (hs23.drew).bel qr0, cellL (hs23.drew).bel qr1⟩
                have hs27 := hs23.drew
                have HAC2_28 := Lib.hid (AccP.mono HAC2_24.out (belowD _))
                clear HAC2_24
                have HE2_29 := Lib.hid (Ip.mono HE2_25.out (belowD _))
                clear HE2_25
                have HLI_30 := Lib.hid (Ip.mono HLI_26.out (belowD _))
                clear HLI_26
                have HBL_31 := Lib.hid (HBL.out.trans (((belowD _)).mono HBL.out.size))
                clear HBL
                clear k0_0 k0_1 k1_0 k1_1 k2_0 k2_1 k2_2 k3_0 k3_1 k3_2 k4_0 k4_1 k5_0 k5_1 qc0_ qc1_ qr0_ qr1_
                have hz_wd32 : wC.heap.size ≤ (wC.drew).heap.size := by simp
                generalize hgen_wd32 : wC.drew = wd32 at *
                have HG_wd32 := Lib.hid hgen_wd32
                clear hgen_wd32
                (repeat (first | (apply t4_skip rfl (by rfl); try simp only [Act.put, sI, sZ, sS]) | (apply t4_float rfl (by rfl); (· (intro w' hS; go_simp <;> with_reducible rfl)); (try simp only [Act.put, sI, sZ, sS]))))
                refine t4_fork2 ?_ ?_
                · refine t4_hard rfl (by rfl) (fun K hK => ?_)
                  refine wp_make_rep _ _ _ 28 rfl E_ints (0 : Int) own0_int V (by omega) rfl rfl ?_
                  intro wM hownM hbM hzM
                  have HOM : Hid (OwnSl [wd32.heap.size] wM (.slice (some ⟨wd32.heap.size, 0, none⟩) V V) (List.replicate V (0 : Int))) := Lib.hid (by simpa using hownM)
                  have hgM : wd32.heap.size < wM.heap.size := by rw [hzM]; simp
                  clear hownM hzM
                  have hz_wM : wd32.heap.size ≤ wM.heap.size := by have h9 := hbM.size; (try simp at h9); omega
                  have hs33 := hs27.step hbM
                  have HAC2_34 := Lib.hid (AccP.mono HAC2_28.out hbM)
                  clear HAC2_28
                  have HE2_35 := Lib.hid (Ip.mono HE2_29.out hbM)
                  clear HE2_29
                  have HLI_36 := Lib.hid (Ip.mono HLI_30.out hbM)
                  clear HLI_30
                  have HBL_37 := Lib.hid (HBL_31.out.trans ((hbM).mono HBL_31.out.size))
                  clear HBL_31
                  refine hK _ _ ⟨⟨hs33.cellAt 0 rfl 0 rfl, hs33.cellAt 0 rfl 1 rfl, hs33.cellAt 1 rfl 0 rfl, hs33.cellAt 1 rfl 1 rfl, hs33.cellAt 2 rfl 0 rfl, hs33.cellAt 2 rfl 1 rfl, hs33.cellAt 2 rfl 2 rfl, hs33.cellAt 3 rfl 0 rfl, hs33.cellAt 3 rfl 1 rfl, hs33.cellAt 3 rfl 2 rfl, hs33.cellAt 4 rfl 0 rfl, hs33.cellAt 4 rfl 1 rfl, hs33.cellAt 5 rfl 0 rfl, hs33.cellAt 5 rfl 1 rfl, cellL hs33.bel qc0, cellL hs33.bel qc1, cellL hs33.bel qr0, cellL hs33.bel qr1⟩, ?_⟩
                  (repeat (first | (apply t4_skip rfl (by rfl); try simp only [Act.put, sI, sZ, sS]) | (apply t4_float rfl (by rfl); (· (intro w' hS; go_simp <;> with_reducible rfl)); (try simp only [Act.put, sI, sZ, sS]))))
                  refine t4_hard rfl (by rfl) (fun K hK => ?_)
                  go_wp2_with fail
                  have hs38 := hs33.alloc #[.slice none 0 0, .int .i64 0] 200 (n := wM.heap.size) (by simp)
                  have HAC2_39 := Lib.hid (AccP.mono HAC2_34.out (belowA _ (.cells #[.slice none 0 0, .int .i64 0] 200)))
                  clear HAC2_34
                  have HE2_40 := Lib.hid (Ip.mono HE2_35.out (belowA _ (.cells #[.slice none 0 0, .int .i64 0] 200)))
                  clear HE2_35
                  have HLI_41 := Lib.hid (Ip.mono HLI_36.out (belowA _ (.cells #[.slice none 0 0, .int .i64 0] 200)))
                  clear HLI_36
                  have HBL_42 := Lib.hid (HBL_37.out.trans (((belowA _ (.cells #[.slice none 0 0, .int .i64 0] 200))).mono HBL_37.out.size))
                  clear HBL_37
                  have HOM_43 := Lib.hid (ownSl_mono HOM.out (belowA _ (.cells #[.slice none 0 0, .int .i64 0] 200)))
                  clear HOM
                  have hz_wA : wM.heap.size + 1 ≤ ((wM.alloc (.cells #[.slice none 0 0, .int .i64 0] 200))).heap.size := by simp
                  generalize hgen_wA : (wM.alloc (.cells #[.slice none 0 0, .int .i64 0] 200)) = wA at *
                  clear hgen_wA
                  refine ⟨⟨hs38.cellAt 0 rfl 0 rfl, hs38.cellAt 0 rfl 1 rfl, hs38.cellAt 1 rfl 0 rfl, hs38.cellAt 1 rfl 1 rfl, hs38.cellAt 2 rfl 0 rfl, hs38.cellAt 2 rfl 1 rfl, hs38.cellAt 2 rfl 2 rfl, hs38.cellAt 3 rfl 0 rfl, hs38.cellAt 3 rfl 1 rfl, hs38.cellAt 3 rfl 2 rfl, hs38.cellAt 4 rfl 0 rfl, hs38.cellAt 4 rfl 1 rfl, hs38.cellAt 5 rfl 0 rfl, hs38.cellAt 5 rfl 1 rfl, cellL hs38.bel qc0, cellL hs38.bel qc1, cellL hs38.bel qr0, cellL hs38.bel qr1⟩, ?_⟩
                  (repeat (first | (apply t4_skip rfl (by rfl); try simp only [Act.put, sI, sZ, sS]) | (apply t4_float rfl (by rfl); (· (intro w' hS; go_simp <;> with_reducible rfl)); (try simp only [Act.put, sI, sZ, sS]))))
                  refine t4_last rfl (by rfl) (fun K hK => ?_)
                  have k0_0 := hs38.cellAt 0 rfl 0 rfl
                  have k0_1 := hs38.cellAt 0 rfl 1 rfl
                  have k1_0 := hs38.cellAt 1 rfl 0 rfl
                  have k1_1 := hs38.cellAt 1 rfl 1 rfl
                  have k2_0 := hs38.cellAt 2 rfl 0 rfl
                  have k2_1 := hs38.cellAt 2 rfl 1 rfl
                  have k2_2 := hs38.cellAt 2 rfl 2 rfl
                  have k3_0 := hs38.cellAt 3 rfl 0 rfl
                  have k3_1 := hs38.cellAt 3 rfl 1 rfl
                  have k3_2 := hs38.cellAt 3 rfl 2 rfl
                  have k4_0 := hs38.cellAt 4 rfl 0 rfl
                  have k4_1 := hs38.cellAt 4 rfl 1 rfl
                  have k5_0 := hs38.cellAt 5 rfl 0 rfl
                  have k5_1 := hs38.cellAt 5 rfl 1 rfl
                  have k6_0 := hs38.cellAt 6 rfl 0 rfl
                  have k6_1 := hs38.cellAt 6 rfl 1 rfl
                  have qc0_ := cellL hs38.bel qc0
                  have qc1_ := cellL hs38.bel qc1
                  have qr0_ := cellL hs38.bel qr0
                  have qr1_ := cellL hs38.bel qr1
                  have f0 := (hs38.freeAt 6 rfl 0)
                  have f1 := (hs38.freeAt 6 rfl 1)
                  have hgG := (hs38.box (wM.heap.size, #[.slice none 0 0, .int .i64 0], 200) (by simp)).2.1
                  simp only at hgG
                  have hq := (hs38.set (p := [_, _, _, _, _, _]) (by simp <;> omega) 0 (.slice (some ⟨wd32.heap.size, 0, none⟩) V V)).set (p := [_, _, _, _, _, _]) (by simp <;> omega) 1 (.int .i64 R)
                  go_wp2_with fail
                  refine t4_nil (NoPanic.normal ?_)
                  go_wp2_with fail
                  go_meet
                  case rel =>
                    have ho := ((OnlyAt.refl [wM.heap.size] wA).setCell (p := ⟨wM.heap.size, 0, none⟩) (by simp) (.slice (some ⟨wd32.heap.size, 0, none⟩) V V)).setCell (p := ⟨wM.heap.size, 1, none⟩) (by simp) (.int .i64 R)
                    refine ⟨wM.heap.size, wd32.heap.size, rfl, (hq.up hq.hi (Nat.le_refl _)).sub (fun x hx => ?_), ownSl_only HOM_43.out ho (fun k h1 h2 => by simp at h1 h2; omega), HBL_42.out.trans (ho.below (by simp; omega)), by omega, by omega, by omega, by rw [ho.size]; omega, by rw [ho.size]; omega⟩
                    simp only [List.mem_cons, List.not_mem_nil, or_false] at hx
                    rcases hx with rfl | rfl | rfl | rfl | rfl | rfl | rfl <;> simp
                · refine t4_hard rfl (by rfl) (fun K hK => ?_)
                  go_wp2_with fail
                  have hs44 := hs27.alloc #[.slice none 0 0, .int .i64 0] 200 (n := wd32.heap.size) (by simp)
                  have HAC2_45 := Lib.hid (AccP.mono HAC2_28.out (belowA _ (.cells #[.slice none 0 0, .int .i64 0] 200)))
                  clear HAC2_28
                  have HE2_46 := Lib.hid (Ip.mono HE2_29.out (belowA _ (.cells #[.slice none 0 0, .int .i64 0] 200)))
                  clear HE2_29
                  have HLI_47 := Lib.hid (Ip.mono HLI_30.out (belowA _ (.cells #[.slice none 0 0, .int .i64 0] 200)))
                  clear HLI_30
                  have HBL_48 := Lib.hid (HBL_31.out.trans (((belowA _ (.cells #[.slice none 0 0, .int .i64 0] 200))).mono HBL_31.out.size))
                  clear HBL_31
                  have hz_wA : wd32.heap.size + 1 ≤ ((wd32.alloc (.cells #[.slice none 0 0, .int .i64 0] 200))).heap.size := by simp
                  generalize hgen_wA : (wd32.alloc (.cells #[.slice none 0 0, .int .i64 0] 200)) = wA at *
                  clear hgen_wA
                  refine ⟨⟨hs44.cellAt 0 rfl 0 rfl, hs44.cellAt 0 rfl 1 rfl, hs44.cellAt 1 rfl 0 rfl, hs44.cellAt 1 rfl 1 rfl, hs44.cellAt 2 rfl 0 rfl, hs44.cellAt 2 rfl 1 rfl, hs44.cellAt 2 rfl 2 rfl, hs44.cellAt 3 rfl 0 rfl, hs44.cellAt 3 rfl 1 rfl, hs44.cellAt 3 rfl 2 rfl, hs44.cellAt 4 rfl 0 rfl, hs44.cellAt 4 rfl 1 rfl, hs44.cellAt 5 rfl 0 rfl, hs44.cellAt 5 rfl 1 rfl, cellL hs44.bel qc0, cellL hs44.bel qc1, cellL hs44.bel qr0, cellL hs44.bel qr1⟩, ?_⟩
                  (repeat (first | (apply t4_skip rfl (by rfl); try simp only [Act.put, sI, sZ, sS]) | (apply t4_float rfl (by rfl); (· (intro w' hS; go_simp <;> with_reducible rfl)); (try simp only [Act.put, sI, sZ, sS]))))
                  refine t4_hard rfl (by rfl) (fun K hK => ?_)
                  refine wp_make_rep _ _ _ 28 rfl E_ints (0 : Int) own0_int V (by omega) rfl rfl ?_
                  intro wM hownM hbM hzM
                  have HOM : Hid (OwnSl [wA.heap.size] wM (.slice (some ⟨wA.heap.size, 0, none⟩) V V) (List.replicate V (0 : Int))) := Lib.hid (by simpa using hownM)
                  have hgM : wA.heap.size < wM.heap.size := by rw [hzM]; simp
                  clear hownM hzM
                  have hz_wM : wA.heap.size ≤ wM.heap.size := by have h9 := hbM.size; (try simp at h9); omega
                  have hs49 := hs44.step hbM
                  have HAC2_50 := Lib.hid (AccP.mono HAC2_45.out hbM)
                  clear HAC2_45
                  have HE2_51 := Lib.hid (Ip.mono HE2_46.out hbM)
                  clear HE2_46
                  have HLI_52 := Lib.hid (Ip.mono HLI_47.out hbM)
                  clear HLI_47
                  have HBL_53 := Lib.hid (HBL_48.out.trans ((hbM).mono HBL_48.out.size))
                  clear HBL_48
                  refine hK _ _ ⟨⟨hs49.cellAt 0 rfl 0 rfl, hs49.cellAt 0 rfl 1 rfl, hs49.cellAt 1 rfl 0 rfl, hs49.cellAt 1 rfl 1 rfl, hs49.cellAt 2 rfl 0 rfl, hs49.cellAt 2 rfl 1 rfl, hs49.cellAt 2 rfl 2 rfl, hs49.cellAt 3 rfl 0 rfl, hs49.cellAt 3 rfl 1 rfl, hs49.cellAt 3 rfl 2 rfl, hs49.cellAt 4 rfl 0 rfl, hs49.cellAt 4 rfl 1 rfl, hs49.cellAt 5 rfl 0 rfl, hs49.cellAt 5 rfl 1 rfl, cellL hs49.bel qc0, cellL hs49.bel qc1, cellL hs49.bel qr0, cellL hs49.bel qr1⟩, ?_⟩
                  (repeat (first | (apply t4_skip rfl (by rfl); try simp only [Act.put, sI, sZ, sS]) | (apply t4_float rfl (by rfl); (· (intro w' hS; go_simp <;> with_reducible rfl)); (try simp only [Act.put, sI, sZ, sS]))))
                  refine t4_last rfl (by rfl) (fun K hK => ?_)
                  have k0_0 := hs49.cellAt 0 rfl 0 rfl
                  have k0_1 := hs49.cellAt 0 rfl 1 rfl
                  have k1_0 := hs49.cellAt 1 rfl 0 rfl
                  have k1_1 := hs49.cellAt 1 rfl 1 rfl
                  have k2_0 := hs49.cellAt 2 rfl 0 rfl
                  have k2_1 := hs49.cellAt 2 rfl 1 rfl
                  have k2_2 := hs49.cellAt 2 rfl 2 rfl
                  have k3_0 := hs49.cellAt 3 rfl 0 rfl
                  have k3_1 := hs49.cellAt 3 rfl 1 rfl
                  have k3_2 := hs49.cellAt 3 rfl 2 rfl
                  have k4_0 := hs49.cellAt 4 rfl 0 rfl
                  have k4_1 := hs49.cellAt 4 rfl 1 rfl
                  have k5_0 := hs49.cellAt 5 rfl 0 rfl
                  have k5_1 := hs49.cellAt 5 rfl 1 rfl
                  have k6_0 := hs49.cellAt 6 rfl 0 rfl
                  have k6_1 := hs49.cellAt 6 rfl 1 rfl
                  have qc0_ := cellL hs49.bel qc0
                  have qc1_ := cellL hs49.bel qc1
                  have qr0_ := cellL hs49.bel qr0
                  have qr1_ := cellL hs49.bel qr1
                  have f0 := (hs49.freeAt 6 rfl 0)
                  have f1 := (hs49.freeAt 6 rfl 1)
                  have hgG := (hs49.box (wd32.heap.size, #[.slice none 0 0, .int .i64 0], 200) (by simp)).2.1
                  simp only at hgG
                  have hq := (hs49.set (p := [_, _, _, _, _, _]) (by simp <;> omega) 0 (.slice (some ⟨wA.heap.size, 0, none⟩) V V)).set (p := [_, _, _, _, _, _]) (by simp <;> omega) 1 (.int .i64 R)
                  go_wp2_with fail
                  refine t4_nil (NoPanic.normal ?_)
                  go_wp2_with fail
                  go_meet
                  case rel =>
                    have ho := ((OnlyAt.refl [wd32.heap.size] wM).setCell (p := ⟨wd32.heap.size, 0, none⟩) (by simp) (.slice (some ⟨wA.heap.size, 0, none⟩) V V)).setCell (p := ⟨wd32.heap.size, 1, none⟩) (by simp) (.int .i64 R)
                    refine ⟨wd32.heap.size, wA.heap.size, rfl, (hq.up hq.hi (Nat.le_refl _)).sub (fun x hx => ?_), ownSl_only HOM.out ho (fun k h1 h2 => by simp at h1 h2; omega), HBL_53.out.trans (ho.below (by simp; omega)), by omega, by omega, by omega, by rw [ho.size]; omega, by rw [ho.size]; omega⟩
                    simp only [List.mem_cons, List.not_mem_nil, or_false] at hx
                    rcases hx with rfl | rfl | rfl | rfl | rfl | rfl | rfl <;> simp
              case rest =>
                obtain ⟨g, gM, rfl, hstC, howC, hxC⟩ := hcut
                obtain ⟨hbC, hgne, hg1, hg2, hg3, hg4⟩ := hxC.out
                have hzC := hbC.size
                have HA3 := Lib.hid ((HAC2_24.out).mono hbC)
                have HE3 := Lib.hid ((HE2_25.out).mono hbC)
                have HL3 := Lib.hid ((HLI_26.out).mono hbC)
                clear HAC2_24
                clear HE2_25
                clear HLI_26
                clear HBL
                have k0_0 := hstC.out.cellAt 0 rfl 0 rfl
                have k0_1 := hstC.out.cellAt 0 rfl 1 rfl
                have k1_0 := hstC.out.cellAt 1 rfl 0 rfl
                have k1_1 := hstC.out.cellAt 1 rfl 1 rfl
                have k2_0 := hstC.out.cellAt 2 rfl 0 rfl
                have k2_1 := hstC.out.cellAt 2 rfl 1 rfl
                have k2_2 := hstC.out.cellAt 2 rfl 2 rfl
                have k3_0 := hstC.out.cellAt 3 rfl 0 rfl
                have k3_1 := hstC.out.cellAt 3 rfl 1 rfl
                have k3_2 := hstC.out.cellAt 3 rfl 2 rfl
                have k4_0 := hstC.out.cellAt 4 rfl 0 rfl
                have k4_1 := hstC.out.cellAt 4 rfl 1 rfl
                have k5_0 := hstC.out.cellAt 5 rfl 0 rfl
                have k5_1 := hstC.out.cellAt 5 rfl 1 rfl
                have k6_0 := hstC.out.cellAt 6 rfl 0 rfl
                have k6_1 := hstC.out.cellAt 6 rfl 1 rfl
                have qc0_ := cellL hstC.out.bel qc0
                have qc1_ := cellL hstC.out.bel qc1
                have qr0_ := cellL hstC.out.bel qr0
                have qr1_ := cellL hstC.out.bel qr1
                have HS3 := Lib.hid (show OwnSl [gM] wc (.slice (some ⟨gM, 0, none⟩) V V) (spreadTo size V sc L 0) from howC.out)
                clear hbC
                go_wp2_with fail
                go_loopw [61] (fun iv wl => ∃ i : Nat, i ≤ sc.length ∧ iv = .int .i64 i ∧ Hid (But [gM] wc wl) ∧ Hid (OwnSl [gM] wl (.slice (some ⟨gM, 0, none⟩) V V) (spreadTo size V sc L i))) (fun iv _ => sc.length - (intOf iv).toNat)
                case atStart => exact ⟨0, Nat.zero_le _, rfl, But.refl _ _, HS3.out⟩
                case round =>
                  clear HS3 howC
                  obtain ⟨i, hi, rfl, hbut, how⟩ := hrel
                  have hzT := hbut.out.size
                  have hs6 := hstC.out.butIv hbut.out (fun k hk => by simp at hk; omega) (fun x hx => by simp only [List.mem_cons, List.not_mem_nil, or_false] at hx ⊢; rcases hx with rfl | rfl | rfl | rfl | rfl | rfl | rfl <;> (try simp only) <;> omega)
                  have hbP := hbut.out.butP (A := fun z => z = gM) (fun k hk => by simpa using hk)
                  have k0_0 := hs6.cellAt 0 rfl 0 rfl
                  have k0_1 := hs6.cellAt 0 rfl 1 rfl
                  have k1_0 := hs6.cellAt 1 rfl 0 rfl
                  have k1_1 := hs6.cellAt 1 rfl 1 rfl
                  have k2_0 := hs6.cellAt 2 rfl 0 rfl
                  have k2_1 := hs6.cellAt 2 rfl 1 rfl
                  have k2_2 := hs6.cellAt 2 rfl 2 rfl
                  have k3_0 := hs6.cellAt 3 rfl 0 rfl
                  have k3_1 := hs6.cellAt 3 rfl 1 rfl
                  have k3_2 := hs6.cellAt 3 rfl 2 rfl
                  have k4_0 := hs6.cellAt 4 rfl 0 rfl
                  have k4_1 := hs6.cellAt 4 rfl 1 rfl
                  have k5_0 := hs6.cellAt 5 rfl 0 rfl
                  have k5_1 := hs6.cellAt 5 rfl 1 rfl
                  have k6_0 := hs6.cellAt 6 rfl 0 rfl
                  have k6_1 := hs6.cellAt 6 rfl 1 rfl
                  have qc0_ := cellL hs6.bel qc0
                  have qc1_ := cellL hs6.bel qc1
                  have qr0_ := cellL hs6.bel qr0
                  have qr1_ := cellL hs6.bel qr1
                  by_cases hlt3 : i < sc.length
                  · have hiI : (i : Int) < sc.length := by omega
                    have hscl := HSV.out.1
                    have hLl : L.length = ar.toNat := HGD.out.1
                    have hiL : i < L.length := by omega
                    have hiLI : (i : Int) < L.length := by omega
                    have hsb : sc.length ≤ 4 := by omega
                    clear hscl hLl
                    have hLR := Lib.hid (HL3.out.butP hbP (fun k h1 h2 => by (try simp only at h1 h2); omega)).rd
                    obtain ⟨bS, oS, eS, qS, _⟩ := rd_int_at ((Rd.mono HSC.out hs6.bel)) i hlt3
                    subst eS
                    obtain ⟨bL, oL, eL, qL, _⟩ := rd_int_at hLR.out i hiL
                    subst eL
                    have hv := HSV.out.2 i hlt3
                    have hA := HGD.out.2.1.get i hiL
                    have hSD : sc.getD i 0 = sc[i] := by rw [List.getD, List.getElem?_eq_getElem hlt3]; rfl
                    have hLD : L.getD i 0 = L[i] := by rw [List.getD, List.getElem?_eq_getElem hiL]; rfl
                    have hss : spreadTo size V sc L (i + 1) = (spreadTo size V sc L i).set (sc.getD i 0).toNat (((spreadTo size V sc L i).getD (sc.getD i 0).toNat 0 + L.getD i 0) % size) := rfl
                    rw [hSD, hLD] at hss
                    obtain ⟨vn, hvn⟩ : ∃ vn : Nat, sc[i] = (vn : Int) := ⟨sc[i].toNat, by omega⟩
                    rw [hvn] at hss qS hv
                    rw [Int.toNat_natCast] at hss
                    generalize L[i] = A at *
                    have hvV : vn < (spreadTo size V sc L i).length := by rw [spreadTo_len]; omega
                    have hvI : (vn : Int) < V := by omega
                    obtain ⟨g', o', c', hv', hps, hcd, hf0, _⟩ := ownSl_int how.out vn hvV
                    simp only [Value.slice.injEq, Option.some.injEq, Addr.mk.injEq] at hv'
                    obtain ⟨⟨rfl, rfl, -⟩, -, rfl⟩ := hv'
                    have hO := (spreadTo_res (show 0 < size by omega) V sc L i).get vn hvV
                    have hOD : (spreadTo size V sc L i).getD vn 0 = (spreadTo size V sc L i)[vn] := by rw [List.getD, List.getElem?_eq_getElem hvV]; rfl
                    rw [hOD] at hss hcd
                    have HSS := Lib.hid hss
                    generalize (spreadTo size V sc L i)[vn] = OLD at *
                    rw [Nat.zero_add] at hcd hf0
                    have hw1 : IntKind.i64.wrap (OLD + A) = OLD + A := i64_in _ (by omega)
                    have hT : (OLD + A).tmod size = (OLD + A) % size := Int.tmod_eq_emod_of_nonneg (by omega)
                    have hm0 := Int.emod_nonneg (OLD + A) (show size ≠ 0 by omega)
                    have hm1 := Int.emod_lt_of_pos (OLD + A) (show 0 < size by omega)
                    have hp1 : size ≠ 0 := by omega
                    have hw2 : IntKind.i64.wrap ((OLD + A) % size) = (OLD + A) % size := i64_in _ (by omega)
                    have HNI := Lib.hid (show I64 ((OLD + A) % size) from i64_of _ (by omega) (by omega))
                    have HOW := how
                    clear hss hSD hLD hOD hO hps how
                    go_upto_region 14 with fail
                    refine wp_region_noPanic (wp_region_tree4 (fun w' => w'.cell? ⟨w.heap.size, 0, none⟩ = some (.int .i64 size) ∧ w'.cell? ⟨w.heap.size, 1, none⟩ = some (.slice (some ⟨br, orr, none⟩) rs.length ct0) ∧ w'.cell? ⟨w.heap.size + 1, 0, none⟩ = some (.int .i64 V) ∧ w'.cell? ⟨w.heap.size + 1, 1, none⟩ = some (.slice (some ⟨bc, oc, none⟩) cs.length cx) ∧ w'.cell? ⟨w.heap.size + 1 + 1, 0, none⟩ = some (.int .i64 0) ∧ w'.cell? ⟨w.heap.size + 1 + 1, 1, none⟩ = some (.int .i64 0) ∧ w'.cell? ⟨w.heap.size + 1 + 1, 2, none⟩ = some (.slice none 0 0) ∧ w'.cell? ⟨w1.heap.size, 0, none⟩ = some (.int .i64 size) ∧ w'.cell? ⟨w1.heap.size, 1, none⟩ = some (.int .i64 V) ∧ w'.cell? ⟨w1.heap.size, 2, none⟩ = some (.slice vb (sysAt (size, rs) V cs k sc E j).length vd) ∧ w'.cell? ⟨wK.heap.size, 0, none⟩ = some (.int .i64 n) ∧ w'.cell? ⟨wK.heap.size, 1, none⟩ = some (.slice (some ⟨bS, oS, none⟩) sc.length csx) ∧ w'.cell? ⟨wJ.heap.size, 0, none⟩ = some (.slice (some ⟨bL, oL, none⟩) L.length cL) ∧ w'.cell? ⟨wJ.heap.size, 1, none⟩ = some (.int .i64 R) ∧ w'.cell? ⟨g, 0, none⟩ = some (.slice (some ⟨gM, 0, none⟩) V V) ∧ w'.cell? ⟨g, 1, none⟩ = some (.int .i64 R) ∧ w'.cell? ⟨bc, oc + k * 2, none⟩ = some (.int .i64 n) ∧ w'.cell? ⟨bc, oc + k * 2 + 1, none⟩ = some (.slice (some ⟨bS, oS, none⟩) sc.length csx) ∧ w'.cell? ⟨br, orr + n * 2, none⟩ = some (.int .i64 ar) ∧ w'.cell? ⟨br, orr + n * 2 + 1, none⟩ = some (.slice arx tl.length crx) ∧ w'.cell? ⟨bS, oS + i, none⟩ = some (.int .i64 vn) ∧ w'.cell? ⟨bL, oL + i, none⟩ = some (.int .i64 A) ∧ w'.cell? ⟨gM, vn, none⟩ = some (.int .i64 OLD)) (.float 0 (.float 1 (.float 2 (.float 3 (.float 4 (.float 5 (.float 6 (.float 7 (.float 8 (.float 9 (.float 10 (.float 11 (.float 12 (.float 13 (.float 14 (.float 15 (.float 16 (.float 17 (.last 18 .nil))))))))))))))))))) (by kernel_rfl) (by kernel_rfl) (by kernel_rfl) rfl ?_ (fun _ _ _ _ _ h => h) ?_)
                    · exact ⟨(hs6.drew).cellAt 0 rfl 0 rfl, (hs6.drew).cellAt 0 rfl 1 rfl, (hs6.drew).cellAt 1 rfl 0 rfl, (hs6.drew).cellAt 1 rfl 1 rfl, (hs6.drew).cellAt 2 rfl 0 rfl, (hs6.drew).cellAt 2 rfl 1 rfl, (hs6.drew).cellAt 2 rfl 2 rfl, (hs6.drew).cellAt 3 rfl 0 rfl, (hs6.drew).cellAt 3 rfl 1 rfl, (hs6.drew).cellAt 3 rfl 2 rfl, (hs6.drew).cellAt 4 rfl 0 rfl, (hs6.drew).cellAt 4 rfl 1 rfl, (hs6.drew).cellAt 5 rfl 0 rfl, (hs6.drew).cellAt 5 rfl 1 rfl, (hs6.drew).cellAt 6 rfl 0 rfl, (hs6.drew).cellAt 6 rfl 1 rfl, cellL (hs6.drew).bel qc0, cellL (hs6.drew).bel qc1, cellL (hs6.drew).bel qr0, cellL (hs6.drew).bel qr1, cellL (belowD _) qS, cellL (belowD _) qL, cellL (belowD _) hcd⟩
                    have hs54 := hs6.drew
                    have qS_55 := cellL (belowD _) qS
                    clear qS
                    have qL_56 := cellL (belowD _) qL
                    clear qL
                    have hcd_57 := cellL (belowD _) hcd
                    clear hcd
                    have HOW_58 := Lib.hid (ownSl_mono HOW.out (belowD _))
                    clear HOW
                    clear k0_0 k0_1 k1_0 k1_1 k2_0 k2_1 k2_2 k3_0 k3_1 k3_2 k4_0 k4_1 k5_0 k5_1 k6_0 k6_1 qc0_ qc1_ qr0_ qr1_
                    have hz_wd59 : wr.heap.size ≤ (wr.drew).heap.size := by simp
                    generalize hgen_wd59 : wr.drew = wd59 at *
                    have HG_wd59 := Lib.hid hgen_wd59
                    clear hgen_wd59
                    (repeat (first | (apply t4_skip rfl (by rfl); try simp only [Act.put, sI, sZ, sS]) | (apply t4_float rfl (by rfl); (· (intro w' hS; go_simp <;> with_reducible rfl)); (try simp only [Act.put, sI, sZ, sS]))))
                    refine t4_last rfl (by rfl) (fun K hK => ?_)
                    have k0_0 := hs54.cellAt 0 rfl 0 rfl
                    have k0_1 := hs54.cellAt 0 rfl 1 rfl
                    have k1_0 := hs54.cellAt 1 rfl 0 rfl
                    have k1_1 := hs54.cellAt 1 rfl 1 rfl
                    have k2_0 := hs54.cellAt 2 rfl 0 rfl
                    have k2_1 := hs54.cellAt 2 rfl 1 rfl
                    have k2_2 := hs54.cellAt 2 rfl 2 rfl
                    have k3_0 := hs54.cellAt 3 rfl 0 rfl
                    have k3_1 := hs54.cellAt 3 rfl 1 rfl
                    have k3_2 := hs54.cellAt 3 rfl 2 rfl
                    have k4_0 := hs54.cellAt 4 rfl 0 rfl
                    have k4_1 := hs54.cellAt 4 rfl 1 rfl
                    have k5_0 := hs54.cellAt 5 rfl 0 rfl
                    have k5_1 := hs54.cellAt 5 rfl 1 rfl
                    have k6_0 := hs54.cellAt 6 rfl 0 rfl
                    have k6_1 := hs54.cellAt 6 rfl 1 rfl
                    have qc0_ := cellL hs54.bel qc0
                    have qc1_ := cellL hs54.bel qc1
                    have qr0_ := cellL hs54.bel qr0
                    have qr1_ := cellL hs54.bel qr1
                    clear k0_0 k0_1 k1_0 k1_1 k2_0 k2_1 k2_2 k3_0 k3_1 k3_2 k4_0 k4_1 k5_0 k5_1 k6_0 k6_1 qc0_ qc1_ qr0_ qr1_
                    have k0_0 := hs54.cellAt 0 rfl 0 rfl
                    have k0_1 := hs54.cellAt 0 rfl 1 rfl
                    have k1_0 := hs54.cellAt 1 rfl 0 rfl
                    have k1_1 := hs54.cellAt 1 rfl 1 rfl
                    have k2_0 := hs54.cellAt 2 rfl 0 rfl
                    have k2_1 := hs54.cellAt 2 rfl 1 rfl
                    have k2_2 := hs54.cellAt 2 rfl 2 rfl
                    have k3_0 := hs54.cellAt 3 rfl 0 rfl
                    have k3_1 := hs54.cellAt 3 rfl 1 rfl
                    have k3_2 := hs54.cellAt 3 rfl 2 rfl
                    have k4_0 := hs54.cellAt 4 rfl 0 rfl
                    have k4_1 := hs54.cellAt 4 rfl 1 rfl
                    have k5_0 := hs54.cellAt 5 rfl 0 rfl
                    have k5_1 := hs54.cellAt 5 rfl 1 rfl
                    have k6_0 := hs54.cellAt 6 rfl 0 rfl
                    have k6_1 := hs54.cellAt 6 rfl 1 rfl
                    have qc0_ := cellL hs54.bel qc0
                    have qc1_ := cellL hs54.bel qc1
                    have qr0_ := cellL hs54.bel qr0
                    have qr1_ := cellL hs54.bel qr1
                    obtain ⟨g', o', c', hv', hps, hcd2, hf2, hset⟩ := ownSl_int (HOW_58.out) vn hvV
                    simp only [Value.slice.injEq, Option.some.injEq, Addr.mk.injEq] at hv'
                    obtain ⟨⟨rfl, rfl, -⟩, -, rfl⟩ := hv'
                    have h9 := hset ((OLD + A) % size) HNI.out
                    rw [Nat.zero_add] at h9 hf2
                    rw [← HSS.out] at h9
                    have H9 := Lib.hid h9
                    have HBD := Lib.hid (show But [gM] wc wd59 from by rw [← HG_wd59.out]; exact hbut.out.trans (but_of (belowD _)))
                    clear h9 hset hcd2 hps hf0
                    go_wp2_with fail
                    refine t4_nil (NoPanic.normal ?_)
                    go_wp2_with fail
                    go_roundw
                    case rel => exact ⟨i + 1, hlt3, by go_num, HBD.out.trans ((OnlyAt.refl [gM] wd59).setCell (p := ⟨gM, vn, none⟩) (by simp) _).but, H9.out⟩
                    case measure => simp [intOf]; omega
                  · obtain rfl : i = sc.length := by omega
                    have hnl : ¬ ((sc.length : Int) < sc.length) := by omega
                    have HA4 := Lib.hid (HA3.out.butP hbP (fun k h1 h2 => by (try simp only at h1 h2); omega))
                    have HE4 := Lib.hid (HE3.out.butP hbP (fun k h1 h2 => by (try simp only at h1 h2); omega))
                    have HKE := Lib.hid (show Ip (fun z => z = gM) wr [.slice (some ⟨gM, 0, none⟩) V V, .int .i64 R] ((spreadTo size V sc L sc.length, R) : Eqn) from ip_cons (A := fun z => z = gM) (B := fun _ => False) ⟨[gM], ⟨_, rfl, how.out⟩, by simp, fun k hk => by simpa using hk⟩ ⟨[], ⟨rfl, rfl, hIR⟩, by simp, by simp⟩ (fun k _ h => h) (fun k h => h) (fun k h => h.elim))
                    have q9 := (hs6.cellAt 6 rfl 0 rfl)
                    have q10 := (hs6.cellAt 6 rfl 1 rfl)
                    have q11 := (hs6.cellAt 3 rfl 2 rfl)
                    have hs60 := hs6.low (B' := wK.heap.size + 1) (bx' := [(w.heap.size, #[.int .i64 size, .slice (some ⟨br, orr, none⟩) rs.length ct0], 42), (w.heap.size + 1, #[.int .i64 V, .slice (some ⟨bc, oc, none⟩) cs.length cx], 46), (w.heap.size + 1 + 1, #[.int .i64 0, .int .i64 0, .slice none 0 0], 61), (w1.heap.size, #[.int .i64 size, .int .i64 V, .slice vb (sysAt (size, rs) V cs k sc E j).length vd], 61), (wK.heap.size, #[.int .i64 n, .slice asx sc.length csx], 150)]) (by omega) (by (try simp) <;> omega) (fun x hx => by simp only [List.mem_cons, List.not_mem_nil, or_false] at hx; rcases hx with rfl | rfl | rfl | rfl | rfl <;> (refine ⟨?_, ?_⟩ <;> (try simp) <;> (try omega)))
                    have hb9 := belowA wr (.cells #[.slice (some ⟨gM, 0, none⟩) V V, .int .i64 R] 200)
                    have HS9 := Lib.hid (hs60.step hb9)
                    have HTK2 := HTK
                    clear hbP
                    go_wp2_with (at_builtin; refine wpList_append_accP _ rfl _ _ _ rfl E_eqns rfl (AccP.mono HA4.out (belowA _ _)) (Ip.mono HKE.out (belowA _ _)) (fun z h1 h2 => by (try simp only at h1 h2); omega) ⟨wr.heap.size, 0, none⟩ 1 rfl (news2 (cell_at_block (heap_alloc_new _ _)) (cell_at_block (heap_alloc_new _ _))) (by omega) ?_; intro a7 c7 w7 hA7 hB7; have hs8 := HS9.out.butP hB7 (fun z hz => by have := hz.1; omega) (fun x hx hA => by have h1 := hA.1; have h2 := hA.2.1; have h3 := hA.2.2; simp only [List.mem_cons, List.not_mem_nil, or_false] at hx; rcases hx with rfl | rfl | rfl | rfl | rfl <;> (try simp only at h1 h2 h3) <;> omega); have q2 := hs8.cellAt 3 rfl 2 rfl; have f2 := hs8.freeAt 3 rfl 2)
                    have hz7 := hB7.size
                    have hz9 : wr.heap.size < w7.heap.size := by (try simp at hz7); omega
                    have HA8 := Lib.hid ((AccP.setCell (b := w1.heap.size) (o := 2) hA7.tight (.slice a7 ((sysAt (size, rs) V cs k sc E j).length + 1) c7) (by intro hA9; (try simp at hA9); omega)).wk (C := fun z => w1.heap.size + 1 ≤ z ∧ z ≠ wK.heap.size ∧ (z < wK.heap.size ∨ wB.heap.size ≤ z) ∧ z < w7.heap.size) (fun z hz => by
                      have h2 := hz.2
                      rcases hz.1 with h | h | h
                      · (try simp only at h); omega
                      · (try simp only at h); omega
                      · simp at h; omega))
                    have HE8 := Lib.hid (Ip.setCell (b := w1.heap.size) (o := 2) ((HE4.out.mono hb9).butP hB7 (fun k h1 h2 => by (try simp only at h1 h2); omega)) (.slice a7 ((sysAt (size, rs) V cs k sc E j).length + 1) c7) (by intro hA9; (try simp only at hA9); omega))
                    have HQ8 := Lib.hid (hs8.set (p := [_, _, _]) (by simp <;> omega) 2 (.slice a7 ((sysAt (size, rs) V cs k sc E j).length + 1) c7))
                    have HSZ := Lib.hid (show (w7.setCell ⟨w1.heap.size, 2, none⟩ (.slice a7 ((sysAt (size, rs) V cs k sc E j).length + 1) c7)).heap.size = w7.heap.size by simp [World.setCell])
                    go_wp2_with fail
                    go_roundw
                    case measure => simp [intOf]; omega
                    refine ⟨j + 1, a7, c7, hlt2, by go_num, ?_, ?_, ?_, HE8.out⟩
                    · rw [HTK2.out, List.length_append]; exact HQ8.out
                    · show _ ≤ _; rw [HSZ.out]; omega
                    · rw [HTK2.out, List.length_append]; exact HA8.out.wk (fun z hz => by rw [HSZ.out]; exact hz)
            · have hje : j = E.length := by omega
              have hnj : ¬ ((j : Int) < E.length) := by omega
              have HAL := Lib.hid (show sysAt (size, rs) V cs k sc E j = sysTo (size, rs) V cs (k + 1) by rw [hje, HSU.out, sysAt_all])
              clear hje
              have hac3 := hac2
              have hs61 := hs4.low (B' := w1.heap.size + 1) (bx' := [(w.heap.size, #[.int .i64 size, .slice (some ⟨br, orr, none⟩) rs.length ct0], 42), (w.heap.size + 1, #[.int .i64 V, .slice (some ⟨bc, oc, none⟩) cs.length cx], 46), (w.heap.size + 1 + 1, #[.int .i64 0, .int .i64 0, .slice none 0 0], 61), (w1.heap.size, #[.int .i64 size, .int .i64 V, .slice vb (sysAt (size, rs) V cs k sc E j).length vd], 61)]) (by omega) (by (try simp) <;> omega) (fun x hx => by simp only [List.mem_cons, List.not_mem_nil, or_false] at hx; rcases hx with rfl | rfl | rfl | rfl <;> (refine ⟨?_, ?_⟩ <;> (try simp) <;> (try omega)))
              go_wp2_with fail
              go_roundw
              case rel =>
                refine ⟨k + 1, vb, vd, hlt, by go_num, ?_, ?_⟩
                · rw [← HAL.out]; exact hs61
                · rw [← HAL.out]; exact hac3.out.wk (fun z hz => ⟨hz.1, hz.2.2.2⟩)
              case measure => simp [intOf]; omega
        · have hke : k = cs.length := by omega
          have hnk : ¬ ((k : Int) < cs.length) := by omega
          have hIs : I64 size := i64_of _ (by omega) (by omega)
          have hIV : I64 (V : Int) := i64_of _ (by omega) (by omega)
          rw [← hke] at H1
          clear hke
          by_cases h24 : 24 < (sysTo (size, rs) V cs k).length
          · have h24I : (24 : Int) < (sysTo (size, rs) V cs k).length := by omega
            have H2 := Lib.hid (show sysF (size, rs) ((V : Int), cs) = ((0, 0, []), 3) by rw [H1.out, if_pos h24])
            clear h24
            have f2_0 := hs2.freeAt 2 rfl 0
            have f2_1 := hs2.freeAt 2 rfl 1
            have f2_2 := hs2.freeAt 2 rfl 2
            go_wp2_with fail
            have hs62 := hs2.set (p := [_, _]) (by simp <;> omega) 0 (.int .i64 0)
            have hs63 := hs62.set (p := [_, _]) (by simp <;> omega) 1 (.int .i64 0)
            have hs64 := hs63.set (p := [_, _]) (by simp <;> omega) 2 (.slice none 0 0)
            have x0 := (hs64.cellAt 2 rfl 0 rfl)
            have x1 := (hs64.cellAt 2 rfl 1 rfl)
            have x2 := (hs64.cellAt 2 rfl 2 rfl)
            refine bodyPost_ret (v := .tuple #[.agg #[.int .i64 0, .int .i64 0, .slice none 0 0], .int .i64 3]) (by simp [results, Tryz.results82, go_sem, x0, x1, x2]) rfl ⟨_, _, _, by rw [H2.out], ?_, hs64.bel⟩
            rw [H2.out]; exact ⟨[], own0_sys, by simp, by simp⟩
          · have h24I : ¬ ((24 : Int) < (sysTo (size, rs) V cs k).length) := by omega
            have H2 := Lib.hid (show sysF (size, rs) ((V : Int), cs) = ((size, (V : Int), sysTo (size, rs) V cs k), 0) by rw [H1.out, if_neg h24])
            have HFR := Lib.hid (fresh_sys (lo := w1.heap.size + 1) hIs hIV (hac.out.wk (fun z hz => hz.1)))
            clear h24
            have f2_0 := hs2.freeAt 2 rfl 0
            have f2_1 := hs2.freeAt 2 rfl 1
            have f2_2 := hs2.freeAt 2 rfl 2
            go_wp2_with fail
            have hs65 := hs2.set (p := [_, _]) (by simp <;> omega) 0 (.int .i64 size)
            have hs66 := hs65.set (p := [_, _]) (by simp <;> omega) 1 (.int .i64 V)
            have hs67 := hs66.set (p := [_, _]) (by simp <;> omega) 2 (.slice va (sysTo (size, rs) V cs k).length vc)
            have x0 := (hs67.cellAt 2 rfl 0 rfl)
            have x1 := (hs67.cellAt 2 rfl 1 rfl)
            have x2 := (hs67.cellAt 2 rfl 2 rfl)
            refine bodyPost_ret (v := .tuple #[.agg #[.int .i64 size, .int .i64 V, .slice va (sysTo (size, rs) V cs k).length vc], .int .i64 0]) (by simp [results, Tryz.results82, go_sem, x0, x1, x2]) rfl ⟨_, _, _, by rw [H2.out], ?_, hs67.bel⟩
            rw [H2.out]
            exact (((HFR.out.setCell (a := ⟨w.heap.size + 1 + 1, 0, none⟩) (by (try simp) <;> omega) _).setCell (a := ⟨w.heap.size + 1 + 1, 1, none⟩) (by (try simp) <;> omega) _).setCell (a := ⟨w.heap.size + 1 + 1, 2, none⟩) (by (try simp) <;> omega) _).lower (by omega)
end Go.Proofs.YtoblfnoaepbhfaaGreat

