/- verify.handed; helper.Args and helper.Fits by their contracts. verify's call. verify's help. -/
import Derived.Test.YtebdnobgdimdoaaGreatGI
import Derived.Test.YtebdnobgdimdoaaGreatGV
set_option linter.unusedVariables false
set_option linter.unusedSimpArgs false
namespace Go.Proofs.YtebdnobgdimdoaaGreat
open Go.RowKit Go.MapKept
theorem vHanded_succ (s : ShD) (j : Nat) : vHanded s (j + 1) = (vHanded s j && (shGet s ((j : Int) + 1)).isSome) := by
  unfold vHanded
  rw [List.range_succ, List.all_append]
  simp
set_option maxHeartbeats 4000000 in
set_option maxRecDepth 100000 in
theorem handed_any (v : VE) (N : Nat) (W : World) (k : Nat) (safe : Bool) (ins : InsD) (h : Wk v N W k safe ins) (hk : k < ins.length) (s : ShD) (hsk : Hid (sh0 ins[k] = s)) (many : Nat) (hm : many ≤ 4) :
    Calls Tryz.prog 133 #[.pointer (some ⟨v.g, 0, none⟩), .int .i64 many] W fun e w' => e = .returned (.tuple #[]) ∧ Wk v N w' k (safe && vHanded s many) ins ∧ Fr v N W w' := by
  have H := Lib.hid h
  have F0 := Lib.hid (Fr.refl v N W)
  clear h
  go_enter Tryz.func133, Tryz.ntmps133
  go_wp2_with fail
  go_loopw [6] (fun kv wr => ∃ j : Nat, kv = .int .i64 j ∧ j ≤ many ∧ Hid (Wk v N wr k (safe && vHanded s j) ins) ∧ Hid (Fr v N W wr)) (fun kv _ => many - (intOf kv).toNat)
  case atStart => exact ⟨0, rfl, Nat.zero_le _, by simpa [vHanded] using H, F0⟩
  case round =>
    clear H F0
    obtain ⟨j, rfl, hjm, H, HF⟩ := hrel
    by_cases hje : j = many
    · subst hje
      go_wp2_with fail
      go_end0
      exact ⟨rfl, H.out, HF.out⟩
    · have hj1 : j < many := by omega
      have hj2 : (j : Int) < many := by omega
      have j0 : 0 ≤ (j : Int) := by omega
      have ej : IntKind.i64.wrap ((j : Int) + 1) = (j : Int) + 1 := wrap_i64 (by omega) (by omega)
      obtain ⟨o, ho⟩ : ∃ o, Hid (shGet s ((j : Int) + 1) = o) := ⟨_, Lib.hid rfl⟩
      go_wp2_with fail
      refine (wget_any v N _ k _ ins H.out hk s hsk ((j : Int) + 1) o ho).mono ?_
      rintro e w1 ⟨rfl, hw1, hf1⟩
      have H1 := Lib.hid hw1
      have F1 := Lib.hid (HF.out.trans hf1)
      have HY : Hid (vHanded s (j + 1) = (vHanded s j && o.isSome)) := Lib.hid (by rw [vHanded_succ, ho.out])
      clear hw1 hf1 hje
      go_wp2_with fail
      go_roundw
      case rel => exact ⟨j + 1, by simp, by omega, Lib.hid (by rw [HY.out, ← Bool.and_assoc]; exact H1.out), F1⟩
      case measure => simp [intOf]; omega
theorem minsert (w : World) (E : Array MapEntry) (n : Nat) (a b : Int) (hf : Instr.findNow (.int .i64) (.int .i64 a) E.toList 0 = some none) : (Instr.mapUpdate 202 (.map (some w.heap.size)) (.int .i64 a) (.int .i64 b)).run Tryz.prog (w.alloc (.map E n)) = .ok () (w.alloc (.map (E.push { key := .int .i64 a, val := .int .i64 b, born := n }) (n + 1))) := by
  have hb : (w.alloc (.map E n)).heap[w.heap.size]? = some (.map E n) := (heap_alloc w _).1
  unfold Instr.mapUpdate
  simp only [Sem.run_bind, Sem.run_pure, Result.andThen_ok, run_underlying Tryz.underlying202, Go.MapKept.run_getObj_map hb, kcheckKey, run_findKey Tryz.underlying3 hf, run_setObj_map _ hb, kalloc_set]
theorem mlook_some {w : World} {b : Nat} {E : Array MapEntry} {n : Nat} (hb : w.heap[b]? = some (.map E n)) (a : Int) (r : Nat × Value) (hr : Instr.findNow (.int .i64) (.int .i64 a) E.toList 0 = some (some r)) : (Instr.lookup 202 (.map (some b)) (.int .i64 a) true).run Tryz.prog w = .ok (.tuple #[r.2, .bool true]) w := by
  obtain ⟨i, v⟩ := r
  unfold Instr.lookup
  simp only [Sem.run_bind, Sem.run_pure, Result.andThen_ok, run_underlying Tryz.underlying202, Go.MapKept.run_getObj_map hb, kcheckKey, run_findKey Tryz.underlying3 hr]
  rfl
theorem mlook_one {w : World} {b : Nat} {E : Array MapEntry} {n : Nat} (hb : w.heap[b]? = some (.map E n)) (a : Int) (r : Nat × Value) (hr : Instr.findNow (.int .i64) (.int .i64 a) E.toList 0 = some (some r)) : (Instr.lookup 202 (.map (some b)) (.int .i64 a) false).run Tryz.prog w = .ok r.2 w := by
  obtain ⟨i, v⟩ := r
  unfold Instr.lookup
  simp only [Sem.run_bind, Sem.run_pure, Result.andThen_ok, run_underlying Tryz.underlying202, Go.MapKept.run_getObj_map hb, kcheckKey, run_findKey Tryz.underlying3 hr]
  rfl
theorem mzero_int (w : World) : (zeroValue 3).run Tryz.prog w = .ok (.int .i64 0) w := by kernel_rfl
theorem mlook_none {w : World} {b : Nat} {E : Array MapEntry} {n : Nat} (hb : w.heap[b]? = some (.map E n)) (a : Int) (hr : Instr.findNow (.int .i64) (.int .i64 a) E.toList 0 = some none) : (Instr.lookup 202 (.map (some b)) (.int .i64 a) true).run Tryz.prog w = .ok (.tuple #[.int .i64 0, .bool false]) w := by
  unfold Instr.lookup
  simp only [Sem.run_bind, Sem.run_pure, Result.andThen_ok, run_underlying Tryz.underlying202, Go.MapKept.run_getObj_map hb, kcheckKey, run_findKey Tryz.underlying3 hr, mzero_int]
  rfl
def hargsE : Array MapEntry := #[{ key := .int .i64 0, val := .int .i64 3, born := 0 }, { key := .int .i64 1, val := .int .i64 4, born := 1 }, { key := .int .i64 2, val := .int .i64 2, born := 2 }, { key := .int .i64 3, val := .int .i64 2, born := 3 }, { key := .int .i64 4, val := .int .i64 0, born := 4 }, { key := .int .i64 5, val := .int .i64 2, born := 5 }]
set_option maxHeartbeats 4000000 in
set_option maxRecDepth 100000 in
theorem hargs_any (n : Int) (w : World) : Calls Tryz.prog 132 #[.int .i64 n] w fun e w' => e = .returned (.int .i64 (hArgs n)) ∧ Bel w w' := by
  have hmm := @run_makeMap Tryz.prog
  have k0 := minsert w #[] 0 0 3 rfl
  simp only [List.push_toArray, List.cons_append, List.nil_append, Nat.reduceAdd] at k0
  have k1 := minsert w #[{ key := .int .i64 0, val := .int .i64 3, born := 0 }] 1 1 4 rfl
  simp only [List.push_toArray, List.cons_append, List.nil_append, Nat.reduceAdd] at k1
  have k2 := minsert w #[{ key := .int .i64 0, val := .int .i64 3, born := 0 }, { key := .int .i64 1, val := .int .i64 4, born := 1 }] 2 2 2 rfl
  simp only [List.push_toArray, List.cons_append, List.nil_append, Nat.reduceAdd] at k2
  have k3 := minsert w #[{ key := .int .i64 0, val := .int .i64 3, born := 0 }, { key := .int .i64 1, val := .int .i64 4, born := 1 }, { key := .int .i64 2, val := .int .i64 2, born := 2 }] 3 3 2 rfl
  simp only [List.push_toArray, List.cons_append, List.nil_append, Nat.reduceAdd] at k3
  have k4 := minsert w #[{ key := .int .i64 0, val := .int .i64 3, born := 0 }, { key := .int .i64 1, val := .int .i64 4, born := 1 }, { key := .int .i64 2, val := .int .i64 2, born := 2 }, { key := .int .i64 3, val := .int .i64 2, born := 3 }] 4 4 0 rfl
  simp only [List.push_toArray, List.cons_append, List.nil_append, Nat.reduceAdd] at k4
  have k5 := minsert w #[{ key := .int .i64 0, val := .int .i64 3, born := 0 }, { key := .int .i64 1, val := .int .i64 4, born := 1 }, { key := .int .i64 2, val := .int .i64 2, born := 2 }, { key := .int .i64 3, val := .int .i64 2, born := 3 }, { key := .int .i64 4, val := .int .i64 0, born := 4 }] 5 5 2 rfl
  simp only [List.push_toArray, List.cons_append, List.nil_append, Nat.reduceAdd] at k5
  rcases (show n = 0 ∨ n = 1 ∨ n = 2 ∨ n = 3 ∨ n = 4 ∨ n = 5 ∨ (n ≠ 0 ∧ n ≠ 1 ∧ n ≠ 2 ∧ n ≠ 3 ∧ n ≠ 4 ∧ n ≠ 5) by omega) with rfl | rfl | rfl | rfl | rfl | rfl | ⟨h0, h1, h2, h3, h4, h5⟩
  · have HL := mlook_some (heap_alloc w (.map hargsE 6)).1 0 (0, .int .i64 3) rfl
    unfold hargsE at HL
    go_enter Tryz.func132, Tryz.ntmps132
    go_wp2_with fail
    go_ret
    exact ⟨rfl, (Bel.refl w).alloc _⟩
  · have HL := mlook_some (heap_alloc w (.map hargsE 6)).1 1 (1, .int .i64 4) rfl
    unfold hargsE at HL
    go_enter Tryz.func132, Tryz.ntmps132
    go_wp2_with fail
    go_ret
    exact ⟨rfl, (Bel.refl w).alloc _⟩
  · have HL := mlook_some (heap_alloc w (.map hargsE 6)).1 2 (2, .int .i64 2) rfl
    unfold hargsE at HL
    go_enter Tryz.func132, Tryz.ntmps132
    go_wp2_with fail
    go_ret
    exact ⟨rfl, (Bel.refl w).alloc _⟩
  · have HL := mlook_some (heap_alloc w (.map hargsE 6)).1 3 (3, .int .i64 2) rfl
    unfold hargsE at HL
    go_enter Tryz.func132, Tryz.ntmps132
    go_wp2_with fail
    go_ret
    exact ⟨rfl, (Bel.refl w).alloc _⟩
  · have HL := mlook_some (heap_alloc w (.map hargsE 6)).1 4 (4, .int .i64 0) rfl
    unfold hargsE at HL
    go_enter Tryz.func132, Tryz.ntmps132
    go_wp2_with fail
    go_ret
    exact ⟨rfl, (Bel.refl w).alloc _⟩
  · have HL := mlook_some (heap_alloc w (.map hargsE 6)).1 5 (5, .int .i64 2) rfl
    unfold hargsE at HL
    go_enter Tryz.func132, Tryz.ntmps132
    go_wp2_with fail
    go_ret
    exact ⟨rfl, (Bel.refl w).alloc _⟩
  · have HL := mlook_none (heap_alloc w (.map hargsE 6)).1 n (by
      have e0 : (n == 0) = false := by simpa using h0
      have e1 : (n == 1) = false := by simpa using h1
      have e2 : (n == 2) = false := by simpa using h2
      have e3 : (n == 3) = false := by simpa using h3
      have e4 : (n == 4) = false := by simpa using h4
      have e5 : (n == 5) = false := by simpa using h5
      simp [hargsE, Instr.findNow, Instr.sameNow, e0, e1, e2, e3, e4, e5])
    unfold hargsE at HL
    have HE : Hid (hArgs n = -1) := Lib.hid (by unfold hArgs; rw [if_neg h0, if_neg h1, if_neg h2, if_neg h3, if_neg h4, if_neg h5])
    clear h0 h1 h2 h3 h4 h5
    go_enter Tryz.func132, Tryz.ntmps132
    go_wp2_with fail
    go_ret
    exact ⟨by rw [HE.out]; rfl, (Bel.refl w).alloc _⟩
set_option maxHeartbeats 4000000 in
set_option maxRecDepth 100000 in
theorem hfits_any (n : Int) (x : SchD) (r : Bool) (hr : Hid (hFits n x = r)) (w : World) : Calls Tryz.prog 135 #[.int .i64 n, .agg #[.int .i64 x.kind, .int .i64 x.cap, .int .i64 x.words, .int .i64 x.ver]] w fun e w' => e = .returned (.bool r) ∧ Bel w w' := by
  obtain ⟨kind, cap, words, ver⟩ := x
  dsimp only at *
  obtain ⟨m, hm⟩ : ∃ m, Hid (schMay ⟨kind, cap, words, ver⟩ = m) := ⟨_, Lib.hid rfl⟩
  have hre := hr.out
  unfold hFits at hre
  rw [hm.out] at hre
  dsimp only at hre
  have HB := Lib.hid ((Bel.refl w).alloc (.cells #[.int .i64 kind, .int .i64 cap, .int .i64 words, .int .i64 ver] 44))
  have B1 := Bk.new w 44 #[.int .i64 kind, .int .i64 cap, .int .i64 words, .int .i64 ver]
  by_cases h5 : n = 5
  · subst h5
    rw [if_pos rfl] at hre
    have HRE := Lib.hid hre
    clear hre
    go_enter Tryz.func135, Tryz.ntmps135
    go_wp2_with fail
    refine (schmay_any kind cap words ver m hm _).mono ?_
    rintro e w1 ⟨rfl, hb⟩
    have c0 := (B1.bel hb).cell 0 (v := .int .i64 kind) rfl
    have HB1 := Lib.hid (HB.out.trans hb)
    clear hb B1 HB
    cases m
    · obtain rfl : r = false := by rw [← HRE.out]; rfl
      go_wp2_with fail
      go_ret
      exact ⟨rfl, HB1.out⟩
    · by_cases h3 : kind = 3
      · obtain rfl : r = true := by rw [← HRE.out]; simp [h3]
        subst h3
        go_wp2_with fail
        go_ret
        exact ⟨rfl, HB1.out⟩
      · obtain rfl : r = false := by rw [← HRE.out]; simp [h3]
        have k1 : (kind == 3) = false := by simpa using h3
        have k2 : (kind != 3) = true := by simp [h3]
        go_wp2_with fail
        go_ret
        exact ⟨rfl, HB1.out⟩
  rw [if_neg h5] at hre
  by_cases hq : n = 0 ∨ n = 1 ∨ n = 2 ∨ n = 3
  · rw [if_pos hq] at hre
    have HRE := Lib.hid hre
    clear hre h5
    rcases hq with rfl | rfl | rfl | rfl
    all_goals
      go_enter Tryz.func135, Tryz.ntmps135
      go_wp2_with fail
      refine (schmay_any kind cap words ver m hm _).mono ?_
      rintro e w1 ⟨rfl, hb⟩
      have c0 := (B1.bel hb).cell 0 (v := .int .i64 kind) rfl
      have HB1 := Lib.hid (HB.out.trans hb)
      clear hb B1 HB
      cases m
      · obtain rfl : r = false := by rw [← HRE.out]; rfl
        go_wp2_with fail
        go_ret
        exact ⟨rfl, HB1.out⟩
      · by_cases h3 : kind = 3
        · obtain rfl : r = false := by rw [← HRE.out]; simp [h3]
          subst h3
          go_wp2_with fail
          go_ret
          exact ⟨rfl, HB1.out⟩
        · obtain rfl : r = true := by rw [← HRE.out]; simp [h3]
          have k1 : (kind == 3) = false := by simpa using h3
          have k2 : (kind != 3) = true := by simp [h3]
          go_wp2_with fail
          go_ret
          exact ⟨rfl, HB1.out⟩
  · rw [if_neg hq] at hre
    subst hre
    have h0 : n ≠ 0 := fun h => hq (.inl h)
    have h1 : n ≠ 1 := fun h => hq (.inr (.inl h))
    have h2 : n ≠ 2 := fun h => hq (.inr (.inr (.inl h)))
    have h3 : n ≠ 3 := fun h => hq (.inr (.inr (.inr h)))
    clear hq
    go_enter Tryz.func135, Tryz.ntmps135
    go_wp2_with fail
    go_ret
    exact ⟨rfl, HB.out⟩
end Go.Proofs.YtebdnobgdimdoaaGreat
set_option linter.unusedVariables false
set_option linter.unusedSimpArgs false
namespace Go.Proofs.YtebdnobgdimdoaaGreat
open Go.RowKit
set_option maxHeartbeats 4000000 in
set_option maxRecDepth 100000 in
theorem call_any (p : List FnD) (ls : List SchD) (v : VE) (N : Nat) (w0 W : World) (k : Nat) (ins : InsD) (h : Wk v N W k true ins) (hb0 : Bel w0 W) (hN0 : w0.heap.size ≤ N) (hp : Sl FnR 2 w0 v.A v.c p) (hn : p.length = v.n) (hls : Sl SchR 4 w0 v.Q v.cQ ls) (hnl : ls.length = v.nl) (hpm : progMay p = true) (hsm : ls.all schMay = true) (hl4 : ls.length ≤ 4) (hk : k < ins.length) (s : ShD) (hsk : Hid (sh0 ins[k] = s)) (op fn dst src : Int) (reg : Bool) (off imm : Int) (him : U32 imm) (hm : Hid (mayB op fn dst src reg off imm = true)) (hop : op = 6) (r : Option InsD) (hr : Hid (vStep p v.fn ls k ⟨op, fn, dst, src, reg, off, imm⟩ s ins = r)) :
    Calls Tryz.prog 88 #[.pointer (some ⟨v.g, 0, none⟩), .agg #[.int .i64 op, .int .i64 fn, .int .i64 dst, .int .i64 src, .bool reg, .int .i64 off, .int .u32 imm]] W fun e w' => e = .returned (.tuple #[]) ∧ (∃ ins', Wk v N w' k r.isSome ins' ∧ (∀ x, r = some x → ins' = x)) ∧ Fr v N W w' := by
  subst hop
  have hs : shOk s := by
    rw [← hsk.out]
    cases e : ins[k] with
    | none => intro i b hb; cases hb
    | some u => exact h.ok _ (List.getElem_mem hk) u e
  have hre := hr.out
  unfold vStep at hre
  rw [if_neg (by show ¬ ((6 : Int) = 0); decide)] at hre
  rw [if_neg (by show ¬ ((6 : Int) = 1); decide)] at hre
  rw [if_neg (by show ¬ ((6 : Int) = 2); decide)] at hre
  rw [if_neg (by show ¬ ((6 : Int) = 3); decide)] at hre
  rw [if_neg (by show ¬ ((6 : Int) = 4); decide)] at hre
  rw [if_neg (by show ¬ ((6 : Int) = 5); decide)] at hre
  rw [if_pos rfl] at hre
  have H0 := h
  have H := Lib.hid (h.bel ((Bel.refl W).alloc (.cells #[.int .i64 6, .int .i64 fn, .int .i64 dst, .int .i64 src, .bool reg, .int .i64 off, .int .u32 imm] 95)))
  have HF := Lib.hid (Fr.bel (v := v) ((Bel.refl W).alloc (.cells #[.int .i64 6, .int .i64 fn, .int .i64 dst, .int .i64 src, .bool reg, .int .i64 off, .int .u32 imm] 95)) h.nw)
  have HBI := Lib.hid (hb0.alloc (.cells #[.int .i64 6, .int .i64 fn, .int .i64 dst, .int .i64 src, .bool reg, .int .i64 off, .int .u32 imm] 95))
  have B1 := Bk.new W 95 #[.int .i64 6, .int .i64 fn, .int .i64 dst, .int .i64 src, .bool reg, .int .i64 off, .int .u32 imm]
  have g1 := h.w.lt
  have g2 := h.i.lt
  have g3 := h.s.lt
  have i0 : 0 ≤ imm := him.lo
  have i1 : imm < 4294967296 := him.hi
  have em : IntKind.u64.wrap imm = imm := by simp [IntKind.wrap, IntKind.bits, IntKind.signed]; omega
  have ei : IntKind.i64.wrap imm = imm := wrap_i64 (by omega) (by omega)
  have hp8 : p.length ≤ 8 := by
    have := hpm
    unfold progMay at this
    simp only [Bool.and_eq_true, decide_eq_true_iff] at this
    exact this.1.1.2
  have en : IntKind.u64.wrap (v.n : Int) = v.n := by simp [IntKind.wrap, IntKind.bits, IntKind.signed]; omega
  have enl : IntKind.u64.wrap (v.nl : Int) = v.nl := by simp [IntKind.wrap, IntKind.bits, IntKind.signed]; omega
  clear h hr
  by_cases hlt : imm < p.length
  · have hlt2 : imm < v.n := by omega
    by_cases hgt : (v.fn : Int) < imm
    · go_enter Tryz.func88, Tryz.ntmps88
      go_wp2_with fail
      generalize W.alloc (.cells #[.int .i64 6, .int .i64 fn, .int .i64 dst, .int .i64 src, .bool reg, .int .i64 off, .int .u32 imm] 95) = W0 at *
      obtain ⟨gr, hgr⟩ : ∃ gr, W.heap.size = gr := ⟨_, rfl⟩
      rw [hgr] at B1 g1 g2 g3
      simp only [hgr]
      clear hgr
      have n1 : gr ≠ v.g := by omega
      have n2 : gr ≠ v.Bi := by omega
      have n3 : gr ≠ v.Bs := by omega
      have B1 := Lib.hid B1
      have P6 := fun (w' : World) (hb : Bel W0 w') => (B1.out.bel hb).cell 6 (v := .int .u32 imm) rfl
      have M0 := fun (w' : World) (hb : Bel W0 w') => (H.out.bel hb).w.cell 0 (v := .slice v.A v.n v.c) rfl
      have M1 := fun (w' : World) (hb : Bel W0 w') => (H.out.bel hb).w.cell 1 (v := .int .i64 v.fn) rfl
      have SD : Bel W0 W0.drew := (Bel.refl W0).drew
      have HD := H.out.bel SD
      have c6 := HD.w.cell 6 (v := .bool true) rfl
      have f6 := HD.w.frozen 6
      have HW1 := Lib.hid ((H.out.safe true).bel (Bel.refl _).drew)
      have HF1 := Lib.hid ((HF.out.trans (Fr.set (v := v) (N := N) W0 (p := ⟨v.g, 6, none⟩) (.inl rfl) HD.ng (.bool true))).trans (Fr.bel (Bel.refl _).drew (H.out.safe true).nw))
      refine wp_region_T (fun w' => Bel W0 w') (fun i => i == 23 || i == 24) (by kernel_rfl) ?_
      refine wpAnyU_take (i := 0) (v := ?v0a) rfl (by kernel_rfl) (by kernel_rfl) (by kernel_rfl) (by kernel_rfl) (fun _ _ _ h => h) ?hy0a SD ?rest0a
      case hy0a => first | (refine Or.inl ⟨by rfl, ?_⟩; (intro w' hSw; go_simp) <;> with_reducible rfl) | (refine Or.inr ⟨by rfl, ?_⟩; with_reducible rfl)
      try simp only [List.getElem_toArray, List.getElem_cons_zero, List.getElem_cons_succ, Act.put, List.setIfInBounds_toArray, List.set_cons_zero, List.set_cons_succ]
      refine wpAnyU_take (i := 1) (v := ?v1a) rfl (by kernel_rfl) (by kernel_rfl) (by kernel_rfl) (by kernel_rfl) (fun _ _ _ h => h) ?hy1a SD ?rest1a
      case hy1a => first | (refine Or.inl ⟨by rfl, ?_⟩; (intro w' hSw; go_simp) <;> with_reducible rfl) | (refine Or.inr ⟨by rfl, ?_⟩; with_reducible rfl)
      try simp only [List.getElem_toArray, List.getElem_cons_zero, List.getElem_cons_succ, Act.put, List.setIfInBounds_toArray, List.set_cons_zero, List.set_cons_succ]
      refine wpAnyU_take (i := 2) (v := ?v2a) rfl (by kernel_rfl) (by kernel_rfl) (by kernel_rfl) (by kernel_rfl) (fun _ _ _ h => h) ?hy2a SD ?rest2a
      case hy2a => first | (refine Or.inl ⟨by rfl, ?_⟩; (intro w' hSw; go_simp) <;> with_reducible rfl) | (refine Or.inr ⟨by rfl, ?_⟩; with_reducible rfl)
      try simp only [List.getElem_toArray, List.getElem_cons_zero, List.getElem_cons_succ, Act.put, List.setIfInBounds_toArray, List.set_cons_zero, List.set_cons_succ]
      refine wpAnyU_take (i := 3) (v := ?v3a) rfl (by kernel_rfl) (by kernel_rfl) (by kernel_rfl) (by kernel_rfl) (fun _ _ _ h => h) ?hy3a SD ?rest3a
      case hy3a => first | (refine Or.inl ⟨by rfl, ?_⟩; (intro w' hSw; go_simp) <;> with_reducible rfl) | (refine Or.inr ⟨by rfl, ?_⟩; with_reducible rfl)
      try simp only [List.getElem_toArray, List.getElem_cons_zero, List.getElem_cons_succ, Act.put, List.setIfInBounds_toArray, List.set_cons_zero, List.set_cons_succ]
      refine wpAnyU_take (i := 4) (v := ?v4a) rfl (by kernel_rfl) (by kernel_rfl) (by kernel_rfl) (by kernel_rfl) (fun _ _ _ h => h) ?hy4a SD ?rest4a
      case hy4a => first | (refine Or.inl ⟨by rfl, ?_⟩; (intro w' hSw; go_simp) <;> with_reducible rfl) | (refine Or.inr ⟨by rfl, ?_⟩; with_reducible rfl)
      try simp only [List.getElem_toArray, List.getElem_cons_zero, List.getElem_cons_succ, Act.put, List.setIfInBounds_toArray, List.set_cons_zero, List.set_cons_succ]
      refine wpAnyU_take (i := 5) (v := ?v5a) rfl (by kernel_rfl) (by kernel_rfl) (by kernel_rfl) (by kernel_rfl) (fun _ _ _ h => h) ?hy5a SD ?rest5a
      case hy5a => first | (refine Or.inl ⟨by rfl, ?_⟩; (intro w' hSw; go_simp) <;> with_reducible rfl) | (refine Or.inr ⟨by rfl, ?_⟩; with_reducible rfl)
      try simp only [List.getElem_toArray, List.getElem_cons_zero, List.getElem_cons_succ, Act.put, List.setIfInBounds_toArray, List.set_cons_zero, List.set_cons_succ]
      refine wpAnyU_take (i := 6) (v := ?v6a) rfl (by kernel_rfl) (by kernel_rfl) (by kernel_rfl) (by kernel_rfl) (fun _ _ _ h => h) ?hy6a SD ?rest6a
      case hy6a => first | (refine Or.inl ⟨by rfl, ?_⟩; (intro w' hSw; go_simp) <;> with_reducible rfl) | (refine Or.inr ⟨by rfl, ?_⟩; with_reducible rfl)
      try simp only [List.getElem_toArray, List.getElem_cons_zero, List.getElem_cons_succ, Act.put, List.setIfInBounds_toArray, List.set_cons_zero, List.set_cons_succ]
      refine wpAnyU_take (i := 7) (v := ?v7a) rfl (by kernel_rfl) (by kernel_rfl) (by kernel_rfl) (by kernel_rfl) (fun _ _ _ h => h) ?hy7a SD ?rest7a
      case hy7a => first | (refine Or.inl ⟨by rfl, ?_⟩; (intro w' hSw; go_simp) <;> with_reducible rfl) | (refine Or.inr ⟨by rfl, ?_⟩; with_reducible rfl)
      try simp only [List.getElem_toArray, List.getElem_cons_zero, List.getElem_cons_succ, Act.put, List.setIfInBounds_toArray, List.set_cons_zero, List.set_cons_succ]
      refine wpAnyU_take (i := 8) (v := ?v8a) rfl (by kernel_rfl) (by kernel_rfl) (by kernel_rfl) (by kernel_rfl) (fun _ _ _ h => h) ?hy8a SD ?rest8a
      case hy8a => first | (refine Or.inl ⟨by rfl, ?_⟩; (intro w' hSw; go_simp) <;> with_reducible rfl) | (refine Or.inr ⟨by rfl, ?_⟩; with_reducible rfl)
      try simp only [List.getElem_toArray, List.getElem_cons_zero, List.getElem_cons_succ, Act.put, List.setIfInBounds_toArray, List.set_cons_zero, List.set_cons_succ]
      refine wpAnyU_take (i := 9) (v := ?v9a) rfl (by kernel_rfl) (by kernel_rfl) (by kernel_rfl) (by kernel_rfl) (fun _ _ _ h => h) ?hy9a SD ?rest9a
      case hy9a => first | (refine Or.inl ⟨by rfl, ?_⟩; (intro w' hSw; go_simp) <;> with_reducible rfl) | (refine Or.inr ⟨by rfl, ?_⟩; with_reducible rfl)
      try simp only [List.getElem_toArray, List.getElem_cons_zero, List.getElem_cons_succ, Act.put, List.setIfInBounds_toArray, List.set_cons_zero, List.set_cons_succ]
      refine wpAnyU_take (i := 10) (v := ?v10a) rfl (by kernel_rfl) (by kernel_rfl) (by kernel_rfl) (by kernel_rfl) (fun _ _ _ h => h) ?hy10a SD ?rest10a
      case hy10a => first | (refine Or.inl ⟨by rfl, ?_⟩; (intro w' hSw; go_simp) <;> with_reducible rfl) | (refine Or.inr ⟨by rfl, ?_⟩; with_reducible rfl)
      try simp only [List.getElem_toArray, List.getElem_cons_zero, List.getElem_cons_succ, Act.put, List.setIfInBounds_toArray, List.set_cons_zero, List.set_cons_succ]
      refine wpAnyU_take (i := 11) (v := ?v11a) rfl (by kernel_rfl) (by kernel_rfl) (by kernel_rfl) (by kernel_rfl) (fun _ _ _ h => h) ?hy11a SD ?rest11a
      case hy11a => first | (refine Or.inl ⟨by rfl, ?_⟩; (intro w' hSw; go_simp) <;> with_reducible rfl) | (refine Or.inr ⟨by rfl, ?_⟩; with_reducible rfl)
      try simp only [List.getElem_toArray, List.getElem_cons_zero, List.getElem_cons_succ, Act.put, List.setIfInBounds_toArray, List.set_cons_zero, List.set_cons_succ]
      refine wpAnyU_take (i := 12) (v := ?v12a) rfl (by kernel_rfl) (by kernel_rfl) (by kernel_rfl) (by kernel_rfl) (fun _ _ _ h => h) ?hy12a SD ?rest12a
      case hy12a => first | (refine Or.inl ⟨by rfl, ?_⟩; (intro w' hSw; go_simp) <;> with_reducible rfl) | (refine Or.inr ⟨by rfl, ?_⟩; with_reducible rfl)
      try simp only [List.getElem_toArray, List.getElem_cons_zero, List.getElem_cons_succ, Act.put, List.setIfInBounds_toArray, List.set_cons_zero, List.set_cons_succ]
      refine wpAnyU_take (i := 13) (v := ?v13a) rfl (by kernel_rfl) (by kernel_rfl) (by kernel_rfl) (by kernel_rfl) (fun _ _ _ h => h) ?hy13a SD ?rest13a
      case hy13a => first | (refine Or.inl ⟨by rfl, ?_⟩; (intro w' hSw; go_simp) <;> with_reducible rfl) | (refine Or.inr ⟨by rfl, ?_⟩; with_reducible rfl)
      try simp only [List.getElem_toArray, List.getElem_cons_zero, List.getElem_cons_succ, Act.put, List.setIfInBounds_toArray, List.set_cons_zero, List.set_cons_succ]
      refine wpAnyU_take (i := 14) (v := ?v14a) rfl (by kernel_rfl) (by kernel_rfl) (by kernel_rfl) (by kernel_rfl) (fun _ _ _ h => h) ?hy14a SD ?rest14a
      case hy14a => first | (refine Or.inl ⟨by rfl, ?_⟩; (intro w' hSw; go_simp) <;> with_reducible rfl) | (refine Or.inr ⟨by rfl, ?_⟩; with_reducible rfl)
      try simp only [List.getElem_toArray, List.getElem_cons_zero, List.getElem_cons_succ, Act.put, List.setIfInBounds_toArray, List.set_cons_zero, List.set_cons_succ]
      refine wpAnyU_take (i := 15) (v := ?v15a) rfl (by kernel_rfl) (by kernel_rfl) (by kernel_rfl) (by kernel_rfl) (fun _ _ _ h => h) ?hy15a SD ?rest15a
      case hy15a => first | (refine Or.inl ⟨by rfl, ?_⟩; (intro w' hSw; go_simp) <;> with_reducible rfl) | (refine Or.inr ⟨by rfl, ?_⟩; with_reducible rfl)
      try simp only [List.getElem_toArray, List.getElem_cons_zero, List.getElem_cons_succ, Act.put, List.setIfInBounds_toArray, List.set_cons_zero, List.set_cons_succ]
      refine wpAnyU_take (i := 16) (v := ?v16a) rfl (by kernel_rfl) (by kernel_rfl) (by kernel_rfl) (by kernel_rfl) (fun _ _ _ h => h) ?hy16a SD ?rest16a
      case hy16a => first | (refine Or.inl ⟨by rfl, ?_⟩; (intro w' hSw; go_simp) <;> with_reducible rfl) | (refine Or.inr ⟨by rfl, ?_⟩; with_reducible rfl)
      try simp only [List.getElem_toArray, List.getElem_cons_zero, List.getElem_cons_succ, Act.put, List.setIfInBounds_toArray, List.set_cons_zero, List.set_cons_succ]
      refine wpAnyU_take (i := 17) (v := ?v17a) rfl (by kernel_rfl) (by kernel_rfl) (by kernel_rfl) (by kernel_rfl) (fun _ _ _ h => h) ?hy17a SD ?rest17a
      case hy17a => first | (refine Or.inl ⟨by rfl, ?_⟩; (intro w' hSw; go_simp) <;> with_reducible rfl) | (refine Or.inr ⟨by rfl, ?_⟩; with_reducible rfl)
      try simp only [List.getElem_toArray, List.getElem_cons_zero, List.getElem_cons_succ, Act.put, List.setIfInBounds_toArray, List.set_cons_zero, List.set_cons_succ]
      refine wpAnyU_take (i := 18) (v := ?v18a) rfl (by kernel_rfl) (by kernel_rfl) (by kernel_rfl) (by kernel_rfl) (fun _ _ _ h => h) ?hy18a SD ?rest18a
      case hy18a => first | (refine Or.inl ⟨by rfl, ?_⟩; (intro w' hSw; go_simp) <;> with_reducible rfl) | (refine Or.inr ⟨by rfl, ?_⟩; with_reducible rfl)
      try simp only [List.getElem_toArray, List.getElem_cons_zero, List.getElem_cons_succ, Act.put, List.setIfInBounds_toArray, List.set_cons_zero, List.set_cons_succ]
      refine wpAnyU_take (i := 19) (v := ?v19a) rfl (by kernel_rfl) (by kernel_rfl) (by kernel_rfl) (by kernel_rfl) (fun _ _ _ h => h) ?hy19a SD ?rest19a
      case hy19a => first | (refine Or.inl ⟨by rfl, ?_⟩; (intro w' hSw; go_simp) <;> with_reducible rfl) | (refine Or.inr ⟨by rfl, ?_⟩; with_reducible rfl)
      try simp only [List.getElem_toArray, List.getElem_cons_zero, List.getElem_cons_succ, Act.put, List.setIfInBounds_toArray, List.set_cons_zero, List.set_cons_succ]
      refine wpAnyU_take (i := 20) (v := ?v20a) rfl (by kernel_rfl) (by kernel_rfl) (by kernel_rfl) (by kernel_rfl) (fun _ _ _ h => h) ?hy20a SD ?rest20a
      case hy20a => first | (refine Or.inl ⟨by rfl, ?_⟩; (intro w' hSw; go_simp) <;> with_reducible rfl) | (refine Or.inr ⟨by rfl, ?_⟩; with_reducible rfl)
      try simp only [List.getElem_toArray, List.getElem_cons_zero, List.getElem_cons_succ, Act.put, List.setIfInBounds_toArray, List.set_cons_zero, List.set_cons_succ]
      refine wpAnyU_take (i := 21) (v := ?v21a) rfl (by kernel_rfl) (by kernel_rfl) (by kernel_rfl) (by kernel_rfl) (fun _ _ _ h => h) ?hy21a SD ?rest21a
      case hy21a => first | (refine Or.inl ⟨by rfl, ?_⟩; (intro w' hSw; go_simp) <;> with_reducible rfl) | (refine Or.inr ⟨by rfl, ?_⟩; with_reducible rfl)
      try simp only [List.getElem_toArray, List.getElem_cons_zero, List.getElem_cons_succ, Act.put, List.setIfInBounds_toArray, List.set_cons_zero, List.set_cons_succ]
      refine wpAnyU_take (i := 22) (v := ?v22a) rfl (by kernel_rfl) (by kernel_rfl) (by kernel_rfl) (by kernel_rfl) (fun _ _ _ h => h) ?hy22a SD ?rest22a
      case hy22a => first | (refine Or.inl ⟨by rfl, ?_⟩; (intro w' hSw; go_simp) <;> with_reducible rfl) | (refine Or.inr ⟨by rfl, ?_⟩; with_reducible rfl)
      try simp only [List.getElem_toArray, List.getElem_cons_zero, List.getElem_cons_succ, Act.put, List.setIfInBounds_toArray, List.set_cons_zero, List.set_cons_succ]
      refine wpAnyW_take (i := 23) (v := ?v23a) rfl (by kernel_rfl) (by kernel_rfl) (by kernel_rfl) (by kernel_rfl) (fun _ _ _ h => h) (Or.inl ⟨by rfl, ?hy23a⟩) ?rest23a
      case hy23a => (intro w' hSw; go_simp) <;> with_reducible rfl
      try simp only [List.getElem_toArray, List.getElem_cons_zero, List.getElem_cons_succ, Act.put, List.setIfInBounds_toArray, List.set_cons_zero, List.set_cons_succ]
      refine wpAnyT_one (i := 24) (by kernel_rfl) rfl (fun K hK => ?_)
      go_simp
      refine hK.out _ _ (fun h => absurd h (by decide)) ?_
      clear hK K
      try simp only [List.getElem_toArray, List.getElem_cons_zero, List.getElem_cons_succ, Act.put, List.setIfInBounds_toArray, List.set_cons_zero, List.set_cons_succ]
      refine wpAnyT_done (by kernel_rfl) ?_ _
      refine NoPanic.normal ?_
      clear SD HD c6 f6 P6 M0 M1
      have hcN := (HW1.out.w.cell 6 (v := .bool true) rfl)
      go_wp2_with fail
      clear hcN
      obtain ⟨q, hq⟩ : ∃ q : Nat, imm = q := ⟨imm.toNat, by omega⟩
      subst hq
      have hqp : q < p.length := by omega
      have HBX : Hid (Bel w0 _) := Lib.hid (HF1.out.toBel hb0 hN0)
      obtain ⟨pb, po, hpA⟩ := hp.addr (by omega)
      rw [hpA] at hp
      obtain ⟨Al, cl, e0, -, -⟩ := fn_cells hp q hqp
      have ar : 0 ≤ (p[q]).args ∧ (p[q]).args ≤ 4 := (fn_fine hpm hqp).2
      obtain ⟨a, ha⟩ : ∃ a : Nat, (p[q]).args = a := ⟨(p[q]).args.toNat, by omega⟩
      rw [ha] at e0 ar
      have ha4 : a ≤ 4 := by omega
      obtain ⟨x, hx⟩ : ∃ x, Hid (vTo ins (k + 1) (shBack s) = x) := ⟨_, Lib.hid rfl⟩
      have eA : ((p.map FnD.args).getD (q : Int).toNat 0).toNat = a := by
        rw [List.getD_eq_getElem?_getD, List.getElem?_map, show (q : Int).toNat = q by omega, List.getElem?_eq_getElem hqp]
        simp [ha]
      rw [eA] at hre
      have HN : Hid (vHanded s a = false → r = none) := Lib.hid (fun e => by
        rw [if_neg (by rw [e]; simp)] at hre
        exact hre.symm)
      have HS : Hid (vHanded s a = true → r = x) := Lib.hid (fun e => by
        rw [if_pos ⟨hlt, hgt, e⟩] at hre
        rw [← hre, ← hx.out])
      clear hre eA
      obtain ⟨W1, hW1⟩ : ∃ W1, (W0.setCell ⟨v.g, 6, none⟩ (.bool true)).drew = W1 := ⟨_, rfl⟩
      rw [hW1] at HW1 HF1 HBX ⊢
      have hBI : Bk W1 gr 95 #[.int .i64 6, .int .i64 fn, .int .i64 dst, .int .i64 src, .bool reg, .int .i64 off, .int .u32 q] := by
        rw [← hW1]
        exact (B1.out.other (p := ⟨v.g, 6, none⟩) n1 _).bel (Bel.refl _).drew
      clear hW1 B1 H HF
      have SE : Bk W1.drew gr 95 #[.int .i64 6, .int .i64 fn, .int .i64 dst, .int .i64 src, .bool reg, .int .i64 off, .int .u32 q] ∧ (∃ sf, Bk W1.drew v.g 113 (v.cells k sf)) ∧ Bel w0 W1.drew := ⟨hBI.bel (Bel.refl W1).drew, ⟨true, HW1.out.w.bel (Bel.refl W1).drew⟩, HBX.out.drew⟩
      have P6 := fun (w' : World) (hb : Bk w' gr 95 #[.int .i64 6, .int .i64 fn, .int .i64 dst, .int .i64 src, .bool reg, .int .i64 off, .int .u32 q] ∧ (∃ sf, Bk w' v.g 113 (v.cells k sf)) ∧ Bel w0 w') => hb.1.cell 6 (v := .int .u32 q) rfl
      have M0 : ∀ (w' : World), (Bk w' gr 95 #[.int .i64 6, .int .i64 fn, .int .i64 dst, .int .i64 src, .bool reg, .int .i64 off, .int .u32 q] ∧ (∃ sf, Bk w' v.g 113 (v.cells k sf)) ∧ Bel w0 w') → w'.cell? ⟨v.g, 0, none⟩ = some (.slice (some ⟨pb, po, none⟩) v.n v.c) := fun w' hb => by
        obtain ⟨-, ⟨sf, hb⟩, -⟩ := hb
        rw [← hpA]
        exact hb.cell 0 rfl
      have E0 := fun (w' : World) (hb : Bk w' gr 95 #[.int .i64 6, .int .i64 fn, .int .i64 dst, .int .i64 src, .bool reg, .int .i64 off, .int .u32 q] ∧ (∃ sf, Bk w' v.g 113 (v.cells k sf)) ∧ Bel w0 w') => hb.2.2.cell e0
      have HD3 := HW1.out.bel (Bel.refl W1).drew
      have FD3 := HF1.out.trans (Fr.bel (Bel.refl W1).drew HW1.out.nw)
      have q0 : 0 ≤ (q : Int) := by omega
      clear HW1 HF1 hBI e0 HBX
      refine wp_region_T (fun w' => Bk w' gr 95 #[.int .i64 6, .int .i64 fn, .int .i64 dst, .int .i64 src, .bool reg, .int .i64 off, .int .u32 q] ∧ (∃ sf, Bk w' v.g 113 (v.cells k sf)) ∧ Bel w0 w') (fun _ => false) (by kernel_rfl) ?_
      refine wpAnyU_take (i := 0) (v := ?v0d) rfl (by kernel_rfl) (by kernel_rfl) (by kernel_rfl) (by kernel_rfl) (fun _ _ _ h => h) ?hy0d SE ?rest0d
      case hy0d => first | (refine Or.inl ⟨by rfl, ?_⟩; (intro w' hSw; go_simp) <;> with_reducible rfl) | (refine Or.inr ⟨by rfl, ?_⟩; with_reducible rfl)
      try simp only [List.getElem_toArray, List.getElem_cons_zero, List.getElem_cons_succ, Act.put, List.setIfInBounds_toArray, List.set_cons_zero, List.set_cons_succ]
      refine wpAnyU_take (i := 1) (v := ?v1d) rfl (by kernel_rfl) (by kernel_rfl) (by kernel_rfl) (by kernel_rfl) (fun _ _ _ h => h) ?hy1d SE ?rest1d
      case hy1d => first | (refine Or.inl ⟨by rfl, ?_⟩; (intro w' hSw; go_simp) <;> with_reducible rfl) | (refine Or.inr ⟨by rfl, ?_⟩; with_reducible rfl)
      try simp only [List.getElem_toArray, List.getElem_cons_zero, List.getElem_cons_succ, Act.put, List.setIfInBounds_toArray, List.set_cons_zero, List.set_cons_succ]
      refine wpAnyU_take (i := 2) (v := ?v2d) rfl (by kernel_rfl) (by kernel_rfl) (by kernel_rfl) (by kernel_rfl) (fun _ _ _ h => h) ?hy2d SE ?rest2d
      case hy2d => first | (refine Or.inl ⟨by rfl, ?_⟩; (intro w' hSw; go_simp) <;> with_reducible rfl) | (refine Or.inr ⟨by rfl, ?_⟩; with_reducible rfl)
      try simp only [List.getElem_toArray, List.getElem_cons_zero, List.getElem_cons_succ, Act.put, List.setIfInBounds_toArray, List.set_cons_zero, List.set_cons_succ]
      refine wpAnyU_take (i := 3) (v := ?v3d) rfl (by kernel_rfl) (by kernel_rfl) (by kernel_rfl) (by kernel_rfl) (fun _ _ _ h => h) ?hy3d SE ?rest3d
      case hy3d => first | (refine Or.inl ⟨by rfl, ?_⟩; (intro w' hSw; go_simp) <;> with_reducible rfl) | (refine Or.inr ⟨by rfl, ?_⟩; with_reducible rfl)
      try simp only [List.getElem_toArray, List.getElem_cons_zero, List.getElem_cons_succ, Act.put, List.setIfInBounds_toArray, List.set_cons_zero, List.set_cons_succ]
      refine wpAnyU_take (i := 4) (v := ?v4d) rfl (by kernel_rfl) (by kernel_rfl) (by kernel_rfl) (by kernel_rfl) (fun _ _ _ h => h) ?hy4d SE ?rest4d
      case hy4d => first | (refine Or.inl ⟨by rfl, ?_⟩; (intro w' hSw; go_simp) <;> with_reducible rfl) | (refine Or.inr ⟨by rfl, ?_⟩; with_reducible rfl)
      try simp only [List.getElem_toArray, List.getElem_cons_zero, List.getElem_cons_succ, Act.put, List.setIfInBounds_toArray, List.set_cons_zero, List.set_cons_succ]
      refine wpAnyU_take (i := 5) (v := ?v5d) rfl (by kernel_rfl) (by kernel_rfl) (by kernel_rfl) (by kernel_rfl) (fun _ _ _ h => h) ?hy5d SE ?rest5d
      case hy5d => first | (refine Or.inl ⟨by rfl, ?_⟩; (intro w' hSw; go_simp) <;> with_reducible rfl) | (refine Or.inr ⟨by rfl, ?_⟩; with_reducible rfl)
      try simp only [List.getElem_toArray, List.getElem_cons_zero, List.getElem_cons_succ, Act.put, List.setIfInBounds_toArray, List.set_cons_zero, List.set_cons_succ]
      refine wpAnyU_take (i := 6) (v := ?v6d) rfl (by kernel_rfl) (by kernel_rfl) (by kernel_rfl) (by kernel_rfl) (fun _ _ _ h => h) ?hy6d SE ?rest6d
      case hy6d => first | (refine Or.inl ⟨by rfl, ?_⟩; (intro w' hSw; go_simp) <;> with_reducible rfl) | (refine Or.inr ⟨by rfl, ?_⟩; with_reducible rfl)
      try simp only [List.getElem_toArray, List.getElem_cons_zero, List.getElem_cons_succ, Act.put, List.setIfInBounds_toArray, List.set_cons_zero, List.set_cons_succ]
      refine wpAnyU_take (i := 7) (v := ?v7d) rfl (by kernel_rfl) (by kernel_rfl) (by kernel_rfl) (by kernel_rfl) (fun _ _ _ h => h) ?hy7d SE ?rest7d
      case hy7d => first | (refine Or.inl ⟨by rfl, ?_⟩; (intro w' hSw; go_simp) <;> with_reducible rfl) | (refine Or.inr ⟨by rfl, ?_⟩; with_reducible rfl)
      try simp only [List.getElem_toArray, List.getElem_cons_zero, List.getElem_cons_succ, Act.put, List.setIfInBounds_toArray, List.set_cons_zero, List.set_cons_succ]
      refine wpAnyU_take (i := 8) (v := ?v8d) rfl (by kernel_rfl) (by kernel_rfl) (by kernel_rfl) (by kernel_rfl) (fun _ _ _ h => h) ?hy8d SE ?rest8d
      case hy8d => first | (refine Or.inl ⟨by rfl, ?_⟩; (intro w' hSw; go_simp) <;> with_reducible rfl) | (refine Or.inr ⟨by rfl, ?_⟩; with_reducible rfl)
      try simp only [List.getElem_toArray, List.getElem_cons_zero, List.getElem_cons_succ, Act.put, List.setIfInBounds_toArray, List.set_cons_zero, List.set_cons_succ]
      refine wpAnyU_take (i := 9) (v := ?v9d) rfl (by kernel_rfl) (by kernel_rfl) (by kernel_rfl) (by kernel_rfl) (fun _ _ _ h => h) ?hy9d SE ?rest9d
      case hy9d => first | (refine Or.inl ⟨by rfl, ?_⟩; (intro w' hSw; go_simp) <;> with_reducible rfl) | (refine Or.inr ⟨by rfl, ?_⟩; with_reducible rfl)
      try simp only [List.getElem_toArray, List.getElem_cons_zero, List.getElem_cons_succ, Act.put, List.setIfInBounds_toArray, List.set_cons_zero, List.set_cons_succ]
      refine wpAnyU_take (i := 10) (v := ?v10d) rfl (by kernel_rfl) (by kernel_rfl) (by kernel_rfl) (by kernel_rfl) (fun _ _ _ h => h) ?hy10d SE ?rest10d
      case hy10d => first | (refine Or.inl ⟨by rfl, ?_⟩; (intro w' hSw; go_simp) <;> with_reducible rfl) | (refine Or.inr ⟨by rfl, ?_⟩; with_reducible rfl)
      try simp only [List.getElem_toArray, List.getElem_cons_zero, List.getElem_cons_succ, Act.put, List.setIfInBounds_toArray, List.set_cons_zero, List.set_cons_succ]
      refine wpAnyT_one (i := 11) (by kernel_rfl) rfl (fun K hK => ?_)
      go_simp
      go_at_call 133
      refine (handed_any v N _ k true ins HD3 hk s hsk a ha4).mono ?_
      rintro en w9 ⟨rfl, hw9, hf9⟩
      have HW9 := Lib.hid hw9
      have HF9 := Lib.hid (FD3.trans hf9)
      have S9 : Bk w9 gr 95 #[.int .i64 6, .int .i64 fn, .int .i64 dst, .int .i64 src, .bool reg, .int .i64 off, .int .u32 q] ∧ (∃ sf, Bk w9 v.g 113 (v.cells k sf)) ∧ Bel w0 w9 := ⟨hf9.bk SE.1 n1 n2 n3, ⟨_, hw9.w⟩, hf9.toBel SE.2.2 hN0⟩
      dsimp only
      refine hK.out _ _ (fun _ => S9) ?_
      clear hK K
      try simp only [List.getElem_toArray, List.getElem_cons_zero, List.getElem_cons_succ, Act.put, List.setIfInBounds_toArray, List.set_cons_zero, List.set_cons_succ]
      refine wpAnyT_done (by kernel_rfl) ?_ _
      refine NoPanic.normal ?_
      clear SE S9 P6 M0 E0 HD3 FD3 hw9 hf9
      go_wp2_with fail
      refine (here_any v N _ k _ ins HW9.out hk s hsk).mono ?_
      rintro e w20 ⟨rfl, hb20⟩
      go_wp2_with fail
      refine (shback_any s hs _).mono ?_
      rintro e w21 ⟨rfl, hb21⟩
      have hb21 := hb20.trans hb21
      go_wp2_with fail
      refine (wthen_any v N _ k _ ins ((HW9.out).bel hb21) hk (shBack s) (shBack_ok hs) x hx).mono ?_
      rintro e w22 ⟨rfl, hw22, hf22⟩
      have HE := Lib.hid (((HF9.out).trans (Fr.bel hb21 (HW9.out).nw)).trans hf22)
      have HW := Lib.hid hw22
      clear hb20 hb21 hw22 hf22
      go_wp2_with fail
      go_end0
      exact ⟨rfl, fin_put HN.out HS.out (by simpa using HW.out), HE.out⟩
    · have hre2 : r = none := by rw [if_neg (fun h => hgt h.2.1)] at hre; exact hre.symm
      have hle : decide ((v.fn : Int) < imm) = false := decide_eq_false (by omega)
      clear hgt
      clear hre
      go_enter Tryz.func88, Tryz.ntmps88
      go_wp2_with fail
      generalize W.alloc (.cells #[.int .i64 6, .int .i64 fn, .int .i64 dst, .int .i64 src, .bool reg, .int .i64 off, .int .u32 imm] 95) = W0 at *
      obtain ⟨gr, hgr⟩ : ∃ gr, W.heap.size = gr := ⟨_, rfl⟩
      rw [hgr] at B1 g1 g2 g3
      simp only [hgr]
      clear hgr
      have n1 : gr ≠ v.g := by omega
      have n2 : gr ≠ v.Bi := by omega
      have n3 : gr ≠ v.Bs := by omega
      have B1 := Lib.hid B1
      have P6 := fun (w' : World) (hb : Bel W0 w') => (B1.out.bel hb).cell 6 (v := .int .u32 imm) rfl
      have M0 := fun (w' : World) (hb : Bel W0 w') => (H.out.bel hb).w.cell 0 (v := .slice v.A v.n v.c) rfl
      have M1 := fun (w' : World) (hb : Bel W0 w') => (H.out.bel hb).w.cell 1 (v := .int .i64 v.fn) rfl
      have SD : Bel W0 W0.drew := (Bel.refl W0).drew
      have HD := H.out.bel SD
      have c6 := HD.w.cell 6 (v := .bool true) rfl
      have f6 := HD.w.frozen 6
      have HW1 := Lib.hid ((H.out.safe false).bel (Bel.refl _).drew)
      have HF1 := Lib.hid ((HF.out.trans (Fr.set (v := v) (N := N) W0 (p := ⟨v.g, 6, none⟩) (.inl rfl) HD.ng (.bool false))).trans (Fr.bel (Bel.refl _).drew (H.out.safe false).nw))
      refine wp_region_T (fun w' => Bel W0 w') (fun i => i == 23 || i == 24) (by kernel_rfl) ?_
      refine wpAnyU_take (i := 0) (v := ?v0b) rfl (by kernel_rfl) (by kernel_rfl) (by kernel_rfl) (by kernel_rfl) (fun _ _ _ h => h) ?hy0b SD ?rest0b
      case hy0b => first | (refine Or.inl ⟨by rfl, ?_⟩; (intro w' hSw; go_simp) <;> with_reducible rfl) | (refine Or.inr ⟨by rfl, ?_⟩; with_reducible rfl)
      try simp only [List.getElem_toArray, List.getElem_cons_zero, List.getElem_cons_succ, Act.put, List.setIfInBounds_toArray, List.set_cons_zero, List.set_cons_succ]
      refine wpAnyU_take (i := 1) (v := ?v1b) rfl (by kernel_rfl) (by kernel_rfl) (by kernel_rfl) (by kernel_rfl) (fun _ _ _ h => h) ?hy1b SD ?rest1b
      case hy1b => first | (refine Or.inl ⟨by rfl, ?_⟩; (intro w' hSw; go_simp) <;> with_reducible rfl) | (refine Or.inr ⟨by rfl, ?_⟩; with_reducible rfl)
      try simp only [List.getElem_toArray, List.getElem_cons_zero, List.getElem_cons_succ, Act.put, List.setIfInBounds_toArray, List.set_cons_zero, List.set_cons_succ]
      refine wpAnyU_take (i := 2) (v := ?v2b) rfl (by kernel_rfl) (by kernel_rfl) (by kernel_rfl) (by kernel_rfl) (fun _ _ _ h => h) ?hy2b SD ?rest2b
      case hy2b => first | (refine Or.inl ⟨by rfl, ?_⟩; (intro w' hSw; go_simp) <;> with_reducible rfl) | (refine Or.inr ⟨by rfl, ?_⟩; with_reducible rfl)
      try simp only [List.getElem_toArray, List.getElem_cons_zero, List.getElem_cons_succ, Act.put, List.setIfInBounds_toArray, List.set_cons_zero, List.set_cons_succ]
      refine wpAnyU_take (i := 3) (v := ?v3b) rfl (by kernel_rfl) (by kernel_rfl) (by kernel_rfl) (by kernel_rfl) (fun _ _ _ h => h) ?hy3b SD ?rest3b
      case hy3b => first | (refine Or.inl ⟨by rfl, ?_⟩; (intro w' hSw; go_simp) <;> with_reducible rfl) | (refine Or.inr ⟨by rfl, ?_⟩; with_reducible rfl)
      try simp only [List.getElem_toArray, List.getElem_cons_zero, List.getElem_cons_succ, Act.put, List.setIfInBounds_toArray, List.set_cons_zero, List.set_cons_succ]
      refine wpAnyU_take (i := 4) (v := ?v4b) rfl (by kernel_rfl) (by kernel_rfl) (by kernel_rfl) (by kernel_rfl) (fun _ _ _ h => h) ?hy4b SD ?rest4b
      case hy4b => first | (refine Or.inl ⟨by rfl, ?_⟩; (intro w' hSw; go_simp) <;> with_reducible rfl) | (refine Or.inr ⟨by rfl, ?_⟩; with_reducible rfl)
      try simp only [List.getElem_toArray, List.getElem_cons_zero, List.getElem_cons_succ, Act.put, List.setIfInBounds_toArray, List.set_cons_zero, List.set_cons_succ]
      refine wpAnyU_take (i := 5) (v := ?v5b) rfl (by kernel_rfl) (by kernel_rfl) (by kernel_rfl) (by kernel_rfl) (fun _ _ _ h => h) ?hy5b SD ?rest5b
      case hy5b => first | (refine Or.inl ⟨by rfl, ?_⟩; (intro w' hSw; go_simp) <;> with_reducible rfl) | (refine Or.inr ⟨by rfl, ?_⟩; with_reducible rfl)
      try simp only [List.getElem_toArray, List.getElem_cons_zero, List.getElem_cons_succ, Act.put, List.setIfInBounds_toArray, List.set_cons_zero, List.set_cons_succ]
      refine wpAnyU_take (i := 6) (v := ?v6b) rfl (by kernel_rfl) (by kernel_rfl) (by kernel_rfl) (by kernel_rfl) (fun _ _ _ h => h) ?hy6b SD ?rest6b
      case hy6b => first | (refine Or.inl ⟨by rfl, ?_⟩; (intro w' hSw; go_simp) <;> with_reducible rfl) | (refine Or.inr ⟨by rfl, ?_⟩; with_reducible rfl)
      try simp only [List.getElem_toArray, List.getElem_cons_zero, List.getElem_cons_succ, Act.put, List.setIfInBounds_toArray, List.set_cons_zero, List.set_cons_succ]
      refine wpAnyU_take (i := 7) (v := ?v7b) rfl (by kernel_rfl) (by kernel_rfl) (by kernel_rfl) (by kernel_rfl) (fun _ _ _ h => h) ?hy7b SD ?rest7b
      case hy7b => first | (refine Or.inl ⟨by rfl, ?_⟩; (intro w' hSw; go_simp) <;> with_reducible rfl) | (refine Or.inr ⟨by rfl, ?_⟩; with_reducible rfl)
      try simp only [List.getElem_toArray, List.getElem_cons_zero, List.getElem_cons_succ, Act.put, List.setIfInBounds_toArray, List.set_cons_zero, List.set_cons_succ]
      refine wpAnyU_take (i := 8) (v := ?v8b) rfl (by kernel_rfl) (by kernel_rfl) (by kernel_rfl) (by kernel_rfl) (fun _ _ _ h => h) ?hy8b SD ?rest8b
      case hy8b => first | (refine Or.inl ⟨by rfl, ?_⟩; (intro w' hSw; go_simp) <;> with_reducible rfl) | (refine Or.inr ⟨by rfl, ?_⟩; with_reducible rfl)
      try simp only [List.getElem_toArray, List.getElem_cons_zero, List.getElem_cons_succ, Act.put, List.setIfInBounds_toArray, List.set_cons_zero, List.set_cons_succ]
      refine wpAnyU_take (i := 9) (v := ?v9b) rfl (by kernel_rfl) (by kernel_rfl) (by kernel_rfl) (by kernel_rfl) (fun _ _ _ h => h) ?hy9b SD ?rest9b
      case hy9b => first | (refine Or.inl ⟨by rfl, ?_⟩; (intro w' hSw; go_simp) <;> with_reducible rfl) | (refine Or.inr ⟨by rfl, ?_⟩; with_reducible rfl)
      try simp only [List.getElem_toArray, List.getElem_cons_zero, List.getElem_cons_succ, Act.put, List.setIfInBounds_toArray, List.set_cons_zero, List.set_cons_succ]
      refine wpAnyU_take (i := 10) (v := ?v10b) rfl (by kernel_rfl) (by kernel_rfl) (by kernel_rfl) (by kernel_rfl) (fun _ _ _ h => h) ?hy10b SD ?rest10b
      case hy10b => first | (refine Or.inl ⟨by rfl, ?_⟩; (intro w' hSw; go_simp) <;> with_reducible rfl) | (refine Or.inr ⟨by rfl, ?_⟩; with_reducible rfl)
      try simp only [List.getElem_toArray, List.getElem_cons_zero, List.getElem_cons_succ, Act.put, List.setIfInBounds_toArray, List.set_cons_zero, List.set_cons_succ]
      refine wpAnyU_take (i := 11) (v := ?v11b) rfl (by kernel_rfl) (by kernel_rfl) (by kernel_rfl) (by kernel_rfl) (fun _ _ _ h => h) ?hy11b SD ?rest11b
      case hy11b => first | (refine Or.inl ⟨by rfl, ?_⟩; (intro w' hSw; go_simp) <;> with_reducible rfl) | (refine Or.inr ⟨by rfl, ?_⟩; with_reducible rfl)
      try simp only [List.getElem_toArray, List.getElem_cons_zero, List.getElem_cons_succ, Act.put, List.setIfInBounds_toArray, List.set_cons_zero, List.set_cons_succ]
      refine wpAnyU_take (i := 12) (v := ?v12b) rfl (by kernel_rfl) (by kernel_rfl) (by kernel_rfl) (by kernel_rfl) (fun _ _ _ h => h) ?hy12b SD ?rest12b
      case hy12b => first | (refine Or.inl ⟨by rfl, ?_⟩; (intro w' hSw; go_simp) <;> with_reducible rfl) | (refine Or.inr ⟨by rfl, ?_⟩; with_reducible rfl)
      try simp only [List.getElem_toArray, List.getElem_cons_zero, List.getElem_cons_succ, Act.put, List.setIfInBounds_toArray, List.set_cons_zero, List.set_cons_succ]
      refine wpAnyU_take (i := 13) (v := ?v13b) rfl (by kernel_rfl) (by kernel_rfl) (by kernel_rfl) (by kernel_rfl) (fun _ _ _ h => h) ?hy13b SD ?rest13b
      case hy13b => first | (refine Or.inl ⟨by rfl, ?_⟩; (intro w' hSw; go_simp) <;> with_reducible rfl) | (refine Or.inr ⟨by rfl, ?_⟩; with_reducible rfl)
      try simp only [List.getElem_toArray, List.getElem_cons_zero, List.getElem_cons_succ, Act.put, List.setIfInBounds_toArray, List.set_cons_zero, List.set_cons_succ]
      refine wpAnyU_take (i := 14) (v := ?v14b) rfl (by kernel_rfl) (by kernel_rfl) (by kernel_rfl) (by kernel_rfl) (fun _ _ _ h => h) ?hy14b SD ?rest14b
      case hy14b => first | (refine Or.inl ⟨by rfl, ?_⟩; (intro w' hSw; go_simp) <;> with_reducible rfl) | (refine Or.inr ⟨by rfl, ?_⟩; with_reducible rfl)
      try simp only [List.getElem_toArray, List.getElem_cons_zero, List.getElem_cons_succ, Act.put, List.setIfInBounds_toArray, List.set_cons_zero, List.set_cons_succ]
      refine wpAnyU_take (i := 15) (v := ?v15b) rfl (by kernel_rfl) (by kernel_rfl) (by kernel_rfl) (by kernel_rfl) (fun _ _ _ h => h) ?hy15b SD ?rest15b
      case hy15b => first | (refine Or.inl ⟨by rfl, ?_⟩; (intro w' hSw; go_simp) <;> with_reducible rfl) | (refine Or.inr ⟨by rfl, ?_⟩; with_reducible rfl)
      try simp only [List.getElem_toArray, List.getElem_cons_zero, List.getElem_cons_succ, Act.put, List.setIfInBounds_toArray, List.set_cons_zero, List.set_cons_succ]
      refine wpAnyU_take (i := 16) (v := ?v16b) rfl (by kernel_rfl) (by kernel_rfl) (by kernel_rfl) (by kernel_rfl) (fun _ _ _ h => h) ?hy16b SD ?rest16b
      case hy16b => first | (refine Or.inl ⟨by rfl, ?_⟩; (intro w' hSw; go_simp) <;> with_reducible rfl) | (refine Or.inr ⟨by rfl, ?_⟩; with_reducible rfl)
      try simp only [List.getElem_toArray, List.getElem_cons_zero, List.getElem_cons_succ, Act.put, List.setIfInBounds_toArray, List.set_cons_zero, List.set_cons_succ]
      refine wpAnyU_take (i := 17) (v := ?v17b) rfl (by kernel_rfl) (by kernel_rfl) (by kernel_rfl) (by kernel_rfl) (fun _ _ _ h => h) ?hy17b SD ?rest17b
      case hy17b => first | (refine Or.inl ⟨by rfl, ?_⟩; (intro w' hSw; go_simp) <;> with_reducible rfl) | (refine Or.inr ⟨by rfl, ?_⟩; with_reducible rfl)
      try simp only [List.getElem_toArray, List.getElem_cons_zero, List.getElem_cons_succ, Act.put, List.setIfInBounds_toArray, List.set_cons_zero, List.set_cons_succ]
      refine wpAnyU_take (i := 18) (v := ?v18b) rfl (by kernel_rfl) (by kernel_rfl) (by kernel_rfl) (by kernel_rfl) (fun _ _ _ h => h) ?hy18b SD ?rest18b
      case hy18b => first | (refine Or.inl ⟨by rfl, ?_⟩; (intro w' hSw; go_simp) <;> with_reducible rfl) | (refine Or.inr ⟨by rfl, ?_⟩; with_reducible rfl)
      try simp only [List.getElem_toArray, List.getElem_cons_zero, List.getElem_cons_succ, Act.put, List.setIfInBounds_toArray, List.set_cons_zero, List.set_cons_succ]
      refine wpAnyU_take (i := 19) (v := ?v19b) rfl (by kernel_rfl) (by kernel_rfl) (by kernel_rfl) (by kernel_rfl) (fun _ _ _ h => h) ?hy19b SD ?rest19b
      case hy19b => first | (refine Or.inl ⟨by rfl, ?_⟩; (intro w' hSw; go_simp) <;> with_reducible rfl) | (refine Or.inr ⟨by rfl, ?_⟩; with_reducible rfl)
      try simp only [List.getElem_toArray, List.getElem_cons_zero, List.getElem_cons_succ, Act.put, List.setIfInBounds_toArray, List.set_cons_zero, List.set_cons_succ]
      refine wpAnyU_take (i := 20) (v := ?v20b) rfl (by kernel_rfl) (by kernel_rfl) (by kernel_rfl) (by kernel_rfl) (fun _ _ _ h => h) ?hy20b SD ?rest20b
      case hy20b => first | (refine Or.inl ⟨by rfl, ?_⟩; (intro w' hSw; go_simp) <;> with_reducible rfl) | (refine Or.inr ⟨by rfl, ?_⟩; with_reducible rfl)
      try simp only [List.getElem_toArray, List.getElem_cons_zero, List.getElem_cons_succ, Act.put, List.setIfInBounds_toArray, List.set_cons_zero, List.set_cons_succ]
      refine wpAnyU_take (i := 21) (v := ?v21b) rfl (by kernel_rfl) (by kernel_rfl) (by kernel_rfl) (by kernel_rfl) (fun _ _ _ h => h) ?hy21b SD ?rest21b
      case hy21b => first | (refine Or.inl ⟨by rfl, ?_⟩; (intro w' hSw; go_simp) <;> with_reducible rfl) | (refine Or.inr ⟨by rfl, ?_⟩; with_reducible rfl)
      try simp only [List.getElem_toArray, List.getElem_cons_zero, List.getElem_cons_succ, Act.put, List.setIfInBounds_toArray, List.set_cons_zero, List.set_cons_succ]
      refine wpAnyU_take (i := 22) (v := ?v22b) rfl (by kernel_rfl) (by kernel_rfl) (by kernel_rfl) (by kernel_rfl) (fun _ _ _ h => h) ?hy22b SD ?rest22b
      case hy22b => first | (refine Or.inl ⟨by rfl, ?_⟩; (intro w' hSw; go_simp) <;> with_reducible rfl) | (refine Or.inr ⟨by rfl, ?_⟩; with_reducible rfl)
      try simp only [List.getElem_toArray, List.getElem_cons_zero, List.getElem_cons_succ, Act.put, List.setIfInBounds_toArray, List.set_cons_zero, List.set_cons_succ]
      refine wpAnyW_take (i := 23) (v := ?v23b) rfl (by kernel_rfl) (by kernel_rfl) (by kernel_rfl) (by kernel_rfl) (fun _ _ _ h => h) (Or.inl ⟨by rfl, ?hy23b⟩) ?rest23b
      case hy23b => (intro w' hSw; go_simp) <;> with_reducible rfl
      try simp only [List.getElem_toArray, List.getElem_cons_zero, List.getElem_cons_succ, Act.put, List.setIfInBounds_toArray, List.set_cons_zero, List.set_cons_succ]
      refine wpAnyT_one (i := 24) (by kernel_rfl) rfl (fun K hK => ?_)
      go_simp
      refine hK.out _ _ (fun h => absurd h (by decide)) ?_
      clear hK K
      try simp only [List.getElem_toArray, List.getElem_cons_zero, List.getElem_cons_succ, Act.put, List.setIfInBounds_toArray, List.set_cons_zero, List.set_cons_succ]
      refine wpAnyT_done (by kernel_rfl) ?_ _
      refine NoPanic.normal ?_
      clear SD HD c6 f6 P6 M0 M1
      have hcN := (HW1.out.w.cell 6 (v := .bool false) rfl)
      go_wp2_with fail
      (try simp only [Exit.inBlock, Exit.then]); refine bodyPost_ret (results_none rfl _ _ _) rfl ?_
      subst hre2
      exact ⟨rfl, ⟨ins, by simpa using HW1.out, fun y e => by cases e⟩, HF1.out⟩
  · have hre2 : r = none := by rw [if_neg (fun h => hlt h.1)] at hre; exact hre.symm
    have hle : decide (imm < (v.n : Int)) = false := decide_eq_false (by omega)
    clear hlt
    clear hre
    go_enter Tryz.func88, Tryz.ntmps88
    go_wp2_with fail
    generalize W.alloc (.cells #[.int .i64 6, .int .i64 fn, .int .i64 dst, .int .i64 src, .bool reg, .int .i64 off, .int .u32 imm] 95) = W0 at *
    obtain ⟨gr, hgr⟩ : ∃ gr, W.heap.size = gr := ⟨_, rfl⟩
    rw [hgr] at B1 g1 g2 g3
    simp only [hgr]
    clear hgr
    have n1 : gr ≠ v.g := by omega
    have n2 : gr ≠ v.Bi := by omega
    have n3 : gr ≠ v.Bs := by omega
    have B1 := Lib.hid B1
    have P6 := fun (w' : World) (hb : Bel W0 w') => (B1.out.bel hb).cell 6 (v := .int .u32 imm) rfl
    have M0 := fun (w' : World) (hb : Bel W0 w') => (H.out.bel hb).w.cell 0 (v := .slice v.A v.n v.c) rfl
    have M1 := fun (w' : World) (hb : Bel W0 w') => (H.out.bel hb).w.cell 1 (v := .int .i64 v.fn) rfl
    have SD : Bel W0 W0.drew := (Bel.refl W0).drew
    have HD := H.out.bel SD
    have c6 := HD.w.cell 6 (v := .bool true) rfl
    have f6 := HD.w.frozen 6
    have HW1 := Lib.hid ((H.out.safe false).bel (Bel.refl _).drew)
    have HF1 := Lib.hid ((HF.out.trans (Fr.set (v := v) (N := N) W0 (p := ⟨v.g, 6, none⟩) (.inl rfl) HD.ng (.bool false))).trans (Fr.bel (Bel.refl _).drew (H.out.safe false).nw))
    refine wp_region_T (fun w' => Bel W0 w') (fun i => i == 23 || i == 24) (by kernel_rfl) ?_
    refine wpAnyU_take (i := 0) (v := ?v0c) rfl (by kernel_rfl) (by kernel_rfl) (by kernel_rfl) (by kernel_rfl) (fun _ _ _ h => h) ?hy0c SD ?rest0c
    case hy0c => first | (refine Or.inl ⟨by rfl, ?_⟩; (intro w' hSw; go_simp) <;> with_reducible rfl) | (refine Or.inr ⟨by rfl, ?_⟩; with_reducible rfl)
    try simp only [List.getElem_toArray, List.getElem_cons_zero, List.getElem_cons_succ, Act.put, List.setIfInBounds_toArray, List.set_cons_zero, List.set_cons_succ]
    refine wpAnyU_take (i := 1) (v := ?v1c) rfl (by kernel_rfl) (by kernel_rfl) (by kernel_rfl) (by kernel_rfl) (fun _ _ _ h => h) ?hy1c SD ?rest1c
    case hy1c => first | (refine Or.inl ⟨by rfl, ?_⟩; (intro w' hSw; go_simp) <;> with_reducible rfl) | (refine Or.inr ⟨by rfl, ?_⟩; with_reducible rfl)
    try simp only [List.getElem_toArray, List.getElem_cons_zero, List.getElem_cons_succ, Act.put, List.setIfInBounds_toArray, List.set_cons_zero, List.set_cons_succ]
    refine wpAnyU_take (i := 2) (v := ?v2c) rfl (by kernel_rfl) (by kernel_rfl) (by kernel_rfl) (by kernel_rfl) (fun _ _ _ h => h) ?hy2c SD ?rest2c
    case hy2c => first | (refine Or.inl ⟨by rfl, ?_⟩; (intro w' hSw; go_simp) <;> with_reducible rfl) | (refine Or.inr ⟨by rfl, ?_⟩; with_reducible rfl)
    try simp only [List.getElem_toArray, List.getElem_cons_zero, List.getElem_cons_succ, Act.put, List.setIfInBounds_toArray, List.set_cons_zero, List.set_cons_succ]
    refine wpAnyU_take (i := 3) (v := ?v3c) rfl (by kernel_rfl) (by kernel_rfl) (by kernel_rfl) (by kernel_rfl) (fun _ _ _ h => h) ?hy3c SD ?rest3c
    case hy3c => first | (refine Or.inl ⟨by rfl, ?_⟩; (intro w' hSw; go_simp) <;> with_reducible rfl) | (refine Or.inr ⟨by rfl, ?_⟩; with_reducible rfl)
    try simp only [List.getElem_toArray, List.getElem_cons_zero, List.getElem_cons_succ, Act.put, List.setIfInBounds_toArray, List.set_cons_zero, List.set_cons_succ]
    refine wpAnyU_take (i := 4) (v := ?v4c) rfl (by kernel_rfl) (by kernel_rfl) (by kernel_rfl) (by kernel_rfl) (fun _ _ _ h => h) ?hy4c SD ?rest4c
    case hy4c => first | (refine Or.inl ⟨by rfl, ?_⟩; (intro w' hSw; go_simp) <;> with_reducible rfl) | (refine Or.inr ⟨by rfl, ?_⟩; with_reducible rfl)
    try simp only [List.getElem_toArray, List.getElem_cons_zero, List.getElem_cons_succ, Act.put, List.setIfInBounds_toArray, List.set_cons_zero, List.set_cons_succ]
    refine wpAnyU_take (i := 5) (v := ?v5c) rfl (by kernel_rfl) (by kernel_rfl) (by kernel_rfl) (by kernel_rfl) (fun _ _ _ h => h) ?hy5c SD ?rest5c
    case hy5c => first | (refine Or.inl ⟨by rfl, ?_⟩; (intro w' hSw; go_simp) <;> with_reducible rfl) | (refine Or.inr ⟨by rfl, ?_⟩; with_reducible rfl)
    try simp only [List.getElem_toArray, List.getElem_cons_zero, List.getElem_cons_succ, Act.put, List.setIfInBounds_toArray, List.set_cons_zero, List.set_cons_succ]
    refine wpAnyU_take (i := 6) (v := ?v6c) rfl (by kernel_rfl) (by kernel_rfl) (by kernel_rfl) (by kernel_rfl) (fun _ _ _ h => h) ?hy6c SD ?rest6c
    case hy6c => first | (refine Or.inl ⟨by rfl, ?_⟩; (intro w' hSw; go_simp) <;> with_reducible rfl) | (refine Or.inr ⟨by rfl, ?_⟩; with_reducible rfl)
    try simp only [List.getElem_toArray, List.getElem_cons_zero, List.getElem_cons_succ, Act.put, List.setIfInBounds_toArray, List.set_cons_zero, List.set_cons_succ]
    refine wpAnyU_take (i := 7) (v := ?v7c) rfl (by kernel_rfl) (by kernel_rfl) (by kernel_rfl) (by kernel_rfl) (fun _ _ _ h => h) ?hy7c SD ?rest7c
    case hy7c => first | (refine Or.inl ⟨by rfl, ?_⟩; (intro w' hSw; go_simp) <;> with_reducible rfl) | (refine Or.inr ⟨by rfl, ?_⟩; with_reducible rfl)
    try simp only [List.getElem_toArray, List.getElem_cons_zero, List.getElem_cons_succ, Act.put, List.setIfInBounds_toArray, List.set_cons_zero, List.set_cons_succ]
    refine wpAnyU_take (i := 8) (v := ?v8c) rfl (by kernel_rfl) (by kernel_rfl) (by kernel_rfl) (by kernel_rfl) (fun _ _ _ h => h) ?hy8c SD ?rest8c
    case hy8c => first | (refine Or.inl ⟨by rfl, ?_⟩; (intro w' hSw; go_simp) <;> with_reducible rfl) | (refine Or.inr ⟨by rfl, ?_⟩; with_reducible rfl)
    try simp only [List.getElem_toArray, List.getElem_cons_zero, List.getElem_cons_succ, Act.put, List.setIfInBounds_toArray, List.set_cons_zero, List.set_cons_succ]
    refine wpAnyU_take (i := 9) (v := ?v9c) rfl (by kernel_rfl) (by kernel_rfl) (by kernel_rfl) (by kernel_rfl) (fun _ _ _ h => h) ?hy9c SD ?rest9c
    case hy9c => first | (refine Or.inl ⟨by rfl, ?_⟩; (intro w' hSw; go_simp) <;> with_reducible rfl) | (refine Or.inr ⟨by rfl, ?_⟩; with_reducible rfl)
    try simp only [List.getElem_toArray, List.getElem_cons_zero, List.getElem_cons_succ, Act.put, List.setIfInBounds_toArray, List.set_cons_zero, List.set_cons_succ]
    refine wpAnyU_take (i := 10) (v := ?v10c) rfl (by kernel_rfl) (by kernel_rfl) (by kernel_rfl) (by kernel_rfl) (fun _ _ _ h => h) ?hy10c SD ?rest10c
    case hy10c => first | (refine Or.inl ⟨by rfl, ?_⟩; (intro w' hSw; go_simp) <;> with_reducible rfl) | (refine Or.inr ⟨by rfl, ?_⟩; with_reducible rfl)
    try simp only [List.getElem_toArray, List.getElem_cons_zero, List.getElem_cons_succ, Act.put, List.setIfInBounds_toArray, List.set_cons_zero, List.set_cons_succ]
    refine wpAnyU_take (i := 11) (v := ?v11c) rfl (by kernel_rfl) (by kernel_rfl) (by kernel_rfl) (by kernel_rfl) (fun _ _ _ h => h) ?hy11c SD ?rest11c
    case hy11c => first | (refine Or.inl ⟨by rfl, ?_⟩; (intro w' hSw; go_simp) <;> with_reducible rfl) | (refine Or.inr ⟨by rfl, ?_⟩; with_reducible rfl)
    try simp only [List.getElem_toArray, List.getElem_cons_zero, List.getElem_cons_succ, Act.put, List.setIfInBounds_toArray, List.set_cons_zero, List.set_cons_succ]
    refine wpAnyU_take (i := 12) (v := ?v12c) rfl (by kernel_rfl) (by kernel_rfl) (by kernel_rfl) (by kernel_rfl) (fun _ _ _ h => h) ?hy12c SD ?rest12c
    case hy12c => first | (refine Or.inl ⟨by rfl, ?_⟩; (intro w' hSw; go_simp) <;> with_reducible rfl) | (refine Or.inr ⟨by rfl, ?_⟩; with_reducible rfl)
    try simp only [List.getElem_toArray, List.getElem_cons_zero, List.getElem_cons_succ, Act.put, List.setIfInBounds_toArray, List.set_cons_zero, List.set_cons_succ]
    refine wpAnyU_take (i := 13) (v := ?v13c) rfl (by kernel_rfl) (by kernel_rfl) (by kernel_rfl) (by kernel_rfl) (fun _ _ _ h => h) ?hy13c SD ?rest13c
    case hy13c => first | (refine Or.inl ⟨by rfl, ?_⟩; (intro w' hSw; go_simp) <;> with_reducible rfl) | (refine Or.inr ⟨by rfl, ?_⟩; with_reducible rfl)
    try simp only [List.getElem_toArray, List.getElem_cons_zero, List.getElem_cons_succ, Act.put, List.setIfInBounds_toArray, List.set_cons_zero, List.set_cons_succ]
    refine wpAnyU_take (i := 14) (v := ?v14c) rfl (by kernel_rfl) (by kernel_rfl) (by kernel_rfl) (by kernel_rfl) (fun _ _ _ h => h) ?hy14c SD ?rest14c
    case hy14c => first | (refine Or.inl ⟨by rfl, ?_⟩; (intro w' hSw; go_simp) <;> with_reducible rfl) | (refine Or.inr ⟨by rfl, ?_⟩; with_reducible rfl)
    try simp only [List.getElem_toArray, List.getElem_cons_zero, List.getElem_cons_succ, Act.put, List.setIfInBounds_toArray, List.set_cons_zero, List.set_cons_succ]
    refine wpAnyU_take (i := 15) (v := ?v15c) rfl (by kernel_rfl) (by kernel_rfl) (by kernel_rfl) (by kernel_rfl) (fun _ _ _ h => h) ?hy15c SD ?rest15c
    case hy15c => first | (refine Or.inl ⟨by rfl, ?_⟩; (intro w' hSw; go_simp) <;> with_reducible rfl) | (refine Or.inr ⟨by rfl, ?_⟩; with_reducible rfl)
    try simp only [List.getElem_toArray, List.getElem_cons_zero, List.getElem_cons_succ, Act.put, List.setIfInBounds_toArray, List.set_cons_zero, List.set_cons_succ]
    refine wpAnyU_take (i := 16) (v := ?v16c) rfl (by kernel_rfl) (by kernel_rfl) (by kernel_rfl) (by kernel_rfl) (fun _ _ _ h => h) ?hy16c SD ?rest16c
    case hy16c => first | (refine Or.inl ⟨by rfl, ?_⟩; (intro w' hSw; go_simp) <;> with_reducible rfl) | (refine Or.inr ⟨by rfl, ?_⟩; with_reducible rfl)
    try simp only [List.getElem_toArray, List.getElem_cons_zero, List.getElem_cons_succ, Act.put, List.setIfInBounds_toArray, List.set_cons_zero, List.set_cons_succ]
    refine wpAnyU_take (i := 17) (v := ?v17c) rfl (by kernel_rfl) (by kernel_rfl) (by kernel_rfl) (by kernel_rfl) (fun _ _ _ h => h) ?hy17c SD ?rest17c
    case hy17c => first | (refine Or.inl ⟨by rfl, ?_⟩; (intro w' hSw; go_simp) <;> with_reducible rfl) | (refine Or.inr ⟨by rfl, ?_⟩; with_reducible rfl)
    try simp only [List.getElem_toArray, List.getElem_cons_zero, List.getElem_cons_succ, Act.put, List.setIfInBounds_toArray, List.set_cons_zero, List.set_cons_succ]
    refine wpAnyU_take (i := 18) (v := ?v18c) rfl (by kernel_rfl) (by kernel_rfl) (by kernel_rfl) (by kernel_rfl) (fun _ _ _ h => h) ?hy18c SD ?rest18c
    case hy18c => first | (refine Or.inl ⟨by rfl, ?_⟩; (intro w' hSw; go_simp) <;> with_reducible rfl) | (refine Or.inr ⟨by rfl, ?_⟩; with_reducible rfl)
    try simp only [List.getElem_toArray, List.getElem_cons_zero, List.getElem_cons_succ, Act.put, List.setIfInBounds_toArray, List.set_cons_zero, List.set_cons_succ]
    refine wpAnyU_take (i := 19) (v := ?v19c) rfl (by kernel_rfl) (by kernel_rfl) (by kernel_rfl) (by kernel_rfl) (fun _ _ _ h => h) ?hy19c SD ?rest19c
    case hy19c => first | (refine Or.inl ⟨by rfl, ?_⟩; (intro w' hSw; go_simp) <;> with_reducible rfl) | (refine Or.inr ⟨by rfl, ?_⟩; with_reducible rfl)
    try simp only [List.getElem_toArray, List.getElem_cons_zero, List.getElem_cons_succ, Act.put, List.setIfInBounds_toArray, List.set_cons_zero, List.set_cons_succ]
    refine wpAnyU_take (i := 20) (v := ?v20c) rfl (by kernel_rfl) (by kernel_rfl) (by kernel_rfl) (by kernel_rfl) (fun _ _ _ h => h) ?hy20c SD ?rest20c
    case hy20c => first | (refine Or.inl ⟨by rfl, ?_⟩; (intro w' hSw; go_simp) <;> with_reducible rfl) | (refine Or.inr ⟨by rfl, ?_⟩; with_reducible rfl)
    try simp only [List.getElem_toArray, List.getElem_cons_zero, List.getElem_cons_succ, Act.put, List.setIfInBounds_toArray, List.set_cons_zero, List.set_cons_succ]
    refine wpAnyU_take (i := 21) (v := ?v21c) rfl (by kernel_rfl) (by kernel_rfl) (by kernel_rfl) (by kernel_rfl) (fun _ _ _ h => h) ?hy21c SD ?rest21c
    case hy21c => first | (refine Or.inl ⟨by rfl, ?_⟩; (intro w' hSw; go_simp) <;> with_reducible rfl) | (refine Or.inr ⟨by rfl, ?_⟩; with_reducible rfl)
    try simp only [List.getElem_toArray, List.getElem_cons_zero, List.getElem_cons_succ, Act.put, List.setIfInBounds_toArray, List.set_cons_zero, List.set_cons_succ]
    refine wpAnyU_take (i := 22) (v := ?v22c) rfl (by kernel_rfl) (by kernel_rfl) (by kernel_rfl) (by kernel_rfl) (fun _ _ _ h => h) ?hy22c SD ?rest22c
    case hy22c => first | (refine Or.inl ⟨by rfl, ?_⟩; (intro w' hSw; go_simp) <;> with_reducible rfl) | (refine Or.inr ⟨by rfl, ?_⟩; with_reducible rfl)
    try simp only [List.getElem_toArray, List.getElem_cons_zero, List.getElem_cons_succ, Act.put, List.setIfInBounds_toArray, List.set_cons_zero, List.set_cons_succ]
    refine wpAnyW_take (i := 23) (v := ?v23c) rfl (by kernel_rfl) (by kernel_rfl) (by kernel_rfl) (by kernel_rfl) (fun _ _ _ h => h) (Or.inl ⟨by rfl, ?hy23c⟩) ?rest23c
    case hy23c => (intro w' hSw; go_simp) <;> with_reducible rfl
    try simp only [List.getElem_toArray, List.getElem_cons_zero, List.getElem_cons_succ, Act.put, List.setIfInBounds_toArray, List.set_cons_zero, List.set_cons_succ]
    refine wpAnyT_one (i := 24) (by kernel_rfl) rfl (fun K hK => ?_)
    go_simp
    refine hK.out _ _ (fun h => absurd h (by decide)) ?_
    clear hK K
    try simp only [List.getElem_toArray, List.getElem_cons_zero, List.getElem_cons_succ, Act.put, List.setIfInBounds_toArray, List.set_cons_zero, List.set_cons_succ]
    refine wpAnyT_done (by kernel_rfl) ?_ _
    refine NoPanic.normal ?_
    clear SD HD c6 f6 P6 M0 M1
    have hcN := (HW1.out.w.cell 6 (v := .bool false) rfl)
    go_wp2_with fail
    (try simp only [Exit.inBlock, Exit.then]); refine bodyPost_ret (results_none rfl _ _ _) rfl ?_
    subst hre2
    exact ⟨rfl, ⟨ins, by simpa using HW1.out, fun y e => by cases e⟩, HF1.out⟩
end Go.Proofs.YtebdnobgdimdoaaGreat
set_option linter.unusedVariables false
set_option linter.unusedSimpArgs false
namespace Go.Proofs.YtebdnobgdimdoaaGreat
open Go.RowKit
theorem vHanded_get {s : ShD} {many j : Nat} (h : vHanded s many = true) (hj : j < many) : (shGet s ((j : Int) + 1)).isSome = true := by
  unfold vHanded at h
  rw [List.all_eq_true] at h
  exact h j (List.mem_range.2 hj)
set_option maxHeartbeats 4000000 in
set_option maxRecDepth 100000 in
theorem help_any (p : List FnD) (ls : List SchD) (v : VE) (N : Nat) (w0 W : World) (k : Nat) (ins : InsD) (h : Wk v N W k true ins) (hb0 : Bel w0 W) (hN0 : w0.heap.size ≤ N) (hp : Sl FnR 2 w0 v.A v.c p) (hn : p.length = v.n) (hls : Sl SchR 4 w0 v.Q v.cQ ls) (hnl : ls.length = v.nl) (hpm : progMay p = true) (hsm : ls.all schMay = true) (hl4 : ls.length ≤ 4) (hk : k < ins.length) (s : ShD) (hsk : Hid (sh0 ins[k] = s)) (op fn dst src : Int) (reg : Bool) (off imm : Int) (him : U32 imm) (hm : Hid (mayB op fn dst src reg off imm = true)) (hop : op = 5) (r : Option InsD) (hr : Hid (vStep p v.fn ls k ⟨op, fn, dst, src, reg, off, imm⟩ s ins = r)) :
    Calls Tryz.prog 87 #[.pointer (some ⟨v.g, 0, none⟩), .agg #[.int .i64 op, .int .i64 fn, .int .i64 dst, .int .i64 src, .bool reg, .int .i64 off, .int .u32 imm]] W fun e w' => e = .returned (.tuple #[]) ∧ (∃ ins', Wk v N w' k r.isSome ins' ∧ (∀ x, r = some x → ins' = x)) ∧ Fr v N W w' := by
  subst hop
  have hs : shOk s := by
    rw [← hsk.out]
    cases e : ins[k] with
    | none => intro i b hb; cases hb
    | some u => exact h.ok _ (List.getElem_mem hk) u e
  have hre := hr.out
  unfold vStep at hre
  rw [if_neg (by show ¬ ((5 : Int) = 0); decide)] at hre
  rw [if_neg (by show ¬ ((5 : Int) = 1); decide)] at hre
  rw [if_neg (by show ¬ ((5 : Int) = 2); decide)] at hre
  rw [if_neg (by show ¬ ((5 : Int) = 3); decide)] at hre
  rw [if_neg (by show ¬ ((5 : Int) = 4); decide)] at hre
  rw [if_pos rfl] at hre
  have H0 := h
  have H := Lib.hid (h.bel ((Bel.refl W).alloc (.cells #[.int .i64 5, .int .i64 fn, .int .i64 dst, .int .i64 src, .bool reg, .int .i64 off, .int .u32 imm] 95)))
  have HF := Lib.hid (Fr.bel (v := v) ((Bel.refl W).alloc (.cells #[.int .i64 5, .int .i64 fn, .int .i64 dst, .int .i64 src, .bool reg, .int .i64 off, .int .u32 imm] 95)) h.nw)
  have HBI := Lib.hid (hb0.alloc (.cells #[.int .i64 5, .int .i64 fn, .int .i64 dst, .int .i64 src, .bool reg, .int .i64 off, .int .u32 imm] 95))
  have B1 := Bk.new W 95 #[.int .i64 5, .int .i64 fn, .int .i64 dst, .int .i64 src, .bool reg, .int .i64 off, .int .u32 imm]
  have g1 := h.w.lt
  have g2 := h.i.lt
  have g3 := h.s.lt
  have i0 : 0 ≤ imm := him.lo
  have i1 : imm < 4294967296 := him.hi
  have em : IntKind.u64.wrap imm = imm := by simp [IntKind.wrap, IntKind.bits, IntKind.signed]; omega
  have ei : IntKind.i64.wrap imm = imm := wrap_i64 (by omega) (by omega)
  have hp8 : p.length ≤ 8 := by
    have := hpm
    unfold progMay at this
    simp only [Bool.and_eq_true, decide_eq_true_iff] at this
    exact this.1.1.2
  have en : IntKind.u64.wrap (v.n : Int) = v.n := by simp [IntKind.wrap, IntKind.bits, IntKind.signed]; omega
  have enl : IntKind.u64.wrap (v.nl : Int) = v.nl := by simp [IntKind.wrap, IntKind.bits, IntKind.signed]; omega
  clear h hr
  rcases (show 6 ≤ imm ∨ imm < 6 by omega) with h6 | h6
  · have HA : hArgs imm = -1 := by unfold hArgs; rw [if_neg (by omega), if_neg (by omega), if_neg (by omega), if_neg (by omega), if_neg (by omega), if_neg (by omega)]
    have hnone : r = none := by rw [if_neg (by rw [HA]; rintro ⟨h, -⟩; omega)] at hre; exact hre.symm
    clear hre
    have HNONE := Lib.hid hnone
    clear hnone
    go_enter Tryz.func87, Tryz.ntmps87
    go_wp2_with fail
    generalize W.alloc (.cells #[.int .i64 5, .int .i64 fn, .int .i64 dst, .int .i64 src, .bool reg, .int .i64 off, .int .u32 imm] 95) = W0 at *
    obtain ⟨gr, hgr⟩ : ∃ gr, W.heap.size = gr := ⟨_, rfl⟩
    rw [hgr] at B1 g1 g2 g3
    simp only [hgr]
    clear hgr
    have n1 : gr ≠ v.g := by omega
    have n2 : gr ≠ v.Bi := by omega
    have n3 : gr ≠ v.Bs := by omega
    have B1 := Lib.hid B1
    have P6 := B1.out.cell 6 (v := .int .u32 imm) rfl
    go_wp2_with fail
    refine (hargs_any imm _).mono ?_
    rintro e w1 ⟨rfl, hb1⟩
    rw [HA]
    have H1 := Lib.hid (H.out.bel hb1)
    have F1 := Lib.hid (HF.out.trans (Fr.bel hb1 H.out.nw))
    clear P6 HA
    have c6 := H1.out.w.cell 6 (v := .bool true) rfl
    have f6 := H1.out.w.frozen 6
    have HW := Lib.hid (H1.out.safe false)
    have HE := Lib.hid (F1.out.trans (Fr.set (v := v) (N := N) w1 (p := ⟨v.g, 6, none⟩) (.inl rfl) H1.out.ng (.bool false)))
    have c6' := HW.out.w.cell 6 (v := .bool false) rfl
    go_wp2_with fail
    (try simp only [Exit.inBlock, Exit.then]); refine bodyPost_ret (results_none rfl _ _ _) rfl ?_
    have hnone := HNONE.out
    exact ⟨rfl, ⟨ins, by rw [hnone]; simpa using HW.out, fun y e => by rw [hnone] at e; cases e⟩, HE.out⟩
  obtain ⟨m, hm0, hm4, hm2, hm3⟩ : ∃ m : Nat, hArgs imm = m ∧ m ≤ 4 ∧ (imm ≠ 4 → 1 ≤ m) ∧ (imm = 0 ∨ imm = 1 → 3 ≤ m) := by
    rcases (show imm = 0 ∨ imm = 1 ∨ imm = 2 ∨ imm = 3 ∨ imm = 4 ∨ imm = 5 by omega) with rfl | rfl | rfl | rfl | rfl | rfl
    · exact ⟨3, rfl, by omega, by omega, by omega⟩
    · exact ⟨4, rfl, by omega, by omega, by omega⟩
    · exact ⟨2, rfl, by omega, by omega, by omega⟩
    · exact ⟨2, rfl, by omega, by omega, by omega⟩
    · exact ⟨0, rfl, by omega, by omega, by omega⟩
    · exact ⟨2, rfl, by omega, by omega, by omega⟩
  obtain ⟨x, hx⟩ : ∃ x, Hid (vTo ins (k + 1) (shBack s) = x) := ⟨_, Lib.hid rfl⟩
  obtain ⟨hd, hhd⟩ : ∃ b, vHanded s m = b := ⟨_, rfl⟩
  have m0 : 0 ≤ (m : Int) := by omega
  rw [hm0, show ((m : Int)).toNat = m by omega, hhd, hx.out] at hre
  have HRE := Lib.hid hre
  clear hre
  go_enter Tryz.func87, Tryz.ntmps87
  go_wp2_with fail
  generalize W.alloc (.cells #[.int .i64 5, .int .i64 fn, .int .i64 dst, .int .i64 src, .bool reg, .int .i64 off, .int .u32 imm] 95) = W0 at *
  obtain ⟨gr, hgr⟩ : ∃ gr, W.heap.size = gr := ⟨_, rfl⟩
  rw [hgr] at B1 g1 g2 g3
  simp only [hgr]
  clear hgr
  have n1 : gr ≠ v.g := by omega
  have n2 : gr ≠ v.Bi := by omega
  have n3 : gr ≠ v.Bs := by omega
  have B1 := Lib.hid B1
  have P6 := B1.out.cell 6 (v := .int .u32 imm) rfl
  go_wp2_with fail
  refine (hargs_any imm _).mono ?_
  rintro e w1 ⟨rfl, hb1⟩
  rw [hm0]
  have H1 := Lib.hid (H.out.bel hb1)
  have F1 := Lib.hid (HF.out.trans (Fr.bel hb1 H.out.nw))
  clear P6
  have c6 := H1.out.w.cell 6 (v := .bool true) rfl
  have f6 := H1.out.w.frozen 6
  have HW := Lib.hid (H1.out.safe true)
  have HE := Lib.hid (F1.out.trans (Fr.set (v := v) (N := N) w1 (p := ⟨v.g, 6, none⟩) (.inl rfl) H1.out.ng (.bool true)))
  have c6' := HW.out.w.cell 6 (v := .bool true) rfl
  go_wp2_with fail
  refine (handed_any v N _ k true ins HW.out hk s hsk m hm4).mono ?_
  rintro e w2 ⟨rfl, hw2, hf2⟩
  rw [hhd, Bool.true_and] at hw2
  have H2 := Lib.hid hw2
  have F2 := Lib.hid (HE.out.trans hf2)
  clear c6 f6 HW HE c6' hw2 hf2 hb1 H1 F1
  have c6 := H2.out.w.cell 6 (v := .bool hd) rfl
  cases hd
  · have HN : Hid (r = none) := Lib.hid (by have h := HRE.out; rw [if_neg (by simp)] at h; exact h.symm)
    go_wp2_with fail
    refine (here_any v N _ k _ ins H2.out hk s hsk).mono ?_
    rintro e w20 ⟨rfl, hb20⟩
    go_wp2_with fail
    refine (shback_any s hs _).mono ?_
    rintro e w21 ⟨rfl, hb21⟩
    have hb21 := hb20.trans hb21
    go_wp2_with fail
    refine (wthen_any v N _ k _ ins ((H2.out).bel hb21) hk (shBack s) (shBack_ok hs) x hx).mono ?_
    rintro e w22 ⟨rfl, hw22, hf22⟩
    have HE := Lib.hid (((F2.out).trans (Fr.bel hb21 (H2.out).nw)).trans hf22)
    have HW := Lib.hid hw22
    clear hb20 hb21 hw22 hf22
    go_wp2_with fail
    go_end0
    exact ⟨rfl, fin_put (b := false) (x := x) (ins := ins) (fun _ => HN.out) (fun h => by cases h) (by simpa using HW.out), HE.out⟩
  by_cases h4 : imm = 4
  · subst h4
    have HS : Hid (r = x) := Lib.hid (by have h := HRE.out; rw [if_pos ⟨m0, rfl, by unfold vHelp; rw [if_pos rfl]⟩] at h; exact h.symm)
    go_wp2_with fail
    refine (here_any v N _ k _ ins H2.out hk s hsk).mono ?_
    rintro e w20 ⟨rfl, hb20⟩
    go_wp2_with fail
    refine (shback_any s hs _).mono ?_
    rintro e w21 ⟨rfl, hb21⟩
    have hb21 := hb20.trans hb21
    go_wp2_with fail
    refine (wthen_any v N _ k _ ins ((H2.out).bel hb21) hk (shBack s) (shBack_ok hs) x hx).mono ?_
    rintro e w22 ⟨rfl, hw22, hf22⟩
    have HE := Lib.hid (((F2.out).trans (Fr.bel hb21 (H2.out).nw)).trans hf22)
    have HW := Lib.hid hw22
    clear hb20 hb21 hw22 hf22
    go_wp2_with fail
    go_end0
    exact ⟨rfl, fin_put (b := true) (ins := ins) (fun h => by cases h) (fun _ => HS.out) (by simpa using HW.out), HE.out⟩
  have e4 : (imm != 4) = true := by simp [h4]
  have h1s := vHanded_get hhd (show 0 < m by have := hm2 h4; omega)
  obtain ⟨b, hb1'⟩ := Option.isSome_iff_exists.1 h1s
  have hg1 : shGet s 1 = some b := hb1'
  clear h1s hb1'
  have hbok := shGet_ok hs hg1
  have HG : Hid (r = if vHelp s imm ls = true then x else none) := Lib.hid (by
    have h := HRE.out
    by_cases hv : vHelp s imm ls = true
    · rw [if_pos ⟨m0, rfl, hv⟩] at h
      rw [if_pos hv]; exact h.symm
    · rw [if_neg (fun h' => hv h'.2.2)] at h
      rw [if_neg hv]; exact h.symm)
  have HV : Hid (vHelp s imm ls = (decide (b.1 = b.2 ∧ b.1 < ls.length) && hFits imm (ls[b.1]!) && (if imm = 0 ∨ imm = 1 then (match shGet s 3 with
    | none => false
    | some c => decide ((c.2 : Int) < (ls[b.1]!).words)) else true))) := Lib.hid (by unfold vHelp; rw [if_neg h4, hg1]; rfl)
  go_wp2_with fail
  refine (wget_any v N _ k true ins H2.out hk s hsk 1 (some b) (Lib.hid hg1)).mono ?_
  rintro e w3 ⟨rfl, hw3, hf3⟩
  rw [show (true && (some b).isSome) = true from rfl] at hw3
  go_wp2_with fail
  refine (ends_any b.1 b.2 _ hbok.1 hbok.2).mono ?_
  rintro e w4 ⟨rfl, hb4⟩
  have H4 := Lib.hid (hw3.bel hb4)
  have F4 := Lib.hid ((F2.out.trans hf3).trans (Fr.bel hb4 hw3.nw))
  clear c6 H2 F2 hw3 hf3 hb4
  obtain ⟨lo, hi⟩ := b
  dsimp only at *
  have c6 := H4.out.w.cell 6 (v := .bool true) rfl
  have f6 := H4.out.w.frozen 6
  have HW := Lib.hid (H4.out.safe false)
  have HE := Lib.hid (F4.out.trans (Fr.set (v := v) (N := N) w4 (p := ⟨v.g, 6, none⟩) (.inl rfl) H4.out.ng (.bool false)))
  have c6' := HW.out.w.cell 6 (v := .bool false) rfl
  have c2 := H4.out.w.cell 2 (v := .slice v.Q v.nl v.cQ) rfl
  by_cases hlh : lo = hi
  rotate_left
  · have hnone : r = none := by rw [HG.out, HV.out, decide_eq_false (fun h => hlh h.1)]; simp
    have k1 : ((lo : Int) == (hi : Int)) = false := beq_eq_false_iff_ne.2 (by omega)
    have HNONE := Lib.hid hnone
    clear hnone hlh
    go_wp2_with fail
    (try simp only [Exit.inBlock, Exit.then]); refine bodyPost_ret (results_none rfl _ _ _) rfl ?_
    have hnone := HNONE.out
    exact ⟨rfl, ⟨ins, by rw [hnone]; simpa using HW.out, fun y e => by rw [hnone] at e; cases e⟩, HE.out⟩
  subst hlh
  have lo0 : 0 ≤ (lo : Int) := by omega
  have lo1 : (lo : Int) < 4294967296 := by have := hbok.2; omega
  have el : IntKind.u64.wrap (lo : Int) = lo := by simp [IntKind.wrap, IntKind.bits, IntKind.signed]; omega
  by_cases hll : lo < ls.length
  rotate_left
  · have hnone : r = none := by rw [HG.out, HV.out, decide_eq_false (fun h => hll h.2)]; simp
    have k1 : decide (lo < v.nl) = false := decide_eq_false (by omega)
    have HNONE := Lib.hid hnone
    clear hnone hll
    go_wp2_with fail
    (try simp only [Exit.inBlock, Exit.then]); refine bodyPost_ret (results_none rfl _ _ _) rfl ?_
    have hnone := HNONE.out
    exact ⟨rfl, ⟨ins, by rw [hnone]; simpa using HW.out, fun y e => by rw [hnone] at e; cases e⟩, HE.out⟩
  have hll2 : (lo : Int) < (v.nl : Int) := by omega
  obtain ⟨qb, qo, hQA⟩ := hls.addr (by omega)
  rw [hQA] at hls c2
  obtain ⟨sc, HSC⟩ : ∃ sc, Hid (ls[lo]! = sc) := ⟨_, Lib.hid rfl⟩
  have sj := sch_cells hls lo hll
  rw [HSC.out] at sj
  have HB4 := Lib.hid (F4.out.toBel hb0 hN0)
  have SJ : Hid (∀ i u, (SchD.cells sc)[i]? = some u → w0.cell? ⟨qb, qo + lo * 4 + i, none⟩ = some u) := Lib.hid sj
  clear sj
  obtain ⟨kd, cp, wo, ve⟩ := sc
  have d0 := HB4.out.cell (SJ.out 0 (.int .i64 kd) rfl)
  have d1 := HB4.out.cell (SJ.out 1 (.int .i64 cp) rfl)
  have d2 := HB4.out.cell (SJ.out 2 (.int .i64 wo) rfl)
  have d3 := HB4.out.cell (SJ.out 3 (.int .i64 ve) rfl)
  rw [Nat.add_zero] at d0
  obtain ⟨rf, hrf⟩ : ∃ rf, Hid (hFits imm ⟨kd, cp, wo, ve⟩ = rf) := ⟨_, Lib.hid rfl⟩
  clear c6 f6 HW HE c6'
  go_wp2_with fail
  refine (hfits_any imm ⟨kd, cp, wo, ve⟩ rf hrf _).mono ?_
  rintro e w5 ⟨rfl, hb5⟩
  have H5 := Lib.hid (H4.out.bel hb5)
  have F5 := Lib.hid (F4.out.trans (Fr.bel hb5 H4.out.nw))
  have HB5 := Lib.hid (HB4.out.trans hb5)
  clear c2 d0 d1 d2 d3 hb5 H4 F4 HB4
  cases rf
  · have hnone : r = none := by rw [HG.out, HV.out, HSC.out, hrf.out]; simp
    have HNONE := Lib.hid hnone
    clear hnone
    have c6 := H5.out.w.cell 6 (v := .bool true) rfl
    have f6 := H5.out.w.frozen 6
    have HW := Lib.hid (H5.out.safe false)
    have HE := Lib.hid (F5.out.trans (Fr.set (v := v) (N := N) w5 (p := ⟨v.g, 6, none⟩) (.inl rfl) H5.out.ng (.bool false)))
    have c6' := HW.out.w.cell 6 (v := .bool false) rfl
    go_wp2_with fail
    (try simp only [Exit.inBlock, Exit.then]); refine bodyPost_ret (results_none rfl _ _ _) rfl ?_
    have hnone := HNONE.out
    exact ⟨rfl, ⟨ins, by rw [hnone]; simpa using HW.out, fun y e => by rw [hnone] at e; cases e⟩, HE.out⟩
  have c6 := H5.out.w.cell 6 (v := .bool true) rfl
  have f6 := H5.out.w.frozen 6
  have HW := Lib.hid (H5.out.safe true)
  have HE := Lib.hid (F5.out.trans (Fr.set (v := v) (N := N) w5 (p := ⟨v.g, 6, none⟩) (.inl rfl) H5.out.ng (.bool true)))
  have c6' := HW.out.w.cell 6 (v := .bool true) rfl
  by_cases h01 : imm = 0 ∨ imm = 1
  rotate_left
  · have HS : Hid (r = x) := Lib.hid (by rw [HG.out, HV.out, HSC.out, hrf.out, if_neg h01]; simp [hll])
    have k0 : (imm == 0) = false := by simpa using fun h => h01 (.inl h)
    have k1 : (imm == 1) = false := by simpa using fun h => h01 (.inr h)
    clear h01
    go_wp2_with fail
    refine (here_any v N _ k _ ins HW.out hk s hsk).mono ?_
    rintro e w20 ⟨rfl, hb20⟩
    go_wp2_with fail
    refine (shback_any s hs _).mono ?_
    rintro e w21 ⟨rfl, hb21⟩
    have hb21 := hb20.trans hb21
    go_wp2_with fail
    refine (wthen_any v N _ k _ ins ((HW.out).bel hb21) hk (shBack s) (shBack_ok hs) x hx).mono ?_
    rintro e w22 ⟨rfl, hw22, hf22⟩
    have HE := Lib.hid (((HE.out).trans (Fr.bel hb21 (HW.out).nw)).trans hf22)
    have HW := Lib.hid hw22
    clear hb20 hb21 hw22 hf22
    go_wp2_with fail
    go_end0
    exact ⟨rfl, fin_put (b := true) (ins := ins) (fun h => by cases h) (fun _ => HS.out) (by simpa using HW.out), HE.out⟩
  have hmay : schMay ⟨kd, cp, wo, ve⟩ = true := by
    have h := hrf.out
    unfold hFits at h
    rw [if_neg (by omega), if_pos (by omega)] at h
    simp only [Bool.and_eq_true] at h
    exact h.1
  have hwo : 1 ≤ wo ∧ wo ≤ 4 := by
    have h := of_decide_eq_true hmay
    obtain ⟨-, -, -, -, h1, h2, -⟩ := h
    dsimp only at h1 h2
    split at h2 <;> omega
  obtain ⟨wn, rfl⟩ : ∃ wn : Nat, wo = wn := ⟨wo.toNat, by omega⟩
  have h3s := vHanded_get hhd (show 2 < m by have := hm3 h01; omega)
  obtain ⟨cc, hc3'⟩ := Option.isSome_iff_exists.1 h3s
  have hc3 : shGet s 3 = some cc := hc3'
  clear h3s hc3'
  have hcc := shGet_ok hs hc3
  obtain ⟨lt, hlt⟩ : ∃ lt, Hid (decide (cc.2 < wn) = lt) := ⟨_, Lib.hid rfl⟩
  have HN : Hid (lt = false → r = none) := Lib.hid (fun h => by
    have q : ¬ cc.2 < wn := of_decide_eq_false (hlt.out.trans h)
    rw [HG.out, HV.out, HSC.out, hrf.out, if_pos h01, hc3]
    exact if_neg (fun h' => by simp at h'; omega))
  have HS : Hid (lt = true → r = x) := Lib.hid (fun h => by
    have q : cc.2 < wn := of_decide_eq_true (hlt.out.trans h)
    rw [HG.out, HV.out, HSC.out, hrf.out, if_pos h01, hc3]
    exact if_pos (by simp; omega))
  have HHC := Lib.hid hc3
  have HB6 := Lib.hid (HE.out.toBel hb0 hN0)
  rcases h01 with rfl | rfl
  · go_wp2_with fail
    obtain ⟨W1, hW1⟩ : ∃ W1, w5.setCell ⟨v.g, 6, none⟩ (.bool true) = W1 := ⟨_, rfl⟩
    rw [hW1] at HW HE HB6 ⊢
    clear hW1 c6 f6 c6'
    have HD := HW.out.bel (Bel.refl W1).drew
    have FD := HE.out.trans (Fr.bel (Bel.refl W1).drew HW.out.nw)
    have SE : (∃ sf, Bk W1.drew v.g 113 (v.cells k sf)) ∧ Bel w0 W1.drew := ⟨⟨_, HD.w⟩, HB6.out.drew⟩
    have M2 : ∀ (w' : World), ((∃ sf, Bk w' v.g 113 (v.cells k sf)) ∧ Bel w0 w') → w'.cell? ⟨v.g, 2, none⟩ = some (.slice (some ⟨qb, qo, none⟩) v.nl v.cQ) := fun w' hb => by
      obtain ⟨⟨sf, hb⟩, -⟩ := hb
      rw [← hQA]
      exact hb.cell 2 rfl
    have E2 := fun (w' : World) (hb : (∃ sf, Bk w' v.g 113 (v.cells k sf)) ∧ Bel w0 w') => hb.2.cell (SJ.out 2 (.int .i64 wn) rfl)
    have hc3 := HHC.out
    clear HHC HW HE HB6
    refine wp_region_T (fun w' => (∃ sf, Bk w' v.g 113 (v.cells k sf)) ∧ Bel w0 w') (fun _ => false) (by kernel_rfl) ?_
    refine wpAnyU_take (i := 0) (v := ?v0a) rfl (by kernel_rfl) (by kernel_rfl) (by kernel_rfl) (by kernel_rfl) (fun _ _ _ h => h) ?hy0a SE ?rest0a
    case hy0a => first | (refine Or.inl ⟨by rfl, ?_⟩; (intro w' hSw; go_simp) <;> with_reducible rfl) | (refine Or.inr ⟨by rfl, ?_⟩; with_reducible rfl)
    try simp only [List.getElem_toArray, List.getElem_cons_zero, List.getElem_cons_succ, Act.put, List.setIfInBounds_toArray, List.set_cons_zero, List.set_cons_succ]
    refine wpAnyU_take (i := 1) (v := ?v1a) rfl (by kernel_rfl) (by kernel_rfl) (by kernel_rfl) (by kernel_rfl) (fun _ _ _ h => h) ?hy1a SE ?rest1a
    case hy1a => first | (refine Or.inl ⟨by rfl, ?_⟩; (intro w' hSw; go_simp) <;> with_reducible rfl) | (refine Or.inr ⟨by rfl, ?_⟩; with_reducible rfl)
    try simp only [List.getElem_toArray, List.getElem_cons_zero, List.getElem_cons_succ, Act.put, List.setIfInBounds_toArray, List.set_cons_zero, List.set_cons_succ]
    refine wpAnyU_take (i := 3) (v := ?v3a) rfl (by kernel_rfl) (by kernel_rfl) (by kernel_rfl) (by kernel_rfl) (fun _ _ _ h => h) ?hy3a SE ?rest3a
    case hy3a => first | (refine Or.inl ⟨by rfl, ?_⟩; (intro w' hSw; go_simp) <;> with_reducible rfl) | (refine Or.inr ⟨by rfl, ?_⟩; with_reducible rfl)
    try simp only [List.getElem_toArray, List.getElem_cons_zero, List.getElem_cons_succ, Act.put, List.setIfInBounds_toArray, List.set_cons_zero, List.set_cons_succ]
    refine wpAnyU_take (i := 4) (v := ?v4a) rfl (by kernel_rfl) (by kernel_rfl) (by kernel_rfl) (by kernel_rfl) (fun _ _ _ h => h) ?hy4a SE ?rest4a
    case hy4a => first | (refine Or.inl ⟨by rfl, ?_⟩; (intro w' hSw; go_simp) <;> with_reducible rfl) | (refine Or.inr ⟨by rfl, ?_⟩; with_reducible rfl)
    try simp only [List.getElem_toArray, List.getElem_cons_zero, List.getElem_cons_succ, Act.put, List.setIfInBounds_toArray, List.set_cons_zero, List.set_cons_succ]
    refine wpAnyU_take (i := 5) (v := ?v5a) rfl (by kernel_rfl) (by kernel_rfl) (by kernel_rfl) (by kernel_rfl) (fun _ _ _ h => h) ?hy5a SE ?rest5a
    case hy5a => first | (refine Or.inl ⟨by rfl, ?_⟩; (intro w' hSw; go_simp) <;> with_reducible rfl) | (refine Or.inr ⟨by rfl, ?_⟩; with_reducible rfl)
    try simp only [List.getElem_toArray, List.getElem_cons_zero, List.getElem_cons_succ, Act.put, List.setIfInBounds_toArray, List.set_cons_zero, List.set_cons_succ]
    refine wpAnyU_take (i := 6) (v := ?v6a) rfl (by kernel_rfl) (by kernel_rfl) (by kernel_rfl) (by kernel_rfl) (fun _ _ _ h => h) ?hy6a SE ?rest6a
    case hy6a => first | (refine Or.inl ⟨by rfl, ?_⟩; (intro w' hSw; go_simp) <;> with_reducible rfl) | (refine Or.inr ⟨by rfl, ?_⟩; with_reducible rfl)
    try simp only [List.getElem_toArray, List.getElem_cons_zero, List.getElem_cons_succ, Act.put, List.setIfInBounds_toArray, List.set_cons_zero, List.set_cons_succ]
    refine wpAnyU_take (i := 7) (v := ?v7a) rfl (by kernel_rfl) (by kernel_rfl) (by kernel_rfl) (by kernel_rfl) (fun _ _ _ h => h) ?hy7a SE ?rest7a
    case hy7a => first | (refine Or.inl ⟨by rfl, ?_⟩; (intro w' hSw; go_simp) <;> with_reducible rfl) | (refine Or.inr ⟨by rfl, ?_⟩; with_reducible rfl)
    try simp only [List.getElem_toArray, List.getElem_cons_zero, List.getElem_cons_succ, Act.put, List.setIfInBounds_toArray, List.set_cons_zero, List.set_cons_succ]
    refine wpAnyU_take (i := 8) (v := ?v8a) rfl (by kernel_rfl) (by kernel_rfl) (by kernel_rfl) (by kernel_rfl) (fun _ _ _ h => h) ?hy8a SE ?rest8a
    case hy8a => first | (refine Or.inl ⟨by rfl, ?_⟩; (intro w' hSw; go_simp) <;> with_reducible rfl) | (refine Or.inr ⟨by rfl, ?_⟩; with_reducible rfl)
    try simp only [List.getElem_toArray, List.getElem_cons_zero, List.getElem_cons_succ, Act.put, List.setIfInBounds_toArray, List.set_cons_zero, List.set_cons_succ]
    refine wpAnyU_take (i := 9) (v := ?v9a) rfl (by kernel_rfl) (by kernel_rfl) (by kernel_rfl) (by kernel_rfl) (fun _ _ _ h => h) ?hy9a SE ?rest9a
    case hy9a => first | (refine Or.inl ⟨by rfl, ?_⟩; (intro w' hSw; go_simp) <;> with_reducible rfl) | (refine Or.inr ⟨by rfl, ?_⟩; with_reducible rfl)
    try simp only [List.getElem_toArray, List.getElem_cons_zero, List.getElem_cons_succ, Act.put, List.setIfInBounds_toArray, List.set_cons_zero, List.set_cons_succ]
    refine wpAnyU_take (i := 10) (v := ?v10a) rfl (by kernel_rfl) (by kernel_rfl) (by kernel_rfl) (by kernel_rfl) (fun _ _ _ h => h) ?hy10a SE ?rest10a
    case hy10a => first | (refine Or.inl ⟨by rfl, ?_⟩; (intro w' hSw; go_simp) <;> with_reducible rfl) | (refine Or.inr ⟨by rfl, ?_⟩; with_reducible rfl)
    try simp only [List.getElem_toArray, List.getElem_cons_zero, List.getElem_cons_succ, Act.put, List.setIfInBounds_toArray, List.set_cons_zero, List.set_cons_succ]
    refine wpAnyT_one (i := 2) (by kernel_rfl) rfl (fun K hK => ?_)
    go_simp
    go_at_call 124
    refine (wget_any v N _ k true ins HD hk s hsk 3 (some cc) (Lib.hid hc3)).mono ?_
    rintro en w10 ⟨rfl, hw10, hf10⟩
    have S10 : (∃ sf, Bk w10 v.g 113 (v.cells k sf)) ∧ Bel w0 w10 := ⟨⟨_, hw10.w⟩, hf10.toBel SE.2 hN0⟩
    dsimp only
    refine hK.out _ _ (fun _ => S10) ?_
    clear hK K
    try simp only [List.getElem_toArray, List.getElem_cons_zero, List.getElem_cons_succ, Act.put, List.setIfInBounds_toArray, List.set_cons_zero, List.set_cons_succ]
    refine wpAnyT_one (i := 11) (by kernel_rfl) rfl (fun K hK => ?_)
    go_simp
    go_at_call 130
    refine (within_any v N _ k _ ins hw10 cc hcc wn (by omega) lt hlt).mono ?_
    rintro en w11 ⟨rfl, hw11, hf11⟩
    have HW9 := Lib.hid hw11
    have HF9 := Lib.hid ((FD.trans hf10).trans hf11)
    have S11 : (∃ sf, Bk w11 v.g 113 (v.cells k sf)) ∧ Bel w0 w11 := ⟨⟨_, hw11.w⟩, hf11.toBel S10.2 hN0⟩
    dsimp only
    refine hK.out _ _ (fun _ => S11) ?_
    clear hK K
    try simp only [List.getElem_toArray, List.getElem_cons_zero, List.getElem_cons_succ, Act.put, List.setIfInBounds_toArray, List.set_cons_zero, List.set_cons_succ]
    refine wpAnyT_done (by kernel_rfl) ?_ _
    refine NoPanic.normal ?_
    clear SE S10 S11 M2 E2 HD FD hw10 hf10 hw11 hf11
    go_wp2_with fail
    refine (here_any v N _ k _ ins HW9.out hk s hsk).mono ?_
    rintro e w20 ⟨rfl, hb20⟩
    go_wp2_with fail
    refine (shback_any s hs _).mono ?_
    rintro e w21 ⟨rfl, hb21⟩
    have hb21 := hb20.trans hb21
    go_wp2_with fail
    refine (wthen_any v N _ k _ ins ((HW9.out).bel hb21) hk (shBack s) (shBack_ok hs) x hx).mono ?_
    rintro e w22 ⟨rfl, hw22, hf22⟩
    have HE := Lib.hid (((HF9.out).trans (Fr.bel hb21 (HW9.out).nw)).trans hf22)
    have HW := Lib.hid hw22
    clear hb20 hb21 hw22 hf22
    go_wp2_with fail
    go_end0
    exact ⟨rfl, fin_put HN.out HS.out (by simpa using HW.out), HE.out⟩
  · go_wp2_with fail
    obtain ⟨W1, hW1⟩ : ∃ W1, w5.setCell ⟨v.g, 6, none⟩ (.bool true) = W1 := ⟨_, rfl⟩
    rw [hW1] at HW HE HB6 ⊢
    clear hW1 c6 f6 c6'
    have HD := HW.out.bel (Bel.refl W1).drew
    have FD := HE.out.trans (Fr.bel (Bel.refl W1).drew HW.out.nw)
    have SE : (∃ sf, Bk W1.drew v.g 113 (v.cells k sf)) ∧ Bel w0 W1.drew := ⟨⟨_, HD.w⟩, HB6.out.drew⟩
    have M2 : ∀ (w' : World), ((∃ sf, Bk w' v.g 113 (v.cells k sf)) ∧ Bel w0 w') → w'.cell? ⟨v.g, 2, none⟩ = some (.slice (some ⟨qb, qo, none⟩) v.nl v.cQ) := fun w' hb => by
      obtain ⟨⟨sf, hb⟩, -⟩ := hb
      rw [← hQA]
      exact hb.cell 2 rfl
    have E2 := fun (w' : World) (hb : (∃ sf, Bk w' v.g 113 (v.cells k sf)) ∧ Bel w0 w') => hb.2.cell (SJ.out 2 (.int .i64 wn) rfl)
    have hc3 := HHC.out
    clear HHC HW HE HB6
    refine wp_region_T (fun w' => (∃ sf, Bk w' v.g 113 (v.cells k sf)) ∧ Bel w0 w') (fun _ => false) (by kernel_rfl) ?_
    refine wpAnyU_take (i := 0) (v := ?v0b) rfl (by kernel_rfl) (by kernel_rfl) (by kernel_rfl) (by kernel_rfl) (fun _ _ _ h => h) ?hy0b SE ?rest0b
    case hy0b => first | (refine Or.inl ⟨by rfl, ?_⟩; (intro w' hSw; go_simp) <;> with_reducible rfl) | (refine Or.inr ⟨by rfl, ?_⟩; with_reducible rfl)
    try simp only [List.getElem_toArray, List.getElem_cons_zero, List.getElem_cons_succ, Act.put, List.setIfInBounds_toArray, List.set_cons_zero, List.set_cons_succ]
    refine wpAnyU_take (i := 1) (v := ?v1b) rfl (by kernel_rfl) (by kernel_rfl) (by kernel_rfl) (by kernel_rfl) (fun _ _ _ h => h) ?hy1b SE ?rest1b
    case hy1b => first | (refine Or.inl ⟨by rfl, ?_⟩; (intro w' hSw; go_simp) <;> with_reducible rfl) | (refine Or.inr ⟨by rfl, ?_⟩; with_reducible rfl)
    try simp only [List.getElem_toArray, List.getElem_cons_zero, List.getElem_cons_succ, Act.put, List.setIfInBounds_toArray, List.set_cons_zero, List.set_cons_succ]
    refine wpAnyU_take (i := 3) (v := ?v3b) rfl (by kernel_rfl) (by kernel_rfl) (by kernel_rfl) (by kernel_rfl) (fun _ _ _ h => h) ?hy3b SE ?rest3b
    case hy3b => first | (refine Or.inl ⟨by rfl, ?_⟩; (intro w' hSw; go_simp) <;> with_reducible rfl) | (refine Or.inr ⟨by rfl, ?_⟩; with_reducible rfl)
    try simp only [List.getElem_toArray, List.getElem_cons_zero, List.getElem_cons_succ, Act.put, List.setIfInBounds_toArray, List.set_cons_zero, List.set_cons_succ]
    refine wpAnyU_take (i := 4) (v := ?v4b) rfl (by kernel_rfl) (by kernel_rfl) (by kernel_rfl) (by kernel_rfl) (fun _ _ _ h => h) ?hy4b SE ?rest4b
    case hy4b => first | (refine Or.inl ⟨by rfl, ?_⟩; (intro w' hSw; go_simp) <;> with_reducible rfl) | (refine Or.inr ⟨by rfl, ?_⟩; with_reducible rfl)
    try simp only [List.getElem_toArray, List.getElem_cons_zero, List.getElem_cons_succ, Act.put, List.setIfInBounds_toArray, List.set_cons_zero, List.set_cons_succ]
    refine wpAnyU_take (i := 5) (v := ?v5b) rfl (by kernel_rfl) (by kernel_rfl) (by kernel_rfl) (by kernel_rfl) (fun _ _ _ h => h) ?hy5b SE ?rest5b
    case hy5b => first | (refine Or.inl ⟨by rfl, ?_⟩; (intro w' hSw; go_simp) <;> with_reducible rfl) | (refine Or.inr ⟨by rfl, ?_⟩; with_reducible rfl)
    try simp only [List.getElem_toArray, List.getElem_cons_zero, List.getElem_cons_succ, Act.put, List.setIfInBounds_toArray, List.set_cons_zero, List.set_cons_succ]
    refine wpAnyU_take (i := 6) (v := ?v6b) rfl (by kernel_rfl) (by kernel_rfl) (by kernel_rfl) (by kernel_rfl) (fun _ _ _ h => h) ?hy6b SE ?rest6b
    case hy6b => first | (refine Or.inl ⟨by rfl, ?_⟩; (intro w' hSw; go_simp) <;> with_reducible rfl) | (refine Or.inr ⟨by rfl, ?_⟩; with_reducible rfl)
    try simp only [List.getElem_toArray, List.getElem_cons_zero, List.getElem_cons_succ, Act.put, List.setIfInBounds_toArray, List.set_cons_zero, List.set_cons_succ]
    refine wpAnyU_take (i := 7) (v := ?v7b) rfl (by kernel_rfl) (by kernel_rfl) (by kernel_rfl) (by kernel_rfl) (fun _ _ _ h => h) ?hy7b SE ?rest7b
    case hy7b => first | (refine Or.inl ⟨by rfl, ?_⟩; (intro w' hSw; go_simp) <;> with_reducible rfl) | (refine Or.inr ⟨by rfl, ?_⟩; with_reducible rfl)
    try simp only [List.getElem_toArray, List.getElem_cons_zero, List.getElem_cons_succ, Act.put, List.setIfInBounds_toArray, List.set_cons_zero, List.set_cons_succ]
    refine wpAnyU_take (i := 8) (v := ?v8b) rfl (by kernel_rfl) (by kernel_rfl) (by kernel_rfl) (by kernel_rfl) (fun _ _ _ h => h) ?hy8b SE ?rest8b
    case hy8b => first | (refine Or.inl ⟨by rfl, ?_⟩; (intro w' hSw; go_simp) <;> with_reducible rfl) | (refine Or.inr ⟨by rfl, ?_⟩; with_reducible rfl)
    try simp only [List.getElem_toArray, List.getElem_cons_zero, List.getElem_cons_succ, Act.put, List.setIfInBounds_toArray, List.set_cons_zero, List.set_cons_succ]
    refine wpAnyU_take (i := 9) (v := ?v9b) rfl (by kernel_rfl) (by kernel_rfl) (by kernel_rfl) (by kernel_rfl) (fun _ _ _ h => h) ?hy9b SE ?rest9b
    case hy9b => first | (refine Or.inl ⟨by rfl, ?_⟩; (intro w' hSw; go_simp) <;> with_reducible rfl) | (refine Or.inr ⟨by rfl, ?_⟩; with_reducible rfl)
    try simp only [List.getElem_toArray, List.getElem_cons_zero, List.getElem_cons_succ, Act.put, List.setIfInBounds_toArray, List.set_cons_zero, List.set_cons_succ]
    refine wpAnyU_take (i := 10) (v := ?v10b) rfl (by kernel_rfl) (by kernel_rfl) (by kernel_rfl) (by kernel_rfl) (fun _ _ _ h => h) ?hy10b SE ?rest10b
    case hy10b => first | (refine Or.inl ⟨by rfl, ?_⟩; (intro w' hSw; go_simp) <;> with_reducible rfl) | (refine Or.inr ⟨by rfl, ?_⟩; with_reducible rfl)
    try simp only [List.getElem_toArray, List.getElem_cons_zero, List.getElem_cons_succ, Act.put, List.setIfInBounds_toArray, List.set_cons_zero, List.set_cons_succ]
    refine wpAnyT_one (i := 2) (by kernel_rfl) rfl (fun K hK => ?_)
    go_simp
    go_at_call 124
    refine (wget_any v N _ k true ins HD hk s hsk 3 (some cc) (Lib.hid hc3)).mono ?_
    rintro en w10 ⟨rfl, hw10, hf10⟩
    have S10 : (∃ sf, Bk w10 v.g 113 (v.cells k sf)) ∧ Bel w0 w10 := ⟨⟨_, hw10.w⟩, hf10.toBel SE.2 hN0⟩
    dsimp only
    refine hK.out _ _ (fun _ => S10) ?_
    clear hK K
    try simp only [List.getElem_toArray, List.getElem_cons_zero, List.getElem_cons_succ, Act.put, List.setIfInBounds_toArray, List.set_cons_zero, List.set_cons_succ]
    refine wpAnyT_one (i := 11) (by kernel_rfl) rfl (fun K hK => ?_)
    go_simp
    go_at_call 130
    refine (within_any v N _ k _ ins hw10 cc hcc wn (by omega) lt hlt).mono ?_
    rintro en w11 ⟨rfl, hw11, hf11⟩
    have HW9 := Lib.hid hw11
    have HF9 := Lib.hid ((FD.trans hf10).trans hf11)
    have S11 : (∃ sf, Bk w11 v.g 113 (v.cells k sf)) ∧ Bel w0 w11 := ⟨⟨_, hw11.w⟩, hf11.toBel S10.2 hN0⟩
    dsimp only
    refine hK.out _ _ (fun _ => S11) ?_
    clear hK K
    try simp only [List.getElem_toArray, List.getElem_cons_zero, List.getElem_cons_succ, Act.put, List.setIfInBounds_toArray, List.set_cons_zero, List.set_cons_succ]
    refine wpAnyT_done (by kernel_rfl) ?_ _
    refine NoPanic.normal ?_
    clear SE S10 S11 M2 E2 HD FD hw10 hf10 hw11 hf11
    go_wp2_with fail
    refine (here_any v N _ k _ ins HW9.out hk s hsk).mono ?_
    rintro e w20 ⟨rfl, hb20⟩
    go_wp2_with fail
    refine (shback_any s hs _).mono ?_
    rintro e w21 ⟨rfl, hb21⟩
    have hb21 := hb20.trans hb21
    go_wp2_with fail
    refine (wthen_any v N _ k _ ins ((HW9.out).bel hb21) hk (shBack s) (shBack_ok hs) x hx).mono ?_
    rintro e w22 ⟨rfl, hw22, hf22⟩
    have HE := Lib.hid (((HF9.out).trans (Fr.bel hb21 (HW9.out).nw)).trans hf22)
    have HW := Lib.hid hw22
    clear hb20 hb21 hw22 hf22
    go_wp2_with fail
    go_end0
    exact ⟨rfl, fin_put HN.out HS.out (by simpa using HW.out), HE.out⟩
end Go.Proofs.YtebdnobgdimdoaaGreat
