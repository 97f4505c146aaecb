/- shape.in, all, Get, Word, Put at shapes that may be. -/
import Derived.Test.YtebdnobgdimdoaaSh1
import Derived.Laws.CopyOwn
set_option linter.unusedVariables false
set_option linter.unusedSimpArgs false
namespace Go.Proofs.Ytebdnobgdimdoaa
open Go.RowKit

theorem at_loadVg {P : Program} {ops : Array Oper} {rest : List Oper} {a : Act} {Q : Exit → Act → World → Prop} {w : World} {dst : Option Tmp} {tt : TypeId} {pos : String} {after : Array Edge} {ty : TypeId} {x : Operand} {ad : Addr} {v : Value} {gd : Option (Nat × Bool)}
    (hw : Region.wanted { dst := dst, op := .load ty x, type := tt, pos := pos, after := after, guard := gd } (yielded ops a.tmps) = true) (hx : a.eval x = .pointer (some ad)) (hl : (loadVar ty ad).run P w = .ok v w)
    (h : wpList P ops Q rest (a.put dst v) w) : wpList P ops Q ({ dst := dst, op := .load ty x, type := tt, pos := pos, after := after, guard := gd } :: rest) a w :=
  wpList_step fun K hK => by
    simp only [hw, if_true]
    unfold Oper.wp execOp
    simp only [hx, Instr.loadAt, Instr.sureAddr, Sem.run_bind, Sem.run_pure, Result.andThen, hl]
    exact hK _ _ h
theorem shC_get (s : ShD) (i : Nat) : (shC s)[i]? = if i < 8 then some (.bool (s i).isSome) else if i < 16 then some (cV (rB (s (i - 8)))) else none := by
  split
  · rename_i h
    exact shC_set h
  · split
    · rename_i h1 h2
      have := shC_reg (s := s) (k := i - 8) (by omega)
      rwa [show 8 + (i - 8) = i by omega] at this
    · rename_i h1 h2
      exact Array.getElem?_eq_none (by rw [shC_size]; omega)
theorem shC_upd (s : ShD) {k : Nat} (hk : k < 8) (o : Option Bd) : ((shC s).setIfInBounds k (.bool o.isSome)).setIfInBounds (8 + k) (cV (rB o)) = shC (fun i => if i = k then o else s i) := by
  apply Array.ext_getElem?
  intro i
  rw [Array.getElem?_setIfInBounds, Array.getElem?_setIfInBounds, Array.size_setIfInBounds, shC_size, shC_get, shC_get]
  by_cases h1 : 8 + k = i
  · subst h1
    simp [show ¬ (8 + k < 8) by omega, show 8 + k < 16 by omega]
  · by_cases h2 : k = i
    · subst h2
      simp [hk, h1, show k < 16 by omega]
    · simp only [h1, h2, if_false]
      by_cases h3 : i < 8
      · simp [h3, Ne.symm h2]
      · by_cases h4 : i < 16
        · simp [h3, h4, show ¬ i - 8 = k by omega]
        · simp [h3, h4]
theorem shPut_eq (s : ShD) {k : Nat} (hk : k < 8) (b : Bd) : shPut s k b = fun i => if i = k then some b else s i := by
  unfold shPut
  rw [if_pos ⟨by omega, by omega⟩]
  funext i
  by_cases h : i = k
  · subst h; simp
  · simp [h, show ¬ (i : Int) = k by omega]
theorem shGet_eq (s : ShD) {k : Nat} (hk : k < 8) : shGet s k = s k := by
  unfold shGet
  rw [if_pos ⟨by omega, by omega⟩]
  rfl
theorem shin_any (n : Int) (w : World) (b : Bool) (hb : Hid (decide (0 ≤ n ∧ n < 8) = b)) : Calls Try.prog 92 #[.int .i64 n] w fun e w' => e = .returned (.bool b) ∧ w = w' := by
  rw [← hb.out]
  by_cases h0 : 0 ≤ n
  · by_cases h1 : n < 8
    all_goals
      go_enter Try.func92, Try.ntmps92
      go_wp2
      go_ret
      exact ⟨by simp [h0, h1], rfl⟩
  · go_enter Try.func92, Try.ntmps92
    go_wp2
    go_ret
    exact ⟨by simp; omega, rfl⟩
theorem shall_any (w : World) : Calls Try.prog 39 #[] w fun e w' => e = .returned (cV bdAll) ∧ Bel w w' := by
  go_enter Try.func39, Try.ntmps39
  go_wp2_with fail
  refine (Of_any 0 4294967295 _ (by decide) (by decide)).mono ?_
  rintro e w1 ⟨rfl, hb⟩
  go_wp2_with fail
  go_ret
  exact ⟨rfl, hb⟩
set_option maxHeartbeats 4000000 in
set_option maxRecDepth 100000 in
theorem shget_any (s : ShD) (hs : shOk s) (n : Int) (w : World) (o : Option Bd) (ho : Hid (shGet s n = o)) :
    Calls Try.prog 95 #[.agg (shC s), .int .i64 n] w fun e w' => e = .returned (.tuple #[cV (rB o), .bool o.isSome]) ∧ Bel w w' := by
  have B1 := Bk.new w 68 (shC s)
  have HB := Lib.hid ((Bel.refl w).alloc (.cells (shC s) 68))
  have HL := B1.load
  have B1 := Lib.hid B1
  go_enter Try.func95, Try.ntmps95
  go_wp2_with (refine at_loadV (by rfl) HL ?_)
  refine (shmay_any s hs _).mono ?_
  rintro e w1 ⟨rfl, hb⟩
  have HB := Lib.hid (HB.out.trans hb)
  have B1 := Lib.hid (B1.out.bel hb)
  clear hb HL
  generalize w.heap.size = g at *
  obtain ⟨b, hb⟩ : ∃ b, Hid (decide (0 ≤ n ∧ n < 8) = b) := ⟨_, Lib.hid rfl⟩
  go_wp2_with fail
  refine (shin_any n _ b hb).mono ?_
  rintro e w2 ⟨rfl, rfl⟩
  cases b
  · have hn := of_decide_eq_false hb.out
    obtain rfl : o = none := by rw [← ho.out]; unfold shGet; rw [if_neg hn]
    go_wp2_with fail
    go_ret2
    exact ⟨by simp only [rB, Option.getD_none, cV_zero]; rfl, HB.out⟩
  · obtain ⟨h0, h8⟩ := of_decide_eq_true hb.out
    obtain ⟨k, rfl⟩ : ∃ k : Nat, n = k := ⟨n.toNat, by omega⟩
    have hk : k < 8 := by omega
    rw [shGet_eq s hk] at ho
    have c1 := B1.out.cell k (shC_set hk)
    have c2 := B1.out.cell (8 + k) (shC_reg hk)
    rw [ho.out] at c1 c2
    cases o with
    | none =>
      simp only [Option.isSome_none] at c1
      clear c2
      go_wp2_with fail
      go_ret2
      exact ⟨by simp only [rB, Option.getD_none, cV_zero]; rfl, HB.out⟩
    | some b =>
      simp only [Option.isSome_some] at c1
      unfold cV at c2
      go_wp2_with fail
      go_ret2
      exact ⟨rfl, HB.out⟩
theorem shOf_at (a : Int) (w : World) (ha : U32 a) : Calls Try.prog 60 #[.int .u32 a, .int .u32 a] w fun e w' => e = .returned (cV (a.toNat, a.toNat)) ∧ Bel w w' := by
  obtain ⟨q, rfl⟩ : ∃ q : Nat, a = q := ⟨a.toNat, by have := ha.lo; omega⟩
  have hq : q < 4294967296 := by have := ha.hi; omega
  have := Of_any q q w hq hq
  rw [Nat.min_self, Nat.max_self] at this
  exact this
set_option maxHeartbeats 4000000 in
set_option maxRecDepth 100000 in
theorem shword_any (s : ShD) (hs : shOk s) (op fn dst src : Int) (reg : Bool) (off imm : Int) (him : U32 imm) (hm : Hid (mayB op fn dst src reg off imm = true)) (w : World) (o : Option Bd) (ho : Hid (shWord s ⟨op, fn, dst, src, reg, off, imm⟩ = o)) :
    Calls Try.prog 94 #[.agg (shC s), .agg #[.int .i64 op, .int .i64 fn, .int .i64 dst, .int .i64 src, .bool reg, .int .i64 off, .int .u32 imm]] w fun e w' => e = .returned (.tuple #[cV (rB o), .bool o.isSome]) ∧ Bel w w' := by
  have B1 := (Bk.new w 68 (shC s)).alloc (.cells #[.int .i64 op, .int .i64 fn, .int .i64 dst, .int .i64 src, .bool reg, .int .i64 off, .int .u32 imm] 32)
  have B2 := Bk.new (w.alloc (.cells (shC s) 68)) 32 #[.int .i64 op, .int .i64 fn, .int .i64 dst, .int .i64 src, .bool reg, .int .i64 off, .int .u32 imm]
  rw [World.size_alloc] at B2
  have HB := Lib.hid (((Bel.refl w).alloc (.cells (shC s) 68)).alloc (.cells #[.int .i64 op, .int .i64 fn, .int .i64 dst, .int .i64 src, .bool reg, .int .i64 off, .int .u32 imm] 32))
  have HL := B1.load
  have B1 := Lib.hid B1
  have B2 := Lib.hid B2
  go_enter Try.func94, Try.ntmps94
  go_wp2_with (refine at_loadV (by rfl) HL ?_)
  refine (shmay_any s hs _).mono ?_
  rintro e w1 ⟨rfl, hb⟩
  have HB1 := Lib.hid (HB.out.trans hb)
  have B3 := Lib.hid (B1.out.bel hb)
  have B4 := Lib.hid (B2.out.bel hb)
  clear hb HL B1 B2 HB
  generalize w.heap.size = g at *
  have c0 := B4.out.cell 0 (v := .int .i64 op) rfl
  have c1 := B4.out.cell 1 (v := .int .i64 fn) rfl
  have c2 := B4.out.cell 2 (v := .int .i64 dst) rfl
  have c3 := B4.out.cell 3 (v := .int .i64 src) rfl
  have c4 := B4.out.cell 4 (v := .bool reg) rfl
  have c5 := B4.out.cell 5 (v := .int .i64 off) rfl
  have c6 := B4.out.cell 6 (v := .int .u32 imm) rfl
  go_wp2_with fail
  refine (may_any op fn dst src reg off imm _).mono ?_
  rw [hm.out]
  rintro e w2 ⟨rfl, hb⟩
  have HB2 := Lib.hid (HB1.out.trans hb)
  have B5 := Lib.hid (B3.out.bel hb)
  have HL := B5.out.load
  have c3 := hb.cell c3
  have c4 := hb.cell c4
  have c6 := hb.cell c6
  clear hb c0 c1 c2 c5
  have hoo := ho.out
  unfold shWord at hoo
  cases reg
  · simp only [Bool.false_eq_true, if_false] at hoo
    subst hoo
    go_wp2_with (refine at_loadV (by rfl) HL ?_)
    refine (shOf_at imm _ him).mono ?_
    rintro e w3 ⟨rfl, hb⟩
    have HB3 := Lib.hid (HB2.out.trans hb)
    clear hb
    go_wp2_with fail
    go_ret2
    exact ⟨rfl, HB3.out⟩
  · simp only [if_true] at hoo
    go_wp2_with (refine at_loadV (by rfl) HL ?_)
    refine (shget_any s hs src _ o (Lib.hid hoo)).mono ?_
    rintro e w3 ⟨rfl, hb⟩
    have HB3 := Lib.hid (HB2.out.trans hb)
    clear hb
    go_wp2_with fail
    go_ret2
    exact ⟨rfl, HB3.out⟩
theorem Bk.store {W : World} {g : Nat} {C : Array Value} (h : Bk W g 68 C) (hC : C.size = 16) (s : ShD) : (storeVar 68 ⟨g, 0, none⟩ (.agg (shC s))).run Try.prog W = .ok () (W.setRow g (shC s)) :=
  run_storeVar_row W g _ _ C (shC s) h.out (by rw [shC_size]; exact info_shape) (by rw [hC, shC_size]) (shC_one s)
theorem Bk.row {W : World} {g : Nat} {t : TypeId} {C : Array Value} (h : Bk W g t C) (D : Array Value) : Bk (W.setRow g D) g t D := ⟨setRow_heap W g C D t _ h.out⟩
theorem Bk.rowOther {W : World} {g k : Nat} {t : TypeId} {C : Array Value} (h : Bk W k t C) (hk : k ≠ g) (D : Array Value) : Bk (W.setRow g D) k t C := ⟨(setRow_other W g k D hk).trans h.out⟩
theorem Bel.row {w W : World} (h : Bel w W) {g : Nat} (hg : w.heap.size ≤ g) (D : Array Value) : Bel w (W.setRow g D) := ⟨below_setRow h.out hg D⟩
theorem shPut_out (s : ShD) {n : Int} (h : ¬ (0 ≤ n ∧ n < 8)) (b : Bd) : shPut s n b = s := if_neg h
set_option maxHeartbeats 4000000 in
set_option maxRecDepth 100000 in
theorem shput_any (s t : ShD) (hs : shOk s) (n : Int) (b : Bd) (hb : bdOk b) (ht : Hid (shPut s n b = t)) (w : World) :
    Calls Try.prog 62 #[.agg (shC s), .int .i64 n, cV b] w fun e w' => e = .returned (.agg (shC t)) ∧ Bel w w' := by
  have B1 := (Bk.new w 68 (shC s)).alloc (.cells (shC (fun _ => none)) 68)
  have B2 := Bk.new (w.alloc (.cells (shC s) 68)) 68 (shC (fun _ => none))
  rw [World.size_alloc] at B2
  have HB := Lib.hid (((Bel.refl w).alloc (.cells (shC s) 68)).alloc (.cells (shC (fun _ => none)) 68))
  rw [shC_zero] at B1 B2 HB
  have HL := B1.load
  have B1 := Lib.hid B1
  have B2 := Lib.hid B2
  go_enter Try.func62, Try.ntmps62
  go_wp2_with (refine at_loadV (by rfl) HL ?_)
  refine (shmay_any s hs _).mono ?_
  rintro e w1 ⟨rfl, hc⟩
  have HB1 := Lib.hid (HB.out.trans hc)
  have b3 := B1.out.bel hc
  have b4 := B2.out.bel hc
  rw [← shC_zero] at b4
  have B3 := Lib.hid b3
  have B4 := Lib.hid b4
  clear hc HL B1 B2 HB b3 b4
  obtain ⟨g, hg⟩ : ∃ g, w.heap.size = g := ⟨_, rfl⟩
  have hwg : w.heap.size ≤ g := by omega
  rw [hg] at B3 B4
  simp only [hg]
  clear hg
  obtain ⟨b1, hb1⟩ : ∃ b, Hid (decide (0 ≤ n ∧ n < 8) = b) := ⟨_, Lib.hid rfl⟩
  go_wp2_with fail
  refine (shin_any n _ b1 hb1).mono ?_
  rintro e w2 ⟨rfl, rfl⟩
  cases b1
  · have hn := of_decide_eq_false hb1.out
    obtain rfl : t = s := by rw [← ht.out, shPut_out s hn]
    have HL := B3.out.load
    have HST := B4.out.store (shC_size _) t
    have HR := (B4.out.row (shC t)).load
    have HB2 := Lib.hid (HB1.out.row (g := g + 1) (by omega) (shC t))
    go_wp2_with (first | (refine at_loadV (by rfl) HL ?_) | (refine at_storeV (by rfl) (by rfl) HST ?_))
    refine bodyPost_ret (v := .agg (shC t)) ?_ rfl ⟨rfl, HB2.out⟩
    have hr : (Try.f62).results = #[.cell 6 68] := by rfl
    simp only [results, hr]
    simp [Act.put, asAddr, Result.andThen, HR]
  · obtain ⟨h0, h8⟩ := of_decide_eq_true hb1.out
    obtain ⟨k, rfl⟩ : ∃ k : Nat, n = k := ⟨n.toNat, by omega⟩
    have hk : k < 8 := by omega
    obtain ⟨lo, hi⟩ := b
    obtain ⟨hb0, hb8⟩ := hb
    simp only at hb0 hb8
    have hst : t = fun i => if i = k then some (lo, hi) else s i := by rw [← ht.out, shPut_eq s hk]
    have c1 := B3.out.cell k (shC_set hk)
    have c2 := B3.out.cell (8 + k) (shC_reg hk)
    have f1 := B3.out.frozen k
    have f2 := B3.out.frozen (8 + k)
    unfold cV at c2 ⊢
    go_wp2_with fail
    refine (bmay_any lo hi _ hb0 hb8).mono ?_
    rintro e w3 ⟨rfl, rfl⟩
    have e1 := B3.out.set k (.bool true)
    have c3 : (w1.setCell ⟨g, k, none⟩ (.bool true)).cell? ⟨g, 8 + k, none⟩ = some (cV (rB (s k))) := e1.cell (8 + k) (by
      rw [Array.getElem?_setIfInBounds, if_neg (by omega)]
      exact shC_reg hk)
    have f3 := e1.frozen (8 + k)
    have hs2 : (store ⟨g, 8 + k, none⟩ (.complex .f64 (fl lo) (fl hi))).run Try.prog (w1.setCell ⟨g, k, none⟩ (.bool true)) = .ok () ((w1.setCell ⟨g, k, none⟩ (.bool true)).setCell ⟨g, 8 + k, none⟩ (.complex .f64 (fl lo) (fl hi))) := by rw [run_store _ _ _ _ _ rfl]; simp [c3, f3]
    have e2 := e1.set (8 + k) (cV (lo, hi))
    rw [show (shC s).setIfInBounds k (.bool true) = (shC s).setIfInBounds k (.bool (some (lo, hi)).isSome) from rfl, show cV (lo, hi) = cV (rB (some (lo, hi))) from rfl, shC_upd s hk, ← hst] at e2
    have e4 := (B4.out.other (p := ⟨g, k, none⟩) (by simp only; omega) (.bool true)).other (p := ⟨g, 8 + k, none⟩) (by simp only; omega) (cV (lo, hi))
    have HB2 := (HB1.out.setCell (p := ⟨g, k, none⟩) (by simp only; omega) (.bool true)).setCell (p := ⟨g, 8 + k, none⟩) (by simp only; omega) (cV (lo, hi))
    have HL := e2.load
    have HST := e4.store (shC_size _) t
    have HR := (e4.row (shC t)).load
    have HB3 := Lib.hid (HB2.row (g := g + 1) (by omega) (shC t))
    rw [show cV (rB (some (lo, hi))) = .complex .f64 (fl lo) (fl hi) from rfl] at HL
    rw [show cV (lo, hi) = .complex .f64 (fl lo) (fl hi) from rfl] at HST HR HB3
    clear e2 e4 HB2 c3 f3 e1
    go_wp2_with (first | (refine at_loadV (by rfl) HL ?_) | (refine at_storeV (by rfl) (by rfl) HST ?_))
    refine bodyPost_ret (v := .agg (shC t)) ?_ rfl ⟨rfl, HB3.out⟩
    have hr : (Try.f62).results = #[.cell 6 68] := by rfl
    simp only [results, hr]
    simp [Act.put, asAddr, Result.andThen, HR]
end Go.Proofs.Ytebdnobgdimdoaa
