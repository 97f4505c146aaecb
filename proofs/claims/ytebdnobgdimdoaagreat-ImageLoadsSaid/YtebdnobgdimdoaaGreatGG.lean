/- A shape's cells, and shape.May at shapes that may be. shape.in, all, Get, Word, Put at shapes that may be. shape.New, Back, Join at shapes that may be. shape.Back, Join at shapes that may be. -/
import Derived.Test.YtebdnobgdimdoaaGreatGE
import Derived.Deep.MidRow
import Derived.Deep.WholeRow
import Derived.Laws.StructEq
import Derived.Laws.Cover3
import Derived.Laws.CopyOwn
import Derived.Test.YtebdnobgdimdoaaGreatGF
set_option linter.unusedVariables false
set_option linter.unusedSimpArgs false
namespace Go.Proofs.YtebdnobgdimdoaaGreat
open Go.RowKit
/-- Bounds of a register, or none, as the program has them. -/
def rB (o : Option Bd) : Bd := o.getD (0, 0)
def cV (b : Bd) : Value := .complex .f64 (fl b.1) (fl b.2)
def shC (s : ShD) : Array Value := ((List.range 8).map (fun k => Value.bool (s k).isSome) ++ (List.range 8).map (fun k => cV (rB (s k)))).toArray
theorem shC_size (s : ShD) : (shC s).size = 16 := rfl
theorem cV_zero : cV (0, 0) = .complex .f64 0 0 := by unfold cV; rw [fl_zero]
theorem rB_ok {s : ShD} (h : shOk s) (k : Nat) : bdOk (rB (s k)) := by
  unfold rB
  cases e : s k with
  | none => exact ⟨by decide, by decide⟩
  | some b => exact h k b e
theorem shC_set {s : ShD} {k : Nat} (hk : k < 8) : (shC s)[k]? = some (.bool (s k).isSome) := by
  unfold shC
  rw [List.getElem?_toArray, List.getElem?_append_left (by simp; exact hk), List.getElem?_map, List.getElem?_range hk]
  rfl
theorem shC_reg {s : ShD} {k : Nat} (hk : k < 8) : (shC s)[8 + k]? = some (cV (rB (s k))) := by
  unfold shC
  rw [List.getElem?_toArray, List.getElem?_append_right (by simp)]
  simp [hk]
theorem shC_one (s : ShD) : (shC s).all (·.oneCell') = true := by
  rw [Array.all_eq_true_iff_forall_mem]
  intro v hv
  unfold shC at hv
  simp only [List.mem_toArray, List.mem_append, List.mem_map] at hv
  rcases hv with ⟨k, -, rfl⟩ | ⟨k, -, rfl⟩ <;> rfl
theorem shC_zero : shC (fun _ => none) = #[.bool false, .bool false, .bool false, .bool false, .bool false, .bool false, .bool false, .bool false, .complex .f64 0 0, .complex .f64 0 0, .complex .f64 0 0, .complex .f64 0 0, .complex .f64 0 0, .complex .f64 0 0, .complex .f64 0 0, .complex .f64 0 0] := by
  have h : ∀ k, cV (rB ((fun _ => none : ShD) k)) = .complex .f64 0 0 := fun k => cV_zero
  unfold shC
  simp only [h]
  rfl
theorem info_shape : (Tryz.prog.info? 69).map (·.size) = some 16 := by kernel_rfl
/-- A block of a heap. -/
structure Bk (W : World) (g : Nat) (t : TypeId) (C : Array Value) : Prop where mk :: (out : W.heap[g]? = some (.cells C t (0, 0)))
theorem Bk.lt {W : World} {g : Nat} {t : TypeId} {C : Array Value} (h : Bk W g t C) : g < W.heap.size := (Array.getElem?_eq_some_iff.1 h.out).1
theorem Bk.cell {W : World} {g : Nat} {t : TypeId} {C : Array Value} (h : Bk W g t C) (k : Nat) {v : Value} (e : C[k]? = some v) : W.cell? ⟨g, k, none⟩ = some v := by simp [World.cell?, h.out, e]
theorem Bk.frozen {W : World} {g : Nat} {t : TypeId} {C : Array Value} (h : Bk W g t C) (k : Nat) : W.frozen? ⟨g, k, none⟩ = false := by simp [World.frozen?, h.out]
theorem Bk.new (W : World) (t : TypeId) (C : Array Value) : Bk (W.alloc (.cells C t)) W.heap.size t C := ⟨heap_alloc_last W _⟩
theorem Bk.bel {W W' : World} {g : Nat} {t : TypeId} {C : Array Value} (h : Bk W g t C) (hb : Bel W W') : Bk W' g t C := ⟨(hb.out.block g h.lt).trans h.out⟩
theorem Bk.alloc {W : World} {g : Nat} {t : TypeId} {C : Array Value} (h : Bk W g t C) (o : Obj) : Bk (W.alloc o) g t C := h.bel ((Bel.refl W).alloc o)
theorem Bk.set {W : World} {g : Nat} {t : TypeId} {C : Array Value} (h : Bk W g t C) (k : Nat) (v : Value) : Bk (W.setCell ⟨g, k, none⟩ v) g t (C.setIfInBounds k v) := by
  refine ⟨?_⟩
  have := setCell_eq_setRow W g k C t (0, 0) v h.out
  rw [this]
  exact setRow_heap W g C _ t _ h.out
theorem Bk.other {W : World} {g : Nat} {t : TypeId} {C : Array Value} (h : Bk W g t C) {p : Addr} (hp : g ≠ p.block) (v : Value) : Bk (W.setCell p v) g t C := ⟨(heap_setCell_other W p g v hp).trans h.out⟩
theorem Bk.load {W : World} {g : Nat} {s : ShD} (h : Bk W g 69 (shC s)) : (loadVar 69 ⟨g, 0, none⟩).run Tryz.prog W = .ok (.agg (shC s)) W :=
  run_loadVar_row W g _ _ _ (0, 0) _ h.out Tryz.underlying69 rfl (by rw [shC_size]; exact info_shape)
theorem shC_keep {s : ShD} {k : Nat} (hk : k < 8) (h : (s k).isSome = false) : (shC s).setIfInBounds (8 + k) (.complex .f64 0 0) = shC s := by
  have h1 := shC_reg (s := s) hk
  have h2 : rB (s k) = (0, 0) := by
    cases e : s k with
    | none => rfl
    | some b => rw [e] at h; cases h
  rw [h2, cV_zero] at h1
  apply Array.ext_getElem?
  intro i
  rw [Array.getElem?_setIfInBounds]
  split
  · subst i
    rw [if_pos (by rw [shC_size]; omega), h1]
  · rfl
/-- The registers' bounds alone. -/
def shR (s : ShD) : Array Value := ((List.range 8).map (fun k => cV (rB (s k)))).toArray
theorem Bk.loadR {W : World} {g : Nat} {s : ShD} (h : Bk W g 69 (shC s)) : (loadVar 67 ⟨g, 8, none⟩).run Tryz.prog W = .ok (.agg (shR s)) W := by
  have := run_loadVar_mid (P := Tryz.prog) W g 8 67 (shR s).toList _ (fun j v hv => by
    have hj : j < 8 := by
      have := (List.getElem?_eq_some_iff.1 hv).1
      simpa [shR] using this
    refine h.cell (8 + j) ?_
    rw [shC_reg hj]
    unfold shR at hv
    simp [hj] at hv
    rw [hv]) Tryz.underlying67 rfl (by kernel_rfl)
  simpa using this
theorem eq_R (s : ShD) (hs : shOk s) (w : World) : (Op.equalIn 10000 67 (.agg (shR s)) (.agg (shR s))).run Tryz.prog w = .ok true w := by
  have h : ∀ k, (Op.equalIn 9999 66 (cV (rB (s k))) (cV (rB (s k)))).run Tryz.prog w = .ok true w := fun k => by
    obtain ⟨h1, h2⟩ := rB_ok hs k
    have e1 : Op.floatEq .f64 (fl (rB (s k)).1) (fl (rB (s k)).1) = true := by unfold Op.floatEq; rw [ord_same (a := (rB (s k)).1) (by omega)]; rfl
    have e2 : Op.floatEq .f64 (fl (rB (s k)).2) (fl (rB (s k)).2) = true := by unfold Op.floatEq; rw [ord_same (a := (rB (s k)).2) h2]; rfl
    unfold cV Op.equalIn
    rw [Sem.run_bind, run_underlying Tryz.underlying66]
    simp [Result.andThen_ok, e1, e2]
  have hp : ∀ k, k < 8 → (part 66 (shR s) k).run Tryz.prog w = .ok (cV (rB (s k))) w := fun k hk => by
    have e : (shR s)[k]? = some (cV (rB (s k))) := by unfold shR; simp [hk]
    have ha : (isAgg 66).run Tryz.prog w = .ok false w := by kernel_rfl
    unfold part
    simp [Sem.run_bind, ha, e]
  have hz : (sizeOf 66).run Tryz.prog w = .ok 1 w := by kernel_rfl
  have e : (Op.equalIn (9999 + 1) 67 (.agg (shR s)) (.agg (shR s))).run Tryz.prog w = .ok true w := by
    rw [Op.equalIn]
    simp only [Sem.run_bind, run_underlying Tryz.underlying67, Result.andThen_ok, hz, Std.Legacy.Range.forIn_eq_forIn_range', Std.Legacy.Range.size]
    simp [List.range', Sem.run_bind, hp, h]
  exact e
/-- A whole value is stored into the block that was made last; its number as the walk prints it. -/
theorem at_storeN {P : Program} {ops : Array Oper} {rest : List Oper} {a : Act} {Q : Exit → Act → World → Prop} {w : World} {dst : Option Tmp} {tt : TypeId} {pos : String} {after : Array Edge} {ty : TypeId} {x y : Operand} {c : Array Value}
    (c' : Array Value) {g : Nat} (hx : a.eval x = .pointer (some ⟨g, 0, none⟩)) (hy : a.eval y = .agg c') (hg : w.heap.size = g)
    (hi : (P.info? ty).map (·.size) = some c'.size) (hs : c.size = c'.size) (h1 : c'.all (·.oneCell') = true)
    (h : wpList P ops Q rest (a.put dst undef) (w.alloc (.cells c' ty))) : wpList P ops Q ({ dst := dst, op := .store ty x y, type := tt, pos := pos, after := after, guard := none } :: rest) a (w.alloc (.cells c ty)) := by
  subst hg
  exact at_store_new c' hx hy hi hs h1 h
/-- As Isa1's: a whole value is loaded, or stored, by its own law. -/
theorem at_loadV {P : Program} {ops : Array Oper} {rest : List Oper} {a : Act} {Q : Exit → Act → World → Prop} {w : World} {dst : Option Tmp} {tt : TypeId} {pos : String} {after : Array Edge} {ty : TypeId} {x : Operand} {ad : Addr} {v : Value}
    (hx : a.eval x = .pointer (some ad)) (hl : (loadVar ty ad).run P w = .ok v w)
    (h : wpList P ops Q rest (a.put dst v) w) : wpList P ops Q ({ dst := dst, op := .load ty x, type := tt, pos := pos, after := after, guard := none } :: rest) a w :=
  wpList_plain rfl fun _ hK => by
    unfold Oper.wp execOp
    simp only [hx, Instr.loadAt, Instr.sureAddr, Sem.run_bind, Sem.run_pure, Result.andThen, hl]
    exact hK _ _ h
theorem at_storeV {P : Program} {ops : Array Oper} {rest : List Oper} {a : Act} {Q : Exit → Act → World → Prop} {w w' : World} {dst : Option Tmp} {tt : TypeId} {pos : String} {after : Array Edge} {ty : TypeId} {x y : Operand} {ad : Addr} {v : Value}
    (hx : a.eval x = .pointer (some ad)) (hy : a.eval y = v) (hl : (storeVar ty ad v).run P w = .ok () w')
    (h : wpList P ops Q rest (a.put dst undef) w') : wpList P ops Q ({ dst := dst, op := .store ty x y, type := tt, pos := pos, after := after, guard := none } :: rest) a w :=
  wpList_plain rfl fun _ hK => by
    unfold Oper.wp execOp
    simp only [hx, hy, Instr.storeAt, Instr.sureAddr, Sem.run_bind, Sem.run_pure, Result.andThen, hl]
    exact hK _ _ h
set_option maxHeartbeats 4000000 in
set_option maxRecDepth 100000 in
theorem shmay_any (s : ShD) (hs : shOk s) (w : World) :
    Calls Tryz.prog 49 #[.agg (shC s)] w fun e w' => e = .returned (.bool true) ∧ Bel w w' := by
  have B1 := Lib.hid ((Bk.new w 69 (shC s)).alloc (.cells (shC s) 69))
  have b2 := Bk.new (w.alloc (.cells (shC s) 69)) 69 (shC s)
  rw [World.size_alloc] at b2
  have B2 := Lib.hid b2
  have HB := Lib.hid (((Bel.refl w).alloc (.cells (shC s) 69)).alloc (.cells (shC s) 69))
  clear b2
  have HL := Bk.load (Bk.new w 69 (shC s))
  go_enter Tryz.func49, Tryz.ntmps49
  go_wp2_with (first | (refine at_loadV (by rfl) HL ?_) | (refine at_storeN (ty := 69) (shC s) (by rfl) (by rfl) (by simp) info_shape rfl (shC_one s) ?_))
  clear HL
  generalize (w.alloc (.cells (shC s) 69)).alloc (.cells (shC s) 69) = W2 at *
  obtain ⟨g, hg⟩ : ∃ g, w.heap.size = g := ⟨_, rfl⟩
  have hwg : w.heap.size ≤ g := by omega
  rw [hg] at B1 B2
  simp only [hg]
  clear hg
  go_loopw [6] (fun kv wr => ∃ k : Nat, kv = .int .i64 k ∧ k ≤ 8 ∧ Hid (Bel w wr) ∧ Hid (Bk wr g 69 (shC s)) ∧ Hid (Bk wr (g + 1) 69 (shC s))) (fun kv _ => 8 - (intOf kv).toNat)
  case atStart => exact ⟨0, rfl, by omega, HB, B1, B2⟩
  case round =>
    clear B1 B2 HB
    obtain ⟨k, rfl, hk8, HB, B1, B2⟩ := hrel
    by_cases hke : k = 8
    · subst hke
      have L1 := B1.out.loadR
      have L2 := B2.out.loadR
      have LE := eq_R s hs wr
      go_wp2_with (first | (refine at_loadV (by rfl) L1 ?_) | (refine at_loadV (by rfl) L2 ?_))
      go_ret
      exact ⟨rfl, HB.out⟩
    · have hk1 : k < 8 := by omega
      have hk2 : (k : Int) < 8 := by omega
      have k0 : 0 ≤ (k : Int) := by omega
      have ek : IntKind.i64.wrap ((k : Int) + 1) = (k : Int) + 1 := wrap_i64 (by omega) (by omega)
      have c1 := B1.out.cell k (shC_set hk1)
      have c2 := B1.out.cell (8 + k) (shC_reg hk1)
      have c3 := B2.out.cell (8 + k) (shC_reg hk1)
      have f3 := B2.out.frozen (8 + k)
      obtain ⟨b, hb⟩ : ∃ b, (s k).isSome = b := ⟨_, rfl⟩
      obtain ⟨⟨lo, hi⟩, hbd⟩ : ∃ q, rB (s k) = q := ⟨_, rfl⟩
      have hbo := rB_ok hs k
      rw [hbd] at c2 c3 hbo
      rw [hb] at c1
      obtain ⟨h1, h2⟩ := hbo
      simp only at h1 h2
      unfold cV at c2 c3
      simp only at c2 c3
      clear hke
      cases b
      · have B3 : Hid (Bk (wr.setCell ⟨g + 1, 8 + k, none⟩ (.complex .f64 0 0)) (g + 1) 69 (shC s)) := Lib.hid (by
          have := B2.out.set (8 + k) (.complex .f64 0 0)
          rwa [shC_keep hk1 hb] at this)
        have B4 := Lib.hid (B1.out.other (p := ⟨g + 1, 8 + k, none⟩) (by simp only; omega) (.complex .f64 0 0))
        have HB3 := Lib.hid (HB.out.setCell (p := ⟨g + 1, 8 + k, none⟩) (by simp only; omega) (.complex .f64 0 0))
        have hst : (store ⟨g + 1, 8 + k, none⟩ (.complex .f64 0 0)).run Tryz.prog wr = .ok () (wr.setCell ⟨g + 1, 8 + k, none⟩ (.complex .f64 0 0)) := by rw [run_store _ _ _ _ _ rfl]; simp [c3, f3]
        go_wp2
        go_roundw
        case rel => exact ⟨k + 1, by simp, by omega, HB3, B4, B3⟩
        case measure => simp [intOf]; omega
      · go_wp2_with fail
        refine (bmay_any lo hi _ h1 h2).mono ?_
        rintro e w1 ⟨rfl, rfl⟩
        go_wp2
        go_roundw
        case rel => exact ⟨k + 1, by simp, by omega, HB, B1, B2⟩
        case measure => simp [intOf]; omega
end Go.Proofs.YtebdnobgdimdoaaGreat
set_option linter.unusedVariables false
set_option linter.unusedSimpArgs false
namespace Go.Proofs.YtebdnobgdimdoaaGreat
open Go.RowKit
theorem at_loadVg {P : Program} {ops : Array Oper} {rest : List Oper} {a : Act} {Q : Exit → Act → World → Prop} {w : World} {dst : Option Tmp} {tt : TypeId} {pos : String} {after : Array Edge} {ty : TypeId} {x : Operand} {ad : Addr} {v : Value} {gd : Option (Nat × Bool)}
    (hw : Region.wanted { dst := dst, op := .load ty x, type := tt, pos := pos, after := after, guard := gd } (yielded ops a.tmps) = true) (hx : a.eval x = .pointer (some ad)) (hl : (loadVar ty ad).run P w = .ok v w)
    (h : wpList P ops Q rest (a.put dst v) w) : wpList P ops Q ({ dst := dst, op := .load ty x, type := tt, pos := pos, after := after, guard := gd } :: rest) a w :=
  wpList_step fun K hK => by
    simp only [hw, if_true]
    unfold Oper.wp execOp
    simp only [hx, Instr.loadAt, Instr.sureAddr, Sem.run_bind, Sem.run_pure, Result.andThen, hl]
    exact hK _ _ h
theorem shC_get (s : ShD) (i : Nat) : (shC s)[i]? = if i < 8 then some (.bool (s i).isSome) else if i < 16 then some (cV (rB (s (i - 8)))) else none := by
  split
  · rename_i h
    exact shC_set h
  · split
    · rename_i h1 h2
      have := shC_reg (s := s) (k := i - 8) (by omega)
      rwa [show 8 + (i - 8) = i by omega] at this
    · rename_i h1 h2
      exact Array.getElem?_eq_none (by rw [shC_size]; omega)
theorem shC_upd (s : ShD) {k : Nat} (hk : k < 8) (o : Option Bd) : ((shC s).setIfInBounds k (.bool o.isSome)).setIfInBounds (8 + k) (cV (rB o)) = shC (fun i => if i = k then o else s i) := by
  apply Array.ext_getElem?
  intro i
  rw [Array.getElem?_setIfInBounds, Array.getElem?_setIfInBounds, Array.size_setIfInBounds, shC_size, shC_get, shC_get]
  by_cases h1 : 8 + k = i
  · subst h1
    simp [show ¬ (8 + k < 8) by omega, show 8 + k < 16 by omega]
  · by_cases h2 : k = i
    · subst h2
      simp [hk, h1, show k < 16 by omega]
    · simp only [h1, h2, if_false]
      by_cases h3 : i < 8
      · simp [h3, Ne.symm h2]
      · by_cases h4 : i < 16
        · simp [h3, h4, show ¬ i - 8 = k by omega]
        · simp [h3, h4]
theorem shPut_eq (s : ShD) {k : Nat} (hk : k < 8) (b : Bd) : shPut s k b = fun i => if i = k then some b else s i := by
  unfold shPut
  rw [if_pos ⟨by omega, by omega⟩]
  funext i
  by_cases h : i = k
  · subst h; simp
  · simp [h, show ¬ (i : Int) = k by omega]
theorem shGet_eq (s : ShD) {k : Nat} (hk : k < 8) : shGet s k = s k := by
  unfold shGet
  rw [if_pos ⟨by omega, by omega⟩]
  rfl
theorem shin_any (n : Int) (w : World) (b : Bool) (hb : Hid (decide (0 ≤ n ∧ n < 8) = b)) : Calls Tryz.prog 149 #[.int .i64 n] w fun e w' => e = .returned (.bool b) ∧ w = w' := by
  rw [← hb.out]
  by_cases h0 : 0 ≤ n
  · by_cases h1 : n < 8
    all_goals
      go_enter Tryz.func149, Tryz.ntmps149
      go_wp2
      go_ret
      exact ⟨by simp [h0, h1], rfl⟩
  · go_enter Tryz.func149, Tryz.ntmps149
    go_wp2
    go_ret
    exact ⟨by simp; omega, rfl⟩
theorem shall_any (w : World) : Calls Tryz.prog 80 #[] w fun e w' => e = .returned (cV bdAll) ∧ Bel w w' := by
  go_enter Tryz.func80, Tryz.ntmps80
  go_wp2_with fail
  refine (Of_any 0 4294967295 _ (by decide) (by decide)).mono ?_
  rintro e w1 ⟨rfl, hb⟩
  go_wp2_with fail
  go_ret
  exact ⟨rfl, hb⟩
set_option maxHeartbeats 4000000 in
set_option maxRecDepth 100000 in
theorem shget_any (s : ShD) (hs : shOk s) (n : Int) (w : World) (o : Option Bd) (ho : Hid (shGet s n = o)) :
    Calls Tryz.prog 151 #[.agg (shC s), .int .i64 n] w fun e w' => e = .returned (.tuple #[cV (rB o), .bool o.isSome]) ∧ Bel w w' := by
  have B1 := Bk.new w 69 (shC s)
  have HB := Lib.hid ((Bel.refl w).alloc (.cells (shC s) 69))
  have HL := B1.load
  have B1 := Lib.hid B1
  go_enter Tryz.func151, Tryz.ntmps151
  go_wp2_with (refine at_loadV (by rfl) HL ?_)
  refine (shmay_any s hs _).mono ?_
  rintro e w1 ⟨rfl, hb⟩
  have HB := Lib.hid (HB.out.trans hb)
  have B1 := Lib.hid (B1.out.bel hb)
  clear hb HL
  generalize w.heap.size = g at *
  obtain ⟨b, hb⟩ : ∃ b, Hid (decide (0 ≤ n ∧ n < 8) = b) := ⟨_, Lib.hid rfl⟩
  go_wp2_with fail
  refine (shin_any n _ b hb).mono ?_
  rintro e w2 ⟨rfl, rfl⟩
  cases b
  · have hn := of_decide_eq_false hb.out
    obtain rfl : o = none := by rw [← ho.out]; unfold shGet; rw [if_neg hn]
    go_wp2_with fail
    go_ret2
    exact ⟨by simp only [rB, Option.getD_none, cV_zero]; rfl, HB.out⟩
  · obtain ⟨h0, h8⟩ := of_decide_eq_true hb.out
    obtain ⟨k, rfl⟩ : ∃ k : Nat, n = k := ⟨n.toNat, by omega⟩
    have hk : k < 8 := by omega
    rw [shGet_eq s hk] at ho
    have c1 := B1.out.cell k (shC_set hk)
    have c2 := B1.out.cell (8 + k) (shC_reg hk)
    rw [ho.out] at c1 c2
    cases o with
    | none =>
      simp only [Option.isSome_none] at c1
      clear c2
      go_wp2_with fail
      go_ret2
      exact ⟨by simp only [rB, Option.getD_none, cV_zero]; rfl, HB.out⟩
    | some b =>
      simp only [Option.isSome_some] at c1
      unfold cV at c2
      go_wp2_with fail
      go_ret2
      exact ⟨rfl, HB.out⟩
theorem shOf_at (a : Int) (w : World) (ha : U32 a) : Calls Tryz.prog 120 #[.int .u32 a, .int .u32 a] w fun e w' => e = .returned (cV (a.toNat, a.toNat)) ∧ Bel w w' := by
  obtain ⟨q, rfl⟩ : ∃ q : Nat, a = q := ⟨a.toNat, by have := ha.lo; omega⟩
  have hq : q < 4294967296 := by have := ha.hi; omega
  have := Of_any q q w hq hq
  rw [Nat.min_self, Nat.max_self] at this
  exact this
set_option maxHeartbeats 4000000 in
set_option maxRecDepth 100000 in
theorem shword_any (s : ShD) (hs : shOk s) (op fn dst src : Int) (reg : Bool) (off imm : Int) (him : U32 imm) (hm : Hid (mayB op fn dst src reg off imm = true)) (w : World) (o : Option Bd) (ho : Hid (shWord s ⟨op, fn, dst, src, reg, off, imm⟩ = o)) :
    Calls Tryz.prog 150 #[.agg (shC s), .agg #[.int .i64 op, .int .i64 fn, .int .i64 dst, .int .i64 src, .bool reg, .int .i64 off, .int .u32 imm]] w fun e w' => e = .returned (.tuple #[cV (rB o), .bool o.isSome]) ∧ Bel w w' := by
  have B1 := (Bk.new w 69 (shC s)).alloc (.cells #[.int .i64 op, .int .i64 fn, .int .i64 dst, .int .i64 src, .bool reg, .int .i64 off, .int .u32 imm] 95)
  have B2 := Bk.new (w.alloc (.cells (shC s) 69)) 95 #[.int .i64 op, .int .i64 fn, .int .i64 dst, .int .i64 src, .bool reg, .int .i64 off, .int .u32 imm]
  rw [World.size_alloc] at B2
  have HB := Lib.hid (((Bel.refl w).alloc (.cells (shC s) 69)).alloc (.cells #[.int .i64 op, .int .i64 fn, .int .i64 dst, .int .i64 src, .bool reg, .int .i64 off, .int .u32 imm] 95))
  have HL := B1.load
  have B1 := Lib.hid B1
  have B2 := Lib.hid B2
  go_enter Tryz.func150, Tryz.ntmps150
  go_wp2_with (refine at_loadV (by rfl) HL ?_)
  refine (shmay_any s hs _).mono ?_
  rintro e w1 ⟨rfl, hb⟩
  have HB1 := Lib.hid (HB.out.trans hb)
  have B3 := Lib.hid (B1.out.bel hb)
  have B4 := Lib.hid (B2.out.bel hb)
  clear hb HL B1 B2 HB
  generalize w.heap.size = g at *
  have c0 := B4.out.cell 0 (v := .int .i64 op) rfl
  have c1 := B4.out.cell 1 (v := .int .i64 fn) rfl
  have c2 := B4.out.cell 2 (v := .int .i64 dst) rfl
  have c3 := B4.out.cell 3 (v := .int .i64 src) rfl
  have c4 := B4.out.cell 4 (v := .bool reg) rfl
  have c5 := B4.out.cell 5 (v := .int .i64 off) rfl
  have c6 := B4.out.cell 6 (v := .int .u32 imm) rfl
  go_wp2_with fail
  refine (may_any op fn dst src reg off imm _).mono ?_
  rw [hm.out]
  rintro e w2 ⟨rfl, hb⟩
  have HB2 := Lib.hid (HB1.out.trans hb)
  have B5 := Lib.hid (B3.out.bel hb)
  have HL := B5.out.load
  have c3 := hb.cell c3
  have c4 := hb.cell c4
  have c6 := hb.cell c6
  clear hb c0 c1 c2 c5
  have hoo := ho.out
  unfold shWord at hoo
  cases reg
  · simp only [Bool.false_eq_true, if_false] at hoo
    subst hoo
    go_wp2_with (refine at_loadV (by rfl) HL ?_)
    refine (shOf_at imm _ him).mono ?_
    rintro e w3 ⟨rfl, hb⟩
    have HB3 := Lib.hid (HB2.out.trans hb)
    clear hb
    go_wp2_with fail
    go_ret2
    exact ⟨rfl, HB3.out⟩
  · simp only [if_true] at hoo
    go_wp2_with (refine at_loadV (by rfl) HL ?_)
    refine (shget_any s hs src _ o (Lib.hid hoo)).mono ?_
    rintro e w3 ⟨rfl, hb⟩
    have HB3 := Lib.hid (HB2.out.trans hb)
    clear hb
    go_wp2_with fail
    go_ret2
    exact ⟨rfl, HB3.out⟩
theorem Bk.store {W : World} {g : Nat} {C : Array Value} (h : Bk W g 69 C) (hC : C.size = 16) (s : ShD) : (storeVar 69 ⟨g, 0, none⟩ (.agg (shC s))).run Tryz.prog W = .ok () (W.setRow g (shC s)) :=
  run_storeVar_row W g _ _ C (shC s) h.out (by rw [shC_size]; exact info_shape) (by rw [hC, shC_size]) (shC_one s)
theorem Bk.row {W : World} {g : Nat} {t : TypeId} {C : Array Value} (h : Bk W g t C) (D : Array Value) : Bk (W.setRow g D) g t D := ⟨setRow_heap W g C D t _ h.out⟩
theorem Bk.rowOther {W : World} {g k : Nat} {t : TypeId} {C : Array Value} (h : Bk W k t C) (hk : k ≠ g) (D : Array Value) : Bk (W.setRow g D) k t C := ⟨(setRow_other W g k D hk).trans h.out⟩
theorem Bel.row {w W : World} (h : Bel w W) {g : Nat} (hg : w.heap.size ≤ g) (D : Array Value) : Bel w (W.setRow g D) := ⟨below_setRow h.out hg D⟩
theorem shPut_out (s : ShD) {n : Int} (h : ¬ (0 ≤ n ∧ n < 8)) (b : Bd) : shPut s n b = s := if_neg h
set_option maxHeartbeats 4000000 in
set_option maxRecDepth 100000 in
theorem shput_any (s t : ShD) (hs : shOk s) (n : Int) (b : Bd) (hb : bdOk b) (ht : Hid (shPut s n b = t)) (w : World) :
    Calls Tryz.prog 121 #[.agg (shC s), .int .i64 n, cV b] w fun e w' => e = .returned (.agg (shC t)) ∧ Bel w w' := by
  have B1 := (Bk.new w 69 (shC s)).alloc (.cells (shC (fun _ => none)) 69)
  have B2 := Bk.new (w.alloc (.cells (shC s) 69)) 69 (shC (fun _ => none))
  rw [World.size_alloc] at B2
  have HB := Lib.hid (((Bel.refl w).alloc (.cells (shC s) 69)).alloc (.cells (shC (fun _ => none)) 69))
  rw [shC_zero] at B1 B2 HB
  have HL := B1.load
  have B1 := Lib.hid B1
  have B2 := Lib.hid B2
  go_enter Tryz.func121, Tryz.ntmps121
  go_wp2_with (refine at_loadV (by rfl) HL ?_)
  refine (shmay_any s hs _).mono ?_
  rintro e w1 ⟨rfl, hc⟩
  have HB1 := Lib.hid (HB.out.trans hc)
  have b3 := B1.out.bel hc
  have b4 := B2.out.bel hc
  rw [← shC_zero] at b4
  have B3 := Lib.hid b3
  have B4 := Lib.hid b4
  clear hc HL B1 B2 HB b3 b4
  obtain ⟨g, hg⟩ : ∃ g, w.heap.size = g := ⟨_, rfl⟩
  have hwg : w.heap.size ≤ g := by omega
  rw [hg] at B3 B4
  simp only [hg]
  clear hg
  obtain ⟨b1, hb1⟩ : ∃ b, Hid (decide (0 ≤ n ∧ n < 8) = b) := ⟨_, Lib.hid rfl⟩
  go_wp2_with fail
  refine (shin_any n _ b1 hb1).mono ?_
  rintro e w2 ⟨rfl, rfl⟩
  cases b1
  · have hn := of_decide_eq_false hb1.out
    obtain rfl : t = s := by rw [← ht.out, shPut_out s hn]
    have HL := B3.out.load
    have HST := B4.out.store (shC_size _) t
    have HR := (B4.out.row (shC t)).load
    have HB2 := Lib.hid (HB1.out.row (g := g + 1) (by omega) (shC t))
    go_wp2_with (first | (refine at_loadV (by rfl) HL ?_) | (refine at_storeV (by rfl) (by rfl) HST ?_))
    refine bodyPost_ret (v := .agg (shC t)) ?_ rfl ⟨rfl, HB2.out⟩
    have hr : (Tryz.f121).results = #[.cell 6 69] := by rfl
    simp only [results, hr]
    simp [Act.put, asAddr, Result.andThen, HR]
  · obtain ⟨h0, h8⟩ := of_decide_eq_true hb1.out
    obtain ⟨k, rfl⟩ : ∃ k : Nat, n = k := ⟨n.toNat, by omega⟩
    have hk : k < 8 := by omega
    obtain ⟨lo, hi⟩ := b
    obtain ⟨hb0, hb8⟩ := hb
    simp only at hb0 hb8
    have hst : t = fun i => if i = k then some (lo, hi) else s i := by rw [← ht.out, shPut_eq s hk]
    have c1 := B3.out.cell k (shC_set hk)
    have c2 := B3.out.cell (8 + k) (shC_reg hk)
    have f1 := B3.out.frozen k
    have f2 := B3.out.frozen (8 + k)
    unfold cV at c2 ⊢
    go_wp2_with fail
    refine (bmay_any lo hi _ hb0 hb8).mono ?_
    rintro e w3 ⟨rfl, rfl⟩
    have e1 := B3.out.set k (.bool true)
    have c3 : (w1.setCell ⟨g, k, none⟩ (.bool true)).cell? ⟨g, 8 + k, none⟩ = some (cV (rB (s k))) := e1.cell (8 + k) (by
      rw [Array.getElem?_setIfInBounds, if_neg (by omega)]
      exact shC_reg hk)
    have f3 := e1.frozen (8 + k)
    have hs2 : (store ⟨g, 8 + k, none⟩ (.complex .f64 (fl lo) (fl hi))).run Tryz.prog (w1.setCell ⟨g, k, none⟩ (.bool true)) = .ok () ((w1.setCell ⟨g, k, none⟩ (.bool true)).setCell ⟨g, 8 + k, none⟩ (.complex .f64 (fl lo) (fl hi))) := by rw [run_store _ _ _ _ _ rfl]; simp [c3, f3]
    have e2 := e1.set (8 + k) (cV (lo, hi))
    rw [show (shC s).setIfInBounds k (.bool true) = (shC s).setIfInBounds k (.bool (some (lo, hi)).isSome) from rfl, show cV (lo, hi) = cV (rB (some (lo, hi))) from rfl, shC_upd s hk, ← hst] at e2
    have e4 := (B4.out.other (p := ⟨g, k, none⟩) (by simp only; omega) (.bool true)).other (p := ⟨g, 8 + k, none⟩) (by simp only; omega) (cV (lo, hi))
    have HB2 := (HB1.out.setCell (p := ⟨g, k, none⟩) (by simp only; omega) (.bool true)).setCell (p := ⟨g, 8 + k, none⟩) (by simp only; omega) (cV (lo, hi))
    have HL := e2.load
    have HST := e4.store (shC_size _) t
    have HR := (e4.row (shC t)).load
    have HB3 := Lib.hid (HB2.row (g := g + 1) (by omega) (shC t))
    rw [show cV (rB (some (lo, hi))) = .complex .f64 (fl lo) (fl hi) from rfl] at HL
    rw [show cV (lo, hi) = .complex .f64 (fl lo) (fl hi) from rfl] at HST HR HB3
    clear e2 e4 HB2 c3 f3 e1
    go_wp2_with (first | (refine at_loadV (by rfl) HL ?_) | (refine at_storeV (by rfl) (by rfl) HST ?_))
    refine bodyPost_ret (v := .agg (shC t)) ?_ rfl ⟨rfl, HB3.out⟩
    have hr : (Tryz.f121).results = #[.cell 6 69] := by rfl
    simp only [results, hr]
    simp [Act.put, asAddr, Result.andThen, HR]
end Go.Proofs.YtebdnobgdimdoaaGreat
set_option linter.unusedVariables false
set_option linter.unusedSimpArgs false
namespace Go.Proofs.YtebdnobgdimdoaaGreat
open Go.RowKit
theorem yields_loadV {P : Program} {ops : Array Oper} {S : World → Prop} {o : Oper} {a : Act} {ty : TypeId} {x : Operand} {ad : Addr} {v : Value} (hw : Region.wanted o (yielded ops a.tmps) = true) (ho : o.op = .load ty x)
    (hx : a.eval x = .pointer (some ad)) (hl : ∀ w, S w → (loadVar ty ad).run P w = .ok v w) : YieldsIf P ops S o v a :=
  .inl ⟨hw, fun w hw' => by
    unfold execOp
    simp only [ho, hx, Instr.loadAt, Instr.sureAddr, Sem.run_bind, Sem.run_pure, Result.andThen_ok, hl w hw']⟩
theorem wpT_storeV {P : Program} {f : Nat → Option Bool} {o : Oper} {a : Act} {w w' : World} {K : Act → World → Prop} {Q : Exit → Act → World → Prop} {ty : TypeId} {x y : Operand} {ad : Addr} {v : Value} (ho : o.op = .store ty x y) (hg : o.guard = none)
    (hx : a.eval x = .pointer (some ad)) (hy : a.eval y = v) (hl : (storeVar ty ad v).run P w = .ok () w') (h : K (a.put o.dst undef) w') : if Region.wanted o f = true then Oper.wp P o a w K Q else K (a.put o.dst undef) w := by
  rw [if_pos (by simp only [Region.wanted, hg])]
  unfold Oper.wp execOp
  simp only [ho, hx, hy, Instr.storeAt, Instr.sureAddr, Sem.run_bind, Sem.run_pure, Result.andThen_ok, hl]
  exact h
theorem shNew_zero : shNew 0 = fun _ => none := by
  funext i
  unfold shNew
  rw [if_neg (by omega)]
theorem shNew_step (k : Nat) : (fun i => if i = k + 1 then some bdAll else shNew k i) = shNew (k + 1) := by
  funext i
  unfold shNew
  by_cases h : i = k + 1
  · simp [h]
  · by_cases h2 : 1 ≤ i ∧ i ≤ k
    · simp [h, h2, show i ≤ k + 1 by omega]
    · simp only [h, if_false]
      rw [if_neg h2, if_neg (by omega)]
set_option maxHeartbeats 4000000 in
set_option maxRecDepth 100000 in
theorem shnew_any (args : Nat) (ha : args ≤ 4) (w : World) :
    Calls Tryz.prog 46 #[.int .i64 args] w fun e w' => e = .returned (.tuple #[.agg (shC (shNew args)), .bool true]) ∧ Bel w w' := by
  have B1 := (Bk.new w 69 (shC (fun _ => none))).alloc (.cells (shC (fun _ => none)) 69)
  have B2 := Bk.new (w.alloc (.cells (shC (fun _ => none)) 69)) 69 (shC (fun _ => none))
  rw [World.size_alloc] at B2
  have HB := Lib.hid (((Bel.refl w).alloc (.cells (shC (fun _ => none)) 69)).alloc (.cells (shC (fun _ => none)) 69))
  have ha2 : (args : Int) ≤ 4 := by omega
  have ha0 : 0 ≤ (args : Int) := by omega
  have hz := shC_zero
  have h1 : ¬ (args : Int) < 0 := by omega
  have h2 : ¬ (4 : Int) < args := by omega
  go_enter Tryz.func46, Tryz.ntmps46
  go_wp2_with fail
  rw [← hz]
  clear hz
  obtain ⟨W1, hW1⟩ : ∃ W1, (w.alloc (.cells (shC (fun _ => none)) 69)).alloc (.cells (shC (fun _ => none)) 69) = W1 := ⟨_, rfl⟩
  rw [hW1] at B1 B2 HB ⊢
  clear hW1
  obtain ⟨g, hg⟩ : ∃ g, w.heap.size = g := ⟨_, rfl⟩
  have hwg : w.heap.size ≤ g := by omega
  rw [hg] at B1 B2
  simp only [hg]
  clear hg
  have B1 := Lib.hid B1
  have B2 := Lib.hid B2
  rw [← shNew_zero] at B2
  go_loopw [14] (fun kv wr => ∃ k : Nat, kv = .int .i64 k ∧ k ≤ args ∧ Hid (Bel w wr) ∧ Hid (Bk wr g 69 (shC (fun _ => none))) ∧ Hid (Bk wr (g + 1) 69 (shC (shNew k)))) (fun kv _ => args - (intOf kv).toNat)
  case atStart => exact ⟨0, rfl, Nat.zero_le _, HB, B1, B2⟩
  case round =>
    clear B1 B2 HB
    obtain ⟨k, rfl, hkn, HB, B1, B2⟩ := hrel
    by_cases hke : k = args
    · subst hke
      have HL := B2.out.load
      have HST := B1.out.store (shC_size _) (shNew k)
      have HR := (B1.out.row (shC (shNew k))).load
      have HFIN := Lib.hid (HB.out.row (g := g) (by omega) (shC (shNew k)))
      go_wp2_with (first | (refine at_loadV (by rfl) HL ?_) | (refine at_storeV (by rfl) (by rfl) HST ?_))
      refine bodyPost_ret (v := .tuple #[.agg (shC (shNew k)), .bool true]) ?_ rfl ⟨rfl, HFIN.out⟩
      have hr : (Tryz.f46).results = #[.cell 2 69, .tmp 3] := by rfl
      simp only [results, hr]
      simp [Act.put, asAddr, Result.andThen, HR]
    · have hk1 : k < args := by omega
      have hk2 : (k : Int) < args := by omega
      have k0 : 0 ≤ (k : Int) := by omega
      have hk8 : k + 1 < 8 := by omega
      have ek : IntKind.i64.wrap ((k : Int) + 1) = (k : Int) + 1 := wrap_i64 (by omega) (by omega)
      have hk9 : (k : Int) + 1 < 8 := by omega
      have hk0 : 0 ≤ (k : Int) + 1 := by omega
      clear hke
      go_wp2_with fail
      generalize wr = W0 at *
      have SD : Bel W0 W0.drew := (Bel.refl W0).drew
      refine wp_region_T (fun w' => Bel W0 w') (fun j => j != 4) (by kernel_rfl) ?_
      refine wpAnyW_take (i := 0) (v := ?v0) rfl (by kernel_rfl) (by kernel_rfl) (by kernel_rfl) (by kernel_rfl) (fun _ _ _ h => h) (Or.inl ⟨by rfl, ?hy0⟩) ?rest0
      case hy0 => (intro w' hSw; go_simp) <;> with_reducible rfl
      try simp only [List.getElem_toArray, List.getElem_cons_zero, List.getElem_cons_succ, Act.put, List.setIfInBounds_toArray, List.set_cons_zero, List.set_cons_succ]
      refine wpAnyW_take (i := 1) (v := ?v1) rfl (by kernel_rfl) (by kernel_rfl) (by kernel_rfl) (by kernel_rfl) (fun _ _ _ h => h) (Or.inl ⟨by rfl, ?hy1⟩) ?rest1
      case hy1 => (intro w' hSw; go_simp) <;> with_reducible rfl
      try simp only [List.getElem_toArray, List.getElem_cons_zero, List.getElem_cons_succ, Act.put, List.setIfInBounds_toArray, List.set_cons_zero, List.set_cons_succ]
      refine wpAnyW_take (i := 2) (v := ?v2) rfl (by kernel_rfl) (by kernel_rfl) (by kernel_rfl) (by kernel_rfl) (fun _ _ _ h => h) (Or.inl ⟨by rfl, ?hy2⟩) ?rest2
      case hy2 => (intro w' hSw; go_simp) <;> with_reducible rfl
      try simp only [List.getElem_toArray, List.getElem_cons_zero, List.getElem_cons_succ, Act.put, List.setIfInBounds_toArray, List.set_cons_zero, List.set_cons_succ]
      refine wpAnyW_take (i := 3) (v := ?v3) rfl (by kernel_rfl) (by kernel_rfl) (by kernel_rfl) (by kernel_rfl) (fun _ _ _ h => h) (Or.inl ⟨by rfl, ?hy3⟩) ?rest3
      case hy3 => (intro w' hSw; go_simp) <;> with_reducible rfl
      try simp only [List.getElem_toArray, List.getElem_cons_zero, List.getElem_cons_succ, Act.put, List.setIfInBounds_toArray, List.set_cons_zero, List.set_cons_succ]
      refine wpAnyW_take (i := 5) (v := ?v5) rfl (by kernel_rfl) (by kernel_rfl) (by kernel_rfl) (by kernel_rfl) (fun _ _ _ h => h) (Or.inl ⟨by rfl, ?hy5⟩) ?rest5
      case hy5 => (intro w' hSw; go_simp) <;> with_reducible rfl
      try simp only [List.getElem_toArray, List.getElem_cons_zero, List.getElem_cons_succ, Act.put, List.setIfInBounds_toArray, List.set_cons_zero, List.set_cons_succ]
      refine wpAnyW_take (i := 6) (v := ?v6) rfl (by kernel_rfl) (by kernel_rfl) (by kernel_rfl) (by kernel_rfl) (fun _ _ _ h => h) (Or.inl ⟨by rfl, ?hy6⟩) ?rest6
      case hy6 => (intro w' hSw; go_simp) <;> with_reducible rfl
      try simp only [List.getElem_toArray, List.getElem_cons_zero, List.getElem_cons_succ, Act.put, List.setIfInBounds_toArray, List.set_cons_zero, List.set_cons_succ]
      refine wpAnyW_take (i := 8) (v := ?v8) rfl (by kernel_rfl) (by kernel_rfl) (by kernel_rfl) (by kernel_rfl) (fun _ _ _ h => h) (Or.inl ⟨by rfl, ?hy8⟩) ?rest8
      case hy8 => (intro w' hSw; go_simp) <;> with_reducible rfl
      try simp only [List.getElem_toArray, List.getElem_cons_zero, List.getElem_cons_succ, Act.put, List.setIfInBounds_toArray, List.set_cons_zero, List.set_cons_succ]
      refine wpAnyT_one (i := 4) (by kernel_rfl) rfl (fun K hK => ?_)
      go_simp
      go_at_call 80
      refine (shall_any _).mono ?_
      rintro en w5 ⟨rfl, hb5⟩
      have S5 : Bel W0 w5 := SD.trans hb5
      have b1 := B1.out.bel S5
      have b2 := B2.out.bel S5
      have e1 := b2.set (k + 1) (.bool true)
      have c1 := b2.cell (k + 1) (shC_set hk8)
      have f1 := b2.frozen (k + 1)
      have c3 : (w5.setCell ⟨g + 1, k + 1, none⟩ (.bool true)).cell? ⟨g + 1, 8 + (k + 1), none⟩ = some (cV (rB (shNew k (k + 1)))) := e1.cell (8 + (k + 1)) (by
        rw [Array.getElem?_setIfInBounds, if_neg (by omega)]
        exact shC_reg hk8)
      have f3 := e1.frozen (8 + (k + 1))
      have hs1 : (store ⟨g + 1, k + 1, none⟩ (.bool true)).run Tryz.prog w5 = .ok () (w5.setCell ⟨g + 1, k + 1, none⟩ (.bool true)) := by rw [run_store _ _ _ _ _ rfl]; simp [c1, f1]
      have hs2 : (store ⟨g + 1, 8 + (k + 1), none⟩ (.complex .f64 (fl bdAll.1) (fl bdAll.2))).run Tryz.prog (w5.setCell ⟨g + 1, k + 1, none⟩ (.bool true)) = .ok () ((w5.setCell ⟨g + 1, k + 1, none⟩ (.bool true)).setCell ⟨g + 1, 8 + (k + 1), none⟩ (.complex .f64 (fl bdAll.1) (fl bdAll.2))) := by rw [run_store _ _ _ _ _ rfl]; simp [c3, f3]
      have e2 := e1.set (8 + (k + 1)) (cV bdAll)
      rw [show (shC (shNew k)).setIfInBounds (k + 1) (.bool true) = (shC (shNew k)).setIfInBounds (k + 1) (.bool (some bdAll).isSome) from rfl, show cV bdAll = cV (rB (some bdAll)) from rfl, shC_upd (shNew k) hk8, shNew_step] at e2
      have B2E := Lib.hid e2
      have B1E := Lib.hid ((b1.other (p := ⟨g + 1, k + 1, none⟩) (by simp only; omega) (.bool true)).other (p := ⟨g + 1, 8 + (k + 1), none⟩) (by simp only; omega) (cV (rB (some bdAll))))
      have HBE := Lib.hid (((HB.out.trans S5).setCell (p := ⟨g + 1, k + 1, none⟩) (by simp only; omega) (.bool true)).setCell (p := ⟨g + 1, 8 + (k + 1), none⟩) (by simp only; omega) (cV (rB (some bdAll))))
      clear e2 e1 b1 b2
      unfold cV
      dsimp only
      refine hK.out _ _ (fun _ => S5) ?_
      clear hK K
      try simp only [List.getElem_toArray, List.getElem_cons_zero, List.getElem_cons_succ, Act.put, List.setIfInBounds_toArray, List.set_cons_zero, List.set_cons_succ]
      refine wpAnyT_one (i := 7) (by kernel_rfl) rfl (fun K hK => ?_)
      go_simp
      refine hK.out _ _ (fun h => absurd h (by decide)) ?_
      clear hK K
      try simp only [List.getElem_toArray, List.getElem_cons_zero, List.getElem_cons_succ, Act.put, List.setIfInBounds_toArray, List.set_cons_zero, List.set_cons_succ]
      refine wpAnyT_one (i := 9) (by kernel_rfl) rfl (fun K hK => ?_)
      go_simp
      refine hK.out _ _ (fun h => absurd h (by decide)) ?_
      clear hK K
      try simp only [List.getElem_toArray, List.getElem_cons_zero, List.getElem_cons_succ, Act.put, List.setIfInBounds_toArray, List.set_cons_zero, List.set_cons_succ]
      refine wpAnyT_one (i := 10) (by kernel_rfl) rfl (fun K hK => ?_)
      go_simp
      refine hK.out _ _ (fun h => absurd h (by decide)) ?_
      clear hK K
      try simp only [List.getElem_toArray, List.getElem_cons_zero, List.getElem_cons_succ, Act.put, List.setIfInBounds_toArray, List.set_cons_zero, List.set_cons_succ]
      refine wpAnyT_done (by kernel_rfl) ?_ _
      refine NoPanic.normal ?_
      clear SD S5 hs1 hs2 hb5 c1 f1 c3 f3
      go_wp2
      go_roundw
      case rel => exact ⟨k + 1, by simp, by omega, HBE, B1E, B2E⟩
      case measure => simp [intOf]; omega
end Go.Proofs.YtebdnobgdimdoaaGreat
set_option linter.unusedVariables false
set_option linter.unusedSimpArgs false
namespace Go.Proofs.YtebdnobgdimdoaaGreat
open Go.RowKit
theorem shC_congr {s t : ShD} (h : ∀ i, i < 8 → s i = t i) : shC s = shC t := by
  apply Array.ext_getElem?
  intro i
  rw [shC_get, shC_get]
  by_cases h1 : i < 8
  · rw [if_pos h1, if_pos h1, h i h1]
  · by_cases h2 : i < 16
    · rw [if_neg h1, if_neg h1, if_pos h2, if_pos h2, h (i - 8) (by omega)]
    · rw [if_neg h1, if_neg h1, if_neg h2, if_neg h2]
/-- The first registers, from 1 on, are lost. -/
def backU (s : ShD) (k : Nat) : ShD := fun i => if 1 ≤ i ∧ i ≤ k then none else s i
theorem backU_zero (s : ShD) : backU s 0 = s := by
  funext i
  unfold backU
  rw [if_neg (by omega)]
theorem backU_step (s : ShD) (k : Nat) : (fun i => if i = k + 1 then none else backU s k i) = backU s (k + 1) := by
  funext i
  unfold backU
  by_cases h : i = k + 1
  · simp [h]
  · by_cases h2 : 1 ≤ i ∧ i ≤ k
    · simp [h, h2, show i ≤ k + 1 by omega]
    · simp only [h, if_false]
      rw [if_neg h2, if_neg (by omega)]
theorem backU_ok {s : ShD} (h : shOk s) (k : Nat) : shOk (backU s k) := by
  intro i b e
  unfold backU at e
  split at e
  · cases e
  · exact h i b e
theorem backU_end (s : ShD) : shPut (backU s 5) 0 bdAll = shBack s := by
  have := shPut_eq (backU s 5) (k := 0) (by decide) bdAll
  rw [show ((0 : Nat) : Int) = 0 from rfl] at this
  rw [this]
  funext i
  unfold shBack backU
  by_cases h : i = 0
  · simp [h]
  · by_cases h2 : i ≤ 5
    · simp [h, h2, show 1 ≤ i by omega]
    · simp [h, h2]
set_option maxHeartbeats 4000000 in
set_option maxRecDepth 100000 in
theorem shback_any (s : ShD) (hs : shOk s) (w : World) :
    Calls Tryz.prog 136 #[.agg (shC s)] w fun e w' => e = .returned (.agg (shC (shBack s))) ∧ Bel w w' := by
  have B1 := (Bk.new w 69 (shC s)).alloc (.cells (shC (fun _ => none)) 69)
  have B2 := Bk.new (w.alloc (.cells (shC s) 69)) 69 (shC (fun _ => none))
  rw [World.size_alloc] at B2
  have HB := Lib.hid (((Bel.refl w).alloc (.cells (shC s) 69)).alloc (.cells (shC (fun _ => none)) 69))
  rw [shC_zero] at B1 B2 HB
  have HL := B1.load
  have B1 := Lib.hid B1
  have B2 := Lib.hid B2
  go_enter Tryz.func136, Tryz.ntmps136
  go_wp2_with (refine at_loadV (by rfl) HL ?_)
  refine (shmay_any s hs _).mono ?_
  rintro e w1 ⟨rfl, hc⟩
  have HB1 := Lib.hid (HB.out.trans hc)
  have b3 := B1.out.bel hc
  have b4 := B2.out.bel hc
  rw [← shC_zero] at b4
  have B3 := Lib.hid b3
  have B4 := Lib.hid b4
  clear hc HL B1 B2 HB b3 b4
  obtain ⟨g, hg⟩ : ∃ g, w.heap.size = g := ⟨_, rfl⟩
  have hwg : w.heap.size ≤ g := by omega
  rw [hg] at B3 B4
  simp only [hg]
  clear hg
  rw [← backU_zero s] at B3
  go_wp2_with fail
  go_loopw [8] (fun kv wr => ∃ k : Nat, kv = .int .i64 k ∧ k ≤ 5 ∧ Hid (Bel w wr) ∧ Hid (Bk wr g 69 (shC (backU s k))) ∧ Hid (Bk wr (g + 1) 69 (shC (fun _ => none)))) (fun kv _ => 5 - (intOf kv).toNat)
  case atStart => exact ⟨0, rfl, Nat.zero_le _, HB1, B3, B4⟩
  case round =>
    clear B3 B4 HB1
    obtain ⟨k, rfl, hkn, HB, B1, B2⟩ := hrel
    by_cases hke : k = 5
    · subst hke
      go_wp2_with fail
      generalize wr = W0 at *
      have SD : Bel W0 W0.drew := (Bel.refl W0).drew
      have L0 := fun (w' : World) (h : Bel W0 w') => (B1.out.bel h).load
      refine wp_region_T (fun w' => Bel W0 w') (fun j => j == 3) (by kernel_rfl) ?_
      refine wpAnyU_take (i := 0) rfl (by kernel_rfl) (by kernel_rfl) (by kernel_rfl) (by kernel_rfl) (fun _ _ _ h => h) (yields_loadV (by rfl) rfl (by rfl) L0) SD ?rest0
      try simp only [List.getElem_toArray, List.getElem_cons_zero, List.getElem_cons_succ, Act.put, List.setIfInBounds_toArray, List.set_cons_zero, List.set_cons_succ]
      refine wpAnyT_one (i := 1) (by kernel_rfl) rfl (fun K hK => ?_)
      go_simp
      go_at_call 80
      refine (shall_any _).mono ?_
      rintro en w5 ⟨rfl, hb5⟩
      have S5 : Bel W0 w5 := SD.trans hb5
      dsimp only
      refine hK.out _ _ (fun _ => S5) ?_
      clear hK K
      try simp only [List.getElem_toArray, List.getElem_cons_zero, List.getElem_cons_succ, Act.put, List.setIfInBounds_toArray, List.set_cons_zero, List.set_cons_succ]
      refine wpAnyT_one (i := 2) (by kernel_rfl) rfl (fun K hK => ?_)
      go_simp
      go_at_call 121
      refine (shput_any (backU s 5) (shBack s) (backU_ok hs 5) 0 bdAll bdAll_ok (Lib.hid (backU_end s)) _).mono ?_
      rintro en w6 ⟨rfl, hb6⟩
      have S6 : Bel W0 w6 := S5.trans hb6
      have b6 := B2.out.bel S6
      have HST := b6.store (shC_size _) (shBack s)
      have HR := (b6.row (shC (shBack s))).load
      have HFIN := Lib.hid ((HB.out.trans S6).row (g := g + 1) (by omega) (shC (shBack s)))
      dsimp only
      refine hK.out _ _ (fun _ => S6) ?_
      clear hK K
      try simp only [List.getElem_toArray, List.getElem_cons_zero, List.getElem_cons_succ, Act.put, List.setIfInBounds_toArray, List.set_cons_zero, List.set_cons_succ]
      refine wpAnyT_one (i := 3) (by kernel_rfl) rfl (fun K hK => ?_)
      refine wpT_storeV rfl rfl (by rfl) (by rfl) HST ?_
      refine hK.out _ _ (fun h => absurd h (by decide)) ?_
      clear hK K
      try simp only [List.getElem_toArray, List.getElem_cons_zero, List.getElem_cons_succ, Act.put, List.setIfInBounds_toArray, List.set_cons_zero, List.set_cons_succ]
      refine wpAnyT_done (by kernel_rfl) ?_ _
      refine NoPanic.normal ?_
      go_wp2_with fail
      refine bodyPost_ret (v := .agg (shC (shBack s))) ?_ rfl ⟨rfl, HFIN.out⟩
      have hr : (Tryz.f136).results = #[.cell 2 69] := by rfl
      simp only [results, hr]
      simp [Act.put, asAddr, Result.andThen, HR]
    · have hk1 : k < 5 := by omega
      have hk2 : (k : Int) < 5 := by omega
      have k0 : 0 ≤ (k : Int) := by omega
      have hk8 : k + 1 < 8 := by omega
      have ek : IntKind.i64.wrap ((k : Int) + 1) = (k : Int) + 1 := wrap_i64 (by omega) (by omega)
      have hk9 : (k : Int) + 1 < 8 := by omega
      have hk0 : 0 ≤ (k : Int) + 1 := by omega
      have e1 := B1.out.set (k + 1) (.bool false)
      have c1 := B1.out.cell (k + 1) (shC_set hk8)
      have f1 := B1.out.frozen (k + 1)
      have c3 : (wr.setCell ⟨g, k + 1, none⟩ (.bool false)).cell? ⟨g, 8 + (k + 1), none⟩ = some (cV (rB (backU s k (k + 1)))) := e1.cell (8 + (k + 1)) (by
        rw [Array.getElem?_setIfInBounds, if_neg (by omega)]
        exact shC_reg hk8)
      have f3 := e1.frozen (8 + (k + 1))
      have hs2 : (store ⟨g, 8 + (k + 1), none⟩ (.complex .f64 0 0)).run Tryz.prog (wr.setCell ⟨g, k + 1, none⟩ (.bool false)) = .ok () ((wr.setCell ⟨g, k + 1, none⟩ (.bool false)).setCell ⟨g, 8 + (k + 1), none⟩ (.complex .f64 0 0)) := by rw [run_store _ _ _ _ _ rfl]; simp [c3, f3]
      have e2 := e1.set (8 + (k + 1)) (cV (0, 0))
      rw [show (shC (backU s k)).setIfInBounds (k + 1) (.bool false) = (shC (backU s k)).setIfInBounds (k + 1) (.bool (none : Option Bd).isSome) from rfl, show cV (0, 0) = cV (rB none) from rfl, shC_upd (backU s k) hk8, backU_step, show cV (rB none) = .complex .f64 0 0 from cV_zero] at e2
      have BE1 := Lib.hid e2
      have BE2 := Lib.hid ((B2.out.other (p := ⟨g, k + 1, none⟩) (by simp only; omega) (.bool false)).other (p := ⟨g, 8 + (k + 1), none⟩) (by simp only; omega) (.complex .f64 0 0))
      have HBE := Lib.hid ((HB.out.setCell (p := ⟨g, k + 1, none⟩) (by simp only; omega) (.bool false)).setCell (p := ⟨g, 8 + (k + 1), none⟩) (by simp only; omega) (.complex .f64 0 0))
      clear e1 e2 hke
      go_wp2
      go_roundw
      case rel => exact ⟨k + 1, by simp, by omega, HBE, BE1, BE2⟩
      case measure => simp [intOf]; omega
/-- The first registers are joined. -/
def joinU (s t : ShD) (k : Nat) : ShD := fun i => if i < k then shJoin s t i else none
theorem joinU_ok {s t : ShD} (hs : shOk s) (ht : shOk t) (k : Nat) : shOk (joinU s t k) := by
  intro i b e
  unfold joinU at e
  split at e
  · exact shJoin_ok hs ht i b e
  · cases e
theorem joinU_put {s t : ShD} {k l1 h1 l2 h2 : Nat} (hk : k < 8) (e1 : s k = some (l1, h1)) (e2 : t k = some (l2, h2)) : shPut (joinU s t k) k (nmin l1 l2, nmax h1 h2) = joinU s t (k + 1) := by
  rw [shPut_eq _ hk]
  funext i
  unfold joinU
  by_cases h : i = k
  · subst h
    simp [shJoin, e1, e2, joinB]
  · by_cases h2 : i < k
    · simp [h, h2, show i < k + 1 by omega]
    · simp [h, h2, show ¬ i < k + 1 by omega]
theorem joinU_skip {s t : ShD} {k : Nat} (e : s k = none ∨ t k = none) : joinU s t (k + 1) = joinU s t k := by
  funext i
  unfold joinU
  by_cases h : i = k
  · subst h
    have : shJoin s t i = none := by
      unfold shJoin
      rcases e with e | e
      · rw [e]
      · rw [e]; cases s i <;> rfl
    simp [this]
  · by_cases h2 : i < k
    · simp [h2, show i < k + 1 by omega]
    · simp [h2, show ¬ i < k + 1 by omega]
theorem joinU_end (s t : ShD) : shC (joinU s t 8) = shC (shJoin s t) := shC_congr (fun i hi => by unfold joinU; rw [if_pos hi])
set_option maxHeartbeats 4000000 in
set_option maxRecDepth 100000 in
theorem shjoin_any (s t : ShD) (hs : shOk s) (ht : shOk t) (w : World) :
    Calls Tryz.prog 81 #[.agg (shC s), .agg (shC t)] w fun e w' => e = .returned (.agg (shC (shJoin s t))) ∧ Bel w w' := by
  have B1 := (((Bk.new w 69 (shC s)).alloc (.cells (shC t) 69)).alloc (.cells (shC (fun _ => none)) 69)).alloc (.cells (shC (fun _ => none)) 69)
  have B2 := ((Bk.new (w.alloc (.cells (shC s) 69)) 69 (shC t)).alloc (.cells (shC (fun _ => none)) 69)).alloc (.cells (shC (fun _ => none)) 69)
  have B3 := (Bk.new ((w.alloc (.cells (shC s) 69)).alloc (.cells (shC t) 69)) 69 (shC (fun _ => none))).alloc (.cells (shC (fun _ => none)) 69)
  have B4 := Bk.new (((w.alloc (.cells (shC s) 69)).alloc (.cells (shC t) 69)).alloc (.cells (shC (fun _ => none)) 69)) 69 (shC (fun _ => none))
  rw [World.size_alloc] at B2
  rw [World.size_alloc, World.size_alloc] at B3
  rw [World.size_alloc, World.size_alloc, World.size_alloc] at B4
  have HB := (((((Bel.refl w).alloc (.cells (shC s) 69)).alloc (.cells (shC t) 69)).alloc (.cells (shC (fun _ => none)) 69)).alloc (.cells (shC (fun _ => none)) 69))
  have hz := shC_zero
  go_enter Tryz.func81, Tryz.ntmps81
  rw [hz] at B1 B2 B3 B4 HB
  have HL := B1.load
  go_wp2_with (refine at_loadV (by rfl) HL ?_)
  obtain ⟨W1, hW1⟩ : ∃ W1, (((w.alloc (.cells (shC s) 69)).alloc (.cells (shC t) 69)).alloc (.cells (shC (fun _ => none)) 69)).alloc (.cells (shC (fun _ => none)) 69) = W1 := ⟨_, rfl⟩
  rw [hz] at hW1
  rw [hW1] at B1 B2 B3 B4 HB ⊢
  clear HL hW1
  rw [← hz] at B3 B4
  clear hz
  refine (shmay_any s hs _).mono ?_
  rintro e w1 ⟨rfl, hc⟩
  obtain ⟨g, hg⟩ : ∃ g, w.heap.size = g := ⟨_, rfl⟩
  have hwg : w.heap.size ≤ g := by omega
  rw [hg] at B1 B2 B3 B4
  simp only [hg]
  clear hg
  have HL2 := (B2.bel hc).load
  go_wp2_with (refine at_loadVg (by rfl) (by rfl) HL2 ?_)
  refine (shmay_any t ht _).mono ?_
  rintro e w2 ⟨rfl, hc2⟩
  have hc3 := hc.trans hc2
  have C1 := Lib.hid (B1.bel hc3)
  have C2 := Lib.hid (B2.bel hc3)
  have C3 := Lib.hid (B3.bel hc3)
  have C4 : Hid (Bk w2 (g + 1 + 1 + 1) 69 (shC (joinU s t 0))) := Lib.hid (by
    have := B4.bel hc3
    rwa [show joinU s t 0 = (fun _ => none) from funext fun i => if_neg (by omega)])
  have HB1 := Lib.hid (HB.trans hc3)
  clear HL2 hc hc2 hc3 B1 B2 B3 B4 HB
  go_wp2_with fail
  go_loopw [16] (fun kv wr => ∃ k : Nat, kv = .int .i64 k ∧ k ≤ 8 ∧ Hid (Bel w wr) ∧ Hid (Bk wr g 69 (shC s)) ∧ Hid (Bk wr (g + 1) 69 (shC t)) ∧ Hid (Bk wr (g + 2) 69 (shC (fun _ => none))) ∧ Hid (Bk wr (g + 3) 69 (shC (joinU s t k)))) (fun kv _ => 8 - (intOf kv).toNat)
  case atStart => exact ⟨0, rfl, Nat.zero_le _, HB1, C1, C2, C3, C4⟩
  case round =>
    clear C1 C2 C3 C4 HB1
    obtain ⟨k, rfl, hkn, HB, B1, B2, B3, B4⟩ := hrel
    by_cases hke : k = 8
    · subst hke
      have b4 := B4.out
      rw [joinU_end] at b4
      have HL := b4.load
      have HST := B3.out.store (shC_size _) (shJoin s t)
      have HR := (B3.out.row (shC (shJoin s t))).load
      have HFIN := Lib.hid (HB.out.row (g := g + 2) (by omega) (shC (shJoin s t)))
      clear b4
      go_wp2_with (first | (refine at_loadV (by rfl) HL ?_) | (refine at_storeV (by rfl) (by rfl) HST ?_))
      refine bodyPost_ret (v := .agg (shC (shJoin s t))) ?_ rfl ⟨rfl, HFIN.out⟩
      have hr : (Tryz.f81).results = #[.cell 4 69] := by rfl
      simp only [results, hr]
      simp [Act.put, asAddr, Result.andThen, HR]
    · have hk1 : k < 8 := by omega
      have hk2 : (k : Int) < 8 := by omega
      have k0 : 0 ≤ (k : Int) := by omega
      have ek : IntKind.i64.wrap ((k : Int) + 1) = (k : Int) + 1 := wrap_i64 (by omega) (by omega)
      have c1 := B1.out.cell k (shC_set hk1)
      have c2 := B2.out.cell k (shC_set hk1)
      clear hke
      cases e1 : s k with
      | none =>
        rw [e1] at c1
        simp only [Option.isSome_none] at c1
        have B5 : Hid (Bk wr (g + 3) 69 (shC (joinU s t (k + 1)))) := Lib.hid (by rw [joinU_skip (.inl e1)]; exact B4.out)
        go_wp2
        go_roundw
        case rel => exact ⟨k + 1, by simp, by omega, HB, B1, B2, B3, B5⟩
        case measure => simp [intOf]; omega
      | some b1 =>
        rw [e1] at c1
        simp only [Option.isSome_some] at c1
        cases e2 : t k with
        | none =>
          rw [e2] at c2
          simp only [Option.isSome_none] at c2
          have B5 : Hid (Bk wr (g + 3) 69 (shC (joinU s t (k + 1)))) := Lib.hid (by rw [joinU_skip (.inr e2)]; exact B4.out)
          go_wp2
          go_roundw
          case rel => exact ⟨k + 1, by simp, by omega, HB, B1, B2, B3, B5⟩
          case measure => simp [intOf]; omega
        | some b2 =>
          rw [e2] at c2
          simp only [Option.isSome_some] at c2
          obtain ⟨l1, h1⟩ := b1
          obtain ⟨l2, h2⟩ := b2
          have o1 := hs _ _ e1
          have o2 := ht _ _ e2
          have r1 := B1.out.cell (8 + k) (shC_reg hk1)
          have r2 := B2.out.cell (8 + k) (shC_reg hk1)
          rw [e1] at r1
          rw [e2] at r2
          unfold cV rB at r1 r2
          simp only [Option.getD_some] at r1 r2
          go_wp2_with fail
          generalize wr = W0 at *
          have SD : Bel W0 W0.drew := (Bel.refl W0).drew
          have L0 := fun (w' : World) (h : Bel W0 w') => (B4.out.bel h).load
          have R1 := fun (w' : World) (h : Bel W0 w') => h.cell r1
          have R2 := fun (w' : World) (h : Bel W0 w') => h.cell r2
          clear c1 c2 r1 r2
          refine wp_region_T (fun w' => Bel W0 w') (fun j => j == 12) (by kernel_rfl) ?_
          refine wpAnyU_take (i := 0) rfl (by kernel_rfl) (by kernel_rfl) (by kernel_rfl) (by kernel_rfl) (fun _ _ _ h => h) (yields_loadV (by rfl) rfl (by rfl) L0) SD ?rest0
          try simp only [List.getElem_toArray, List.getElem_cons_zero, List.getElem_cons_succ, Act.put, List.setIfInBounds_toArray, List.set_cons_zero, List.set_cons_succ]
          refine wpAnyU_take (i := 1) (v := ?v1) rfl (by kernel_rfl) (by kernel_rfl) (by kernel_rfl) (by kernel_rfl) (fun _ _ _ h => h) ?hy1 SD ?rest1
          case hy1 => first | (refine Or.inl ⟨by rfl, ?_⟩; (intro w' hSw; go_simp) <;> with_reducible rfl) | (refine Or.inr ⟨by rfl, ?_⟩; with_reducible rfl)
          try simp only [List.getElem_toArray, List.getElem_cons_zero, List.getElem_cons_succ, Act.put, List.setIfInBounds_toArray, List.set_cons_zero, List.set_cons_succ]
          refine wpAnyU_take (i := 2) (v := ?v2) rfl (by kernel_rfl) (by kernel_rfl) (by kernel_rfl) (by kernel_rfl) (fun _ _ _ h => h) ?hy2 SD ?rest2
          case hy2 => first | (refine Or.inl ⟨by rfl, ?_⟩; (intro w' hSw; go_simp) <;> with_reducible rfl) | (refine Or.inr ⟨by rfl, ?_⟩; with_reducible rfl)
          try simp only [List.getElem_toArray, List.getElem_cons_zero, List.getElem_cons_succ, Act.put, List.setIfInBounds_toArray, List.set_cons_zero, List.set_cons_succ]
          refine wpAnyU_take (i := 3) (v := ?v3) rfl (by kernel_rfl) (by kernel_rfl) (by kernel_rfl) (by kernel_rfl) (fun _ _ _ h => h) ?hy3 SD ?rest3
          case hy3 => first | (refine Or.inl ⟨by rfl, ?_⟩; (intro w' hSw; go_simp) <;> with_reducible rfl) | (refine Or.inr ⟨by rfl, ?_⟩; with_reducible rfl)
          try simp only [List.getElem_toArray, List.getElem_cons_zero, List.getElem_cons_succ, Act.put, List.setIfInBounds_toArray, List.set_cons_zero, List.set_cons_succ]
          refine wpAnyU_take (i := 4) (v := ?v4) rfl (by kernel_rfl) (by kernel_rfl) (by kernel_rfl) (by kernel_rfl) (fun _ _ _ h => h) ?hy4 SD ?rest4
          case hy4 => first | (refine Or.inl ⟨by rfl, ?_⟩; (intro w' hSw; go_simp) <;> with_reducible rfl) | (refine Or.inr ⟨by rfl, ?_⟩; with_reducible rfl)
          try simp only [List.getElem_toArray, List.getElem_cons_zero, List.getElem_cons_succ, Act.put, List.setIfInBounds_toArray, List.set_cons_zero, List.set_cons_succ]
          refine wpAnyU_take (i := 5) (v := ?v5) rfl (by kernel_rfl) (by kernel_rfl) (by kernel_rfl) (by kernel_rfl) (fun _ _ _ h => h) ?hy5 SD ?rest5
          case hy5 => first | (refine Or.inl ⟨by rfl, ?_⟩; (intro w' hSw; go_simp) <;> with_reducible rfl) | (refine Or.inr ⟨by rfl, ?_⟩; with_reducible rfl)
          try simp only [List.getElem_toArray, List.getElem_cons_zero, List.getElem_cons_succ, Act.put, List.setIfInBounds_toArray, List.set_cons_zero, List.set_cons_succ]
          refine wpAnyU_take (i := 6) (v := ?v6) rfl (by kernel_rfl) (by kernel_rfl) (by kernel_rfl) (by kernel_rfl) (fun _ _ _ h => h) ?hy6 SD ?rest6
          case hy6 => first | (refine Or.inl ⟨by rfl, ?_⟩; (intro w' hSw; go_simp) <;> with_reducible rfl) | (refine Or.inr ⟨by rfl, ?_⟩; with_reducible rfl)
          try simp only [List.getElem_toArray, List.getElem_cons_zero, List.getElem_cons_succ, Act.put, List.setIfInBounds_toArray, List.set_cons_zero, List.set_cons_succ]
          refine wpAnyU_take (i := 7) (v := ?v7) rfl (by kernel_rfl) (by kernel_rfl) (by kernel_rfl) (by kernel_rfl) (fun _ _ _ h => h) ?hy7 SD ?rest7
          case hy7 => first | (refine Or.inl ⟨by rfl, ?_⟩; (intro w' hSw; go_simp) <;> with_reducible rfl) | (refine Or.inr ⟨by rfl, ?_⟩; with_reducible rfl)
          try simp only [List.getElem_toArray, List.getElem_cons_zero, List.getElem_cons_succ, Act.put, List.setIfInBounds_toArray, List.set_cons_zero, List.set_cons_succ]
          refine wpAnyU_take (i := 8) (v := ?v8) rfl (by kernel_rfl) (by kernel_rfl) (by kernel_rfl) (by kernel_rfl) (fun _ _ _ h => h) ?hy8 SD ?rest8
          case hy8 => first | (refine Or.inl ⟨by rfl, ?_⟩; (intro w' hSw; go_simp) <;> with_reducible rfl) | (refine Or.inr ⟨by rfl, ?_⟩; with_reducible rfl)
          try simp only [List.getElem_toArray, List.getElem_cons_zero, List.getElem_cons_succ, Act.put, List.setIfInBounds_toArray, List.set_cons_zero, List.set_cons_succ]
          refine wpAnyU_take (i := 9) (v := ?v9) rfl (by kernel_rfl) (by kernel_rfl) (by kernel_rfl) (by kernel_rfl) (fun _ _ _ h => h) ?hy9 SD ?rest9
          case hy9 => first | (refine Or.inl ⟨by rfl, ?_⟩; (intro w' hSw; go_simp) <;> with_reducible rfl) | (refine Or.inr ⟨by rfl, ?_⟩; with_reducible rfl)
          try simp only [List.getElem_toArray, List.getElem_cons_zero, List.getElem_cons_succ, Act.put, List.setIfInBounds_toArray, List.set_cons_zero, List.set_cons_succ]
          refine wpAnyT_one (i := 10) (by kernel_rfl) rfl (fun K hK => ?_)
          go_simp
          go_at_call 122
          refine (join_any l1 h1 l2 h2 _ o1.1 o1.2 o2.1 o2.2).mono ?_
          rintro en w5 ⟨rfl, hb5⟩
          have S5 : Bel W0 w5 := SD.trans hb5
          dsimp only
          refine hK.out _ _ (fun _ => S5) ?_
          clear hK K
          try simp only [List.getElem_toArray, List.getElem_cons_zero, List.getElem_cons_succ, Act.put, List.setIfInBounds_toArray, List.set_cons_zero, List.set_cons_succ]
          refine wpAnyT_one (i := 11) (by kernel_rfl) rfl (fun K hK => ?_)
          go_simp
          go_at_call 121
          refine (shput_any (joinU s t k) (joinU s t (k + 1)) (joinU_ok hs ht k) k (nmin l1 l2, nmax h1 h2) (joinB_ok o1 o2) (Lib.hid (joinU_put hk1 e1 e2)) _).mono ?_
          rintro en w6 ⟨rfl, hb6⟩
          have S6 : Bel W0 w6 := S5.trans hb6
          have b6 := B4.out.bel S6
          have HST := b6.store (shC_size _) (joinU s t (k + 1))
          have BE4 := Lib.hid (b6.row (shC (joinU s t (k + 1))))
          have BE1 := Lib.hid ((B1.out.bel S6).rowOther (g := g + 3) (by omega) (shC (joinU s t (k + 1))))
          have BE2 := Lib.hid ((B2.out.bel S6).rowOther (g := g + 3) (by omega) (shC (joinU s t (k + 1))))
          have BE3 := Lib.hid ((B3.out.bel S6).rowOther (g := g + 3) (by omega) (shC (joinU s t (k + 1))))
          have HBE := Lib.hid ((HB.out.trans S6).row (g := g + 3) (by omega) (shC (joinU s t (k + 1))))
          dsimp only
          refine hK.out _ _ (fun _ => S6) ?_
          clear hK K
          try simp only [List.getElem_toArray, List.getElem_cons_zero, List.getElem_cons_succ, Act.put, List.setIfInBounds_toArray, List.set_cons_zero, List.set_cons_succ]
          refine wpAnyT_one (i := 12) (by kernel_rfl) rfl (fun K hK => ?_)
          refine wpT_storeV rfl rfl (by rfl) (by rfl) HST ?_
          refine hK.out _ _ (fun h => absurd h (by decide)) ?_
          clear hK K
          try simp only [List.getElem_toArray, List.getElem_cons_zero, List.getElem_cons_succ, Act.put, List.setIfInBounds_toArray, List.set_cons_zero, List.set_cons_succ]
          refine wpAnyT_done (by kernel_rfl) ?_ _
          refine NoPanic.normal ?_
          clear SD S5 S6 L0 R1 R2 HST b6 hb5 hb6
          go_wp2
          go_roundw
          case rel => exact ⟨k + 1, by simp, by omega, HBE, BE1, BE2, BE3, BE4⟩
          case measure => simp [intOf]; omega
end Go.Proofs.YtebdnobgdimdoaaGreat
