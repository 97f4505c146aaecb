/- A shape's cells, and shape.May at shapes that may be. -/
import Derived.Test.YtebdnobgdimdoaaVf0
import Derived.Deep.MidRow
import Derived.Deep.WholeRow
import Derived.Laws.StructEq
import Derived.Laws.Cover3
set_option linter.unusedVariables false
set_option linter.unusedSimpArgs false
namespace Go.Proofs.Ytebdnobgdimdoaa
open Go.RowKit

/-- Bounds of a register, or none, as the program has them. -/
def rB (o : Option Bd) : Bd := o.getD (0, 0)
def cV (b : Bd) : Value := .complex .f64 (fl b.1) (fl b.2)
def shC (s : ShD) : Array Value := ((List.range 8).map (fun k => Value.bool (s k).isSome) ++ (List.range 8).map (fun k => cV (rB (s k)))).toArray
theorem shC_size (s : ShD) : (shC s).size = 16 := rfl
theorem cV_zero : cV (0, 0) = .complex .f64 0 0 := by unfold cV; rw [fl_zero]
theorem rB_ok {s : ShD} (h : shOk s) (k : Nat) : bdOk (rB (s k)) := by
  unfold rB
  cases e : s k with
  | none => exact ⟨by decide, by decide⟩
  | some b => exact h k b e
theorem shC_set {s : ShD} {k : Nat} (hk : k < 8) : (shC s)[k]? = some (.bool (s k).isSome) := by
  unfold shC
  rw [List.getElem?_toArray, List.getElem?_append_left (by simp; exact hk), List.getElem?_map, List.getElem?_range hk]
  rfl
theorem shC_reg {s : ShD} {k : Nat} (hk : k < 8) : (shC s)[8 + k]? = some (cV (rB (s k))) := by
  unfold shC
  rw [List.getElem?_toArray, List.getElem?_append_right (by simp)]
  simp [hk]
theorem shC_one (s : ShD) : (shC s).all (·.oneCell') = true := by
  rw [Array.all_eq_true_iff_forall_mem]
  intro v hv
  unfold shC at hv
  simp only [List.mem_toArray, List.mem_append, List.mem_map] at hv
  rcases hv with ⟨k, -, rfl⟩ | ⟨k, -, rfl⟩ <;> rfl
theorem shC_zero : shC (fun _ => none) = #[.bool false, .bool false, .bool false, .bool false, .bool false, .bool false, .bool false, .bool false, .complex .f64 0 0, .complex .f64 0 0, .complex .f64 0 0, .complex .f64 0 0, .complex .f64 0 0, .complex .f64 0 0, .complex .f64 0 0, .complex .f64 0 0] := by
  have h : ∀ k, cV (rB ((fun _ => none : ShD) k)) = .complex .f64 0 0 := fun k => cV_zero
  unfold shC
  simp only [h]
  rfl
theorem info_shape : (Try.prog.info? 68).map (·.size) = some 16 := by kernel_rfl
/-- A block of a heap. -/
structure Bk (W : World) (g : Nat) (t : TypeId) (C : Array Value) : Prop where mk :: (out : W.heap[g]? = some (.cells C t (0, 0)))
theorem Bk.lt {W : World} {g : Nat} {t : TypeId} {C : Array Value} (h : Bk W g t C) : g < W.heap.size := (Array.getElem?_eq_some_iff.1 h.out).1
theorem Bk.cell {W : World} {g : Nat} {t : TypeId} {C : Array Value} (h : Bk W g t C) (k : Nat) {v : Value} (e : C[k]? = some v) : W.cell? ⟨g, k, none⟩ = some v := by simp [World.cell?, h.out, e]
theorem Bk.frozen {W : World} {g : Nat} {t : TypeId} {C : Array Value} (h : Bk W g t C) (k : Nat) : W.frozen? ⟨g, k, none⟩ = false := by simp [World.frozen?, h.out]
theorem Bk.new (W : World) (t : TypeId) (C : Array Value) : Bk (W.alloc (.cells C t)) W.heap.size t C := ⟨heap_alloc_last W _⟩
theorem Bk.bel {W W' : World} {g : Nat} {t : TypeId} {C : Array Value} (h : Bk W g t C) (hb : Bel W W') : Bk W' g t C := ⟨(hb.out.block g h.lt).trans h.out⟩
theorem Bk.alloc {W : World} {g : Nat} {t : TypeId} {C : Array Value} (h : Bk W g t C) (o : Obj) : Bk (W.alloc o) g t C := h.bel ((Bel.refl W).alloc o)
theorem Bk.set {W : World} {g : Nat} {t : TypeId} {C : Array Value} (h : Bk W g t C) (k : Nat) (v : Value) : Bk (W.setCell ⟨g, k, none⟩ v) g t (C.setIfInBounds k v) := by
  refine ⟨?_⟩
  have := setCell_eq_setRow W g k C t (0, 0) v h.out
  rw [this]
  exact setRow_heap W g C _ t _ h.out
theorem Bk.other {W : World} {g : Nat} {t : TypeId} {C : Array Value} (h : Bk W g t C) {p : Addr} (hp : g ≠ p.block) (v : Value) : Bk (W.setCell p v) g t C := ⟨(heap_setCell_other W p g v hp).trans h.out⟩
theorem Bk.load {W : World} {g : Nat} {s : ShD} (h : Bk W g 68 (shC s)) : (loadVar 68 ⟨g, 0, none⟩).run Try.prog W = .ok (.agg (shC s)) W :=
  run_loadVar_row W g _ _ _ (0, 0) _ h.out Try.underlying68 rfl (by rw [shC_size]; exact info_shape)
theorem shC_keep {s : ShD} {k : Nat} (hk : k < 8) (h : (s k).isSome = false) : (shC s).setIfInBounds (8 + k) (.complex .f64 0 0) = shC s := by
  have h1 := shC_reg (s := s) hk
  have h2 : rB (s k) = (0, 0) := by
    cases e : s k with
    | none => rfl
    | some b => rw [e] at h; cases h
  rw [h2, cV_zero] at h1
  apply Array.ext_getElem?
  intro i
  rw [Array.getElem?_setIfInBounds]
  split
  · subst i
    rw [if_pos (by rw [shC_size]; omega), h1]
  · rfl
/-- The registers' bounds alone. -/
def shR (s : ShD) : Array Value := ((List.range 8).map (fun k => cV (rB (s k)))).toArray
theorem Bk.loadR {W : World} {g : Nat} {s : ShD} (h : Bk W g 68 (shC s)) : (loadVar 66 ⟨g, 8, none⟩).run Try.prog W = .ok (.agg (shR s)) W := by
  have := run_loadVar_mid (P := Try.prog) W g 8 66 (shR s).toList _ (fun j v hv => by
    have hj : j < 8 := by
      have := (List.getElem?_eq_some_iff.1 hv).1
      simpa [shR] using this
    refine h.cell (8 + j) ?_
    rw [shC_reg hj]
    unfold shR at hv
    simp [hj] at hv
    rw [hv]) Try.underlying66 rfl (by kernel_rfl)
  simpa using this
theorem eq_R (s : ShD) (hs : shOk s) (w : World) : (Op.equalIn 10000 66 (.agg (shR s)) (.agg (shR s))).run Try.prog w = .ok true w := by
  have h : ∀ k, (Op.equalIn 9999 65 (cV (rB (s k))) (cV (rB (s k)))).run Try.prog w = .ok true w := fun k => by
    obtain ⟨h1, h2⟩ := rB_ok hs k
    have e1 : Op.floatEq .f64 (fl (rB (s k)).1) (fl (rB (s k)).1) = true := by unfold Op.floatEq; rw [ord_same (a := (rB (s k)).1) (by omega)]; rfl
    have e2 : Op.floatEq .f64 (fl (rB (s k)).2) (fl (rB (s k)).2) = true := by unfold Op.floatEq; rw [ord_same (a := (rB (s k)).2) h2]; rfl
    unfold cV Op.equalIn
    rw [Sem.run_bind, run_underlying Try.underlying65]
    simp [Result.andThen_ok, e1, e2]
  have hp : ∀ k, k < 8 → (part 65 (shR s) k).run Try.prog w = .ok (cV (rB (s k))) w := fun k hk => by
    have e : (shR s)[k]? = some (cV (rB (s k))) := by unfold shR; simp [hk]
    have ha : (isAgg 65).run Try.prog w = .ok false w := by kernel_rfl
    unfold part
    simp [Sem.run_bind, ha, e]
  have hz : (sizeOf 65).run Try.prog w = .ok 1 w := by kernel_rfl
  have e : (Op.equalIn (9999 + 1) 66 (.agg (shR s)) (.agg (shR s))).run Try.prog w = .ok true w := by
    rw [Op.equalIn]
    simp only [Sem.run_bind, run_underlying Try.underlying66, Result.andThen_ok, hz, Std.Legacy.Range.forIn_eq_forIn_range', Std.Legacy.Range.size]
    simp [List.range', Sem.run_bind, hp, h]
  exact e
/-- A whole value is stored into the block that was made last; its number as the walk prints it. -/
theorem at_storeN {P : Program} {ops : Array Oper} {rest : List Oper} {a : Act} {Q : Exit → Act → World → Prop} {w : World} {dst : Option Tmp} {tt : TypeId} {pos : String} {after : Array Edge} {ty : TypeId} {x y : Operand} {c : Array Value}
    (c' : Array Value) {g : Nat} (hx : a.eval x = .pointer (some ⟨g, 0, none⟩)) (hy : a.eval y = .agg c') (hg : w.heap.size = g)
    (hi : (P.info? ty).map (·.size) = some c'.size) (hs : c.size = c'.size) (h1 : c'.all (·.oneCell') = true)
    (h : wpList P ops Q rest (a.put dst undef) (w.alloc (.cells c' ty))) : wpList P ops Q ({ dst := dst, op := .store ty x y, type := tt, pos := pos, after := after, guard := none } :: rest) a (w.alloc (.cells c ty)) := by
  subst hg
  exact at_store_new c' hx hy hi hs h1 h
/-- As Isa1's: a whole value is loaded, or stored, by its own law. -/
theorem at_loadV {P : Program} {ops : Array Oper} {rest : List Oper} {a : Act} {Q : Exit → Act → World → Prop} {w : World} {dst : Option Tmp} {tt : TypeId} {pos : String} {after : Array Edge} {ty : TypeId} {x : Operand} {ad : Addr} {v : Value}
    (hx : a.eval x = .pointer (some ad)) (hl : (loadVar ty ad).run P w = .ok v w)
    (h : wpList P ops Q rest (a.put dst v) w) : wpList P ops Q ({ dst := dst, op := .load ty x, type := tt, pos := pos, after := after, guard := none } :: rest) a w :=
  wpList_plain rfl fun _ hK => by
    unfold Oper.wp execOp
    simp only [hx, Instr.loadAt, Instr.sureAddr, Sem.run_bind, Sem.run_pure, Result.andThen, hl]
    exact hK _ _ h
theorem at_storeV {P : Program} {ops : Array Oper} {rest : List Oper} {a : Act} {Q : Exit → Act → World → Prop} {w w' : World} {dst : Option Tmp} {tt : TypeId} {pos : String} {after : Array Edge} {ty : TypeId} {x y : Operand} {ad : Addr} {v : Value}
    (hx : a.eval x = .pointer (some ad)) (hy : a.eval y = v) (hl : (storeVar ty ad v).run P w = .ok () w')
    (h : wpList P ops Q rest (a.put dst undef) w') : wpList P ops Q ({ dst := dst, op := .store ty x y, type := tt, pos := pos, after := after, guard := none } :: rest) a w :=
  wpList_plain rfl fun _ hK => by
    unfold Oper.wp execOp
    simp only [hx, hy, Instr.storeAt, Instr.sureAddr, Sem.run_bind, Sem.run_pure, Result.andThen, hl]
    exact hK _ _ h
set_option maxHeartbeats 4000000 in
set_option maxRecDepth 100000 in
theorem shmay_any (s : ShD) (hs : shOk s) (w : World) :
    Calls Try.prog 61 #[.agg (shC s)] w fun e w' => e = .returned (.bool true) ∧ Bel w w' := by
  have B1 := Lib.hid ((Bk.new w 68 (shC s)).alloc (.cells (shC s) 68))
  have b2 := Bk.new (w.alloc (.cells (shC s) 68)) 68 (shC s)
  rw [World.size_alloc] at b2
  have B2 := Lib.hid b2
  have HB := Lib.hid (((Bel.refl w).alloc (.cells (shC s) 68)).alloc (.cells (shC s) 68))
  clear b2
  have HL := Bk.load (Bk.new w 68 (shC s))
  go_enter Try.func61, Try.ntmps61
  go_wp2_with (first | (refine at_loadV (by rfl) HL ?_) | (refine at_storeN (ty := 68) (shC s) (by rfl) (by rfl) (by simp) info_shape rfl (shC_one s) ?_))
  clear HL
  generalize (w.alloc (.cells (shC s) 68)).alloc (.cells (shC s) 68) = W2 at *
  obtain ⟨g, hg⟩ : ∃ g, w.heap.size = g := ⟨_, rfl⟩
  have hwg : w.heap.size ≤ g := by omega
  rw [hg] at B1 B2
  simp only [hg]
  clear hg
  go_loopw [6] (fun kv wr => ∃ k : Nat, kv = .int .i64 k ∧ k ≤ 8 ∧ Hid (Bel w wr) ∧ Hid (Bk wr g 68 (shC s)) ∧ Hid (Bk wr (g + 1) 68 (shC s))) (fun kv _ => 8 - (intOf kv).toNat)
  case atStart => exact ⟨0, rfl, by omega, HB, B1, B2⟩
  case round =>
    clear B1 B2 HB
    obtain ⟨k, rfl, hk8, HB, B1, B2⟩ := hrel
    by_cases hke : k = 8
    · subst hke
      have L1 := B1.out.loadR
      have L2 := B2.out.loadR
      have LE := eq_R s hs wr
      go_wp2_with (first | (refine at_loadV (by rfl) L1 ?_) | (refine at_loadV (by rfl) L2 ?_))
      go_ret
      exact ⟨rfl, HB.out⟩
    · have hk1 : k < 8 := by omega
      have hk2 : (k : Int) < 8 := by omega
      have k0 : 0 ≤ (k : Int) := by omega
      have ek : IntKind.i64.wrap ((k : Int) + 1) = (k : Int) + 1 := wrap_i64 (by omega) (by omega)
      have c1 := B1.out.cell k (shC_set hk1)
      have c2 := B1.out.cell (8 + k) (shC_reg hk1)
      have c3 := B2.out.cell (8 + k) (shC_reg hk1)
      have f3 := B2.out.frozen (8 + k)
      obtain ⟨b, hb⟩ : ∃ b, (s k).isSome = b := ⟨_, rfl⟩
      obtain ⟨⟨lo, hi⟩, hbd⟩ : ∃ q, rB (s k) = q := ⟨_, rfl⟩
      have hbo := rB_ok hs k
      rw [hbd] at c2 c3 hbo
      rw [hb] at c1
      obtain ⟨h1, h2⟩ := hbo
      simp only at h1 h2
      unfold cV at c2 c3
      simp only at c2 c3
      clear hke
      cases b
      · have B3 : Hid (Bk (wr.setCell ⟨g + 1, 8 + k, none⟩ (.complex .f64 0 0)) (g + 1) 68 (shC s)) := Lib.hid (by
          have := B2.out.set (8 + k) (.complex .f64 0 0)
          rwa [shC_keep hk1 hb] at this)
        have B4 := Lib.hid (B1.out.other (p := ⟨g + 1, 8 + k, none⟩) (by simp only; omega) (.complex .f64 0 0))
        have HB3 := Lib.hid (HB.out.setCell (p := ⟨g + 1, 8 + k, none⟩) (by simp only; omega) (.complex .f64 0 0))
        have hst : (store ⟨g + 1, 8 + k, none⟩ (.complex .f64 0 0)).run Try.prog wr = .ok () (wr.setCell ⟨g + 1, 8 + k, none⟩ (.complex .f64 0 0)) := by rw [run_store _ _ _ _ _ rfl]; simp [c3, f3]
        go_wp2
        go_roundw
        case rel => exact ⟨k + 1, by simp, by omega, HB3, B4, B3⟩
        case measure => simp [intOf]; omega
      · go_wp2_with fail
        refine (bmay_any lo hi _ h1 h2).mono ?_
        rintro e w1 ⟨rfl, rfl⟩
        go_wp2
        go_roundw
        case rel => exact ⟨k + 1, by simp, by omega, HB, B1, B2⟩
        case measure => simp [intOf]; omega
end Go.Proofs.Ytebdnobgdimdoaa
