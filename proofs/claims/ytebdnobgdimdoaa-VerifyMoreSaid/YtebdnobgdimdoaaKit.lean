/- Small words that all texts of this seat use: a world that grew ('Bel'), two-sided ranges. Nothing of the program. -/
import Derived.Below
import Derived.RowKit3
import Derived.WalkKit
import Derived.Deep.Draws
import Derived.Deep.WholeRow
import Derived.Deep.MidRow
import Derived.Maps.AppendAt
import Derived.OwnWalk
import Derived.Laws.OwnMore
import Derived.Deep.AppendLies
set_option linter.unusedVariables false
set_option linter.unusedSimpArgs false
namespace Go.Proofs.Ytebdnobgdimdoaa
open Go.RowKit

/-- What was there below the old heap's size is as it was. -/
structure Bel (w w' : World) : Prop where mk :: (out : Below w.heap.size w w')
theorem Bel.refl (w : World) : Bel w w := ⟨Below.refl _ _⟩
theorem Bel.trans {a b c : World} (h : Bel a b) (k : Bel b c) : Bel a c := ⟨h.out.trans (k.out.mono h.out.size)⟩
theorem Bel.alloc {a b : World} (h : Bel a b) (o : Obj) : Bel a (b.alloc o) := ⟨h.out.alloc h.out.size o⟩
theorem Bel.drew {a b : World} (h : Bel a b) : Bel a b.drew := ⟨h.out.drew⟩
theorem Bel.drewN {a b : World} (h : Bel a b) (n : Nat) : Bel a (b.drewN n) := by
  induction n with
  | zero => exact h
  | succ n ih => exact ⟨⟨h.out.os, h.out.tape, h.out.output, h.out.size, h.out.block⟩⟩
theorem Bel.setCell {a b : World} (h : Bel a b) {p : Addr} (hp : a.heap.size ≤ p.block) (u : Value) : Bel a (b.setCell p u) := ⟨h.out.setCell hp u⟩
theorem Bel.of {w w' : World} (h : Below w.heap.size w w') : Bel w w' := ⟨h⟩
theorem Bel.size {a b : World} (h : Bel a b) : a.heap.size ≤ b.heap.size := h.out.size

theorem Bel.cell {a b : World} (h : Bel a b) {p : Addr} {v : Value} (hc : a.cell? p = some v) : b.cell? p = some v := (h.out.cell (World.block_lt_of_cell? a p hc)).trans hc
theorem Bel.frozen {a b : World} (h : Bel a b) {p : Addr} {v : Value} (hc : a.cell? p = some v) : b.frozen? p = a.frozen? p := h.out.frozen (World.block_lt_of_cell? a p hc)

theorem bcell {W w1 : World} (hb : Bel W w1) : (∀ b o, b < W.heap.size → w1.cell? ⟨b, o, none⟩ = W.cell? ⟨b, o, none⟩) ∧ (∀ b o, b < W.heap.size → w1.frozen? ⟨b, o, none⟩ = W.frozen? ⟨b, o, none⟩) ∧ W.heap.size ≤ w1.heap.size :=
  ⟨fun b o h => hb.out.cell (p := ⟨b, o, none⟩) h, fun b o h => hb.out.frozen (p := ⟨b, o, none⟩) h, hb.size⟩

theorem ret_u32 {a b : Int} (h : a = b) : Ending.returned (.int .u32 a) = .returned (.int .u32 b) := by rw [h]
theorem ret_u64 {a b : Int} (h : a = b) : Ending.returned (.int .u64 a) = .returned (.int .u64 b) := by rw [h]
theorem ret_i64 {a b : Int} (h : a = b) : Ending.returned (.int .i64 a) = .returned (.int .i64 b) := by rw [h]
theorem ret_bool {a b : Bool} (h : a = b) : Ending.returned (.bool a) = .returned (.bool b) := by rw [h]

/-- A 32-bit word. -/
structure U32 (x : Int) : Prop where mk :: (lo : 0 ≤ x) (hi : x < 4294967296)
theorem u32_of_wf {x : Int} (h : (Lit.int .u32 x).wf = true) : U32 x := by
  simp [Lit.wf, IntKind.min, IntKind.max, IntKind.bits, IntKind.signed] at h
  exact ⟨by omega, by omega⟩
theorem u32_lit (x : Int) (h : (decide (0 ≤ x) && decide (x < 4294967296)) = true) : U32 x := by
  simp at h
  exact ⟨h.1, h.2⟩

/-- A whole value is stored into the block that was made last. -/
theorem at_store_new {P : Program} {ops : Array Oper} {rest : List Oper} {a : Act} {Q : Exit → Act → World → Prop} {w : World} {dst : Option Tmp} {tt : TypeId} {pos : String} {after : Array Edge} {ty : TypeId} {x y : Operand} {c : Array Value}
    (c' : Array Value) (hx : a.eval x = .pointer (some ⟨w.heap.size, 0, none⟩)) (hy : a.eval y = .agg c')
    (hi : (P.info? ty).map (·.size) = some c'.size) (hs : c.size = c'.size) (h1 : c'.all (·.oneCell') = true)
    (h : wpList P ops Q rest (a.put dst undef) (w.alloc (.cells c' ty))) : wpList P ops Q ({ dst := dst, op := .store ty x y, type := tt, pos := pos, after := after, guard := none } :: rest) a (w.alloc (.cells c ty)) :=
  wpList_plain rfl fun _ hK => by
    unfold Oper.wp execOp
    simp only [hx, hy, Instr.storeAt, Instr.sureAddr, Sem.run_bind, Sem.run_pure, Result.andThen_ok, run_storeVar_new w ty c c' hi hs h1]
    exact hK _ _ h
/-- A value is built of parts that are known. -/
theorem at_build {P : Program} {ops : Array Oper} {rest : List Oper} {a : Act} {w : World} {Q : Exit → Act → World → Prop} {dst : Option Tmp} {tt : TypeId} {pos : String} {after : Array Edge} {t : TypeId} {parts : Array (Nat × Operand)}
    (cells : Array Value) (hf : P.built t (parts.map fun (i, x) => (i, a.eval x)).toList = some cells)
    (h : wpList P ops Q rest (a.put dst (.agg cells)) w) : wpList P ops Q ({ dst := dst, op := .build t parts, type := tt, pos := pos, after := after, guard := none } :: rest) a w :=
  wpList_build rfl t parts rfl (by rw [hf]; rfl) (by rw [hf]; exact h)

theorem Bel.grown {w0 W w' : World} (HB : Bel w0 W) {row : Option Nat} (hg : W.grownBy w' row) (hr : ∀ k, row = some k → w0.heap.size ≤ k) : Bel w0 w' := ⟨HB.out.grown hg HB.size hr⟩
/-- 'append(s, x...)' onto a row of the call's own. -/
theorem at_append {P : Program} {ops : Array Oper} {rest : List Oper} {a : Act} {W : World} {Q : Exit → Act → World → Prop} {dst : Option Tmp} {tt : TypeId} {pos : String} {after : Array Edge} {s x : Operand} {t t' : TypeId}
    (base : Nat) (e : TypeId) (z : Value) (size bytes : Nat) (ht : P.underlying t = some (.slice e)) (hinfo : (P.info? e).map (fun i => (i.zero, i.size, i.bytes)) = some (some z, size, bytes)) (hzs : z.cells.size = size) (hsz : 0 < size)
    (v : Value) (n : Nat) (xs : List Value) (hs : a.eval s = v) (hown : W.ownsRow base e size v n xs)
    (ad : Addr) (m c : Nat) (news : List Value) (hx : a.eval x = .slice (some ad) m c) (hl : news.length = m * size) (hnews : ∀ j u, news[j]? = some u → W.cell? (ad.add j) = some u) (h1 : ∀ u ∈ news, u.oneCell' = true)
    (h63 : n + m ≤ maxLen) (hbytes : (n + m) * bytes ≤ 140737488355328) (hbase : base ≤ W.heap.size)
    (w0 : World) (hb0 : w0.heap.size ≤ base) (HB : Bel w0 W) (htt : t' = t)
    (h : ∀ v' w', w'.ownsRow base e size v' (n + m) (xs ++ news) → W.grownBy w' v.ownBlock → Bel w0 w' → (v'.ownBlock = v.ownBlock ∨ v'.ownBlock = some W.heap.size) → wpList P ops Q rest (a.put dst v') w') :
    wpList P ops Q ({ dst := dst, op := .call { callee := .builtin .append, args := #[s, x], argTypes := #[t, t'] }, type := tt, pos := pos, after := after, guard := none } :: rest) a W := by
  subst htt
  obtain ⟨i0, hi, hzz⟩ := Option.map_eq_some_iff.1 hinfo
  simp only [Prod.mk.injEq] at hzz
  obtain ⟨hz0, hz1, hz2⟩ := hzz
  refine wpList_append_own_at W rfl s x t' rfl base e i0 z size bytes ht hi hz0 hz1 hz2 hzs hsz v n xs hs hown ad m c news hx hl hnews h1 h63 hbytes hbase ?_
  intro v' w' o1 g1 _ at1
  exact h v' w' o1 g1 (HB.grown g1 (fun k hk => Nat.le_trans hb0 (hown.lt k hk).1)) at1
/-- 'append(s, x)' of one element of one cell. -/
theorem at_append1 {P : Program} {ops : Array Oper} {rest : List Oper} {a : Act} {W : World} {Q : Exit → Act → World → Prop} {dst : Option Tmp} {tt : TypeId} {pos : String} {after : Array Edge} {s x : Operand} {t t' : TypeId} {y : Value} {e : TypeId}
    (base : Nat) (z : Value) (bytes : Nat) (ht : P.underlying t = some (.slice e)) (hinfo : (P.info? e).map (fun i => (i.zero, i.size, i.bytes)) = some (some z, 1, bytes)) (hzs : z.cells.size = 1)
    (v : Value) (n : Nat) (xs : List Value) (hs : a.eval s = v) (hown : W.ownsRow base e 1 v n xs)
    (hx : a.eval x = .slice (some ⟨W.heap.size, 0, none⟩) 1 1) (h1 : y.oneCell' = true)
    (h63 : n + 1 ≤ maxLen) (hbytes : (n + 1) * bytes ≤ 140737488355328) (hbase : base ≤ W.heap.size)
    (w0 : World) (hb0 : w0.heap.size ≤ base) (HB : Bel w0 W) (htt : t' = t)
    (h : ∀ v' w', w'.ownsRow base e 1 v' (n + 1) (xs ++ [y]) → W.grownBy w' v.ownBlock → Bel w0 w' → wpList P ops Q rest (a.put dst v') w') :
    wpList P ops Q ({ dst := dst, op := .call { callee := .builtin .append, args := #[s, x], argTypes := #[t, t'] }, type := tt, pos := pos, after := after, guard := none } :: rest) a (W.alloc (.cells #[y] e)) :=
  at_append base e z 1 bytes ht hinfo hzs (by decide) v n xs hs (hown.alloc _) ⟨W.heap.size, 0, none⟩ 1 1 [y] hx rfl (cell_one_new _ _ _) (by simpa using h1) h63 hbytes (Nat.le_trans hbase (by simp)) w0 hb0 (HB.alloc _) htt
    fun v' w' o1 g1 b1 _ => h v' w' o1 ((World.grownBy_alloc W _ _).trans g1) b1
theorem own_mono {w : World} {base base' : Nat} {e : TypeId} {size : Nat} {v : Value} {n : Nat} {xs : List Value} (h : w.ownsRow base e size v n xs) (hb : base' ≤ base) : w.ownsRow base' e size v n xs :=
  ⟨h.1, h.2.imp id fun ⟨g, cap, cur, h1, h2, r⟩ => ⟨g, cap, cur, h1, Nat.le_trans hb h2, r⟩⟩
/-- Only draws were made. -/
structure Drw (w w' : World) : Prop where mk :: (out : ∃ n, w' = w.drewN n)
theorem Drw.refl (w : World) : Drw w w := ⟨⟨0, rfl⟩⟩
theorem Drw.step {w w' : World} (h : Drw w w') (n : Nat) : Drw w (w'.drewN n) := by
  obtain ⟨m, rfl⟩ := h
  exact ⟨⟨m + n, World.drewN_drewN ..⟩⟩
theorem Drw.bel {w w' : World} (h : Drw w w') : Bel w w' := by
  obtain ⟨n, rfl⟩ := h
  exact (Bel.refl w).drewN n
end Go.Proofs.Ytebdnobgdimdoaa
