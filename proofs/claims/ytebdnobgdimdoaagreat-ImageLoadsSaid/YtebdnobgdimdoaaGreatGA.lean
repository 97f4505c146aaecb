/- Small words that all texts of this seat use: a world that grew ('Bel'), two-sided ranges. Nothing of the program. How data that came in lie in memory: slices of whatever element, structs field by field. Over whatever program. An instruction (api.Inst) as data, and as it lies in memory. inst.May by its contract. inst.May by its contract. -/
import Derived.Below
import Derived.RowKit3
import Derived.WalkKit
import Derived.Deep.Draws
import Derived.Deep.WholeRow
import Derived.Deep.MidRow
import Derived.Maps.AppendAt
import Derived.OwnWalk
import Derived.Laws.OwnMore
import Derived.Deep.AppendLies
import Derived.ProofKit
import Derived.OpenShut
import Derived.Deep.Slices
import Derived.Test.YtebdnobgdimdoaaGreatProg
import Derived.KernelRfl
import Derived.WalkLawsBesides
import Derived.WalkSpells
import Derived.Outline
import Derived.BigQuiet
import Derived.Deep.QuietTactic
import Derived.Deep.RegionHeld3
import Derived.Deep.DeepCutAuto
set_option linter.unusedVariables false
set_option linter.unusedSimpArgs false
namespace Go.Proofs.YtebdnobgdimdoaaGreat
open Go.RowKit
/-- What was there below the old heap's size is as it was. -/
structure Bel (w w' : World) : Prop where mk :: (out : Below w.heap.size w w')
theorem Bel.refl (w : World) : Bel w w := ⟨Below.refl _ _⟩
theorem Bel.trans {a b c : World} (h : Bel a b) (k : Bel b c) : Bel a c := ⟨h.out.trans (k.out.mono h.out.size)⟩
theorem Bel.alloc {a b : World} (h : Bel a b) (o : Obj) : Bel a (b.alloc o) := ⟨h.out.alloc h.out.size o⟩
theorem Bel.drew {a b : World} (h : Bel a b) : Bel a b.drew := ⟨h.out.drew⟩
theorem Bel.drewN {a b : World} (h : Bel a b) (n : Nat) : Bel a (b.drewN n) := by
  induction n with
  | zero => exact h
  | succ n ih => exact ⟨⟨h.out.os, h.out.tape, h.out.output, h.out.size, h.out.block⟩⟩
theorem Bel.setCell {a b : World} (h : Bel a b) {p : Addr} (hp : a.heap.size ≤ p.block) (u : Value) : Bel a (b.setCell p u) := ⟨h.out.setCell hp u⟩
theorem Bel.of {w w' : World} (h : Below w.heap.size w w') : Bel w w' := ⟨h⟩
theorem Bel.size {a b : World} (h : Bel a b) : a.heap.size ≤ b.heap.size := h.out.size
theorem Bel.cell {a b : World} (h : Bel a b) {p : Addr} {v : Value} (hc : a.cell? p = some v) : b.cell? p = some v := (h.out.cell (World.block_lt_of_cell? a p hc)).trans hc
theorem Bel.frozen {a b : World} (h : Bel a b) {p : Addr} {v : Value} (hc : a.cell? p = some v) : b.frozen? p = a.frozen? p := h.out.frozen (World.block_lt_of_cell? a p hc)
theorem bcell {W w1 : World} (hb : Bel W w1) : (∀ b o, b < W.heap.size → w1.cell? ⟨b, o, none⟩ = W.cell? ⟨b, o, none⟩) ∧ (∀ b o, b < W.heap.size → w1.frozen? ⟨b, o, none⟩ = W.frozen? ⟨b, o, none⟩) ∧ W.heap.size ≤ w1.heap.size :=
  ⟨fun b o h => hb.out.cell (p := ⟨b, o, none⟩) h, fun b o h => hb.out.frozen (p := ⟨b, o, none⟩) h, hb.size⟩
theorem ret_u32 {a b : Int} (h : a = b) : Ending.returned (.int .u32 a) = .returned (.int .u32 b) := by rw [h]
theorem ret_u64 {a b : Int} (h : a = b) : Ending.returned (.int .u64 a) = .returned (.int .u64 b) := by rw [h]
theorem ret_i64 {a b : Int} (h : a = b) : Ending.returned (.int .i64 a) = .returned (.int .i64 b) := by rw [h]
theorem ret_bool {a b : Bool} (h : a = b) : Ending.returned (.bool a) = .returned (.bool b) := by rw [h]
/-- A 32-bit word. -/
structure U32 (x : Int) : Prop where mk :: (lo : 0 ≤ x) (hi : x < 4294967296)
theorem u32_of_wf {x : Int} (h : (Lit.int .u32 x).wf = true) : U32 x := by
  simp [Lit.wf, IntKind.min, IntKind.max, IntKind.bits, IntKind.signed] at h
  exact ⟨by omega, by omega⟩
theorem u32_lit (x : Int) (h : (decide (0 ≤ x) && decide (x < 4294967296)) = true) : U32 x := by
  simp at h
  exact ⟨h.1, h.2⟩
/-- A whole value is stored into the block that was made last. -/
theorem at_store_new {P : Program} {ops : Array Oper} {rest : List Oper} {a : Act} {Q : Exit → Act → World → Prop} {w : World} {dst : Option Tmp} {tt : TypeId} {pos : String} {after : Array Edge} {ty : TypeId} {x y : Operand} {c : Array Value}
    (c' : Array Value) (hx : a.eval x = .pointer (some ⟨w.heap.size, 0, none⟩)) (hy : a.eval y = .agg c')
    (hi : (P.info? ty).map (·.size) = some c'.size) (hs : c.size = c'.size) (h1 : c'.all (·.oneCell') = true)
    (h : wpList P ops Q rest (a.put dst undef) (w.alloc (.cells c' ty))) : wpList P ops Q ({ dst := dst, op := .store ty x y, type := tt, pos := pos, after := after, guard := none } :: rest) a (w.alloc (.cells c ty)) :=
  wpList_plain rfl fun _ hK => by
    unfold Oper.wp execOp
    simp only [hx, hy, Instr.storeAt, Instr.sureAddr, Sem.run_bind, Sem.run_pure, Result.andThen_ok, run_storeVar_new w ty c c' hi hs h1]
    exact hK _ _ h
/-- A value is built of parts that are known. -/
theorem at_build {P : Program} {ops : Array Oper} {rest : List Oper} {a : Act} {w : World} {Q : Exit → Act → World → Prop} {dst : Option Tmp} {tt : TypeId} {pos : String} {after : Array Edge} {t : TypeId} {parts : Array (Nat × Operand)}
    (cells : Array Value) (hf : P.built t (parts.map fun (i, x) => (i, a.eval x)).toList = some cells)
    (h : wpList P ops Q rest (a.put dst (.agg cells)) w) : wpList P ops Q ({ dst := dst, op := .build t parts, type := tt, pos := pos, after := after, guard := none } :: rest) a w :=
  wpList_build rfl t parts rfl (by rw [hf]; rfl) (by rw [hf]; exact h)
theorem Bel.grown {w0 W w' : World} (HB : Bel w0 W) {row : Option Nat} (hg : W.grownBy w' row) (hr : ∀ k, row = some k → w0.heap.size ≤ k) : Bel w0 w' := ⟨HB.out.grown hg HB.size hr⟩
/-- 'append(s, x...)' onto a row of the call's own. -/
theorem at_append {P : Program} {ops : Array Oper} {rest : List Oper} {a : Act} {W : World} {Q : Exit → Act → World → Prop} {dst : Option Tmp} {tt : TypeId} {pos : String} {after : Array Edge} {s x : Operand} {t t' : TypeId}
    (base : Nat) (e : TypeId) (z : Value) (size bytes : Nat) (ht : P.underlying t = some (.slice e)) (hinfo : (P.info? e).map (fun i => (i.zero, i.size, i.bytes)) = some (some z, size, bytes)) (hzs : z.cells.size = size) (hsz : 0 < size)
    (v : Value) (n : Nat) (xs : List Value) (hs : a.eval s = v) (hown : W.ownsRow base e size v n xs)
    (ad : Addr) (m c : Nat) (news : List Value) (hx : a.eval x = .slice (some ad) m c) (hl : news.length = m * size) (hnews : ∀ j u, news[j]? = some u → W.cell? (ad.add j) = some u) (h1 : ∀ u ∈ news, u.oneCell' = true)
    (h63 : n + m ≤ maxLen) (hbytes : (n + m) * bytes ≤ 140737488355328) (hbase : base ≤ W.heap.size)
    (w0 : World) (hb0 : w0.heap.size ≤ base) (HB : Bel w0 W) (htt : t' = t)
    (h : ∀ v' w', w'.ownsRow base e size v' (n + m) (xs ++ news) → W.grownBy w' v.ownBlock → Bel w0 w' → (v'.ownBlock = v.ownBlock ∨ v'.ownBlock = some W.heap.size) → wpList P ops Q rest (a.put dst v') w') :
    wpList P ops Q ({ dst := dst, op := .call { callee := .builtin .append, args := #[s, x], argTypes := #[t, t'] }, type := tt, pos := pos, after := after, guard := none } :: rest) a W := by
  subst htt
  obtain ⟨i0, hi, hzz⟩ := Option.map_eq_some_iff.1 hinfo
  simp only [Prod.mk.injEq] at hzz
  obtain ⟨hz0, hz1, hz2⟩ := hzz
  refine wpList_append_own_at W rfl s x t' rfl base e i0 z size bytes ht hi hz0 hz1 hz2 hzs hsz v n xs hs hown ad m c news hx hl hnews h1 h63 hbytes hbase ?_
  intro v' w' o1 g1 _ at1
  exact h v' w' o1 g1 (HB.grown g1 (fun k hk => Nat.le_trans hb0 (hown.lt k hk).1)) at1
/-- 'append(s, x)' of one element of one cell. -/
theorem at_append1 {P : Program} {ops : Array Oper} {rest : List Oper} {a : Act} {W : World} {Q : Exit → Act → World → Prop} {dst : Option Tmp} {tt : TypeId} {pos : String} {after : Array Edge} {s x : Operand} {t t' : TypeId} {y : Value} {e : TypeId}
    (base : Nat) (z : Value) (bytes : Nat) (ht : P.underlying t = some (.slice e)) (hinfo : (P.info? e).map (fun i => (i.zero, i.size, i.bytes)) = some (some z, 1, bytes)) (hzs : z.cells.size = 1)
    (v : Value) (n : Nat) (xs : List Value) (hs : a.eval s = v) (hown : W.ownsRow base e 1 v n xs)
    (hx : a.eval x = .slice (some ⟨W.heap.size, 0, none⟩) 1 1) (h1 : y.oneCell' = true)
    (h63 : n + 1 ≤ maxLen) (hbytes : (n + 1) * bytes ≤ 140737488355328) (hbase : base ≤ W.heap.size)
    (w0 : World) (hb0 : w0.heap.size ≤ base) (HB : Bel w0 W) (htt : t' = t)
    (h : ∀ v' w', w'.ownsRow base e 1 v' (n + 1) (xs ++ [y]) → W.grownBy w' v.ownBlock → Bel w0 w' → wpList P ops Q rest (a.put dst v') w') :
    wpList P ops Q ({ dst := dst, op := .call { callee := .builtin .append, args := #[s, x], argTypes := #[t, t'] }, type := tt, pos := pos, after := after, guard := none } :: rest) a (W.alloc (.cells #[y] e)) :=
  at_append base e z 1 bytes ht hinfo hzs (by decide) v n xs hs (hown.alloc _) ⟨W.heap.size, 0, none⟩ 1 1 [y] hx rfl (cell_one_new _ _ _) (by simpa using h1) h63 hbytes (Nat.le_trans hbase (by simp)) w0 hb0 (HB.alloc _) htt
    fun v' w' o1 g1 b1 _ => h v' w' o1 ((World.grownBy_alloc W _ _).trans g1) b1
theorem own_mono {w : World} {base base' : Nat} {e : TypeId} {size : Nat} {v : Value} {n : Nat} {xs : List Value} (h : w.ownsRow base e size v n xs) (hb : base' ≤ base) : w.ownsRow base' e size v n xs :=
  ⟨h.1, h.2.imp id fun ⟨g, cap, cur, h1, h2, r⟩ => ⟨g, cap, cur, h1, Nat.le_trans hb h2, r⟩⟩
/-- Only draws were made. -/
structure Drw (w w' : World) : Prop where mk :: (out : ∃ n, w' = w.drewN n)
theorem Drw.refl (w : World) : Drw w w := ⟨⟨0, rfl⟩⟩
theorem Drw.step {w w' : World} (h : Drw w w') (n : Nat) : Drw w (w'.drewN n) := by
  obtain ⟨m, rfl⟩ := h
  exact ⟨⟨m + n, World.drewN_drewN ..⟩⟩
theorem Drw.bel {w w' : World} (h : Drw w w') : Bel w w' := by
  obtain ⟨n, rfl⟩ := h
  exact (Bel.refl w).drewN n
end Go.Proofs.YtebdnobgdimdoaaGreat
set_option linter.unusedVariables false
set_option linter.unusedSimpArgs false
namespace Go.Proofs.YtebdnobgdimdoaaGreat
open Go.RowKit Go.ChangeShapes Go.WideShapes
/-- A slice of 'l.length' elements, each of 'sz' cells; 'R' says what an element's cells are. -/
structure Sl {T : Type} (R : World → List Value → T → Prop) (sz : Nat) (w : World) (A : Option Addr) (cap : Nat) (l : List T) : Prop where
  le : l.length ≤ cap
  big : cap ≤ maxLen
  get : ∀ i (h : i < l.length), ∃ b off cs, A = some ⟨b, off, none⟩ ∧ cs.length = sz ∧ R w cs l[i] ∧ ∀ j v, cs[j]? = some v → w.cell? ⟨b, off + i * sz + j, none⟩ = some v
def Mono {T : Type} (R : World → List Value → T → Prop) : Prop := ∀ w w' cs x, Bel w w' → R w cs x → R w' cs x
theorem Sl.mono {T : Type} {R : World → List Value → T → Prop} (hR : Mono R) {sz : Nat} {w w' : World} {A : Option Addr} {cap : Nat} {l : List T} (h : Sl R sz w A cap l) (hb : Bel w w') : Sl R sz w' A cap l :=
  ⟨h.le, h.big, fun i hi => by
    obtain ⟨b, off, cs, hA, hl, hr, hc⟩ := h.get i hi
    exact ⟨b, off, cs, hA, hl, hR _ _ _ _ hb hr, fun j v hv => hb.cell (hc j v hv)⟩⟩
theorem Sl.nil {T : Type} (R : World → List Value → T → Prop) (sz : Nat) (w : World) : Sl R sz w none 0 [] := ⟨by simp, by decide, fun i hi => by simp at hi⟩
/-- Where there is an element, the slice leads to a block. -/
theorem Sl.addr {T : Type} {R : World → List Value → T → Prop} {sz : Nat} {w : World} {A : Option Addr} {cap : Nat} {l : List T} (h : Sl R sz w A cap l) (hp : 0 < l.length) : ∃ b off, A = some ⟨b, off, none⟩ := by
  obtain ⟨b, off, cs, hA, _⟩ := h.get 0 hp
  exact ⟨b, off, hA⟩
section
variable {H : Type} {enc : TypeId × Value → H} {P : Program} {w : World} {base : Nat} {spare : Nat → Bool} {held : Bool}
/-- A struct's fields, each by its own cells. -/
theorem trod_fields {t : TypeId} {fs : Array Field} {fuel : Nat} {cs : List Value} {x : DataW H × List MemPlace} (ht : P.underlying t = some (.struct fs)) (h : DataW.trod enc P w base spare held fuel t cs = some x) :
    ∃ n, cs.length = P.cellsOf t ∧ ∀ (j : Nat) (f : Field), fs[j]? = some f → ∃ y, DataW.trod enc P w base spare held n f.type ((cs.drop f.offset).take (P.cellsOf f.type)) = some y := by
  cases fuel with
  | zero => simp [DataW.trod] at h
  | succ n =>
    unfold DataW.trod at h
    rw [ht] at h
    have key : cs.length = P.cellsOf t ∧ ∃ xs, (fs.toList.mapM fun f => DataW.trod enc P w base spare held n f.type ((cs.drop f.offset).take (P.cellsOf f.type))) = some xs := by
      split at h <;> simp_all
      all_goals (obtain ⟨_, xs, hx, _⟩ := h; exact ⟨xs, hx⟩)
    obtain ⟨hl, xs, hx⟩ := key
    refine ⟨n, hl, fun j f hf => ?_⟩
    have hm : f ∈ fs.toList := by
      have := Array.getElem?_eq_some_iff.1 hf
      obtain ⟨hj, e⟩ := this
      rw [← e]; simp
    clear h hf
    generalize fs.toList = L at hx hm
    induction L generalizing xs with
    | nil => simp at hm
    | cons g L ih =>
      simp only [List.mapM_cons, Option.bind_eq_bind, Option.bind_eq_some_iff, Option.pure_def] at hx
      obtain ⟨y, hy, ys, hys, _⟩ := hx
      rcases List.mem_cons.1 hm with rfl | hm
      · exact ⟨y, hy⟩
      · exact ih ys hys hm
theorem trod_field {t : TypeId} {fs : Array Field} {fuel : Nat} {cs : List Value} {x : DataW H × List MemPlace} (ht : P.underlying t = some (.struct fs)) (h : DataW.trod enc P w base spare held fuel t cs = some x) :
    ∃ n, cs.length = P.cellsOf t ∧ ∀ (j : Nat) (u : TypeId) (o c : Nat), (fs[j]?).map (fun f => (f.type, f.offset)) = some (u, o) → P.cellsOf u = c → ∃ y, DataW.trod enc P w base spare held n u ((cs.drop o).take c) = some y := by
  obtain ⟨n, hl, hf⟩ := trod_fields ht h
  refine ⟨n, hl, fun j u o c hu hc => ?_⟩
  obtain ⟨f, hj, he⟩ := Option.map_eq_some_iff.1 hu
  simp only [Prod.mk.injEq] at he
  obtain ⟨rfl, rfl⟩ := he
  subst hc
  exact hf j f hj
theorem cells_at {b : World} {base : Nat} {a : Addr} {n : Nat} {cs : List Value} (h : b.cells? base a n = some cs) : cs.length = n ∧ ∀ j v, cs[j]? = some v → b.cell? (a.add j) = some v := by
  unfold World.cells? at h
  split at h
  · have key : ∀ (L : List Nat) (cs : List Value), (L.mapM fun i => b.cell? (a.add i)) = some cs → cs.length = L.length ∧ ∀ (j : Nat) (v : Value), cs[j]? = some v → ∃ i : Nat, L[j]? = some i ∧ b.cell? (a.add i) = some v := by
      intro L
      induction L with
      | nil => intro cs hc; simp at hc; subst hc; simp
      | cons i L ih =>
        intro cs hc
        simp only [List.mapM_cons, Option.bind_eq_bind, Option.bind_eq_some_iff, Option.pure_def] at hc
        obtain ⟨y, hy, ys, hys, e⟩ := hc
        simp at e; subst e
        obtain ⟨h1, h2⟩ := ih ys hys
        refine ⟨by simp [h1], fun j v hv => ?_⟩
        cases j with
        | zero => simp at hv; subst hv; exact ⟨i, rfl, hy⟩
        | succ j => simp at hv; obtain ⟨i', e1, e2⟩ := h2 j v hv; exact ⟨i', by simpa using e1, e2⟩
    obtain ⟨h1, h2⟩ := key _ _ h
    refine ⟨by simpa using h1, fun j v hv => ?_⟩
    obtain ⟨i, e1, e2⟩ := h2 j v hv
    rw [List.getElem?_range] at e1
    · simp at e1; subst e1; exact e2
    · have := List.getElem?_eq_some_iff.1 hv
      obtain ⟨hj, _⟩ := this
      simp at h1; omega
  · simp at h
/-- A slice, element by element. -/
theorem open_sl {T : Type} {R : World → List Value → T → Prop} {sz : Nat} {t e : TypeId} {fuel : Nat} {cs : List Value} {x : DataW H × List MemPlace} (ht : P.underlying t = some (.slice e)) (hsz : P.cellsOf e = sz) (hp : 0 < sz)
    (hR : ∀ n cs y, cs.length = sz → DataW.trod enc P w base spare held n e cs = some y → ∃ x : T, R w cs x) (h : DataW.trod enc P w base spare held fuel t cs = some x) :
    ∃ A cap l, cs = [.slice A l.length cap] ∧ Sl R sz w A cap l := by
  rcases Go.Deep.open_slice ht h with ⟨rfl, _⟩ | ⟨a, len, cap, m, n, D, Pl, rfl, hb, hl, hm, hmm, _, hel⟩
  · exact ⟨none, 0, [], rfl, Sl.nil R sz w⟩
  · have hlm : len ≤ m := by rw [hmm]; split <;> omega
    have one : ∀ i, i < len → ∃ (y : T) (cs' : List Value), cs'.length = sz ∧ R w cs' y ∧ ∀ j v, cs'[j]? = some v → w.cell? ((a.add (i * sz)).add j) = some v := by
      intro i hi
      obtain ⟨cs', h1, h2⟩ := hel i (by omega)
      rw [hsz] at h1
      obtain ⟨k1, k2⟩ := cells_at h1
      obtain ⟨y, hy⟩ := hR _ _ _ k1 h2
      exact ⟨y, cs', k1, hy, k2⟩
    have all : ∃ l : List T, l.length = len ∧ ∀ i (hi : i < l.length), ∃ (cs' : List Value), cs'.length = sz ∧ R w cs' l[i] ∧ ∀ j v, cs'[j]? = some v → w.cell? ((a.add (i * sz)).add j) = some v := by
      have step : ∀ k, k ≤ len → ∃ l : List T, l.length = k ∧ ∀ i (hi : i < l.length), ∃ (cs' : List Value), cs'.length = sz ∧ R w cs' l[i] ∧ ∀ j v, cs'[j]? = some v → w.cell? ((a.add (i * sz)).add j) = some v := by
        intro k
        induction k with
        | zero => intro _; exact ⟨[], rfl, fun i hi => by simp at hi⟩
        | succ k ih =>
          intro hk
          obtain ⟨l, h1, h2⟩ := ih (by omega)
          obtain ⟨y, cs', q1, q2, q3⟩ := one k (by omega)
          refine ⟨l ++ [y], by simp [h1], fun i hi => ?_⟩
          by_cases he : i < l.length
          · obtain ⟨c, r1, r2, r3⟩ := h2 i he
            exact ⟨c, r1, by rw [List.getElem_append_left he]; exact r2, r3⟩
          · have : i = k := by simp at hi; omega
            subst this
            refine ⟨cs', q1, ?_, q3⟩
            rw [List.getElem_append_right (by omega)]
            simpa [h1] using q2
      exact step len (Nat.le_refl _)
    obtain ⟨l, rfl, hl2⟩ := all
    refine ⟨some a, cap, l, rfl, ⟨hl, hm, fun i hi => ?_⟩⟩
    obtain ⟨cs', q1, q2, q3⟩ := hl2 i hi
    have hsp : a.spot = none := by
      obtain ⟨cs0, z1, z2, z3⟩ := hl2 0 (by omega)
      have hz : (a.add (0 * sz)).add 0 = a := by simp [Addr.add]
      have hv : cs0[0]? = some (cs0[0]'(by omega)) := List.getElem?_eq_getElem _
      have := World.cell?_spot (z3 0 _ hv)
      rwa [hz] at this
    obtain ⟨b, off, spot⟩ := a
    simp at hsp; subst hsp
    refine ⟨b, off, cs', rfl, q1, q2, fun j v hv => ?_⟩
    have := q3 j v hv
    rwa [Go.WideShapes.add_plain, Go.WideShapes.add_plain] at this
/-- A number of a kind, in one cell. -/
def IntR (k : IntKind) (w : World) (cs : List Value) (x : Int) : Prop := cs = [.int k x] ∧ (Lit.int k x).wf = true
theorem IntR.mono (k : IntKind) : Mono (IntR k) := fun w w' cs x hb h => h
theorem open_Int {t : TypeId} {k : IntKind} (ht : P.underlying t = some (.int k)) {n : Nat} {cs : List Value} {y : DataW H × List MemPlace} (h : DataW.trod enc P w base spare held n t cs = some y) : ∃ x, IntR k w cs x := by
  obtain ⟨x, e, _, hw⟩ := DataW.trod_int ht h
  exact ⟨x, e, hw⟩
/-- A slice of numbers: its cells. -/
theorem Sl.int_cell {k : IntKind} {w : World} {A : Option Addr} {cap : Nat} {l : List Int} (h : Sl (IntR k) 1 w A cap l) (hp : 0 < l.length) :
    ∃ b off, A = some ⟨b, off, none⟩ ∧ ∀ i (hi : i < l.length), w.cell? ⟨b, off + i, none⟩ = some (.int k (l.getD i 0)) ∧ (Lit.int k (l.getD i 0)).wf = true := by
  obtain ⟨b, off, rfl⟩ := h.addr hp
  refine ⟨b, off, rfl, fun i hi => ?_⟩
  obtain ⟨b', off', cs, e, hl, ⟨rfl, hw⟩, hc⟩ := h.get i hi
  simp at e; obtain ⟨rfl, rfl⟩ := e
  have := hc 0 _ rfl
  simp at this
  rw [List.getD_eq_getElem?_getD, List.getElem?_eq_getElem hi]
  exact ⟨this, hw⟩
end
end Go.Proofs.YtebdnobgdimdoaaGreat
set_option linter.unusedVariables false
set_option linter.unusedSimpArgs false
namespace Go.Proofs.YtebdnobgdimdoaaGreat
open Go.RowKit Go.ChangeShapes Go.WideShapes
/-- A number that fits an int. -/
structure I64 (x : Int) : Prop where mk :: (lo : -9223372036854775808 ≤ x) (hi : x ≤ 9223372036854775807)
theorem i64_of_wf {x : Int} (h : (Lit.int .i64 x).wf = true) : I64 x := by
  simp [Lit.wf, IntKind.min, IntKind.max, IntKind.bits, IntKind.signed] at h
  exact ⟨by omega, by omega⟩
structure InstD where
  op : Int
  fn : Int
  dst : Int
  src : Int
  reg : Bool
  off : Int
  imm : Int
deriving DecidableEq
instance : Inhabited InstD := ⟨⟨0, 0, 0, 0, false, 0, 0⟩⟩
def InstD.cells (i : InstD) : List Value := [.int .i64 i.op, .int .i64 i.fn, .int .i64 i.dst, .int .i64 i.src, .bool i.reg, .int .i64 i.off, .int .u32 i.imm]
structure InstD.Wf (i : InstD) : Prop where mk :: (op : I64 i.op) (fn : I64 i.fn) (dst : I64 i.dst) (src : I64 i.src) (off : I64 i.off) (imm : U32 i.imm)
def InstR (w : World) (cs : List Value) (i : InstD) : Prop := cs = i.cells ∧ i.Wf
theorem InstR.mono : Mono InstR := fun w w' cs x hb h => h
theorem cells_int : Tryz.prog.cellsOf 3 = 1 := by kernel_rfl
theorem cells_u32 : Tryz.prog.cellsOf 25 = 1 := by kernel_rfl
theorem cells_bool : Tryz.prog.cellsOf 4 = 1 := by kernel_rfl
theorem cells_Inst : Tryz.prog.cellsOf 95 = 7 := by kernel_rfl
section
variable {H : Type} {enc : TypeId × Value → H} {w : World} {base : Nat} {spare : Nat → Bool} {held : Bool}
theorem open_Inst {n : Nat} {cs : List Value} {y : DataW H × List MemPlace} (h : DataW.trod enc Tryz.prog w base spare held n 95 cs = some y) : ∃ i : InstD, InstR w cs i := by
  obtain ⟨m, hl, hf⟩ := trod_field Tryz.underlying95 h
  rw [cells_Inst] at hl
  match cs, hl with
  | [v0, v1, v2, v3, v4, v5, v6], _ =>
  obtain ⟨y0, h0⟩ := hf 0 3 0 1 rfl cells_int
  obtain ⟨y1, h1⟩ := hf 1 3 1 1 rfl cells_int
  obtain ⟨y2, h2⟩ := hf 2 3 2 1 rfl cells_int
  obtain ⟨y3, h3⟩ := hf 3 3 3 1 rfl cells_int
  obtain ⟨y4, h4⟩ := hf 4 4 4 1 rfl cells_bool
  obtain ⟨y5, h5⟩ := hf 5 3 5 1 rfl cells_int
  obtain ⟨y6, h6⟩ := hf 6 25 6 1 rfl cells_u32
  obtain ⟨a0, e0, _, w0⟩ := DataW.trod_int Tryz.underlying3 h0
  obtain ⟨a1, e1, _, w1⟩ := DataW.trod_int Tryz.underlying3 h1
  obtain ⟨a2, e2, _, w2⟩ := DataW.trod_int Tryz.underlying3 h2
  obtain ⟨a3, e3, _, w3⟩ := DataW.trod_int Tryz.underlying3 h3
  obtain ⟨a4, e4, _⟩ := DataW.trod_bool Tryz.underlying4 h4
  obtain ⟨a5, e5, _, w5⟩ := DataW.trod_int Tryz.underlying3 h5
  obtain ⟨a6, e6, _, w6⟩ := DataW.trod_int Tryz.underlying25 h6
  simp at e0 e1 e2 e3 e4 e5 e6
  subst e0 e1 e2 e3 e4 e5 e6
  exact ⟨⟨a0, a1, a2, a3, a4, a5, a6⟩, rfl, ⟨i64_of_wf w0, i64_of_wf w1, i64_of_wf w2, i64_of_wf w3, i64_of_wf w5, u32_of_wf w6⟩⟩
end
end Go.Proofs.YtebdnobgdimdoaaGreat
set_option linter.unusedVariables false
set_option linter.unusedSimpArgs false
set_option maxRecDepth 100000
namespace Go.Proofs.YtebdnobgdimdoaaGreat
open Go.RowKit
def inB (n h : Int) : Bool := decide (0 ≤ n ∧ n < h)
set_option maxHeartbeats 400000 in
theorem in_any (n h : Int) (w : World) :
    Calls Tryz.prog 144 #[.int .i64 n, .int .i64 h] w fun e w' => e = .returned (.bool (inB n h)) ∧ w = w' := by
  by_cases h0 : 0 ≤ n
  · by_cases h1 : n < h
    · rw [show inB n h = true from decide_eq_true ⟨h0, h1⟩]
      go_enter Tryz.func144, Tryz.ntmps144
      go_wp2
      go_ret
      exact ⟨by simp, rfl⟩
    · rw [show inB n h = false from decide_eq_false (by omega)]
      go_enter Tryz.func144, Tryz.ntmps144
      go_wp2
      go_ret
      exact ⟨by simp, rfl⟩
  · rw [show inB n h = false from decide_eq_false (by omega)]
    go_enter Tryz.func144, Tryz.ntmps144
    go_wp2
    go_ret
    exact ⟨by simp, rfl⟩
def rulesV : Array Value := #[.int .i64 11, .bool true, .bool true, .int .i64 0, .bool true, .int .i64 5, .bool true, .bool true, .int .i64 65535, .bool true,
  .int .i64 1, .bool true, .bool true, .int .i64 0, .bool true, .int .i64 1, .bool true, .bool true, .int .i64 0, .bool true, .int .i64 1, .bool true, .bool true, .int .i64 0, .bool true,
  .int .i64 1, .bool false, .bool false, .int .i64 0, .bool true, .int .i64 1, .bool false, .bool false, .int .i64 0, .bool true, .int .i64 1, .bool false, .bool false, .int .i64 0, .bool false]
set_option maxHeartbeats 400000 in
theorem rules_any (w : World) :
    Calls Tryz.prog 145 #[] w fun e w' => e = .returned (.agg rulesV) ∧ w.alloc (.cells rulesV 220) = w' := by
  go_enter Tryz.func145, Tryz.ntmps145
  go_wp2_with (first | (refine at_build (t := 220) rulesV (by kernel_rfl) ?_) | (refine at_store_new (ty := 220) rulesV (by rfl) (by rfl) (by kernel_rfl) (by kernel_rfl) (by kernel_rfl) ?_))
  exact bodyPost_ret (v := .agg rulesV) (results_cell_row Tryz.results145 _ _ w.heap.size 220 rulesV (0, 0) _ (by rfl) (heap_alloc_last w _) Tryz.underlying220 rfl (by kernel_rfl)) rfl ⟨rfl, rfl⟩
end Go.Proofs.YtebdnobgdimdoaaGreat
set_option linter.unusedVariables false
set_option linter.unusedSimpArgs false
namespace Go.Proofs.YtebdnobgdimdoaaGreat
open Go.RowKit
/-- Which instructions may be (chapter 2). -/
def mayP (op fn dst src : Int) (reg : Bool) (off imm : Int) : Prop :=
  (0 ≤ op ∧ op < 8) ∧ (0 ≤ dst ∧ dst < 8) ∧ (0 ≤ src ∧ src < 8) ∧ (0 ≤ fn ∧ fn < (if op = 0 then 11 else if op = 1 then 5 else 1)) ∧ (0 ≤ off ∧ off ≤ (if op = 1 then 65535 else 0))
  ∧ ((op < 5 ∧ ¬ (op = 1 ∧ fn = 0)) ∨ (dst = 0 ∧ reg = false)) ∧ ((op < 7 ∧ ¬ (op = 1 ∧ fn = 0)) ∨ imm = 0) ∧ (if reg = true then imm = 0 else src = 0)
instance (op fn dst src : Int) (reg : Bool) (off imm : Int) : Decidable (mayP op fn dst src reg off imm) := by unfold mayP; infer_instance
def mayB (op fn dst src : Int) (reg : Bool) (off imm : Int) : Bool := decide (mayP op fn dst src reg off imm)
theorem may_close {a : Bool} {P : Prop} [Decidable P] (h : a = true ↔ P) : a = decide P := by by_cases hp : P <;> simp_all
theorem inB_yes {n h : Int} (h0 : 0 ≤ n) (h1 : n < h) : inB n h = true := decide_eq_true ⟨h0, h1⟩
theorem inB_no {n h : Int} (h0 : ¬ (0 ≤ n ∧ n < h)) : inB n h = false := decide_eq_false h0
theorem inB_iff (n h : Int) : inB n h = true ↔ (0 ≤ n ∧ n < h) := by simp [inB]
theorem inB_not (n h : Int) : inB n h = false ↔ ¬ (0 ≤ n ∧ n < h) := by simp [inB]
set_option maxHeartbeats 1000000 in
theorem may_no_op (op fn dst src : Int) (reg : Bool) (off imm : Int) (w : World) (h0 : inB op 8 = false) :
    Calls Tryz.prog 116 #[.agg #[.int .i64 op, .int .i64 fn, .int .i64 dst, .int .i64 src, .bool reg, .int .i64 off, .int .u32 imm]] w fun e w' => e = .returned (.bool false) ∧ Bel w w' := by
  go_enter Tryz.func116, Tryz.ntmps116
  go_wp2_with (first | (go_at_call 144; refine (in_any _ _ _).mono ?_; rintro e w1 ⟨rfl, rfl⟩))
  go_ret
  exact ⟨by simp, (Bel.refl _).alloc _⟩
set_option maxHeartbeats 1000000 in
theorem may_no_dst (op fn dst src : Int) (reg : Bool) (off imm : Int) (w : World) (h0 : inB op 8 = true) (h1 : inB dst 8 = false) :
    Calls Tryz.prog 116 #[.agg #[.int .i64 op, .int .i64 fn, .int .i64 dst, .int .i64 src, .bool reg, .int .i64 off, .int .u32 imm]] w fun e w' => e = .returned (.bool false) ∧ Bel w w' := by
  go_enter Tryz.func116, Tryz.ntmps116
  go_wp2_with (first | (go_at_call 144; refine (in_any _ _ _).mono ?_; rintro e w1 ⟨rfl, rfl⟩))
  go_ret
  exact ⟨by simp, (Bel.refl _).alloc _⟩
set_option maxHeartbeats 1000000 in
theorem may_no_src (op fn dst src : Int) (reg : Bool) (off imm : Int) (w : World) (h0 : inB op 8 = true) (h1 : inB dst 8 = true) (h2 : inB src 8 = false) :
    Calls Tryz.prog 116 #[.agg #[.int .i64 op, .int .i64 fn, .int .i64 dst, .int .i64 src, .bool reg, .int .i64 off, .int .u32 imm]] w fun e w' => e = .returned (.bool false) ∧ Bel w w' := by
  go_enter Tryz.func116, Tryz.ntmps116
  go_wp2_with (first | (go_at_call 144; refine (in_any _ _ _).mono ?_; rintro e w1 ⟨rfl, rfl⟩))
  go_ret
  exact ⟨by simp, (Bel.refl _).alloc _⟩
theorem rule_idx0 : ∀ w, (Instr.index 220 (.agg rulesV) (.int .i64 0)).run Tryz.prog w = .ok (.agg #[.int .i64 11, .bool true, .bool true, .int .i64 0, .bool true]) w := fun _ => by kernel_rfl
theorem rule_idx1 : ∀ w, (Instr.index 220 (.agg rulesV) (.int .i64 1)).run Tryz.prog w = .ok (.agg #[.int .i64 5, .bool true, .bool true, .int .i64 65535, .bool true]) w := fun _ => by kernel_rfl
theorem rule_idx2 : ∀ w, (Instr.index 220 (.agg rulesV) (.int .i64 2)).run Tryz.prog w = .ok (.agg #[.int .i64 1, .bool true, .bool true, .int .i64 0, .bool true]) w := fun _ => by kernel_rfl
theorem rule_idx3 : ∀ w, (Instr.index 220 (.agg rulesV) (.int .i64 3)).run Tryz.prog w = .ok (.agg #[.int .i64 1, .bool true, .bool true, .int .i64 0, .bool true]) w := fun _ => by kernel_rfl
theorem rule_idx4 : ∀ w, (Instr.index 220 (.agg rulesV) (.int .i64 4)).run Tryz.prog w = .ok (.agg #[.int .i64 1, .bool true, .bool true, .int .i64 0, .bool true]) w := fun _ => by kernel_rfl
theorem rule_idx5 : ∀ w, (Instr.index 220 (.agg rulesV) (.int .i64 5)).run Tryz.prog w = .ok (.agg #[.int .i64 1, .bool false, .bool false, .int .i64 0, .bool true]) w := fun _ => by kernel_rfl
theorem rule_idx6 : ∀ w, (Instr.index 220 (.agg rulesV) (.int .i64 6)).run Tryz.prog w = .ok (.agg #[.int .i64 1, .bool false, .bool false, .int .i64 0, .bool true]) w := fun _ => by kernel_rfl
theorem rule_idx7 : ∀ w, (Instr.index 220 (.agg rulesV) (.int .i64 7)).run Tryz.prog w = .ok (.agg #[.int .i64 1, .bool false, .bool false, .int .i64 0, .bool false]) w := fun _ => by kernel_rfl
end Go.Proofs.YtebdnobgdimdoaaGreat
