/- The document's Own, and rows of functions (cut from chapter 3 for chapter 11). -/
import Derived.Test.YtebdnobgdimdoaaPg2
import Derived.Test.YtebdnobgdimdoaaHeldU
import Derived.OneCell
set_option linter.unusedVariables false
set_option linter.unusedSimpArgs false
namespace Go.Proofs.Ytebdnobgdimdoaa
open Go.RowKit

/-- A block that holds just these cells. -/
def Blk (W : World) (B : Nat) (t : TypeId) (cs : Array Value) : Prop := W.heap[B]? = some (.cells cs t (0, 0))
theorem Blk.lt {W : World} {B : Nat} {t : TypeId} {cs : Array Value} (h : Blk W B t cs) : B < W.heap.size := (Array.getElem?_eq_some_iff.1 h).1
theorem Blk.cell {W : World} {B : Nat} {t : TypeId} {cs : Array Value} (h : Blk W B t cs) (k : Nat) {v : Value} (e : cs[k]? = some v) : W.cell? ⟨B, k, none⟩ = some v := by simp [World.cell?, show W.heap[B]? = _ from h, e]
theorem Blk.frozen {W : World} {B : Nat} {t : TypeId} {cs : Array Value} (h : Blk W B t cs) (k : Nat) : W.frozen? ⟨B, k, none⟩ = false := by simp [World.frozen?, show W.heap[B]? = _ from h]
theorem Blk.new (W : World) (t : TypeId) (cs : Array Value) : Blk (W.alloc (.cells cs t)) W.heap.size t cs := World.alloc_heap_new W _
theorem Blk.bel {W W' : World} {B : Nat} {t : TypeId} {cs : Array Value} (h : Blk W B t cs) (hb : Bel W W') : Blk W' B t cs := (hb.out.block B h.lt).trans h
theorem Blk.alloc {W : World} {B : Nat} {t : TypeId} {cs : Array Value} (h : Blk W B t cs) (o : Obj) : Blk (W.alloc o) B t cs := h.bel ((Bel.refl W).alloc o)
theorem own_bel {w w' : World} {b : Nat} {e : TypeId} {s : Nat} {v : Value} {n : Nat} {xs : List Value} (h : w.ownsRow b e s v n xs) (hb : Bel w w') : w'.ownsRow b e s v n xs :=
  ⟨h.1, h.2.imp id fun ⟨g, cap, cur, h1, h2, h3, r⟩ => ⟨g, cap, cur, h1, h2, (hb.out.block g (Array.getElem?_eq_some_iff.1 h3).1).trans h3, r⟩⟩
/-- Whatever is no row of elements of a type is as it was. -/
structure K8 (t : TypeId) (W W' : World) : Prop where
  size : W.heap.size ≤ W'.heap.size
  blk : ∀ k u cs, Blk W k u cs → u ≠ t → Blk W' k u cs
theorem K8.refl (t : TypeId) (W : World) : K8 t W W := ⟨Nat.le_refl _, fun _ _ _ h _ => h⟩
theorem K8.trans {t : TypeId} {A B C : World} (h : K8 t A B) (k : K8 t B C) : K8 t A C := ⟨Nat.le_trans h.size k.size, fun i u cs h1 h2 => k.blk i u cs (h.blk i u cs h1 h2) h2⟩
theorem K8.grown {t : TypeId} {W W' : World} {base s : Nat} {v : Value} {n : Nat} {xs : List Value} (h : W.ownsRow base t s v n xs) (hg : W.grownBy W' v.ownBlock) : K8 t W W' :=
  ⟨hg.size, fun k u cs hb hu => (hg.block k hb.lt (fun e => by
    rcases h.2 with ⟨rfl, _⟩ | ⟨g, cap, cur, rfl, h2, h3, _⟩
    · cases e
    · have e2 : k = g := by simpa [Value.ownBlock] using e
      subst e2
      rw [show W.heap[k]? = _ from hb] at h3
      simp only [Option.some.injEq, Obj.cells.injEq] at h3
      exact hu h3.2.1)).trans hb⟩
theorem row_low {W W' : World} {base : Nat} {t : TypeId} {s : Nat} {v : Value} {n : Nat} {xs : List Value} (h : W.ownsRow base t s v n xs) (w0 : World) (hb : w0.heap.size ≤ base) (HB : Bel w0 W) (hg : W.grownBy W' v.ownBlock) : Bel w0 W' :=
  HB.grown hg (fun k hk => Nat.le_trans hb (h.lt k hk).1)
theorem setCell_heap_ne (W : World) {p : Addr} {k : Nat} (v : Value) (h : k ≠ p.block) : (W.setCell p v).heap[k]? = W.heap[k]? := Below.heap_setCell _ _ _ _ h
theorem setCell_size (W : World) (p : Addr) (v : Value) : (W.setCell p v).heap.size = W.heap.size := Array.size_modify
theorem Blk.set {W : World} {B : Nat} {t : TypeId} {cs : Array Value} (h : Blk W B t cs) (k : Nat) (v : Value) : Blk (W.setCell ⟨B, k, none⟩ v) B t (cs.setIfInBounds k v) := by
  show (W.setCell ⟨B, k, none⟩ v).heap[B]? = _
  have hh : W.heap[B]? = some (.cells cs t (0, 0)) := h
  simp [World.setCell, Array.getElem?_modify, hh]
theorem Blk.other {W : World} {B : Nat} {t : TypeId} {cs : Array Value} (h : Blk W B t cs) {p : Addr} (hp : B ≠ p.block) (v : Value) : Blk (W.setCell p v) B t cs := (setCell_heap_ne W v hp).trans h
theorem info_inst : (Try.prog.info? 32).map (fun i => (i.zero, i.size, i.bytes)) = some (some (.agg #[.int .i64 0, .int .i64 0, .int .i64 0, .int .i64 0, .bool false, .int .i64 0, .int .u32 0]), 7, 56) := by kernel_rfl
theorem inst_one (i : InstD) : ∀ u ∈ i.cells, u.oneCell' = true := by
  intro u hu
  simp only [InstD.cells, List.mem_cons, List.not_mem_nil, or_false] at hu
  rcases hu with rfl | rfl | rfl | rfl | rfl | rfl | rfl <;> rfl
theorem cells_new (W : World) (cs : Array Value) (t : TypeId) : ∀ j u, cs.toList[j]? = some u → (W.alloc (.cells cs t)).cell? ((⟨W.heap.size, 0, none⟩ : Addr).add j) = some u := by
  intro j u hu
  rw [Addr.add_lit, Nat.zero_add]
  exact (Blk.new W t cs).cell j (by simpa using hu)
theorem own_form {w : World} {base : Nat} {e : TypeId} {size : Nat} {v : Value} {n : Nat} {xs : List Value} (h : w.ownsRow base e size v (n + 1) xs) : ∃ g c, v = .slice (some ⟨g, 0, none⟩) (n + 1) c := by
  rcases h.2 with ⟨_, h0⟩ | ⟨g, cap, cur, e, _⟩
  · omega
  · exact ⟨g, cap, e⟩
theorem flat7 : ∀ l : List InstD, (l.flatMap InstD.cells).length = l.length * 7
  | [] => rfl
  | i :: l => by
    rw [List.flatMap_cons, List.length_append, flat7 l, List.length_cons]
    simp only [InstD.cells, List.length_cons, List.length_nil]
    omega
theorem flat_getP {α : Type} (f : α → List Value) (k : Nat) (hk : ∀ x, (f x).length = k) : ∀ (zs : List α) (i j : Nat) (hi : i < zs.length), j < k → (zs.flatMap f)[i * k + j]? = (f zs[i])[j]?
  | [], i, j, hi, _ => by simp at hi
  | z :: zs, 0, j, hi, hj => by
    rw [List.flatMap_cons, Nat.zero_mul, Nat.zero_add, List.getElem?_append_left (by rw [hk]; exact hj)]
    rfl
  | z :: zs, i + 1, j, hi, hj => by
    rw [List.flatMap_cons, List.getElem?_append_right (by rw [hk, Nat.succ_mul]; omega), hk]
    have := flat_getP f k hk zs i j (by simpa using hi) hj
    rw [show (i + 1) * k + j - k = i * k + j by rw [Nat.succ_mul]; omega, this]
    rfl
theorem flat_lenP {α : Type} (f : α → List Value) (k : Nat) (hk : ∀ x, (f x).length = k) : ∀ (zs : List α), (zs.flatMap f).length = zs.length * k
  | [] => by simp
  | z :: zs => by
    rw [List.flatMap_cons, List.length_append, hk, flat_lenP f k hk zs, List.length_cons, Nat.succ_mul, Nat.add_comm]
/-- What a row of the call's own tells, cell by cell. -/
theorem own_openP {w : World} {b : Nat} {e : TypeId} {s : Nat} {v : Value} {n : Nat} {xs : List Value} (h : w.ownsRow b e s v n xs) :
    (v = .slice none 0 0 ∧ n = 0) ∨ ∃ g c, v = .slice (some ⟨g, 0, none⟩) n c ∧ b ≤ g ∧ g < w.heap.size ∧ n ≤ c ∧ c ≤ maxLen ∧ (∀ i, w.frozen? ⟨g, i, none⟩ = false) ∧ ∀ j u, xs[j]? = some u → w.cell? ⟨g, j, none⟩ = some u := by
  obtain ⟨h1, h2⟩ := h
  rcases h2 with ⟨rfl, h2⟩ | ⟨g, cap, cur, rfl, hb, hh, hc, hm, hs, ht⟩
  · exact .inl ⟨rfl, h2⟩
  · refine .inr ⟨g, cap, rfl, hb, (Array.getElem?_eq_some_iff.1 hh).1, hc, hm, fun i => by simp [World.frozen?, hh], fun j u hj => ?_⟩
    rw [← ht, List.getElem?_take] at hj
    split at hj
    · rw [Array.getElem?_toList] at hj
      simp [World.cell?, hh, hj]
    · cases hj
/-- Elements of some cells in a row of one's own, as a slice. -/
theorem sl_of_rows {S T : Type} {R : World → List Value → T → Prop} {sz : Nat} (f : S → List Value) (hf : ∀ z, (f z).length = sz) (gg : S → T) {W : World} {base : Nat} {e : TypeId} {v : Value} {zs : List S} (h : W.ownsRow base e sz v zs.length (zs.flatMap f)) (hR : ∀ z ∈ zs, R W (f z) (gg z)) :
    ∃ A c, v = .slice A zs.length c ∧ Sl R sz W A c (zs.map gg) := by
  rcases own_openP h with ⟨rfl, h0⟩ | ⟨g, c, rfl, hg1, hg2, hc1, hc2, hfz, hcl⟩
  · have e : zs = [] := List.eq_nil_of_length_eq_zero h0
    subst e
    exact ⟨none, 0, rfl, Sl.nil _ _ _⟩
  · refine ⟨some ⟨g, 0, none⟩, c, rfl, by rw [List.length_map]; exact hc1, hc2, fun i hi => ?_⟩
    rw [List.length_map] at hi
    refine ⟨g, 0, f zs[i], rfl, hf _, by rw [List.getElem_map]; exact hR _ (List.getElem_mem hi), fun j u hu => ?_⟩
    have hj : j < sz := by rw [← hf zs[i]]; exact (List.getElem?_eq_some_iff.1 hu).1
    rw [Nat.zero_add]
    exact hcl _ _ (by rw [flat_getP f sz hf zs i j hi hj]; exact hu)
theorem own_slice {W : World} {base : Nat} {e : TypeId} {s : Nat} {v : Value} {n : Nat} {xs : List Value} (h : W.ownsRow base e s v n xs) : ∃ A c, v = .slice A n c := by
  rcases h.2 with ⟨rfl, rfl⟩ | ⟨g, cap, cur, rfl, _⟩
  · exact ⟨none, 0, rfl⟩
  · exact ⟨_, cap, rfl⟩
/-- A row of one kind is left by what is done to a row of another. -/
theorem own_grown {X Y : World} {b1 b2 s1 s2 n1 n2 : Nat} {t1 t2 : TypeId} {v1 v2 : Value} {xs1 xs2 : List Value} (h1 : X.ownsRow b1 t1 s1 v1 n1 xs1) (h2 : X.ownsRow b2 t2 s2 v2 n2 xs2) (ht : t1 ≠ t2) (hg : X.grownBy Y v2.ownBlock) : Y.ownsRow b1 t1 s1 v1 n1 xs1 :=
  ⟨h1.1, h1.2.imp id fun ⟨g, cap, cur, e1, e2, e3, r⟩ => ⟨g, cap, cur, e1, e2, (hg.block g (Array.getElem?_eq_some_iff.1 e3).1 (fun e => by
    rcases h2.2 with ⟨rfl, _⟩ | ⟨g', cap', cur', rfl, _, e4, _⟩
    · cases e
    · have : g = g' := by simpa [Value.ownBlock] using e
      subst this
      rw [e3] at e4
      simp only [Option.some.injEq, Obj.cells.injEq] at e4
      exact ht e4.2.1)).trans e3, r⟩⟩
theorem own_set {X : World} {b s n : Nat} {t : TypeId} {v : Value} {xs : List Value} (h : X.ownsRow b t s v n xs) {p : Addr} (hp : p.block < b) (u : Value) : (X.setCell p u).ownsRow b t s v n xs :=
  ⟨h.1, h.2.imp id fun ⟨g, cap, cur, e1, e2, e3, r⟩ => ⟨g, cap, cur, e1, e2, (setCell_heap_ne X u (by omega)).trans e3, r⟩⟩
def fnc (z : FnD × Value) : List Value := [.int .i64 z.1.args, z.2]
theorem info_fn : (Try.prog.info? 34).map (fun i => (i.zero, i.size, i.bytes)) = some (some (.agg #[.int .i64 0, .slice none 0 0]), 2, 32) := by kernel_rfl
theorem blk_grown {X Y : World} {k b s n : Nat} {u t : TypeId} {cs : Array Value} {v : Value} {xs : List Value} (h : Blk X k u cs) (ho : X.ownsRow b t s v n xs) (hu : u ≠ t) (hg : X.grownBy Y v.ownBlock) : Blk Y k u cs := (K8.grown ho hg).blk k u cs h hu
theorem step_append_run {P : Program} {w : World} {ops : Array Oper} {o : Oper} {a : Act} {K : Act → World → Prop} {Q : Exit → Act → World → Prop} {E : Prop} (hgd : o.guard = none) (s x : Operand) (t : TypeId)
    (ho : o.op = .call { callee := .builtin .append, args := #[s, x], argTypes := #[t, t] })
    (vs vx : Value) (hs : a.eval s = vs) (hx : a.eval x = vx) (R : Value → World → Prop) (hr : ∃ v' w', (Builtin.append_ #[t, t] o.type #[vs, vx]).run P w = .ok v' w' ∧ R v' w')
    (h : ∀ v' w', R v' w' → K (a.put o.dst v') w') :
    if Region.wanted o (yielded ops a.tmps) = true then Oper.wp P o a w K Q else E := by
  have hw : Region.wanted o (yielded ops a.tmps) = true := by simp [Region.wanted, hgd]
  rw [if_pos hw]
  obtain ⟨v', w', hrun, hR⟩ := hr
  unfold Oper.wp
  simp [execOp, ho, resolve, invoke, builtin, hs, hx, hrun, Result.andThen]
  exact h v' w' hR
/-- A cell that holds a value, and may be written. -/
structure Fz (B : Nat) (v : Value) (w : World) : Prop where
  c : w.cell? ⟨B, 0, none⟩ = some v
  f : w.frozen? ⟨B, 0, none⟩ = false
theorem Fz.bel {B : Nat} {v : Value} {w w' : World} (h : Fz B v w) (hb : Bel w w') : Fz B v w' := ⟨hb.cell h.c, (hb.frozen h.c).trans h.f⟩
theorem fn_one (a : Int) (A : Option Addr) (m c : Nat) : ∀ u ∈ [Value.int .i64 a, .slice A m c], u.oneCell' = true := by
  intro u hu
  simp only [List.mem_cons, List.not_mem_nil, or_false] at hu
  rcases hu with rfl | rfl <;> rfl
/-- 'append' of a function. -/
theorem app_fn (ty : TypeId) {X : World} {base n : Nat} {v : Value} {xs : List Value} (ho : X.ownsRow base 34 2 v n xs) (hn : n ≤ 4096) (g : Nat) {a : Int} {A : Option Addr} {m c : Nat} (hg : g = g) (hnews : ∀ j u, [Value.int .i64 a, .slice A m c][j]? = some u → X.cell? ((⟨g, 0, none⟩ : Addr).add j) = some u) (hb : base ≤ X.heap.size) :
    ∃ v' w', (Builtin.append_ #[22, 22] ty #[v, .slice (some ⟨g, 0, none⟩) 1 1]).run Try.prog X = .ok v' w' ∧ w'.ownsRow base 34 2 v' (n + 1) (xs ++ [Value.int .i64 a, .slice A m c]) ∧ X.grownBy w' v.ownBlock ∧ ∃ g' c', v' = .slice (some ⟨g', 0, none⟩) (n + 1) c' := by
  obtain ⟨i0, hi, hzz⟩ := Option.map_eq_some_iff.1 info_fn
  simp only [Prod.mk.injEq] at hzz
  obtain ⟨hz0, hz1, hz2⟩ := hzz
  obtain ⟨v', w', hr, h2, h3, _, h5⟩ := run_append_own_at (P := Try.prog) X base _ ty 34 i0 _ 2 32 Try.underlying22 hi hz0 hz1 hz2 rfl (by decide) v n xs ho ⟨g, 0, none⟩ 1 1 [Value.int .i64 a, .slice A m c] rfl hnews (fn_one a A m c) (by simp only [maxLen]; omega) (by omega) hb
  exact ⟨v', w', hr, h2, h3, own_form h2⟩
theorem insts_one (l : List InstD) : ∀ u ∈ l.flatMap InstD.cells, u.oneCell' = true := by
  intro u hu
  obtain ⟨x, _, hx⟩ := List.mem_flatMap.1 hu
  exact inst_one x u hx
/-- The cells of a slice of instructions, in one row. -/
theorem insts_row {w : World} {b off c : Nat} {l : List InstD} (h : Sl InstR 7 w (some ⟨b, off, none⟩) c l) : ∀ j u, (l.flatMap InstD.cells)[j]? = some u → w.cell? ((⟨b, off, none⟩ : Addr).add j) = some u := by
  intro j u hu
  have hlen : ∀ x : InstD, (InstD.cells x).length = 7 := fun _ => rfl
  have hj : j < l.length * 7 := by rw [← flat_lenP InstD.cells 7 hlen l]; exact (List.getElem?_eq_some_iff.1 hu).1
  have hi : j / 7 < l.length := by omega
  have e := flat_getP InstD.cells 7 hlen l (j / 7) (j % 7) hi (Nat.mod_lt _ (by decide))
  rw [show j / 7 * 7 + j % 7 = j by omega, hu] at e
  rw [Addr.add_lit]
  obtain ⟨b', off', cs, e', -, ⟨rfl, -⟩, hc⟩ := h.get (j / 7) hi
  simp at e'; obtain ⟨rfl, rfl⟩ := e'
  have := hc (j % 7) u e.symm
  rwa [show off + j / 7 * 7 + j % 7 = off + j by omega] at this
theorem own_not {X : World} {b s n : Nat} {t t2 : TypeId} {v : Value} {xs : List Value} (h : X.ownsRow b t s v n xs) {D : Nat} {cur : Array Value} (hD : X.heap[D]? = some (.cells cur t2 (0, 0))) (ht : t ≠ t2) : v.ownBlock ≠ some D := by
  intro e
  rcases h.2 with ⟨rfl, _⟩ | ⟨g, cap, cur', rfl, _, hh, _⟩
  · cases e
  · have : g = D := by simpa [Value.ownBlock] using e
    subst this
    rw [hh] at hD
    simp only [Option.some.injEq, Obj.cells.injEq] at hD
    exact ht hD.2.1
/-- 'append' of instructions onto nothing. -/
theorem app_insts (ty : TypeId) {X : World} {A : Option Addr} {m c base : Nat} {l : List InstD} (h : Sl InstR 7 X A c l) (hm : l.length = m) (hx : m ≤ 4096) (hb : base ≤ X.heap.size) :
    ∃ v' w', (Builtin.append_ #[29, 29] ty #[.slice none 0 0, .slice A m c]).run Try.prog X = .ok v' w' ∧ w'.ownsRow base 32 7 v' m (l.flatMap InstD.cells) ∧ Bel X w' ∧ (v'.ownBlock = none ∨ v'.ownBlock = some X.heap.size) ∧ ∃ A' c', v' = .slice A' m c' := by
  obtain ⟨i0, hi, hzz⟩ := Option.map_eq_some_iff.1 info_inst
  simp only [Prod.mk.injEq] at hzz
  obtain ⟨hz0, hz1, hz2⟩ := hzz
  have ho : X.ownsRow base 32 7 (.slice none 0 0) 0 [] := ⟨by simp, .inl ⟨rfl, rfl⟩⟩
  cases A with
  | none =>
    have h0 : m = 0 := by
      rcases Nat.eq_zero_or_pos m with h0 | h0
      · exact h0
      · obtain ⟨b, o, e⟩ := h.addr (by rw [hm]; exact h0)
        cases e
    subst h0
    have hl : l = [] := List.eq_nil_of_length_eq_zero hm
    subst hl
    refine ⟨.slice none 0 0, X, ?_, ho, Bel.refl _, .inl rfl, none, 0, rfl⟩
    simp [Builtin.append_, run_underlying Try.underlying29, sizeOf, typeInfo, hi, Builtin.lenOf, Builtin.firstCells]
  | some a =>
    have hcells : ∀ j u, (l.flatMap InstD.cells)[j]? = some u → X.cell? (a.add j) = some u := by
      intro j u hu
      by_cases h0 : 0 < l.length
      · obtain ⟨b, o, e⟩ := h.addr h0
        cases e
        exact insts_row h j u hu
      · have hl : l = [] := List.eq_nil_of_length_eq_zero (by omega)
        subst hl
        simp at hu
    obtain ⟨v', w', hr, h2, h3, _, h5⟩ := run_append_own_at (P := Try.prog) X base _ ty 32 i0 _ 7 56 Try.underlying29 hi hz0 hz1 hz2 rfl (by decide) (.slice none 0 0) 0 [] ho a m c (l.flatMap InstD.cells) (by rw [flat7, hm]) hcells (insts_one l) (by simp only [maxLen]; omega) (by omega) hb
    rw [Nat.zero_add, List.nil_append] at h2
    exact ⟨v', w', hr, h2, (Bel.refl X).grown h3 (fun k hk => by simp [Value.ownBlock] at hk), h5, own_slice h2⟩
/-- The codes lie in blocks of their own. -/
def Apart (zs : List (FnD × Value)) : Prop := zs.Pairwise fun a b => a.2.ownBlock ≠ none → a.2.ownBlock ≠ b.2.ownBlock
theorem own_ltN {X : World} {b s n : Nat} {t : TypeId} {v : Value} {xs : List Value} (h : X.ownsRow b t s v n xs) {k : Nat} (hk : v.ownBlock = some k) : k < X.heap.size := by
  rcases h.2 with ⟨rfl, _⟩ | ⟨g, cap, cur, rfl, _, hh, _⟩
  · simp [Value.ownBlock] at hk
  · have : g = k := by simpa [Value.ownBlock] using hk
    subst this
    exact (Array.getElem?_eq_some_iff.1 hh).1
theorem Apart.push {zs : List (FnD × Value)} {z : FnD × Value} {X : World} {base : Nat} (h : Apart zs) (hc : ∀ y ∈ zs, X.ownsRow base 32 7 y.2 y.1.code.length (y.1.code.flatMap InstD.cells)) (hz : z.2.ownBlock = none ∨ z.2.ownBlock = some X.heap.size) : Apart (zs ++ [z]) := by
  unfold Apart at h ⊢
  rw [List.pairwise_append]
  refine ⟨h, List.pairwise_singleton _ _, fun a ha b hb hne e => ?_⟩
  obtain rfl := List.mem_singleton.1 hb
  rcases hz with hz | hz
  · exact hne (e.trans hz)
  · have := own_ltN (hc a ha) (e.trans hz)
    omega
/-- What a round of Own's loop knows. -/
structure OwnI (w : World) (g R Pb base : Nat) (pv : Value) (zs : List (FnD × Value)) (v : Value) (X : World) : Prop where
  bel : Bel w X
  pb : Blk X g 24 #[pv]
  res : Blk X R 24 #[.slice none 0 0]
  box : Blk X Pb 24 #[v]
  own : X.ownsRow base 34 2 v zs.length (zs.flatMap fnc)
  codes : ∀ z ∈ zs, X.ownsRow base 32 7 z.2 z.1.code.length (z.1.code.flatMap InstD.cells)
  apart : Apart zs
theorem OwnI.mono {w : World} {g R Pb base : Nat} {pv : Value} {zs : List (FnD × Value)} {v : Value} {X Y : World} (h : OwnI w g R Pb base pv zs v X) (hb : Bel X Y) : OwnI w g R Pb base pv zs v Y :=
  ⟨h.bel.trans hb, h.pb.bel hb, h.res.bel hb, h.box.bel hb, own_bel h.own hb, fun z hz => own_bel (h.codes z hz) hb, h.apart⟩
theorem OwnI.push {w : World} {g R Pb base : Nat} {pv : Value} {zs : List (FnD × Value)} {v v' : Value} {X Y : World} {z : FnD × Value} {n : Nat} (h : OwnI w g R Pb base pv zs v X) (hP : Pb < base) (hgP : g ≠ Pb) (hRP : R ≠ Pb) (hwP : w.heap.size ≤ Pb) (hn : n = zs.length + 1) (hz : X.ownsRow base 32 7 z.2 z.1.code.length (z.1.code.flatMap InstD.cells)) (ha : Apart (zs ++ [z])) (ho : Y.ownsRow base 34 2 v' n (zs.flatMap fnc ++ fnc z)) (hg : X.grownBy Y v.ownBlock) : OwnI w g R Pb base pv (zs ++ [z]) v' (Y.setCell ⟨Pb, 0, none⟩ v') := by
  subst hn
  refine ⟨(row_low h.own w (by omega) h.bel hg).setCell (p := ⟨Pb, 0, none⟩) hwP v', (blk_grown h.pb h.own (by decide) hg).other (p := ⟨Pb, 0, none⟩) hgP v', (blk_grown h.res h.own (by decide) hg).other (p := ⟨Pb, 0, none⟩) hRP v', Blk.set (cs := #[v]) (blk_grown h.box h.own (by decide) hg) 0 v', ?_, ?_, ha⟩
  · rw [List.length_append, List.flatMap_append, List.flatMap_singleton]
    exact own_set ho hP v'
  · intro y hy
    rcases List.mem_append.1 hy with hy | hy
    · exact own_set (own_grown (h.codes y hy) h.own (by decide) hg) hP v'
    · obtain rfl := List.mem_singleton.1 hy
      exact own_set (own_grown hz h.own (by decide) hg) hP v'
/-- What Own tells. -/
structure OwnR (w : World) (zs : List (FnD × Value)) (v : Value) (X : World) : Prop where
  bel : Bel w X
  own : X.ownsRow w.heap.size 34 2 v zs.length (zs.flatMap fnc)
  codes : ∀ z ∈ zs, X.ownsRow w.heap.size 32 7 z.2 z.1.code.length (z.1.code.flatMap InstD.cells)
  apart : Apart zs
theorem OwnI.done {w : World} {g R Pb base : Nat} {pv : Value} {zs : List (FnD × Value)} {v : Value} {X : World} (h : OwnI w g R Pb base pv zs v X) (hb : w.heap.size ≤ base) (hR : R < base) (hwR : w.heap.size ≤ R) (u : Value) : OwnR w zs v (X.setCell ⟨R, 0, none⟩ u) :=
  ⟨h.bel.setCell (p := ⟨R, 0, none⟩) hwR u, own_mono (own_set h.own hR u) hb, fun z hz => own_mono (own_set (h.codes z hz) hR u) hb, h.apart⟩
/-- What the region reads. -/
structure OwnS (w : World) (g Pb : Nat) (pv v : Value) (X : World) : Prop where
  bel : Bel w X
  pb : X.cell? ⟨g, 0, none⟩ = some pv
  fz : Fz Pb v X
theorem OwnI.s {w : World} {g R Pb base : Nat} {pv : Value} {zs : List (FnD × Value)} {v : Value} {X : World} (h : OwnI w g R Pb base pv zs v X) : OwnS w g Pb pv v X := ⟨h.bel, h.pb.cell 0 rfl, h.box.cell 0 rfl, h.box.frozen 0⟩
theorem OwnS.mono {w : World} {g Pb : Nat} {pv v : Value} {X Y : World} (h : OwnS w g Pb pv v X) (hb : Bel X Y) : OwnS w g Pb pv v Y := ⟨h.bel.trans hb, hb.cell h.pb, h.fz.bel hb⟩
set_option maxHeartbeats 8000000 in
set_option maxRecDepth 100000 in
theorem own_any (A : Option Addr) (c n : Nat) (L : List FnD) (w : World) (hL : Sl FnR 2 w A c L) (hn : Hid (L.length = n)) (hs : n ≤ 4000) (hsm : Hid (∀ f ∈ L, f.code.length ≤ 4000)) :
    Calls Try.prog 8 #[.agg #[.slice A n c]] w fun e w' => ∃ zs v, e = .returned (.agg #[v]) ∧ zs.map Prod.fst = L ∧ OwnR w zs v w' := by
  have HL := Lib.hid hL
  have HI0 : Hid (OwnI w w.heap.size (w.heap.size + 1) (w.heap.size + 1 + 1) (w.heap.size + 1 + 1 + 1) (.slice A n c) [] (.slice none 0 0) (((w.alloc (.cells #[.slice A n c] 24)).alloc (.cells #[.slice none 0 0] 24)).alloc (.cells #[.slice none 0 0] 24))) := Lib.hid (by
    have k1 := Blk.new (w.alloc (.cells #[.slice A n c] 24)) 24 #[.slice none 0 0]
    have k2 := Blk.new ((w.alloc (.cells #[.slice A n c] 24)).alloc (.cells #[.slice none 0 0] 24)) 24 #[.slice none 0 0]
    rw [World.size_alloc] at k1
    rw [World.size_alloc, World.size_alloc] at k2
    exact ⟨(((Bel.refl w).alloc _).alloc _).alloc _, ((Blk.new w 24 #[.slice A n c]).alloc _).alloc _, k1.alloc _, k2, ⟨by simp, .inl ⟨rfl, rfl⟩⟩, fun z hz => (by cases hz), List.Pairwise.nil⟩)
  have hbw0 : w.heap.size + 1 + 1 + 1 ≤ (((w.alloc (.cells #[.slice A n c] 24)).alloc (.cells #[.slice none 0 0] 24)).alloc (.cells #[.slice none 0 0] 24)).heap.size := by simp
  clear hL
  go_enter Try.func8, Try.ntmps8
  go_wp2_with fail
  generalize ((w.alloc (.cells #[.slice A n c] 24)).alloc (.cells #[.slice none 0 0] 24)).alloc (.cells #[.slice none 0 0] 24) = W1 at *
  obtain ⟨g, hg⟩ : ∃ g, w.heap.size = g := ⟨_, rfl⟩
  obtain ⟨R, hR⟩ : ∃ R, w.heap.size + 1 = R := ⟨_, rfl⟩
  obtain ⟨Pb, hPb⟩ : ∃ Pb, w.heap.size + 1 + 1 = Pb := ⟨_, rfl⟩
  have hgR : g + 1 = R := by omega
  have hRP : R + 1 = Pb := by omega
  have hwP : w.heap.size ≤ Pb := by omega
  have hwR : w.heap.size ≤ R := by omega
  rw [hPb] at HI0 hbw0
  rw [hR] at HI0
  simp only [hPb]
  simp only [hR]
  rw [hg] at HI0
  simp only [hg]
  clear hPb hR
  have hwg : w.heap.size ≤ g := by omega
  clear hg
  have hPb : Pb < Pb + 1 := by omega
  go_loopw [4] (fun iv wr => ∃ (i : Nat) (zs : List (FnD × Value)) (v : Value), iv = .int .i64 i ∧ i ≤ n ∧ zs.map Prod.fst = L.take i ∧ OwnI w g R Pb (Pb + 1) (.slice A n c) zs v wr ∧ Pb + 1 ≤ wr.heap.size) (fun iv _ => n - (intOf iv).toNat)
  case atStart => exact ⟨0, [], _, rfl, by omega, by simp, HI0.out, hbw0⟩
  case round =>
    clear HI0 hbw0
    obtain ⟨i, zs, v, rfl, hin, hzs, hi, hbw⟩ := hrel
    have HII := Lib.hid hi
    have HZS := Lib.hid hzs
    have q1 := hi.pb.cell 0 (v := .slice A n c) rfl
    have HZ : Hid (zs.length = i) := Lib.hid (by
      have := congrArg List.length hzs
      rw [List.length_map, List.length_take, hn.out] at this
      omega)
    clear hi hzs
    by_cases hend : i = n
    · subst hend
      have p0 := HII.out.box.cell 0 (v := v) rfl
      have r0 := HII.out.res.cell 0 (v := .slice none 0 0) rfl
      have f0 := HII.out.res.frozen 0
      obtain ⟨AV, cV, rfl⟩ := own_slice HII.out.own
      have E1 : Hid ((wr.setCell ⟨R, 0, none⟩ (.slice AV zs.length cV)).cell? ⟨R, 0, none⟩ = some (.slice AV zs.length cV)) := Lib.hid ((Blk.set (cs := #[.slice none 0 0]) HII.out.res 0 (.slice AV zs.length cV)).cell 0 rfl)
      have HD := Lib.hid (HII.out.done (by omega) (by omega) hwR (.slice AV zs.length cV))
      have HE : Hid (zs.map Prod.fst = L) := Lib.hid (by rw [HZS.out, List.take_of_length_le (by rw [hn.out]; exact Nat.le_refl _)])
      go_wp2_with fail
      refine bodyPost_ret (v := .agg #[.slice AV zs.length cV]) ?_ rfl ⟨zs, _, rfl, HE.out, HD.out⟩
      have h1 := E1.out
      simp [results, Try.results8, go_sem, h1]
    · have hi1 : i < n := by omega
      have hiL : i < L.length := by rw [hn.out]; exact hi1
      have hi2 : (i : Int) < n := by omega
      have hi3 : ¬ (i : Int) < 0 := by omega
      have hi4 : ¬ (n : Int) ≤ i := by omega
      have ei : IntKind.i64.wrap ((i : Int) + 1) = ((i + 1 : Nat) : Int) := by rw [wrap_i64 (by omega) (by omega)]; omega
      obtain ⟨b, o, rfl⟩ := HL.out.addr (by omega)
      obtain ⟨Ak, ck, d0, d1, hsk⟩ := fn_cells HL.out i hiL
      obtain ⟨lk, HLK⟩ : ∃ lk, Hid ((L[i]).code.length = lk) := ⟨_, Lib.hid rfl⟩
      have hlk : lk ≤ 4096 := by
        have := hsm.out _ (List.getElem_mem hiL)
        rw [HLK.out] at this
        omega
      rw [HLK.out] at d1
      have HSK := Lib.hid hsk
      have HTK : Hid ((zs ++ [(L[i], Value.slice none 0 0)]).map Prod.fst = L.take (i + 1)) := Lib.hid (by rw [List.map_append, HZS.out, List.map_singleton, List.take_succ_eq_append_getElem hiL])
      clear hsk hend
      go_wp2_with fail
      have HIX := Lib.hid (HII.out.mono ((Bel.refl wr).drew))
      have SD := HIX.out.s
      have hbX : Pb + 1 ≤ wr.drew.heap.size := Nat.le_trans hbw ((Bel.refl wr).drew).size
      have P0 := fun (w' : World) (h : OwnS w g Pb (.slice (some ⟨b, o, none⟩) n c) v w') => h.fz.c
      have P1 := fun (w' : World) (h : OwnS w g Pb (.slice (some ⟨b, o, none⟩) n c) v w') => h.fz.f
      have P2 := fun (w' : World) (h : OwnS w g Pb (.slice (some ⟨b, o, none⟩) n c) v w') => h.pb
      have D0 := fun (w' : World) (h : OwnS w g Pb (.slice (some ⟨b, o, none⟩) n c) v w') => h.bel.cell d0
      have D1 := fun (w' : World) (h : OwnS w g Pb (.slice (some ⟨b, o, none⟩) n c) v w') => h.bel.cell d1
      clear d0 d1
      refine wp_region_T (fun w' => OwnS w g Pb (.slice (some ⟨b, o, none⟩) n c) v w') (fun j => j == 19) (by kernel_rfl) ?_
      refine wpAnyU_take (i := 0) (v := ?v0) rfl (by kernel_rfl) (by kernel_rfl) (by kernel_rfl) (by kernel_rfl) (fun _ _ _ h => h) ?hy0 SD ?rest0
      case hy0 => first | (refine Or.inl ⟨by rfl, ?_⟩; (intro w' hSw; go_simp) <;> with_reducible rfl) | (refine Or.inr ⟨by rfl, ?_⟩; with_reducible rfl)
      try simp only [List.getElem_toArray, List.getElem_cons_zero, List.getElem_cons_succ, Act.put, List.setIfInBounds_toArray, List.set_cons_zero, List.set_cons_succ]
      refine wpAnyU_take (i := 1) (v := ?v1) rfl (by kernel_rfl) (by kernel_rfl) (by kernel_rfl) (by kernel_rfl) (fun _ _ _ h => h) ?hy1 SD ?rest1
      case hy1 => first | (refine Or.inl ⟨by rfl, ?_⟩; (intro w' hSw; go_simp) <;> with_reducible rfl) | (refine Or.inr ⟨by rfl, ?_⟩; with_reducible rfl)
      try simp only [List.getElem_toArray, List.getElem_cons_zero, List.getElem_cons_succ, Act.put, List.setIfInBounds_toArray, List.set_cons_zero, List.set_cons_succ]
      refine wpAnyU_take (i := 2) (v := ?v2) rfl (by kernel_rfl) (by kernel_rfl) (by kernel_rfl) (by kernel_rfl) (fun _ _ _ h => h) ?hy2 SD ?rest2
      case hy2 => first | (refine Or.inl ⟨by rfl, ?_⟩; (intro w' hSw; go_simp) <;> with_reducible rfl) | (refine Or.inr ⟨by rfl, ?_⟩; with_reducible rfl)
      try simp only [List.getElem_toArray, List.getElem_cons_zero, List.getElem_cons_succ, Act.put, List.setIfInBounds_toArray, List.set_cons_zero, List.set_cons_succ]
      refine wpAnyU_take (i := 3) (v := ?v3) rfl (by kernel_rfl) (by kernel_rfl) (by kernel_rfl) (by kernel_rfl) (fun _ _ _ h => h) ?hy3 SD ?rest3
      case hy3 => first | (refine Or.inl ⟨by rfl, ?_⟩; (intro w' hSw; go_simp) <;> with_reducible rfl) | (refine Or.inr ⟨by rfl, ?_⟩; with_reducible rfl)
      try simp only [List.getElem_toArray, List.getElem_cons_zero, List.getElem_cons_succ, Act.put, List.setIfInBounds_toArray, List.set_cons_zero, List.set_cons_succ]
      refine wpAnyU_take (i := 4) (v := ?v4) rfl (by kernel_rfl) (by kernel_rfl) (by kernel_rfl) (by kernel_rfl) (fun _ _ _ h => h) ?hy4 SD ?rest4
      case hy4 => first | (refine Or.inl ⟨by rfl, ?_⟩; (intro w' hSw; go_simp) <;> with_reducible rfl) | (refine Or.inr ⟨by rfl, ?_⟩; with_reducible rfl)
      try simp only [List.getElem_toArray, List.getElem_cons_zero, List.getElem_cons_succ, Act.put, List.setIfInBounds_toArray, List.set_cons_zero, List.set_cons_succ]
      refine wpAnyU_take (i := 5) (v := ?v5) rfl (by kernel_rfl) (by kernel_rfl) (by kernel_rfl) (by kernel_rfl) (fun _ _ _ h => h) ?hy5 SD ?rest5
      case hy5 => first | (refine Or.inl ⟨by rfl, ?_⟩; (intro w' hSw; go_simp) <;> with_reducible rfl) | (refine Or.inr ⟨by rfl, ?_⟩; with_reducible rfl)
      try simp only [List.getElem_toArray, List.getElem_cons_zero, List.getElem_cons_succ, Act.put, List.setIfInBounds_toArray, List.set_cons_zero, List.set_cons_succ]
      refine wpAnyU_take (i := 6) (v := ?v6) rfl (by kernel_rfl) (by kernel_rfl) (by kernel_rfl) (by kernel_rfl) (fun _ _ _ h => h) ?hy6 SD ?rest6
      case hy6 => first | (refine Or.inl ⟨by rfl, ?_⟩; (intro w' hSw; go_simp) <;> with_reducible rfl) | (refine Or.inr ⟨by rfl, ?_⟩; with_reducible rfl)
      try simp only [List.getElem_toArray, List.getElem_cons_zero, List.getElem_cons_succ, Act.put, List.setIfInBounds_toArray, List.set_cons_zero, List.set_cons_succ]
      refine wpAnyU_take (i := 7) (v := ?v7) rfl (by kernel_rfl) (by kernel_rfl) (by kernel_rfl) (by kernel_rfl) (fun _ _ _ h => h) ?hy7 SD ?rest7
      case hy7 => first | (refine Or.inl ⟨by rfl, ?_⟩; (intro w' hSw; go_simp) <;> with_reducible rfl) | (refine Or.inr ⟨by rfl, ?_⟩; with_reducible rfl)
      try simp only [List.getElem_toArray, List.getElem_cons_zero, List.getElem_cons_succ, Act.put, List.setIfInBounds_toArray, List.set_cons_zero, List.set_cons_succ]
      refine wpAnyU_take (i := 8) (v := ?v8) rfl (by kernel_rfl) (by kernel_rfl) (by kernel_rfl) (by kernel_rfl) (fun _ _ _ h => h) ?hy8 SD ?rest8
      case hy8 => first | (refine Or.inl ⟨by rfl, ?_⟩; (intro w' hSw; go_simp) <;> with_reducible rfl) | (refine Or.inr ⟨by rfl, ?_⟩; with_reducible rfl)
      try simp only [List.getElem_toArray, List.getElem_cons_zero, List.getElem_cons_succ, Act.put, List.setIfInBounds_toArray, List.set_cons_zero, List.set_cons_succ]
      refine wpAnyU_take (i := 9) (v := ?v9) rfl (by kernel_rfl) (by kernel_rfl) (by kernel_rfl) (by kernel_rfl) (fun _ _ _ h => h) ?hy9 SD ?rest9
      case hy9 => first | (refine Or.inl ⟨by rfl, ?_⟩; (intro w' hSw; go_simp) <;> with_reducible rfl) | (refine Or.inr ⟨by rfl, ?_⟩; with_reducible rfl)
      try simp only [List.getElem_toArray, List.getElem_cons_zero, List.getElem_cons_succ, Act.put, List.setIfInBounds_toArray, List.set_cons_zero, List.set_cons_succ]
      refine wpAnyU_take (i := 10) (v := ?v10) rfl (by kernel_rfl) (by kernel_rfl) (by kernel_rfl) (by kernel_rfl) (fun _ _ _ h => h) ?hy10 SD ?rest10
      case hy10 => first | (refine Or.inl ⟨by rfl, ?_⟩; (intro w' hSw; go_simp) <;> with_reducible rfl) | (refine Or.inr ⟨by rfl, ?_⟩; with_reducible rfl)
      try simp only [List.getElem_toArray, List.getElem_cons_zero, List.getElem_cons_succ, Act.put, List.setIfInBounds_toArray, List.set_cons_zero, List.set_cons_succ]
      refine wpAnyU_take (i := 11) (v := ?v11) rfl (by kernel_rfl) (by kernel_rfl) (by kernel_rfl) (by kernel_rfl) (fun _ _ _ h => h) ?hy11 SD ?rest11
      case hy11 => first | (refine Or.inl ⟨by rfl, ?_⟩; (intro w' hSw; go_simp) <;> with_reducible rfl) | (refine Or.inr ⟨by rfl, ?_⟩; with_reducible rfl)
      try simp only [List.getElem_toArray, List.getElem_cons_zero, List.getElem_cons_succ, Act.put, List.setIfInBounds_toArray, List.set_cons_zero, List.set_cons_succ]
      refine wpAnyU_take (i := 12) (v := ?v12) rfl (by kernel_rfl) (by kernel_rfl) (by kernel_rfl) (by kernel_rfl) (fun _ _ _ h => h) ?hy12 SD ?rest12
      case hy12 => first | (refine Or.inl ⟨by rfl, ?_⟩; (intro w' hSw; go_simp) <;> with_reducible rfl) | (refine Or.inr ⟨by rfl, ?_⟩; with_reducible rfl)
      try simp only [List.getElem_toArray, List.getElem_cons_zero, List.getElem_cons_succ, Act.put, List.setIfInBounds_toArray, List.set_cons_zero, List.set_cons_succ]
      refine wpAnyU_take (i := 13) (v := ?v13) rfl (by kernel_rfl) (by kernel_rfl) (by kernel_rfl) (by kernel_rfl) (fun _ _ _ h => h) ?hy13 SD ?rest13
      case hy13 => first | (refine Or.inl ⟨by rfl, ?_⟩; (intro w' hSw; go_simp) <;> with_reducible rfl) | (refine Or.inr ⟨by rfl, ?_⟩; with_reducible rfl)
      try simp only [List.getElem_toArray, List.getElem_cons_zero, List.getElem_cons_succ, Act.put, List.setIfInBounds_toArray, List.set_cons_zero, List.set_cons_succ]
      refine wpAnyT_one (i := 14) (by kernel_rfl) rfl (fun K hK => ?_)
      refine step_append_run (by rfl) _ _ _ (by rfl) (.slice none 0 0) (.slice Ak lk ck) (by rfl) (by rfl) _ (app_insts (base := Pb + 1) _ (HSK.out.mono InstR.mono HIX.out.bel) HLK.out hlk hbX) ?_
      rintro v5 w5 ⟨ho5, hb5, hn5, A5, c5, hv5⟩
      subst hv5
      have HI5 := Lib.hid (HIX.out.mono hb5)
      have S5 := HI5.out.s
      have HAP := Lib.hid (HIX.out.apart.push (z := (L[i], .slice A5 lk c5)) HIX.out.codes hn5)
      have HO5 := Lib.hid ho5
      have hb5w := Nat.le_trans hbX hb5.size
      clear ho5 hb5 hn5
      refine hK.out _ _ (fun _ => S5) ?_
      clear hK K
      try simp only [List.getElem_toArray, List.getElem_cons_zero, List.getElem_cons_succ, Act.put, List.setIfInBounds_toArray, List.set_cons_zero, List.set_cons_succ]
      refine wpAnyU_take (i := 15) (v := ?v15) rfl (by kernel_rfl) (by kernel_rfl) (by kernel_rfl) (by kernel_rfl) (fun _ _ _ h => h) ?hy15 S5 ?rest15
      case hy15 => first | (refine Or.inl ⟨by rfl, ?_⟩; (intro w' hSw; go_simp) <;> with_reducible rfl) | (refine Or.inr ⟨by rfl, ?_⟩; with_reducible rfl)
      try simp only [List.getElem_toArray, List.getElem_cons_zero, List.getElem_cons_succ, Act.put, List.setIfInBounds_toArray, List.set_cons_zero, List.set_cons_succ]
      refine wpAnyT_one (i := 16) (by kernel_rfl) rfl (fun K hK => ?_)
      go_simp
      refine hK.out _ _ (fun _ => S5.mono ((Bel.refl w5).alloc _)) ?_
      clear hK K
      try simp only [List.getElem_toArray, List.getElem_cons_zero, List.getElem_cons_succ, Act.put, List.setIfInBounds_toArray, List.set_cons_zero, List.set_cons_succ]
      refine wpAnyT_one (i := 17) (by kernel_rfl) rfl (fun K hK => ?_)
      refine step_append_run (by rfl) _ _ _ (by rfl) v (.slice (some ⟨w5.heap.size, 0, none⟩) 1 1) (by rfl) (by rfl) _ (app_fn _ (HI5.out.mono ((Bel.refl w5).alloc _)).own (by rw [HZ.out]; omega) w5.heap.size rfl (fun j u hu => cells_new w5 #[.int .i64 (L[i]).args, .slice A5 lk c5] 34 j u hu) (Nat.le_trans hb5w ((Bel.refl w5).alloc (.cells #[.int .i64 (L[i]).args, .slice A5 lk c5] 34)).size)) ?_
      rintro v8 w8 ⟨ho8, hg8, g8, c8, hv8⟩
      subst hv8
      have HI8 := Lib.hid ((HI5.out.mono ((Bel.refl w5).alloc (.cells #[.int .i64 (L[i]).args, .slice A5 lk c5] 34))).push (z := (L[i], .slice A5 lk c5)) hPb (by omega) (by omega) hwP rfl (by rw [HLK.out]; exact own_bel HO5.out ((Bel.refl w5).alloc _)) HAP.out ho8 hg8)
      have hb8w : Pb + 1 ≤ w8.heap.size := Nat.le_trans hb5w (Nat.le_trans ((Bel.refl w5).alloc (.cells #[.int .i64 (L[i]).args, .slice A5 lk c5] 34)).size hg8.size)
      have S8 : OwnS w g Pb (.slice (some ⟨b, o, none⟩) n c) v w8 := by
        have HH := HI5.out.mono ((Bel.refl w5).alloc (.cells #[.int .i64 (L[i]).args, .slice A5 lk c5] 34))
        have k1 := blk_grown HH.pb HH.own (by decide) hg8
        have k2 := blk_grown HH.box HH.own (by decide) hg8
        exact ⟨row_low HH.own w (by omega) HH.bel hg8, k1.cell 0 rfl, k2.cell 0 rfl, k2.frozen 0⟩
      clear ho8 hg8
      refine hK.out _ _ (fun _ => S8) ?_
      clear hK K
      try simp only [List.getElem_toArray, List.getElem_cons_zero, List.getElem_cons_succ, Act.put, List.setIfInBounds_toArray, List.set_cons_zero, List.set_cons_succ]
      refine wpAnyU_take (i := 18) (v := ?v18) rfl (by kernel_rfl) (by kernel_rfl) (by kernel_rfl) (by kernel_rfl) (fun _ _ _ h => h) ?hy18 S8 ?rest18
      case hy18 => first | (refine Or.inl ⟨by rfl, ?_⟩; (intro w' hSw; go_simp) <;> with_reducible rfl) | (refine Or.inr ⟨by rfl, ?_⟩; with_reducible rfl)
      try simp only [List.getElem_toArray, List.getElem_cons_zero, List.getElem_cons_succ, Act.put, List.setIfInBounds_toArray, List.set_cons_zero, List.set_cons_succ]
      refine wpAnyT_one (i := 19) (by kernel_rfl) rfl (fun K hK => ?_)
      go_simp
      refine hK.out _ _ (fun h => absurd h (by decide)) ?_
      clear hK K
      try simp only [List.getElem_toArray, List.getElem_cons_zero, List.getElem_cons_succ, Act.put, List.setIfInBounds_toArray, List.set_cons_zero, List.set_cons_succ]
      refine wpAnyT_done (by kernel_rfl) ?_ _
      refine NoPanic.normal ?_
      clear SD S5 S8 P0 P1 P2 D0 D1
      go_wp2
      go_roundw
      case rel => exact ⟨i + 1, zs ++ [(L[i], .slice A5 lk c5)], _, rfl, by omega, by have := HTK.out; rw [List.map_append, List.map_singleton] at this ⊢; exact this, HI8.out, by rw [setCell_size]; exact hb8w⟩
      case measure => simp [intOf]; omega
def FnWf (f : FnD) : Prop := (∀ i ∈ f.code, i.Wf) ∧ (Lit.int .i64 f.args).wf = true
theorem few_facts {L : List FnD} (h : fewB L = true) : L.length ≤ 12 ∧ ∀ f ∈ L, f.code.length ≤ 80 := by
  unfold fewB at h
  rw [Bool.and_eq_true, List.all_eq_true] at h
  exact ⟨of_decide_eq_true h.1, fun f hf => of_decide_eq_true (h.2 f hf)⟩
theorem sl_wf {w : World} {A : Option Addr} {c : Nat} {L : List FnD} (h : Sl FnR 2 w A c L) : ∀ f ∈ L, FnWf f := by
  intro f hf
  obtain ⟨j, hj, rfl⟩ := List.mem_iff_getElem.1 hf
  obtain ⟨b, off, cs, -, -, ⟨A', c', -, hs, hw⟩, -⟩ := h.get j hj
  refine ⟨fun i hi => ?_, hw⟩
  obtain ⟨k, hk, rfl⟩ := List.mem_iff_getElem.1 hi
  obtain ⟨b', off', cs', -, -, ⟨-, hh⟩, -⟩ := hs.get k hk
  exact hh
theorem codes_wf {w : World} {A : Option Addr} {c : Nat} {l : List InstD} (h : Sl InstR 7 w A c l) : ∀ i ∈ l, i.Wf := by
  intro i hi
  obtain ⟨k, hk, rfl⟩ := List.mem_iff_getElem.1 hi
  obtain ⟨b', off', cs', -, -, ⟨-, hh⟩, -⟩ := h.get k hk
  exact hh
theorem fnR_own {X : World} {base : Nat} {z : FnD × Value} (h : X.ownsRow base 32 7 z.2 z.1.code.length (z.1.code.flatMap InstD.cells)) (hw : FnWf z.1) : FnR X (fnc z) z.1 := by
  obtain ⟨A', c', e, hs⟩ := sl_of_rows (R := InstR) InstD.cells (fun _ => rfl) id h (fun i hi => ⟨rfl, hw.1 i hi⟩)
  rw [List.map_id] at hs
  exact ⟨A', c', by rw [← e]; rfl, hs, hw.2⟩
theorem fns_of_own {X : World} {base : Nat} {v : Value} {zs : List (FnD × Value)} (h : X.ownsRow base 34 2 v zs.length (zs.flatMap fnc)) (hz : ∀ z ∈ zs, FnR X (fnc z) z.1) : ∃ A c, v = .slice A zs.length c ∧ Sl FnR 2 X A c (zs.map Prod.fst) :=
  sl_of_rows (R := FnR) fnc (fun _ => rfl) Prod.fst h hz
theorem OwnR.mono {w : World} {zs : List (FnD × Value)} {v : Value} {X Y : World} (h : OwnR w zs v X) (hb : Bel X Y) : OwnR w zs v Y :=
  ⟨h.bel.trans hb, own_bel h.own hb, fun z hz => own_bel (h.codes z hz) hb, h.apart⟩
theorem OwnR.sl {w : World} {zs : List (FnD × Value)} {v : Value} {X : World} (h : OwnR w zs v X) (hw : ∀ f ∈ zs.map Prod.fst, FnWf f) : ∃ A c, v = .slice A zs.length c ∧ Sl FnR 2 X A c (zs.map Prod.fst) :=
  fns_of_own h.own fun z hz => fnR_own (h.codes z hz) (hw _ (List.mem_map_of_mem hz))
theorem blk_not {X : World} {q : Nat} {cs cur : Array Value} {t1 t2 : TypeId} {g : Nat} (h : Blk X q t1 cs) (hg : X.heap[g]? = some (.cells cur t2 (0, 0))) (ht : t1 ≠ t2) : q ≠ g := by
  rintro rfl
  have e : X.heap[q]? = some (.cells cs t1 (0, 0)) := h
  rw [hg] at e
  simp only [Option.some.injEq, Obj.cells.injEq] at e
  exact ht e.2.1.symm
/-- One function more, behind. -/
theorem OwnR.push {w : World} {zs : List (FnD × Value)} {v v' : Value} {X Y : World} {f : FnD} {B : Option Addr} {cf q n : Nat} {A0 : Value} (h : OwnR w zs v X) (hq : Blk X q 24 #[A0]) (hwq : w.heap.size ≤ q) (hw : ∀ f ∈ zs.map Prod.fst, FnWf f) (hf : Sl InstR 7 w B cf f.code) (hfw : (Lit.int .i64 f.args).wf = true)
    (ho : Y.ownsRow w.heap.size 34 2 v' n (zs.flatMap fnc ++ [.int .i64 f.args, .slice B f.code.length cf])) (hn : n = zs.length + 1) (hg : X.grownBy Y v.ownBlock) :
    (∃ A' c', v' = .slice A' n c' ∧ Sl FnR 2 (Y.setCell ⟨q, 0, none⟩ v') A' c' (zs.map Prod.fst ++ [f])) ∧ Bel w (Y.setCell ⟨q, 0, none⟩ v') ∧ Blk (Y.setCell ⟨q, 0, none⟩ v') q 24 #[v'] := by
  subst hn
  have hqY : Blk Y q 24 #[A0] := blk_grown hq h.own (by decide) hg
  have hbY : Bel w Y := row_low h.own w (Nat.le_refl _) h.bel hg
  have hb2 : Bel w (Y.setCell ⟨q, 0, none⟩ v') := hbY.setCell (p := ⟨q, 0, none⟩) hwq v'
  have hq0 : Y.heap[q]? = some (.cells #[A0] 24 (0, 0)) := hqY
  refine ⟨?_, hb2, Blk.set (cs := #[A0]) hqY 0 v'⟩
  have key := fns_of_own (X := Y.setCell ⟨q, 0, none⟩ v') (base := w.heap.size) (v := v') (zs := zs ++ [(f, .slice B f.code.length cf)]) (by
    rw [List.length_append, List.flatMap_append, List.flatMap_singleton]
    exact ownsRow_setCell_other ho (own_not ho hq0 (by decide)) v') (by
    intro z hz
    rcases List.mem_append.1 hz with hz | hz
    · have h1 := own_grown (h.codes z hz) h.own (by decide) hg
      exact fnR_own (ownsRow_setCell_other h1 (own_not h1 hq0 (by decide)) v') (hw _ (List.mem_map_of_mem hz))
    · obtain rfl := List.mem_singleton.1 hz
      exact ⟨B, cf, rfl, hf.mono InstR.mono hb2, hfw⟩)
  rw [List.length_append, List.map_append] at key
  exact key
/-- A cell of a row of one's own is changed. -/
theorem own_setIn {X : World} {b s n c g : Nat} {t : TypeId} {xs : List Value} (h : X.ownsRow b t s (.slice (some ⟨g, 0, none⟩) n c) n xs) (j : Nat) (u : Value) : (X.setCell ⟨g, j, none⟩ u).ownsRow b t s (.slice (some ⟨g, 0, none⟩) n c) n (xs.set j u) := by
  refine ⟨by rw [List.length_set]; exact h.1, ?_⟩
  rcases h.2 with ⟨e, _⟩ | ⟨g', cap, cur, e, h1, h2, h3, h4, h5, h6⟩
  · cases e
  · simp only [Value.slice.injEq, Option.some.injEq, Addr.mk.injEq, and_true, true_and] at e
    obtain ⟨rfl, rfl⟩ := e
    refine .inr ⟨g, c, cur.setIfInBounds j u, rfl, h1, Blk.set (cs := cur) h2 j u, h3, h4, by rw [Array.size_setIfInBounds]; exact h5, ?_⟩
    rw [Array.toList_setIfInBounds, ← h6, List.take_set]
def set7 (X : World) (g o : Nat) (x : InstD) : World := ((((((X.setCell ⟨g, o, none⟩ (.int .i64 x.op)).setCell ⟨g, o + 1, none⟩ (.int .i64 x.fn)).setCell ⟨g, o + 2, none⟩ (.int .i64 x.dst)).setCell ⟨g, o + 3, none⟩ (.int .i64 x.src)).setCell ⟨g, o + 4, none⟩ (.bool x.reg)).setCell ⟨g, o + 5, none⟩ (.int .i64 x.off)).setCell ⟨g, o + 6, none⟩ (.int .u32 x.imm)
def lset7 (l : List Value) (o : Nat) (x : InstD) : List Value := ((((((l.set o (.int .i64 x.op)).set (o + 1) (.int .i64 x.fn)).set (o + 2) (.int .i64 x.dst)).set (o + 3) (.int .i64 x.src)).set (o + 4) (.bool x.reg)).set (o + 5) (.int .i64 x.off)).set (o + 6) (.int .u32 x.imm)
theorem lset7_app (a l : List Value) (o : Nat) (x : InstD) : lset7 (a ++ l) (a.length + o) x = a ++ lset7 l o x := by
  unfold lset7
  have e : ∀ k, a.length + o + k = a.length + (o + k) := fun k => Nat.add_assoc ..
  have s : ∀ (l : List Value) (k : Nat) (v : Value), (a ++ l).set (a.length + k) v = a ++ l.set k v := fun l k v => by
    rw [List.set_append_right _ _ (Nat.le_add_right _ _), Nat.add_sub_cancel_left]
  rw [e, e, e, e, e, e, s, s, s, s, s, s, s]
theorem lset7_flat (x : InstD) : ∀ (l : List InstD) (k : Nat), k < l.length → lset7 (l.flatMap InstD.cells) (k * 7) x = (l.set k x).flatMap InstD.cells
  | [], k, h => by simp at h
  | a :: l, 0, _ => by
    rw [List.flatMap_cons, List.set_cons_zero, List.flatMap_cons]
    rfl
  | a :: l, k + 1, h => by
    rw [List.flatMap_cons, List.set_cons_succ, List.flatMap_cons, ← lset7_flat x l k (by simpa using h), ← lset7_app]
    congr 1
    simp only [InstD.cells, List.length_cons, List.length_nil]
    omega
theorem own_set7 {X : World} {b n c g : Nat} {t : TypeId} {xs : List Value} (h : X.ownsRow b t 7 (.slice (some ⟨g, 0, none⟩) n c) n xs) (o : Nat) (x : InstD) : (set7 X g o x).ownsRow b t 7 (.slice (some ⟨g, 0, none⟩) n c) n (lset7 xs o x) :=
  own_setIn (own_setIn (own_setIn (own_setIn (own_setIn (own_setIn (own_setIn h _ _) _ _) _ _) _ _) _ _) _ _) _ _
theorem own_set7_other {X : World} {b s n g : Nat} {t : TypeId} {v : Value} {xs : List Value} (h : X.ownsRow b t s v n xs) (hg : v.ownBlock ≠ some g) (o : Nat) (x : InstD) : (set7 X g o x).ownsRow b t s v n xs := by
  have s : ∀ {Y : World} (hY : Y.ownsRow b t s v n xs) (k : Nat) (u : Value), (Y.setCell ⟨g, k, none⟩ u).ownsRow b t s v n xs := fun hY k u => ownsRow_setCell_other hY hg u
  exact s (s (s (s (s (s (s h _ _) _ _) _ _) _ _) _ _) _ _) _ _
theorem bel_set7 {w X : World} {g : Nat} (h : Bel w X) (hg : w.heap.size ≤ g) (o : Nat) (x : InstD) : Bel w (set7 X g o x) := by
  have s : ∀ {Y : World} (hY : Bel w Y) (k : Nat) (u : Value), Bel w (Y.setCell ⟨g, k, none⟩ u) := fun hY k u => hY.setCell (p := ⟨g, k, none⟩) hg u
  exact s (s (s (s (s (s (s h _ _) _ _) _ _) _ _) _ _) _ _) _ _
theorem blk_set7 {X : World} {q g : Nat} {t : TypeId} {cs : Array Value} (h : Blk X q t cs) (hg : q ≠ g) (o : Nat) (x : InstD) : Blk (set7 X g o x) q t cs := by
  have s : ∀ {Y : World} (hY : Blk Y q t cs) (k : Nat) (u : Value), Blk (Y.setCell ⟨g, k, none⟩ u) q t cs := fun hY k u => hY.other (p := ⟨g, k, none⟩) hg u
  exact s (s (s (s (s (s (s h _ _) _ _) _ _) _ _) _ _) _ _) _ _
theorem flat_same {zs : List (FnD × Value)} {i : Nat} (hi : i < zs.length) {z : FnD × Value} (he : fnc z = fnc zs[i]) : (zs.set i z).flatMap fnc = zs.flatMap fnc := by
  rw [List.flatMap_def, List.flatMap_def, List.map_set, he, ← List.getElem_map fnc (h := by rw [List.length_map]; exact hi), List.set_getElem_self]
/-- What a code's row tells, and what a store of an instruction makes of it. -/
theorem OwnR.put {w : World} {zs : List (FnD × Value)} {v : Value} {X : World} (h : OwnR w zs v X) (hw : ∀ f ∈ zs.map Prod.fst, FnWf f) {i : Nat} (hi : i < zs.length) {k : Nat} (hk : k < (zs[i]).1.code.length) :
    ∃ D cD G cG, v = .slice (some ⟨D, 0, none⟩) zs.length cD ∧ X.cell? ⟨D, i * 2 + 1, none⟩ = some (.slice (some ⟨G, 0, none⟩) (zs[i]).1.code.length cG) ∧ (∀ j, X.frozen? ⟨G, j, none⟩ = false) ∧ w.heap.size ≤ G ∧ (∀ j, j < (zs[i]).1.code.length * 7 → ∃ u, X.cell? ⟨G, j, none⟩ = some u) ∧
      ∀ (x : InstD) (q : Nat) (cs : Array Value), x.Wf → Blk X q 24 cs → Sl FnR 2 (set7 X G (k * 7) x) (some ⟨D, 0, none⟩) cD ((zs.map Prod.fst).set i ⟨(zs[i]).1.args, (zs[i]).1.code.set k x⟩) ∧ Bel w (set7 X G (k * 7) x) ∧ Blk (set7 X G (k * 7) x) q 24 cs := by
  have hmem : zs[i] ∈ zs := List.getElem_mem hi
  have hc := h.codes _ hmem
  obtain ⟨G, cG, hv2⟩ : ∃ G cG, (zs[i]).2 = .slice (some ⟨G, 0, none⟩) (zs[i]).1.code.length cG := by
    obtain ⟨m, hm⟩ : ∃ m, (zs[i]).1.code.length = m + 1 := ⟨(zs[i]).1.code.length - 1, by omega⟩
    rw [hm] at hc ⊢
    exact own_form hc
  obtain ⟨D, cD, hv1⟩ : ∃ D cD, v = .slice (some ⟨D, 0, none⟩) zs.length cD := by
    have ho := h.own
    obtain ⟨m, hm⟩ : ∃ m, zs.length = m + 1 := ⟨zs.length - 1, by omega⟩
    rw [hm] at ho ⊢
    exact own_form ho
  subst hv1
  rw [hv2] at hc
  obtain ⟨curG, hG0, hGb⟩ : ∃ cur, X.heap[G]? = some (.cells cur 32 (0, 0)) ∧ w.heap.size ≤ G := by
    rcases hc.2 with ⟨e, _⟩ | ⟨g', cap, cur, e, h1, h2, _⟩
    · cases e
    · simp only [Value.slice.injEq, Option.some.injEq, Addr.mk.injEq, and_true, true_and] at e
      obtain ⟨rfl, rfl⟩ := e
      exact ⟨cur, h2, h1⟩
  refine ⟨D, cD, G, cG, rfl, ?_, fun j => by simp [World.frozen?, hG0], hGb, ?_, ?_⟩
  · rcases own_openP h.own with ⟨e, _⟩ | ⟨g, c, e, -, -, -, -, -, hcl⟩
    · cases e
    · simp only [Value.slice.injEq, Option.some.injEq, Addr.mk.injEq, and_true, true_and] at e
      obtain ⟨rfl, rfl⟩ := e
      refine hcl (i * 2 + 1) _ ?_
      rw [flat_getP fnc 2 (fun _ => rfl) zs i 1 hi (by decide)]
      simp [fnc, hv2]
  · intro j hj
    rcases own_openP hc with ⟨e, _⟩ | ⟨g, c, e, -, -, -, -, -, hcl⟩
    · cases e
    · simp only [Value.slice.injEq, Option.some.injEq, Addr.mk.injEq, and_true, true_and] at e
      obtain ⟨rfl, rfl⟩ := e
      have hl : j < ((zs[i]).1.code.flatMap InstD.cells).length := by rw [flat7]; exact hj
      exact ⟨_, hcl j _ (List.getElem?_eq_getElem hl)⟩
  · intro x q cs hx hq
    have hb2 := bel_set7 h.bel hGb (k * 7) x
    refine ⟨?_, hb2, blk_set7 hq (blk_not hq hG0 (by decide)) (k * 7) x⟩
    have hrow := own_set7 hc (k * 7) x
    rw [lset7_flat x _ k hk] at hrow
    have key := fns_of_own (X := set7 X G (k * 7) x) (base := w.heap.size) (v := .slice (some ⟨D, 0, none⟩) zs.length cD) (zs := zs.set i (⟨(zs[i]).1.args, (zs[i]).1.code.set k x⟩, (zs[i]).2)) (by
      rw [List.length_set, flat_same hi (by simp only [fnc])]
      exact own_set7_other h.own (own_not h.own hG0 (by decide)) (k * 7) x) (by
      intro z hz
      obtain ⟨j, hj, rfl⟩ := List.mem_iff_getElem.1 hz
      rw [List.length_set] at hj
      by_cases hij : i = j
      · subst hij
        rw [List.getElem_set_self]
        have hwf := hw _ (List.mem_map_of_mem hmem)
        refine fnR_own (base := w.heap.size) ?_ ⟨fun y hy => ?_, hwf.2⟩
        · simp only
          rw [hv2, List.length_set]
          exact hrow
        · simp only at hy
          rcases List.mem_or_eq_of_mem_set hy with hy | rfl
          · exact hwf.1 y hy
          · exact hx
      · rw [List.getElem_set_ne hij]
        have hmj : zs[j] ∈ zs := List.getElem_mem hj
        refine fnR_own (own_set7_other (h.codes _ hmj) (fun e => ?_) (k * 7) x) (hw _ (List.mem_map_of_mem hmj))
        have hp := List.pairwise_iff_getElem.1 h.apart
        rcases Nat.lt_or_gt_of_ne hij with hlt | hlt
        · exact hp i j hi hj hlt (by rw [hv2]; simp [Value.ownBlock]) (by rw [e, hv2]; rfl)
        · exact hp j i hj hi hlt (by rw [e]; simp) (by rw [e, hv2]; rfl))
    obtain ⟨A', c', e, hs⟩ := key
    rw [List.length_set] at e
    simp only [Value.slice.injEq, true_and] at e
    obtain ⟨rfl, rfl⟩ := e
    rw [List.map_set] at hs
    exact hs
end Go.Proofs.Ytebdnobgdimdoaa
