/- A function that is gone through: its state in the heap, and what a step leaves. -/
import Derived.Test.YtebdnobgdimdoaaSh4
set_option linter.unusedVariables false
set_option linter.unusedSimpArgs false
namespace Go.Proofs.Ytebdnobgdimdoaa
open Go.RowKit

/-- What stays: where the program, the schemas and the three blocks lie. -/
structure VE where
  A : Option Addr
  n : Nat
  c : Nat
  fn : Nat
  Q : Option Addr
  nl : Nat
  cQ : Nat
  g : Nat
  Bi : Nat
  Bs : Nat
  len : Nat
def VE.cells (v : VE) (k : Nat) (safe : Bool) : Array Value := #[.slice v.A v.n v.c, .int .i64 v.fn, .slice v.Q v.nl v.cQ, .slice (some ⟨v.Bi, 0, none⟩) v.len v.len, .slice (some ⟨v.Bs, 0, none⟩) v.len v.len, .int .i64 k, .bool safe]
def sh0 (o : Option ShD) : ShD := o.getD (fun _ => none)
def insC (ins : InsD) : Array Value := (ins.flatMap fun o => (shC (sh0 o)).toList).toArray
def insB (ins : InsD) : Array Value := (ins.map fun o => Value.bool o.isSome).toArray
theorem flat16 {α : Type} (f : α → List Value) (hf : ∀ x, (f x).length = 16) : ∀ (l : List α) (k : Nat) (hk : k < l.length) (j : Nat), j < 16 → (l.flatMap f)[k * 16 + j]? = (f l[k])[j]?
  | [], k, hk, _, _ => by cases hk
  | x :: l, 0, _, j, hj => by
    rw [List.flatMap_cons, List.getElem?_append_left (by rw [hf]; omega)]
    simp
  | x :: l, k + 1, hk, j, hj => by
    rw [List.flatMap_cons, List.getElem?_append_right (by rw [hf]; omega), hf, show (k + 1) * 16 + j - 16 = k * 16 + j by omega, flat16 f hf l k (by simpa using hk) j hj]
    simp
theorem insC_get (ins : InsD) {k j : Nat} (hk : k < ins.length) (hj : j < 16) : (insC ins)[k * 16 + j]? = (shC (sh0 ins[k]))[j]? := by
  unfold insC
  rw [List.getElem?_toArray, flat16 _ (fun o => by simp [shC_size]) ins k hk j hj]
  simp
theorem insC_size (ins : InsD) : (insC ins).size = ins.length * 16 := by
  unfold insC
  induction ins with
  | nil => rfl
  | cons o l ih =>
    simp only [List.flatMap_cons, List.size_toArray, List.length_append, Array.length_toList, shC_size, List.length_cons] at ih ⊢
    omega
theorem insB_get (ins : InsD) {k : Nat} (hk : k < ins.length) : (insB ins)[k]? = some (.bool ins[k].isSome) := by
  unfold insB
  simp [hk]
theorem insB_set (ins : InsD) (k : Nat) (s : ShD) : (insB ins).setIfInBounds k (.bool true) = insB (ins.set k (some s)) := by
  unfold insB
  rw [List.map_set]
  simp
/-- Cells are laid from a place on. -/
def splice (C : Array Value) (o : Nat) : List Value → Array Value
  | [] => C
  | v :: r => splice (C.setIfInBounds o v) (o + 1) r
theorem splice_get : ∀ (vs : List Value) (C : Array Value) (o i : Nat), o + vs.length ≤ C.size → (splice C o vs)[i]? = if o ≤ i ∧ i < o + vs.length then vs[i - o]? else C[i]?
  | [], C, o, i, _ => by
    rw [splice, if_neg (by simp only [List.length_nil]; omega)]
  | v :: r, C, o, i, h => by
    simp only [List.length_cons] at h
    rw [splice, splice_get r _ _ _ (by rw [Array.size_setIfInBounds]; omega), Array.getElem?_setIfInBounds]
    by_cases h1 : o = i
    · subst h1
      rw [if_neg (by omega), if_pos rfl, if_pos (by omega), if_pos ⟨Nat.le_refl _, by simp⟩]
      simp
    · by_cases h2 : o + 1 ≤ i ∧ i < o + 1 + r.length
      · rw [if_pos h2, if_pos (by simp only [List.length_cons]; omega), show i - o = (i - (o + 1)) + 1 by omega]
        simp
      · rw [if_neg h2, if_neg h1, if_neg (by simp only [List.length_cons]; omega)]
theorem insC_set (ins : InsD) {k : Nat} (hk : k < ins.length) (s : ShD) : splice (insC ins) (k * 16) (shC s).toList = insC (ins.set k (some s)) := by
  have hl : (shC s).toList.length = 16 := by simp [shC_size]
  apply Array.ext_getElem?
  intro i
  rw [splice_get _ _ _ _ (by rw [insC_size, hl]; omega), hl]
  by_cases hi : i < ins.length * 16
  · obtain ⟨q, j, hj, rfl⟩ : ∃ q j, j < 16 ∧ i = q * 16 + j := ⟨i / 16, i % 16, by omega, by omega⟩
    have hq : q < ins.length := by omega
    rw [insC_get ins hq hj, insC_get (ins.set k (some s)) (by rw [List.length_set]; exact hq) hj]
    by_cases h : q = k
    · subst h
      rw [if_pos (by omega), show q * 16 + j - q * 16 = j by omega]
      simp [sh0]
    · rw [if_neg (by omega), List.getElem_set_ne (by omega)]
  · rw [if_neg (by omega), Array.getElem?_eq_none (by rw [insC_size]; omega), Array.getElem?_eq_none (by rw [insC_size, List.length_set]; omega)]
theorem Bk.cellsAt {W : World} {b : Nat} {t : TypeId} : ∀ {vs : List Value} {C : Array Value} {o : Nat} {W : World}, Bk W b t C → Bk (W.setCells b o vs) b t (splice C o vs)
  | [], _, _, _, h => h
  | v :: r, C, o, W, h => by
    rw [World.setCells, splice]
    exact Bk.cellsAt (W := W) (h.set o v)
theorem setCells_other {b k : Nat} (hk : k ≠ b) : ∀ (vs : List Value) (o : Nat) (W : World), (W.setCells b o vs).heap[k]? = W.heap[k]?
  | [], _, _ => rfl
  | v :: r, o, W => by
    rw [World.setCells, setCells_other hk r]
    exact heap_setCell_other W _ k v hk
theorem Bel.cells {w : World} {b : Nat} (hb : w.heap.size ≤ b) : ∀ (vs : List Value) (o : Nat) {W : World}, Bel w W → Bel w (W.setCells b o vs)
  | [], _, _, h => h
  | v :: r, o, W, h => by
    rw [World.setCells]
    exact Bel.cells hb r (o + 1) (h.setCell (p := ⟨b, o, none⟩) hb v)
/-- What a step may change: the three blocks, and what is new. -/
structure Fr (v : VE) (N : Nat) (W W' : World) : Prop where
  below : Below N W W'
  other : ∀ k, k < W.heap.size → k ≠ v.g → k ≠ v.Bi → k ≠ v.Bs → W'.heap[k]? = W.heap[k]?
theorem Fr.refl (v : VE) (N : Nat) (W : World) : Fr v N W W := ⟨Below.refl _ _, fun _ _ _ _ _ => rfl⟩
theorem Fr.trans {v : VE} {N : Nat} {a b c : World} (h : Fr v N a b) (k : Fr v N b c) : Fr v N a c :=
  ⟨h.below.trans k.below, fun i hi h1 h2 h3 => (k.other i (Nat.lt_of_lt_of_le hi h.below.size) h1 h2 h3).trans (h.other i hi h1 h2 h3)⟩
theorem Fr.bel {v : VE} {N : Nat} {W W' : World} (h : Bel W W') (hN : N ≤ W.heap.size) : Fr v N W W' := ⟨h.out.mono hN, fun k hk _ _ _ => h.out.block k hk⟩
theorem Fr.set {v : VE} {N : Nat} (W : World) {p : Addr} (hp : p.block = v.g ∨ p.block = v.Bi ∨ p.block = v.Bs) (hN : N ≤ p.block) (u : Value) : Fr v N W (W.setCell p u) :=
  ⟨(Below.refl N W).setCell hN u, fun k _ h1 h2 h3 => heap_setCell_other W p k u (by rcases hp with h | h | h <;> omega)⟩
theorem Fr.cells {v : VE} {N : Nat} (W : World) (hN : N ≤ v.Bi) (o : Nat) (vs : List Value) : Fr v N W (W.setCells v.Bi o vs) := by
  refine ⟨?_, fun k _ h1 h2 h3 => setCells_other h2 vs o W⟩
  have : ∀ (vs : List Value) (o : Nat) (W' : World), Below N W W' → Below N W (W'.setCells v.Bi o vs) := fun vs => by
    induction vs with
    | nil => intro o W' h; exact h
    | cons u r ih =>
      intro o W' h
      rw [World.setCells]
      exact ih (o + 1) _ (h.setCell (p := ⟨v.Bi, o, none⟩) hN u)
  exact this vs o W (Below.refl _ _)
theorem Fr.size {v : VE} {N : Nat} {W W' : World} (h : Fr v N W W') : W.heap.size ≤ W'.heap.size := h.below.size
theorem Fr.bk {v : VE} {N : Nat} {W W' : World} (h : Fr v N W W') {k : Nat} {t : TypeId} {C : Array Value} (hb : Bk W k t C) (h1 : k ≠ v.g) (h2 : k ≠ v.Bi) (h3 : k ≠ v.Bs) : Bk W' k t C := ⟨(h.other k hb.lt h1 h2 h3).trans hb.out⟩
theorem Fr.toBel {v : VE} {w W W' : World} {N : Nat} (h : Fr v N W W') (hb : Bel w W) (hN : w.heap.size ≤ N) : Bel w W' := ⟨hb.out.trans (h.below.mono hN)⟩
/-- The state: at a place; is all safe; what is known. -/
structure Wk (v : VE) (N : Nat) (W : World) (k : Nat) (safe : Bool) (ins : InsD) : Prop where
  w : Bk W v.g 63 (v.cells k safe)
  i : Bk W v.Bi 68 (insC ins)
  s : Bk W v.Bs 4 (insB ins)
  ok : insOk ins
  len : ins.length = v.len
  small : v.len ≤ 64
  gi : v.g ≠ v.Bi
  gs : v.g ≠ v.Bs
  is : v.Bi ≠ v.Bs
  ng : N ≤ v.g
  ni : N ≤ v.Bi
  ns : N ≤ v.Bs
  nw : N ≤ W.heap.size
theorem Wk.bel {v : VE} {N : Nat} {W W' : World} {k : Nat} {safe : Bool} {ins : InsD} (h : Wk v N W k safe ins) (hb : Bel W W') : Wk v N W' k safe ins :=
  ⟨h.w.bel hb, h.i.bel hb, h.s.bel hb, h.ok, h.len, h.small, h.gi, h.gs, h.is, h.ng, h.ni, h.ns, Nat.le_trans h.nw hb.size⟩
/-- Whether all is safe is told anew. -/
theorem Wk.safe {v : VE} {N : Nat} {W : World} {k : Nat} {safe : Bool} {ins : InsD} (h : Wk v N W k safe ins) (b : Bool) : Wk v N (W.setCell ⟨v.g, 6, none⟩ (.bool b)) k b ins :=
  ⟨h.w.set 6 (.bool b), h.i.other (p := ⟨v.g, 6, none⟩) (Ne.symm h.gi) _, h.s.other (p := ⟨v.g, 6, none⟩) (Ne.symm h.gs) _, h.ok, h.len, h.small, h.gi, h.gs, h.is, h.ng, h.ni, h.ns, by rw [World.size_setCell]; exact h.nw⟩
theorem Wk.place {v : VE} {N : Nat} {W : World} {k : Nat} {safe : Bool} {ins : InsD} (h : Wk v N W k safe ins) (j : Nat) : Wk v N (W.setCell ⟨v.g, 5, none⟩ (.int .i64 j)) j safe ins :=
  ⟨h.w.set 5 (.int .i64 j), h.i.other (p := ⟨v.g, 5, none⟩) (Ne.symm h.gi) _, h.s.other (p := ⟨v.g, 5, none⟩) (Ne.symm h.gs) _, h.ok, h.len, h.small, h.gi, h.gs, h.is, h.ng, h.ni, h.ns, by rw [World.size_setCell]; exact h.nw⟩
theorem Wk.range {v : VE} {N : Nat} {W : World} {k : Nat} {safe : Bool} {ins : InsD} (h : Wk v N W k safe ins) {j : Nat} (hj : j < ins.length) : W.rangeAt v.Bi (j * 16) (shC (sh0 ins[j])).toList := fun i u hu => by
  have hi : i < 16 := by
    have := (List.getElem?_eq_some_iff.1 hu).1
    simpa [shC_size] using this
  refine h.i.cell (j * 16 + i) ?_
  rw [insC_get ins hj hi]
  simpa using hu
theorem Wk.there {v : VE} {N : Nat} {W : World} {k : Nat} {safe : Bool} {ins : InsD} (h : Wk v N W k safe ins) {j : Nat} (hj : j < ins.length) : W.there v.Bi (j * 16) 16 := fun i hi => by
  have := h.i.cell (j * 16 + i) (v := (shC (sh0 ins[j]))[i]'(by rw [shC_size]; exact hi)) (by rw [insC_get ins hj hi]; exact Array.getElem?_eq_getElem _)
  exact ⟨by rw [this]; rfl, h.i.frozen _⟩
theorem Wk.load {v : VE} {N : Nat} {W : World} {k : Nat} {safe : Bool} {ins : InsD} (h : Wk v N W k safe ins) {j : Nat} (hj : j < ins.length) : (loadVar 68 ⟨v.Bi, j * 16, none⟩).run Try.prog W = .ok (.agg (shC (sh0 ins[j]))) W := by
  have := run_loadVar_mid (P := Try.prog) W v.Bi (j * 16) 68 _ _ (h.range hj) Try.underlying68 rfl (by rw [Array.length_toList, shC_size]; exact info_shape)
  simpa using this
theorem Wk.store {v : VE} {N : Nat} {W : World} {k : Nat} {safe : Bool} {ins : InsD} (h : Wk v N W k safe ins) {j : Nat} (hj : j < ins.length) (s : ShD) : (storeVar 68 ⟨v.Bi, j * 16, none⟩ (.agg (shC s))).run Try.prog W = .ok () (W.setCells v.Bi (j * 16) (shC s).toList) :=
  run_storeVar_mid W v.Bi (j * 16) _ (shC s) (by rw [shC_size]; exact h.there hj) (by rw [shC_size]; exact info_shape) (shC_one s)
theorem insOk_set {ins : InsD} (h : insOk ins) {j : Nat} {s : ShD} (hs : shOk s) : insOk (ins.set j (some s)) := fun x hx t ht => by
  rcases List.mem_or_eq_of_mem_set hx with hx | hx
  · exact h x hx t ht
  · subst hx; cases ht; exact hs
/-- Something is known at a place that was reached before. -/
theorem Wk.known {v : VE} {N : Nat} {W : World} {k : Nat} {safe : Bool} {ins : InsD} (h : Wk v N W k safe ins) {j : Nat} (hj : j < ins.length) {s : ShD} (hs : shOk s) (hr : ins[j].isSome = true) : Wk v N (W.setCells v.Bi (j * 16) (shC s).toList) k safe (ins.set j (some s)) := by
  refine ⟨⟨(setCells_other h.gi _ _ W).trans h.w.out⟩, ?_, ⟨?_⟩, insOk_set h.ok hs, by rw [List.length_set]; exact h.len, h.small, h.gi, h.gs, h.is, h.ng, h.ni, h.ns, ?_⟩
  · have := Bk.cellsAt (W := W) (vs := (shC s).toList) (o := j * 16) h.i
    rwa [insC_set ins hj] at this
  · rw [setCells_other (Ne.symm h.is)]
    have : insB (ins.set j (some s)) = insB ins := by
      rw [← insB_set]
      have h1 := insB_get ins hj
      rw [hr] at h1
      apply Array.ext_getElem?
      intro i
      rw [Array.getElem?_setIfInBounds]
      split
      · subst i
        rw [h1, if_pos (Array.getElem?_eq_some_iff.1 h1).1]
      · rfl
    rw [this]
    exact h.s.out
  · exact Nat.le_trans h.nw ((Fr.cells (v := v) (N := N) W h.ni _ _).size)
/-- Something is known at a place, and that it is reached. -/
theorem Wk.first {v : VE} {N : Nat} {W : World} {k : Nat} {safe : Bool} {ins : InsD} (h : Wk v N W k safe ins) {j : Nat} (hj : j < ins.length) {s : ShD} (hs : shOk s) : Wk v N ((W.setCells v.Bi (j * 16) (shC s).toList).setCell ⟨v.Bs, j, none⟩ (.bool true)) k safe (ins.set j (some s)) := by
  have b1 : Bk (W.setCells v.Bi (j * 16) (shC s).toList) v.g 63 (v.cells k safe) := ⟨(setCells_other h.gi _ _ W).trans h.w.out⟩
  have b2 := Bk.cellsAt (W := W) (vs := (shC s).toList) (o := j * 16) h.i
  rw [insC_set ins hj] at b2
  have b3 : Bk (W.setCells v.Bi (j * 16) (shC s).toList) v.Bs 4 (insB ins) := ⟨(setCells_other (Ne.symm h.is) _ _ W).trans h.s.out⟩
  refine ⟨b1.other (p := ⟨v.Bs, j, none⟩) h.gs _, b2.other (p := ⟨v.Bs, j, none⟩) h.is _, ?_, insOk_set h.ok hs, by rw [List.length_set]; exact h.len, h.small, h.gi, h.gs, h.is, h.ng, h.ni, h.ns, ?_⟩
  · have := b3.set j (.bool true)
    rwa [insB_set ins j s] at this
  · rw [World.size_setCell]
    exact Nat.le_trans h.nw ((Fr.cells (v := v) (N := N) W h.ni _ _).size)
end Go.Proofs.Ytebdnobgdimdoaa
