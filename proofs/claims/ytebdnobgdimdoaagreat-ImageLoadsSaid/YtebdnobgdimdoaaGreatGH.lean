/- A function that is gone through: its state in the heap, and what a step leaves. verify's small steps: here, get. verify's small steps: word, within. verify's small steps: to, then, put. -/
import Derived.Test.YtebdnobgdimdoaaGreatGG
set_option linter.unusedVariables false
set_option linter.unusedSimpArgs false
namespace Go.Proofs.YtebdnobgdimdoaaGreat
open Go.RowKit
/-- What stays: where the program, the schemas and the three blocks lie. -/
structure VE where
  A : Option Addr
  n : Nat
  c : Nat
  fn : Nat
  Q : Option Addr
  nl : Nat
  cQ : Nat
  g : Nat
  Bi : Nat
  Bs : Nat
  len : Nat
def VE.cells (v : VE) (k : Nat) (safe : Bool) : Array Value := #[.slice v.A v.n v.c, .int .i64 v.fn, .slice v.Q v.nl v.cQ, .slice (some ⟨v.Bi, 0, none⟩) v.len v.len, .slice (some ⟨v.Bs, 0, none⟩) v.len v.len, .int .i64 k, .bool safe]
def sh0 (o : Option ShD) : ShD := o.getD (fun _ => none)
def insC (ins : InsD) : Array Value := (ins.flatMap fun o => (shC (sh0 o)).toList).toArray
def insB (ins : InsD) : Array Value := (ins.map fun o => Value.bool o.isSome).toArray
theorem flat16 {α : Type} (f : α → List Value) (hf : ∀ x, (f x).length = 16) : ∀ (l : List α) (k : Nat) (hk : k < l.length) (j : Nat), j < 16 → (l.flatMap f)[k * 16 + j]? = (f l[k])[j]?
  | [], k, hk, _, _ => by cases hk
  | x :: l, 0, _, j, hj => by
    rw [List.flatMap_cons, List.getElem?_append_left (by rw [hf]; omega)]
    simp
  | x :: l, k + 1, hk, j, hj => by
    rw [List.flatMap_cons, List.getElem?_append_right (by rw [hf]; omega), hf, show (k + 1) * 16 + j - 16 = k * 16 + j by omega, flat16 f hf l k (by simpa using hk) j hj]
    simp
theorem insC_get (ins : InsD) {k j : Nat} (hk : k < ins.length) (hj : j < 16) : (insC ins)[k * 16 + j]? = (shC (sh0 ins[k]))[j]? := by
  unfold insC
  rw [List.getElem?_toArray, flat16 _ (fun o => by simp [shC_size]) ins k hk j hj]
  simp
theorem insC_size (ins : InsD) : (insC ins).size = ins.length * 16 := by
  unfold insC
  induction ins with
  | nil => rfl
  | cons o l ih =>
    simp only [List.flatMap_cons, List.size_toArray, List.length_append, Array.length_toList, shC_size, List.length_cons] at ih ⊢
    omega
theorem insB_get (ins : InsD) {k : Nat} (hk : k < ins.length) : (insB ins)[k]? = some (.bool ins[k].isSome) := by
  unfold insB
  simp [hk]
theorem insB_set (ins : InsD) (k : Nat) (s : ShD) : (insB ins).setIfInBounds k (.bool true) = insB (ins.set k (some s)) := by
  unfold insB
  rw [List.map_set]
  simp
/-- Cells are laid from a place on. -/
def splice (C : Array Value) (o : Nat) : List Value → Array Value
  | [] => C
  | v :: r => splice (C.setIfInBounds o v) (o + 1) r
theorem splice_get : ∀ (vs : List Value) (C : Array Value) (o i : Nat), o + vs.length ≤ C.size → (splice C o vs)[i]? = if o ≤ i ∧ i < o + vs.length then vs[i - o]? else C[i]?
  | [], C, o, i, _ => by
    rw [splice, if_neg (by simp only [List.length_nil]; omega)]
  | v :: r, C, o, i, h => by
    simp only [List.length_cons] at h
    rw [splice, splice_get r _ _ _ (by rw [Array.size_setIfInBounds]; omega), Array.getElem?_setIfInBounds]
    by_cases h1 : o = i
    · subst h1
      rw [if_neg (by omega), if_pos rfl, if_pos (by omega), if_pos ⟨Nat.le_refl _, by simp⟩]
      simp
    · by_cases h2 : o + 1 ≤ i ∧ i < o + 1 + r.length
      · rw [if_pos h2, if_pos (by simp only [List.length_cons]; omega), show i - o = (i - (o + 1)) + 1 by omega]
        simp
      · rw [if_neg h2, if_neg h1, if_neg (by simp only [List.length_cons]; omega)]
theorem insC_set (ins : InsD) {k : Nat} (hk : k < ins.length) (s : ShD) : splice (insC ins) (k * 16) (shC s).toList = insC (ins.set k (some s)) := by
  have hl : (shC s).toList.length = 16 := by simp [shC_size]
  apply Array.ext_getElem?
  intro i
  rw [splice_get _ _ _ _ (by rw [insC_size, hl]; omega), hl]
  by_cases hi : i < ins.length * 16
  · obtain ⟨q, j, hj, rfl⟩ : ∃ q j, j < 16 ∧ i = q * 16 + j := ⟨i / 16, i % 16, by omega, by omega⟩
    have hq : q < ins.length := by omega
    rw [insC_get ins hq hj, insC_get (ins.set k (some s)) (by rw [List.length_set]; exact hq) hj]
    by_cases h : q = k
    · subst h
      rw [if_pos (by omega), show q * 16 + j - q * 16 = j by omega]
      simp [sh0]
    · rw [if_neg (by omega), List.getElem_set_ne (by omega)]
  · rw [if_neg (by omega), Array.getElem?_eq_none (by rw [insC_size]; omega), Array.getElem?_eq_none (by rw [insC_size, List.length_set]; omega)]
theorem Bk.cellsAt {W : World} {b : Nat} {t : TypeId} : ∀ {vs : List Value} {C : Array Value} {o : Nat} {W : World}, Bk W b t C → Bk (W.setCells b o vs) b t (splice C o vs)
  | [], _, _, _, h => h
  | v :: r, C, o, W, h => by
    rw [World.setCells, splice]
    exact Bk.cellsAt (W := W) (h.set o v)
theorem setCells_other {b k : Nat} (hk : k ≠ b) : ∀ (vs : List Value) (o : Nat) (W : World), (W.setCells b o vs).heap[k]? = W.heap[k]?
  | [], _, _ => rfl
  | v :: r, o, W => by
    rw [World.setCells, setCells_other hk r]
    exact heap_setCell_other W _ k v hk
theorem Bel.cells {w : World} {b : Nat} (hb : w.heap.size ≤ b) : ∀ (vs : List Value) (o : Nat) {W : World}, Bel w W → Bel w (W.setCells b o vs)
  | [], _, _, h => h
  | v :: r, o, W, h => by
    rw [World.setCells]
    exact Bel.cells hb r (o + 1) (h.setCell (p := ⟨b, o, none⟩) hb v)
/-- What a step may change: the three blocks, and what is new. -/
structure Fr (v : VE) (N : Nat) (W W' : World) : Prop where
  below : Below N W W'
  other : ∀ k, k < W.heap.size → k ≠ v.g → k ≠ v.Bi → k ≠ v.Bs → W'.heap[k]? = W.heap[k]?
theorem Fr.refl (v : VE) (N : Nat) (W : World) : Fr v N W W := ⟨Below.refl _ _, fun _ _ _ _ _ => rfl⟩
theorem Fr.trans {v : VE} {N : Nat} {a b c : World} (h : Fr v N a b) (k : Fr v N b c) : Fr v N a c :=
  ⟨h.below.trans k.below, fun i hi h1 h2 h3 => (k.other i (Nat.lt_of_lt_of_le hi h.below.size) h1 h2 h3).trans (h.other i hi h1 h2 h3)⟩
theorem Fr.bel {v : VE} {N : Nat} {W W' : World} (h : Bel W W') (hN : N ≤ W.heap.size) : Fr v N W W' := ⟨h.out.mono hN, fun k hk _ _ _ => h.out.block k hk⟩
theorem Fr.set {v : VE} {N : Nat} (W : World) {p : Addr} (hp : p.block = v.g ∨ p.block = v.Bi ∨ p.block = v.Bs) (hN : N ≤ p.block) (u : Value) : Fr v N W (W.setCell p u) :=
  ⟨(Below.refl N W).setCell hN u, fun k _ h1 h2 h3 => heap_setCell_other W p k u (by rcases hp with h | h | h <;> omega)⟩
theorem Fr.cells {v : VE} {N : Nat} (W : World) (hN : N ≤ v.Bi) (o : Nat) (vs : List Value) : Fr v N W (W.setCells v.Bi o vs) := by
  refine ⟨?_, fun k _ h1 h2 h3 => setCells_other h2 vs o W⟩
  have : ∀ (vs : List Value) (o : Nat) (W' : World), Below N W W' → Below N W (W'.setCells v.Bi o vs) := fun vs => by
    induction vs with
    | nil => intro o W' h; exact h
    | cons u r ih =>
      intro o W' h
      rw [World.setCells]
      exact ih (o + 1) _ (h.setCell (p := ⟨v.Bi, o, none⟩) hN u)
  exact this vs o W (Below.refl _ _)
theorem Fr.size {v : VE} {N : Nat} {W W' : World} (h : Fr v N W W') : W.heap.size ≤ W'.heap.size := h.below.size
theorem Fr.bk {v : VE} {N : Nat} {W W' : World} (h : Fr v N W W') {k : Nat} {t : TypeId} {C : Array Value} (hb : Bk W k t C) (h1 : k ≠ v.g) (h2 : k ≠ v.Bi) (h3 : k ≠ v.Bs) : Bk W' k t C := ⟨(h.other k hb.lt h1 h2 h3).trans hb.out⟩
theorem Fr.toBel {v : VE} {w W W' : World} {N : Nat} (h : Fr v N W W') (hb : Bel w W) (hN : w.heap.size ≤ N) : Bel w W' := ⟨hb.out.trans (h.below.mono hN)⟩
/-- The state: at a place; is all safe; what is known. -/
structure Wk (v : VE) (N : Nat) (W : World) (k : Nat) (safe : Bool) (ins : InsD) : Prop where
  w : Bk W v.g 113 (v.cells k safe)
  i : Bk W v.Bi 69 (insC ins)
  s : Bk W v.Bs 4 (insB ins)
  ok : insOk ins
  len : ins.length = v.len
  small : v.len ≤ 64
  gi : v.g ≠ v.Bi
  gs : v.g ≠ v.Bs
  is : v.Bi ≠ v.Bs
  ng : N ≤ v.g
  ni : N ≤ v.Bi
  ns : N ≤ v.Bs
  nw : N ≤ W.heap.size
theorem Wk.bel {v : VE} {N : Nat} {W W' : World} {k : Nat} {safe : Bool} {ins : InsD} (h : Wk v N W k safe ins) (hb : Bel W W') : Wk v N W' k safe ins :=
  ⟨h.w.bel hb, h.i.bel hb, h.s.bel hb, h.ok, h.len, h.small, h.gi, h.gs, h.is, h.ng, h.ni, h.ns, Nat.le_trans h.nw hb.size⟩
/-- Whether all is safe is told anew. -/
theorem Wk.safe {v : VE} {N : Nat} {W : World} {k : Nat} {safe : Bool} {ins : InsD} (h : Wk v N W k safe ins) (b : Bool) : Wk v N (W.setCell ⟨v.g, 6, none⟩ (.bool b)) k b ins :=
  ⟨h.w.set 6 (.bool b), h.i.other (p := ⟨v.g, 6, none⟩) (Ne.symm h.gi) _, h.s.other (p := ⟨v.g, 6, none⟩) (Ne.symm h.gs) _, h.ok, h.len, h.small, h.gi, h.gs, h.is, h.ng, h.ni, h.ns, by rw [World.size_setCell]; exact h.nw⟩
theorem Wk.place {v : VE} {N : Nat} {W : World} {k : Nat} {safe : Bool} {ins : InsD} (h : Wk v N W k safe ins) (j : Nat) : Wk v N (W.setCell ⟨v.g, 5, none⟩ (.int .i64 j)) j safe ins :=
  ⟨h.w.set 5 (.int .i64 j), h.i.other (p := ⟨v.g, 5, none⟩) (Ne.symm h.gi) _, h.s.other (p := ⟨v.g, 5, none⟩) (Ne.symm h.gs) _, h.ok, h.len, h.small, h.gi, h.gs, h.is, h.ng, h.ni, h.ns, by rw [World.size_setCell]; exact h.nw⟩
theorem Wk.range {v : VE} {N : Nat} {W : World} {k : Nat} {safe : Bool} {ins : InsD} (h : Wk v N W k safe ins) {j : Nat} (hj : j < ins.length) : W.rangeAt v.Bi (j * 16) (shC (sh0 ins[j])).toList := fun i u hu => by
  have hi : i < 16 := by
    have := (List.getElem?_eq_some_iff.1 hu).1
    simpa [shC_size] using this
  refine h.i.cell (j * 16 + i) ?_
  rw [insC_get ins hj hi]
  simpa using hu
theorem Wk.there {v : VE} {N : Nat} {W : World} {k : Nat} {safe : Bool} {ins : InsD} (h : Wk v N W k safe ins) {j : Nat} (hj : j < ins.length) : W.there v.Bi (j * 16) 16 := fun i hi => by
  have := h.i.cell (j * 16 + i) (v := (shC (sh0 ins[j]))[i]'(by rw [shC_size]; exact hi)) (by rw [insC_get ins hj hi]; exact Array.getElem?_eq_getElem _)
  exact ⟨by rw [this]; rfl, h.i.frozen _⟩
theorem Wk.load {v : VE} {N : Nat} {W : World} {k : Nat} {safe : Bool} {ins : InsD} (h : Wk v N W k safe ins) {j : Nat} (hj : j < ins.length) : (loadVar 69 ⟨v.Bi, j * 16, none⟩).run Tryz.prog W = .ok (.agg (shC (sh0 ins[j]))) W := by
  have := run_loadVar_mid (P := Tryz.prog) W v.Bi (j * 16) 69 _ _ (h.range hj) Tryz.underlying69 rfl (by rw [Array.length_toList, shC_size]; exact info_shape)
  simpa using this
theorem Wk.store {v : VE} {N : Nat} {W : World} {k : Nat} {safe : Bool} {ins : InsD} (h : Wk v N W k safe ins) {j : Nat} (hj : j < ins.length) (s : ShD) : (storeVar 69 ⟨v.Bi, j * 16, none⟩ (.agg (shC s))).run Tryz.prog W = .ok () (W.setCells v.Bi (j * 16) (shC s).toList) :=
  run_storeVar_mid W v.Bi (j * 16) _ (shC s) (by rw [shC_size]; exact h.there hj) (by rw [shC_size]; exact info_shape) (shC_one s)
theorem insOk_set {ins : InsD} (h : insOk ins) {j : Nat} {s : ShD} (hs : shOk s) : insOk (ins.set j (some s)) := fun x hx t ht => by
  rcases List.mem_or_eq_of_mem_set hx with hx | hx
  · exact h x hx t ht
  · subst hx; cases ht; exact hs
/-- Something is known at a place that was reached before. -/
theorem Wk.known {v : VE} {N : Nat} {W : World} {k : Nat} {safe : Bool} {ins : InsD} (h : Wk v N W k safe ins) {j : Nat} (hj : j < ins.length) {s : ShD} (hs : shOk s) (hr : ins[j].isSome = true) : Wk v N (W.setCells v.Bi (j * 16) (shC s).toList) k safe (ins.set j (some s)) := by
  refine ⟨⟨(setCells_other h.gi _ _ W).trans h.w.out⟩, ?_, ⟨?_⟩, insOk_set h.ok hs, by rw [List.length_set]; exact h.len, h.small, h.gi, h.gs, h.is, h.ng, h.ni, h.ns, ?_⟩
  · have := Bk.cellsAt (W := W) (vs := (shC s).toList) (o := j * 16) h.i
    rwa [insC_set ins hj] at this
  · rw [setCells_other (Ne.symm h.is)]
    have : insB (ins.set j (some s)) = insB ins := by
      rw [← insB_set]
      have h1 := insB_get ins hj
      rw [hr] at h1
      apply Array.ext_getElem?
      intro i
      rw [Array.getElem?_setIfInBounds]
      split
      · subst i
        rw [h1, if_pos (Array.getElem?_eq_some_iff.1 h1).1]
      · rfl
    rw [this]
    exact h.s.out
  · exact Nat.le_trans h.nw ((Fr.cells (v := v) (N := N) W h.ni _ _).size)
/-- Something is known at a place, and that it is reached. -/
theorem Wk.first {v : VE} {N : Nat} {W : World} {k : Nat} {safe : Bool} {ins : InsD} (h : Wk v N W k safe ins) {j : Nat} (hj : j < ins.length) {s : ShD} (hs : shOk s) : Wk v N ((W.setCells v.Bi (j * 16) (shC s).toList).setCell ⟨v.Bs, j, none⟩ (.bool true)) k safe (ins.set j (some s)) := by
  have b1 : Bk (W.setCells v.Bi (j * 16) (shC s).toList) v.g 113 (v.cells k safe) := ⟨(setCells_other h.gi _ _ W).trans h.w.out⟩
  have b2 := Bk.cellsAt (W := W) (vs := (shC s).toList) (o := j * 16) h.i
  rw [insC_set ins hj] at b2
  have b3 : Bk (W.setCells v.Bi (j * 16) (shC s).toList) v.Bs 4 (insB ins) := ⟨(setCells_other (Ne.symm h.is) _ _ W).trans h.s.out⟩
  refine ⟨b1.other (p := ⟨v.Bs, j, none⟩) h.gs _, b2.other (p := ⟨v.Bs, j, none⟩) h.is _, ?_, insOk_set h.ok hs, by rw [List.length_set]; exact h.len, h.small, h.gi, h.gs, h.is, h.ng, h.ni, h.ns, ?_⟩
  · have := b3.set j (.bool true)
    rwa [insB_set ins j s] at this
  · rw [World.size_setCell]
    exact Nat.le_trans h.nw ((Fr.cells (v := v) (N := N) W h.ni _ _).size)
end Go.Proofs.YtebdnobgdimdoaaGreat
set_option linter.unusedVariables false
set_option linter.unusedSimpArgs false
namespace Go.Proofs.YtebdnobgdimdoaaGreat
open Go.RowKit
set_option maxHeartbeats 4000000 in
set_option maxRecDepth 100000 in
theorem here_any (v : VE) (N : Nat) (W : World) (k : Nat) (safe : Bool) (ins : InsD) (h : Wk v N W k safe ins) (hk : k < ins.length) (s : ShD) (hsk : Hid (sh0 ins[k] = s)) :
    Calls Tryz.prog 127 #[.pointer (some ⟨v.g, 0, none⟩)] W fun e w' => e = .returned (.agg (shC s)) ∧ Bel W w' := by
  have H := h.bel ((Bel.refl W).alloc (.cells (shC (fun _ => none)) 69))
  have B1 := Bk.new W 69 (shC (fun _ => none))
  have HB := (Bel.refl W).alloc (.cells (shC (fun _ => none)) 69)
  have hz := shC_zero
  have hk2 : (k : Int) < v.len := by have := h.len; omega
  have k0 : 0 ≤ (k : Int) := by omega
  have hgw := h.w.lt
  have KL := Lib.hid hk
  clear h
  go_enter Tryz.func127, Tryz.ntmps127
  go_wp2_with fail
  rw [← hz]
  clear hz
  generalize W.alloc (.cells (shC (fun _ => none)) 69) = W0 at *
  obtain ⟨gr, hgr⟩ : ∃ gr, W.heap.size = gr := ⟨_, rfl⟩
  have hwg : W.heap.size ≤ gr := by omega
  rw [hgr] at B1 hgw
  simp only [hgr]
  clear hgr
  have SD : Bel W0 W0.drew := (Bel.refl W0).drew
  have L0 := fun (w' : World) (hb : Bel W0 w') => (H.bel hb).load hk
  rw [hsk.out] at L0
  have M3 := fun (w' : World) (hb : Bel W0 w') => (H.bel hb).w.cell 3 (v := .slice (some ⟨v.Bi, 0, none⟩) v.len v.len) rfl
  have M5 := fun (w' : World) (hb : Bel W0 w') => (H.bel hb).w.cell 5 (v := .int .i64 k) rfl
  have b1 := B1.bel SD
  have HST := b1.store (shC_size _) s
  have HR := (b1.row (shC s)).load
  have HFIN := Lib.hid ((HB.trans SD).row (g := gr) (by omega) (shC s))
  refine wp_region_T (fun w' => Bel W0 w') (fun j => j == 10) (by kernel_rfl) ?_
  refine wpAnyU_take (i := 0) (v := ?v0) rfl (by kernel_rfl) (by kernel_rfl) (by kernel_rfl) (by kernel_rfl) (fun _ _ _ h => h) ?hy0 SD ?rest0
  case hy0 => first | (refine Or.inl ⟨by rfl, ?_⟩; (intro w' hSw; go_simp) <;> with_reducible rfl) | (refine Or.inr ⟨by rfl, ?_⟩; with_reducible rfl)
  try simp only [List.getElem_toArray, List.getElem_cons_zero, List.getElem_cons_succ, Act.put, List.setIfInBounds_toArray, List.set_cons_zero, List.set_cons_succ]
  refine wpAnyU_take (i := 1) (v := ?v1) rfl (by kernel_rfl) (by kernel_rfl) (by kernel_rfl) (by kernel_rfl) (fun _ _ _ h => h) ?hy1 SD ?rest1
  case hy1 => first | (refine Or.inl ⟨by rfl, ?_⟩; (intro w' hSw; go_simp) <;> with_reducible rfl) | (refine Or.inr ⟨by rfl, ?_⟩; with_reducible rfl)
  try simp only [List.getElem_toArray, List.getElem_cons_zero, List.getElem_cons_succ, Act.put, List.setIfInBounds_toArray, List.set_cons_zero, List.set_cons_succ]
  refine wpAnyU_take (i := 2) (v := ?v2) rfl (by kernel_rfl) (by kernel_rfl) (by kernel_rfl) (by kernel_rfl) (fun _ _ _ h => h) ?hy2 SD ?rest2
  case hy2 => first | (refine Or.inl ⟨by rfl, ?_⟩; (intro w' hSw; go_simp) <;> with_reducible rfl) | (refine Or.inr ⟨by rfl, ?_⟩; with_reducible rfl)
  try simp only [List.getElem_toArray, List.getElem_cons_zero, List.getElem_cons_succ, Act.put, List.setIfInBounds_toArray, List.set_cons_zero, List.set_cons_succ]
  refine wpAnyU_take (i := 3) (v := ?v3) rfl (by kernel_rfl) (by kernel_rfl) (by kernel_rfl) (by kernel_rfl) (fun _ _ _ h => h) ?hy3 SD ?rest3
  case hy3 => first | (refine Or.inl ⟨by rfl, ?_⟩; (intro w' hSw; go_simp) <;> with_reducible rfl) | (refine Or.inr ⟨by rfl, ?_⟩; with_reducible rfl)
  try simp only [List.getElem_toArray, List.getElem_cons_zero, List.getElem_cons_succ, Act.put, List.setIfInBounds_toArray, List.set_cons_zero, List.set_cons_succ]
  refine wpAnyU_take (i := 4) (v := ?v4) rfl (by kernel_rfl) (by kernel_rfl) (by kernel_rfl) (by kernel_rfl) (fun _ _ _ h => h) ?hy4 SD ?rest4
  case hy4 => first | (refine Or.inl ⟨by rfl, ?_⟩; (intro w' hSw; go_simp) <;> with_reducible rfl) | (refine Or.inr ⟨by rfl, ?_⟩; with_reducible rfl)
  try simp only [List.getElem_toArray, List.getElem_cons_zero, List.getElem_cons_succ, Act.put, List.setIfInBounds_toArray, List.set_cons_zero, List.set_cons_succ]
  refine wpAnyU_take (i := 5) (v := ?v5) rfl (by kernel_rfl) (by kernel_rfl) (by kernel_rfl) (by kernel_rfl) (fun _ _ _ h => h) ?hy5 SD ?rest5
  case hy5 => first | (refine Or.inl ⟨by rfl, ?_⟩; (intro w' hSw; go_simp) <;> with_reducible rfl) | (refine Or.inr ⟨by rfl, ?_⟩; with_reducible rfl)
  try simp only [List.getElem_toArray, List.getElem_cons_zero, List.getElem_cons_succ, Act.put, List.setIfInBounds_toArray, List.set_cons_zero, List.set_cons_succ]
  refine wpAnyU_take (i := 6) (v := ?v6) rfl (by kernel_rfl) (by kernel_rfl) (by kernel_rfl) (by kernel_rfl) (fun _ _ _ h => h) ?hy6 SD ?rest6
  case hy6 => first | (refine Or.inl ⟨by rfl, ?_⟩; (intro w' hSw; go_simp) <;> with_reducible rfl) | (refine Or.inr ⟨by rfl, ?_⟩; with_reducible rfl)
  try simp only [List.getElem_toArray, List.getElem_cons_zero, List.getElem_cons_succ, Act.put, List.setIfInBounds_toArray, List.set_cons_zero, List.set_cons_succ]
  refine wpAnyU_take (i := 7) (v := ?v7) rfl (by kernel_rfl) (by kernel_rfl) (by kernel_rfl) (by kernel_rfl) (fun _ _ _ h => h) ?hy7 SD ?rest7
  case hy7 => first | (refine Or.inl ⟨by rfl, ?_⟩; (intro w' hSw; go_simp) <;> with_reducible rfl) | (refine Or.inr ⟨by rfl, ?_⟩; with_reducible rfl)
  try simp only [List.getElem_toArray, List.getElem_cons_zero, List.getElem_cons_succ, Act.put, List.setIfInBounds_toArray, List.set_cons_zero, List.set_cons_succ]
  refine wpAnyU_take (i := 8) (v := ?v8) rfl (by kernel_rfl) (by kernel_rfl) (by kernel_rfl) (by kernel_rfl) (fun _ _ _ h => h) ?hy8 SD ?rest8
  case hy8 => first | (refine Or.inl ⟨by rfl, ?_⟩; (intro w' hSw; go_simp) <;> with_reducible rfl) | (refine Or.inr ⟨by rfl, ?_⟩; with_reducible rfl)
  try simp only [List.getElem_toArray, List.getElem_cons_zero, List.getElem_cons_succ, Act.put, List.setIfInBounds_toArray, List.set_cons_zero, List.set_cons_succ]
  refine wpAnyU_take (i := 9) rfl (by kernel_rfl) (by kernel_rfl) (by kernel_rfl) (by kernel_rfl) (fun _ _ _ h => h) (yields_loadV (by rfl) rfl (by rfl) L0) SD ?rest9
  try simp only [List.getElem_toArray, List.getElem_cons_zero, List.getElem_cons_succ, Act.put, List.setIfInBounds_toArray, List.set_cons_zero, List.set_cons_succ]
  refine wpAnyT_one (i := 10) (by kernel_rfl) rfl (fun K hK => ?_)
  refine wpT_storeV rfl rfl (by rfl) (by rfl) HST ?_
  refine hK.out _ _ (fun h => absurd h (by decide)) ?_
  clear hK K
  try simp only [List.getElem_toArray, List.getElem_cons_zero, List.getElem_cons_succ, Act.put, List.setIfInBounds_toArray, List.set_cons_zero, List.set_cons_succ]
  refine wpAnyT_done (by kernel_rfl) ?_ _
  refine NoPanic.normal ?_
  go_wp2_with fail
  refine bodyPost_ret (v := .agg (shC s)) ?_ rfl ⟨rfl, HFIN.out⟩
  have hr : (Tryz.f127).results = #[.cell 2 69] := by rfl
  simp only [results, hr]
  simp [Act.put, asAddr, Result.andThen, HR]
set_option maxHeartbeats 4000000 in
set_option maxRecDepth 100000 in
theorem wget_any (v : VE) (N : Nat) (W : World) (k : Nat) (safe : Bool) (ins : InsD) (h : Wk v N W k safe ins) (hk : k < ins.length) (s : ShD) (hsk : Hid (sh0 ins[k] = s)) (n : Int) (o : Option Bd) (ho : Hid (shGet s n = o)) :
    Calls Tryz.prog 124 #[.pointer (some ⟨v.g, 0, none⟩), .int .i64 n] W fun e w' => e = .returned (cV (rB o)) ∧ Wk v N w' k (safe && o.isSome) ins ∧ Fr v N W w' := by
  have hs : shOk s := by
    rw [← hsk.out]
    cases e : ins[k] with
    | none => intro i b hb; cases hb
    | some u => exact h.ok _ (List.getElem_mem hk) u e
  have H := Lib.hid h
  clear h
  go_enter Tryz.func124, Tryz.ntmps124
  go_wp2_with fail
  refine (here_any v N W k safe ins H.out hk s hsk).mono ?_
  rintro e w1 ⟨rfl, hb1⟩
  go_wp2_with fail
  refine (shget_any s hs n _ o ho).mono ?_
  rintro e w2 ⟨rfl, hb2⟩
  have hb := hb1.trans hb2
  have H2 := H.out.bel hb
  have c6 := H2.w.cell 6 (v := .bool safe) rfl
  have f6 := H2.w.frozen 6
  have HW := Lib.hid (H2.safe (safe && o.isSome))
  have HF := Lib.hid ((Fr.bel hb H.out.nw).trans (Fr.set (v := v) (N := N) w2 (p := ⟨v.g, 6, none⟩) (.inl rfl) H2.ng (.bool (safe && o.isSome))))
  clear hb hb1 hb2 H2
  unfold cV
  cases safe
  · simp only [Bool.false_and] at HW HF
    go_wp2_with fail
    go_ret
    exact ⟨rfl, by simpa using HW.out, HF.out⟩
  · simp only [Bool.true_and] at HW HF
    go_wp2_with fail
    go_ret
    exact ⟨rfl, by simpa using HW.out, HF.out⟩
end Go.Proofs.YtebdnobgdimdoaaGreat
set_option linter.unusedVariables false
set_option linter.unusedSimpArgs false
namespace Go.Proofs.YtebdnobgdimdoaaGreat
open Go.RowKit
set_option maxHeartbeats 4000000 in
set_option maxRecDepth 100000 in
theorem wword_any (v : VE) (N : Nat) (W : World) (k : Nat) (safe : Bool) (ins : InsD) (h : Wk v N W k safe ins) (hk : k < ins.length) (s : ShD) (hsk : Hid (sh0 ins[k] = s)) (op fn dst src : Int) (reg : Bool) (off imm : Int) (him : U32 imm) (hm : Hid (mayB op fn dst src reg off imm = true)) (o : Option Bd) (ho : Hid (shWord s ⟨op, fn, dst, src, reg, off, imm⟩ = o)) :
    Calls Tryz.prog 123 #[.pointer (some ⟨v.g, 0, none⟩), .agg #[.int .i64 op, .int .i64 fn, .int .i64 dst, .int .i64 src, .bool reg, .int .i64 off, .int .u32 imm]] W fun e w' => e = .returned (cV (rB o)) ∧ Wk v N w' k (safe && o.isSome) ins ∧ Fr v N W w' := by
  have hs : shOk s := by
    rw [← hsk.out]
    cases e : ins[k] with
    | none => intro i b hb; cases hb
    | some u => exact h.ok _ (List.getElem_mem hk) u e
  have H := Lib.hid (h.bel ((Bel.refl W).alloc (.cells #[.int .i64 op, .int .i64 fn, .int .i64 dst, .int .i64 src, .bool reg, .int .i64 off, .int .u32 imm] 95)))
  have HB := Lib.hid ((Bel.refl W).alloc (.cells #[.int .i64 op, .int .i64 fn, .int .i64 dst, .int .i64 src, .bool reg, .int .i64 off, .int .u32 imm] 95))
  have B1 := Bk.new W 95 #[.int .i64 op, .int .i64 fn, .int .i64 dst, .int .i64 src, .bool reg, .int .i64 off, .int .u32 imm]
  have hnw := h.nw
  clear h
  go_enter Tryz.func123, Tryz.ntmps123
  go_wp2_with fail
  generalize W.alloc (.cells #[.int .i64 op, .int .i64 fn, .int .i64 dst, .int .i64 src, .bool reg, .int .i64 off, .int .u32 imm] 95) = W0 at *
  obtain ⟨gr, hgr⟩ : ∃ gr, W.heap.size = gr := ⟨_, rfl⟩
  rw [hgr] at B1
  simp only [hgr]
  clear hgr
  have SD : Bel W0 W0.drew := (Bel.refl W0).drew
  have P0 := fun (w' : World) (hb : Bel W0 w') => (B1.bel hb).cell 0 (v := .int .i64 op) rfl
  have P1 := fun (w' : World) (hb : Bel W0 w') => (B1.bel hb).cell 1 (v := .int .i64 fn) rfl
  have P2 := fun (w' : World) (hb : Bel W0 w') => (B1.bel hb).cell 2 (v := .int .i64 dst) rfl
  have P3 := fun (w' : World) (hb : Bel W0 w') => (B1.bel hb).cell 3 (v := .int .i64 src) rfl
  have P4 := fun (w' : World) (hb : Bel W0 w') => (B1.bel hb).cell 4 (v := .bool reg) rfl
  have P5 := fun (w' : World) (hb : Bel W0 w') => (B1.bel hb).cell 5 (v := .int .i64 off) rfl
  have P6 := fun (w' : World) (hb : Bel W0 w') => (B1.bel hb).cell 6 (v := .int .u32 imm) rfl
  refine wp_region_T (fun w' => Bel W0 w') (fun _ => false) (by kernel_rfl) ?_
  refine wpAnyU_take (i := 0) (v := ?v0) rfl (by kernel_rfl) (by kernel_rfl) (by kernel_rfl) (by kernel_rfl) (fun _ _ _ h => h) ?hy0 SD ?rest0
  case hy0 => first | (refine Or.inl ⟨by rfl, ?_⟩; (intro w' hSw; go_simp) <;> with_reducible rfl) | (refine Or.inr ⟨by rfl, ?_⟩; with_reducible rfl)
  try simp only [List.getElem_toArray, List.getElem_cons_zero, List.getElem_cons_succ, Act.put, List.setIfInBounds_toArray, List.set_cons_zero, List.set_cons_succ]
  refine wpAnyU_take (i := 2) (v := ?v2) rfl (by kernel_rfl) (by kernel_rfl) (by kernel_rfl) (by kernel_rfl) (fun _ _ _ h => h) ?hy2 SD ?rest2
  case hy2 => first | (refine Or.inl ⟨by rfl, ?_⟩; (intro w' hSw; go_simp) <;> with_reducible rfl) | (refine Or.inr ⟨by rfl, ?_⟩; with_reducible rfl)
  try simp only [List.getElem_toArray, List.getElem_cons_zero, List.getElem_cons_succ, Act.put, List.setIfInBounds_toArray, List.set_cons_zero, List.set_cons_succ]
  refine wpAnyT_one (i := 1) (by kernel_rfl) rfl (fun K hK => ?_)
  go_simp
  go_at_call 127
  refine (here_any v N _ k safe ins (H.out.bel SD) hk s hsk).mono ?_
  rintro en w5 ⟨rfl, hb5⟩
  have S5 : Bel W0 w5 := SD.trans hb5
  dsimp only
  refine hK.out _ _ (fun _ => S5) ?_
  clear hK K
  try simp only [List.getElem_toArray, List.getElem_cons_zero, List.getElem_cons_succ, Act.put, List.setIfInBounds_toArray, List.set_cons_zero, List.set_cons_succ]
  refine wpAnyT_one (i := 3) (by kernel_rfl) rfl (fun K hK => ?_)
  go_simp
  go_at_call 150
  refine (shword_any s hs op fn dst src reg off imm him hm _ o ho).mono ?_
  rintro en w6 ⟨rfl, hb6⟩
  have S6 : Bel W0 w6 := S5.trans hb6
  dsimp only
  refine hK.out _ _ (fun _ => S6) ?_
  clear hK K
  try simp only [List.getElem_toArray, List.getElem_cons_zero, List.getElem_cons_succ, Act.put, List.setIfInBounds_toArray, List.set_cons_zero, List.set_cons_succ]
  refine wpAnyU_take (i := 4) (v := ?v4) rfl (by kernel_rfl) (by kernel_rfl) (by kernel_rfl) (by kernel_rfl) (fun _ _ _ h => h) ?hy4 S6 ?rest4
  case hy4 => first | (refine Or.inl ⟨by rfl, ?_⟩; (intro w' hSw; go_simp) <;> with_reducible rfl) | (refine Or.inr ⟨by rfl, ?_⟩; with_reducible rfl)
  try simp only [List.getElem_toArray, List.getElem_cons_zero, List.getElem_cons_succ, Act.put, List.setIfInBounds_toArray, List.set_cons_zero, List.set_cons_succ]
  refine wpAnyU_take (i := 5) (v := ?v5) rfl (by kernel_rfl) (by kernel_rfl) (by kernel_rfl) (by kernel_rfl) (fun _ _ _ h => h) ?hy5 S6 ?rest5
  case hy5 => first | (refine Or.inl ⟨by rfl, ?_⟩; (intro w' hSw; go_simp) <;> with_reducible rfl) | (refine Or.inr ⟨by rfl, ?_⟩; with_reducible rfl)
  try simp only [List.getElem_toArray, List.getElem_cons_zero, List.getElem_cons_succ, Act.put, List.setIfInBounds_toArray, List.set_cons_zero, List.set_cons_succ]
  refine wpAnyU_take (i := 6) (v := ?v6) rfl (by kernel_rfl) (by kernel_rfl) (by kernel_rfl) (by kernel_rfl) (fun _ _ _ h => h) ?hy6 S6 ?rest6
  case hy6 => first | (refine Or.inl ⟨by rfl, ?_⟩; (intro w' hSw; go_simp) <;> with_reducible rfl) | (refine Or.inr ⟨by rfl, ?_⟩; with_reducible rfl)
  try simp only [List.getElem_toArray, List.getElem_cons_zero, List.getElem_cons_succ, Act.put, List.setIfInBounds_toArray, List.set_cons_zero, List.set_cons_succ]
  refine wpAnyU_take (i := 7) (v := ?v7) rfl (by kernel_rfl) (by kernel_rfl) (by kernel_rfl) (by kernel_rfl) (fun _ _ _ h => h) ?hy7 S6 ?rest7
  case hy7 => first | (refine Or.inl ⟨by rfl, ?_⟩; (intro w' hSw; go_simp) <;> with_reducible rfl) | (refine Or.inr ⟨by rfl, ?_⟩; with_reducible rfl)
  try simp only [List.getElem_toArray, List.getElem_cons_zero, List.getElem_cons_succ, Act.put, List.setIfInBounds_toArray, List.set_cons_zero, List.set_cons_succ]
  refine wpAnyU_take (i := 8) (v := ?v8) rfl (by kernel_rfl) (by kernel_rfl) (by kernel_rfl) (by kernel_rfl) (fun _ _ _ h => h) ?hy8 S6 ?rest8
  case hy8 => first | (refine Or.inl ⟨by rfl, ?_⟩; (intro w' hSw; go_simp) <;> with_reducible rfl) | (refine Or.inr ⟨by rfl, ?_⟩; with_reducible rfl)
  try simp only [List.getElem_toArray, List.getElem_cons_zero, List.getElem_cons_succ, Act.put, List.setIfInBounds_toArray, List.set_cons_zero, List.set_cons_succ]
  refine wpAnyT_done (by kernel_rfl) ?_ _
  refine NoPanic.normal ?_
  have H2 := H.out.bel S6
  have c6 := H2.w.cell 6 (v := .bool safe) rfl
  have f6 := H2.w.frozen 6
  have HW := Lib.hid (H2.safe (safe && o.isSome))
  have HF := Lib.hid ((Fr.bel (HB.out.trans S6) hnw).trans (Fr.set (v := v) (N := N) w6 (p := ⟨v.g, 6, none⟩) (.inl rfl) H2.ng (.bool (safe && o.isSome))))
  clear hb5 hb6 H2 S5 S6 SD P0 P1 P2 P3 P4 P5 P6 B1
  unfold cV
  cases safe
  · simp only [Bool.false_and] at HW HF
    go_wp2_with fail
    go_ret
    exact ⟨rfl, by simpa using HW.out, HF.out⟩
  · simp only [Bool.true_and] at HW HF
    go_wp2_with fail
    go_ret
    exact ⟨rfl, by simpa using HW.out, HF.out⟩
set_option maxHeartbeats 4000000 in
set_option maxRecDepth 100000 in
theorem within_any (v : VE) (N : Nat) (W : World) (k : Nat) (safe : Bool) (ins : InsD) (h : Wk v N W k safe ins) (b : Bd) (hb : bdOk b) (m : Nat) (hm : m ≤ 100) (r : Bool) (hr : Hid (decide (b.2 < m) = r)) :
    Calls Tryz.prog 130 #[.pointer (some ⟨v.g, 0, none⟩), cV b, .int .i64 m] W fun e w' => e = .returned (.tuple #[]) ∧ Wk v N w' k (safe && r) ins ∧ Fr v N W w' := by
  obtain ⟨lo, hi⟩ := b
  obtain ⟨hb0, hb1⟩ := hb
  simp only at hb0 hb1 hr
  have H := Lib.hid h
  have em : IntKind.u64.wrap (m : Int) = m := by simp [IntKind.wrap, IntKind.bits, IntKind.signed]; omega
  have eh : IntKind.u64.wrap (hi : Int) = hi := by simp [IntKind.wrap, IntKind.bits, IntKind.signed]; omega
  clear h
  unfold cV
  go_enter Tryz.func130, Tryz.ntmps130
  go_wp2_with fail
  refine (ends_any lo hi _ hb0 hb1).mono ?_
  rintro e w1 ⟨rfl, hb⟩
  have H2 := H.out.bel hb
  have c6 := H2.w.cell 6 (v := .bool safe) rfl
  have f6 := H2.w.frozen 6
  have HW := Lib.hid (H2.safe (safe && r))
  have HF := Lib.hid ((Fr.bel hb H.out.nw).trans (Fr.set (v := v) (N := N) w1 (p := ⟨v.g, 6, none⟩) (.inl rfl) H2.ng (.bool (safe && r))))
  clear hb H2
  have hrr := hr.out
  cases r
  · have hlt : ¬ hi < m := of_decide_eq_false hrr
    have hlt2 : ¬ (hi : Int) < m := by omega
    clear hrr
    cases safe
    all_goals
      simp only [Bool.false_and, Bool.true_and] at HW HF
      go_wp2_with fail
      go_end0
      exact ⟨rfl, by simpa using HW.out, by simpa using HF.out⟩
  · have hlt : hi < m := of_decide_eq_true hrr
    have hlt2 : (hi : Int) < m := by omega
    clear hrr
    cases safe
    all_goals
      simp only [Bool.false_and, Bool.true_and] at HW HF
      go_wp2_with fail
      go_end0
      exact ⟨rfl, by simpa using HW.out, by simpa using HF.out⟩
end Go.Proofs.YtebdnobgdimdoaaGreat
set_option linter.unusedVariables false
set_option linter.unusedSimpArgs false
namespace Go.Proofs.YtebdnobgdimdoaaGreat
open Go.RowKit
set_option maxHeartbeats 4000000 in
set_option maxRecDepth 100000 in
theorem wto_any (v : VE) (N : Nat) (W : World) (k : Nat) (safe : Bool) (ins : InsD) (h : Wk v N W k safe ins) (j : Nat) (s : ShD) (hs : shOk s) (r : Option InsD) (hr : Hid (vTo ins j s = r)) :
    Calls Tryz.prog 47 #[.pointer (some ⟨v.g, 0, none⟩), .int .i64 j, .agg (shC s)] W fun e w' => e = .returned (.tuple #[]) ∧ Wk v N w' k (safe && r.isSome) (r.getD ins) ∧ Fr v N W w' := by
  have H := h.bel ((Bel.refl W).alloc (.cells (shC s) 69))
  have HB := (Bel.refl W).alloc (.cells (shC s) 69)
  have B1 := Bk.new W 69 (shC s)
  have hnw := h.nw
  have hgr := h.w.lt
  have hir := h.i.lt
  have hsr := h.s.lt
  have hlen := h.len
  have H0 := Lib.hid h
  clear h
  have hre := hr.out
  unfold vTo at hre
  have c3 := H.w.cell 3 (v := .slice (some ⟨v.Bi, 0, none⟩) v.len v.len) rfl
  have c4 := H.w.cell 4 (v := .slice (some ⟨v.Bs, 0, none⟩) v.len v.len) rfl
  have c6 := H.w.cell 6 (v := .bool safe) rfl
  have f6 := H.w.frozen 6
  have j0 : 0 ≤ (j : Int) := by omega
  by_cases hj : j < ins.length
  · have hj2 : (j : Int) < v.len := by omega
    rw [dif_pos hj] at hre
    have c7 : (W.alloc (.cells (shC s) 69)).cell? ⟨v.Bs, j, none⟩ = some (.bool ins[j].isSome) := H.s.cell j (insB_get ins hj)
    obtain ⟨q, hq⟩ : ∃ q, ins[j] = q := ⟨_, rfl⟩
    cases q with
    | some t =>
      have ht : shOk t := H.ok _ (List.getElem_mem hj) t hq
      have hjt : ins[j].isSome = true := by rw [hq]; rfl
      rw [hjt] at c7
      rw [hq] at hre
      simp only at hre
      subst hre
      go_enter Tryz.func47, Tryz.ntmps47
      go_wp2_with fail
      generalize W.alloc (.cells (shC s) 69) = W0 at *
      obtain ⟨gr, hgg⟩ : ∃ gr, W.heap.size = gr := ⟨_, rfl⟩
      rw [hgg] at B1 hgr hir hsr
      simp only [hgg]
      clear hgg
      have SD : Bel W0 W0.drew := (Bel.refl W0).drew
      have M3 := fun (w' : World) (hb : Bel W0 w') => hb.cell c3
      have L1 := fun (w' : World) (hb : Bel W0 w') => (H.bel hb).load hj
      rw [hq] at L1
      have L2 := fun (w' : World) (hb : Bel W0 w') => (B1.bel hb).load
      clear c3 c4 c6 c7 f6
      refine wp_region_T (fun w' => Bel W0 w') (fun i => i == 15) (by kernel_rfl) ?_
      refine wpAnyU_take (i := 0) (v := ?v0a) rfl (by kernel_rfl) (by kernel_rfl) (by kernel_rfl) (by kernel_rfl) (fun _ _ _ h => h) ?hy0a SD ?rest0a
      case hy0a => first | (refine Or.inl ⟨by rfl, ?_⟩; (intro w' hSw; go_simp) <;> with_reducible rfl) | (refine Or.inr ⟨by rfl, ?_⟩; with_reducible rfl)
      try simp only [List.getElem_toArray, List.getElem_cons_zero, List.getElem_cons_succ, Act.put, List.setIfInBounds_toArray, List.set_cons_zero, List.set_cons_succ]
      refine wpAnyU_take (i := 1) (v := ?v1a) rfl (by kernel_rfl) (by kernel_rfl) (by kernel_rfl) (by kernel_rfl) (fun _ _ _ h => h) ?hy1a SD ?rest1a
      case hy1a => first | (refine Or.inl ⟨by rfl, ?_⟩; (intro w' hSw; go_simp) <;> with_reducible rfl) | (refine Or.inr ⟨by rfl, ?_⟩; with_reducible rfl)
      try simp only [List.getElem_toArray, List.getElem_cons_zero, List.getElem_cons_succ, Act.put, List.setIfInBounds_toArray, List.set_cons_zero, List.set_cons_succ]
      refine wpAnyU_take (i := 2) (v := ?v2a) rfl (by kernel_rfl) (by kernel_rfl) (by kernel_rfl) (by kernel_rfl) (fun _ _ _ h => h) ?hy2a SD ?rest2a
      case hy2a => first | (refine Or.inl ⟨by rfl, ?_⟩; (intro w' hSw; go_simp) <;> with_reducible rfl) | (refine Or.inr ⟨by rfl, ?_⟩; with_reducible rfl)
      try simp only [List.getElem_toArray, List.getElem_cons_zero, List.getElem_cons_succ, Act.put, List.setIfInBounds_toArray, List.set_cons_zero, List.set_cons_succ]
      refine wpAnyU_take (i := 3) (v := ?v3a) rfl (by kernel_rfl) (by kernel_rfl) (by kernel_rfl) (by kernel_rfl) (fun _ _ _ h => h) ?hy3a SD ?rest3a
      case hy3a => first | (refine Or.inl ⟨by rfl, ?_⟩; (intro w' hSw; go_simp) <;> with_reducible rfl) | (refine Or.inr ⟨by rfl, ?_⟩; with_reducible rfl)
      try simp only [List.getElem_toArray, List.getElem_cons_zero, List.getElem_cons_succ, Act.put, List.setIfInBounds_toArray, List.set_cons_zero, List.set_cons_succ]
      refine wpAnyU_take (i := 4) (v := ?v4a) rfl (by kernel_rfl) (by kernel_rfl) (by kernel_rfl) (by kernel_rfl) (fun _ _ _ h => h) ?hy4a SD ?rest4a
      case hy4a => first | (refine Or.inl ⟨by rfl, ?_⟩; (intro w' hSw; go_simp) <;> with_reducible rfl) | (refine Or.inr ⟨by rfl, ?_⟩; with_reducible rfl)
      try simp only [List.getElem_toArray, List.getElem_cons_zero, List.getElem_cons_succ, Act.put, List.setIfInBounds_toArray, List.set_cons_zero, List.set_cons_succ]
      refine wpAnyU_take (i := 5) (v := ?v5a) rfl (by kernel_rfl) (by kernel_rfl) (by kernel_rfl) (by kernel_rfl) (fun _ _ _ h => h) ?hy5a SD ?rest5a
      case hy5a => first | (refine Or.inl ⟨by rfl, ?_⟩; (intro w' hSw; go_simp) <;> with_reducible rfl) | (refine Or.inr ⟨by rfl, ?_⟩; with_reducible rfl)
      try simp only [List.getElem_toArray, List.getElem_cons_zero, List.getElem_cons_succ, Act.put, List.setIfInBounds_toArray, List.set_cons_zero, List.set_cons_succ]
      refine wpAnyU_take (i := 6) (v := ?v6a) rfl (by kernel_rfl) (by kernel_rfl) (by kernel_rfl) (by kernel_rfl) (fun _ _ _ h => h) ?hy6a SD ?rest6a
      case hy6a => first | (refine Or.inl ⟨by rfl, ?_⟩; (intro w' hSw; go_simp) <;> with_reducible rfl) | (refine Or.inr ⟨by rfl, ?_⟩; with_reducible rfl)
      try simp only [List.getElem_toArray, List.getElem_cons_zero, List.getElem_cons_succ, Act.put, List.setIfInBounds_toArray, List.set_cons_zero, List.set_cons_succ]
      refine wpAnyU_take (i := 7) (v := ?v7a) rfl (by kernel_rfl) (by kernel_rfl) (by kernel_rfl) (by kernel_rfl) (fun _ _ _ h => h) ?hy7a SD ?rest7a
      case hy7a => first | (refine Or.inl ⟨by rfl, ?_⟩; (intro w' hSw; go_simp) <;> with_reducible rfl) | (refine Or.inr ⟨by rfl, ?_⟩; with_reducible rfl)
      try simp only [List.getElem_toArray, List.getElem_cons_zero, List.getElem_cons_succ, Act.put, List.setIfInBounds_toArray, List.set_cons_zero, List.set_cons_succ]
      refine wpAnyU_take (i := 8) (v := ?v8a) rfl (by kernel_rfl) (by kernel_rfl) (by kernel_rfl) (by kernel_rfl) (fun _ _ _ h => h) ?hy8a SD ?rest8a
      case hy8a => first | (refine Or.inl ⟨by rfl, ?_⟩; (intro w' hSw; go_simp) <;> with_reducible rfl) | (refine Or.inr ⟨by rfl, ?_⟩; with_reducible rfl)
      try simp only [List.getElem_toArray, List.getElem_cons_zero, List.getElem_cons_succ, Act.put, List.setIfInBounds_toArray, List.set_cons_zero, List.set_cons_succ]
      refine wpAnyU_take (i := 9) (v := ?v9a) rfl (by kernel_rfl) (by kernel_rfl) (by kernel_rfl) (by kernel_rfl) (fun _ _ _ h => h) ?hy9a SD ?rest9a
      case hy9a => first | (refine Or.inl ⟨by rfl, ?_⟩; (intro w' hSw; go_simp) <;> with_reducible rfl) | (refine Or.inr ⟨by rfl, ?_⟩; with_reducible rfl)
      try simp only [List.getElem_toArray, List.getElem_cons_zero, List.getElem_cons_succ, Act.put, List.setIfInBounds_toArray, List.set_cons_zero, List.set_cons_succ]
      refine wpAnyU_take (i := 10) (v := ?v10a) rfl (by kernel_rfl) (by kernel_rfl) (by kernel_rfl) (by kernel_rfl) (fun _ _ _ h => h) ?hy10a SD ?rest10a
      case hy10a => first | (refine Or.inl ⟨by rfl, ?_⟩; (intro w' hSw; go_simp) <;> with_reducible rfl) | (refine Or.inr ⟨by rfl, ?_⟩; with_reducible rfl)
      try simp only [List.getElem_toArray, List.getElem_cons_zero, List.getElem_cons_succ, Act.put, List.setIfInBounds_toArray, List.set_cons_zero, List.set_cons_succ]
      refine wpAnyU_take (i := 11) rfl (by kernel_rfl) (by kernel_rfl) (by kernel_rfl) (by kernel_rfl) (fun _ _ _ h => h) (yields_loadV (by rfl) rfl (by rfl) L1) SD ?rest11a
      try simp only [List.getElem_toArray, List.getElem_cons_zero, List.getElem_cons_succ, Act.put, List.setIfInBounds_toArray, List.set_cons_zero, List.set_cons_succ]
      refine wpAnyU_take (i := 12) rfl (by kernel_rfl) (by kernel_rfl) (by kernel_rfl) (by kernel_rfl) (fun _ _ _ h => h) (yields_loadV (by rfl) rfl (by rfl) L2) SD ?rest12a
      try simp only [List.getElem_toArray, List.getElem_cons_zero, List.getElem_cons_succ, Act.put, List.setIfInBounds_toArray, List.set_cons_zero, List.set_cons_succ]
      refine wpAnyT_one (i := 13) (by kernel_rfl) rfl (fun K hK => ?_)
      go_simp
      go_at_call 81
      refine (shjoin_any t s ht hs _).mono ?_
      rintro en w5 ⟨rfl, hb5⟩
      have S5 : Bel W0 w5 := SD.trans hb5
      have H5 := H.bel S5
      have HST := H5.store hj (shJoin t s)
      have HW := Lib.hid (H5.known hj (shJoin_ok ht hs) hjt)
      have HF := Lib.hid ((Fr.bel (HB.trans S5) hnw).trans (Fr.cells (v := v) (N := N) w5 H5.ni (j * 16) (shC (shJoin t s)).toList))
      dsimp only
      refine hK.out _ _ (fun _ => S5) ?_
      clear hK K
      try simp only [List.getElem_toArray, List.getElem_cons_zero, List.getElem_cons_succ, Act.put, List.setIfInBounds_toArray, List.set_cons_zero, List.set_cons_succ]
      refine wpAnyU_take (i := 14) (v := ?v14a) rfl (by kernel_rfl) (by kernel_rfl) (by kernel_rfl) (by kernel_rfl) (fun _ _ _ h => h) ?hy14a S5 ?rest14a
      case hy14a => first | (refine Or.inl ⟨by rfl, ?_⟩; (intro w' hSw; go_simp) <;> with_reducible rfl) | (refine Or.inr ⟨by rfl, ?_⟩; with_reducible rfl)
      try simp only [List.getElem_toArray, List.getElem_cons_zero, List.getElem_cons_succ, Act.put, List.setIfInBounds_toArray, List.set_cons_zero, List.set_cons_succ]
      refine wpAnyT_one (i := 15) (by kernel_rfl) rfl (fun K hK => ?_)
      refine wpT_storeV rfl rfl (by rfl) (by rfl) HST ?_
      refine hK.out _ _ (fun h => absurd h (by decide)) ?_
      clear hK K
      try simp only [List.getElem_toArray, List.getElem_cons_zero, List.getElem_cons_succ, Act.put, List.setIfInBounds_toArray, List.set_cons_zero, List.set_cons_succ]
      refine wpAnyT_done (by kernel_rfl) ?_ _
      refine NoPanic.normal ?_
      go_wp2_with fail
      go_end0
      exact ⟨rfl, by simpa using HW.out, HF.out⟩
    | none =>
      have hjt : ins[j].isSome = false := by rw [hq]; rfl
      rw [hjt] at c7
      rw [hq] at hre
      simp only at hre
      subst hre
      go_enter Tryz.func47, Tryz.ntmps47
      go_wp2_with fail
      generalize W.alloc (.cells (shC s) 69) = W0 at *
      obtain ⟨gr, hgg⟩ : ∃ gr, W.heap.size = gr := ⟨_, rfl⟩
      rw [hgg] at B1 hgr hir hsr
      simp only [hgg]
      clear hgg
      have SD : Bk W0.drew v.g 113 (v.cells k safe) ∧ Bk W0.drew gr 69 (shC s) := ⟨H.w.bel (Bel.refl W0).drew, B1.bel (Bel.refl W0).drew⟩
      have H5 := H.bel (Bel.refl W0).drew
      have HST := H5.store hj s
      have HW := Lib.hid (H5.first hj hs)
      have HF := Lib.hid (((Fr.bel (HB.trans (Bel.refl W0).drew) hnw).trans (Fr.cells (v := v) (N := N) W0.drew H5.ni (j * 16) (shC s).toList)).trans (Fr.set (v := v) (N := N) _ (p := ⟨v.Bs, j, none⟩) (.inr (.inr rfl)) H5.ns (.bool true)))
      have SE : Bk (W0.drew.setCells v.Bi (j * 16) (shC s).toList) v.g 113 (v.cells k safe) ∧ Bk (W0.drew.setCells v.Bi (j * 16) (shC s).toList) gr 69 (shC s) := ⟨⟨(setCells_other H.gi _ _ _).trans SD.1.out⟩, ⟨(setCells_other (by omega) _ _ _).trans SD.2.out⟩⟩
      have b7 : Bk (W0.drew.setCells v.Bi (j * 16) (shC s).toList) v.Bs 4 (insB ins) := ⟨(setCells_other (Ne.symm H.is) _ _ _).trans (H.s.bel (Bel.refl W0).drew).out⟩
      have d7 := b7.cell j (insB_get ins hj)
      have e7 := b7.frozen j
      have M3 := fun (w' : World) (hb : Bk w' v.g 113 (v.cells k safe) ∧ Bk w' gr 69 (shC s)) => hb.1.cell 3 (v := .slice (some ⟨v.Bi, 0, none⟩) v.len v.len) rfl
      have M4 := fun (w' : World) (hb : Bk w' v.g 113 (v.cells k safe) ∧ Bk w' gr 69 (shC s)) => hb.1.cell 4 (v := .slice (some ⟨v.Bs, 0, none⟩) v.len v.len) rfl
      have L2 := fun (w' : World) (hb : Bk w' v.g 113 (v.cells k safe) ∧ Bk w' gr 69 (shC s)) => hb.2.load
      clear c3 c4 c6 c7 f6
      refine wp_region_T (fun w' => Bk w' v.g 113 (v.cells k safe) ∧ Bk w' gr 69 (shC s)) (fun i => i == 14) (by kernel_rfl) ?_
      refine wpAnyU_take (i := 0) (v := ?v0b) rfl (by kernel_rfl) (by kernel_rfl) (by kernel_rfl) (by kernel_rfl) (fun _ _ _ h => h) ?hy0b SD ?rest0b
      case hy0b => first | (refine Or.inl ⟨by rfl, ?_⟩; (intro w' hSw; go_simp) <;> with_reducible rfl) | (refine Or.inr ⟨by rfl, ?_⟩; with_reducible rfl)
      try simp only [List.getElem_toArray, List.getElem_cons_zero, List.getElem_cons_succ, Act.put, List.setIfInBounds_toArray, List.set_cons_zero, List.set_cons_succ]
      refine wpAnyU_take (i := 1) (v := ?v1b) rfl (by kernel_rfl) (by kernel_rfl) (by kernel_rfl) (by kernel_rfl) (fun _ _ _ h => h) ?hy1b SD ?rest1b
      case hy1b => first | (refine Or.inl ⟨by rfl, ?_⟩; (intro w' hSw; go_simp) <;> with_reducible rfl) | (refine Or.inr ⟨by rfl, ?_⟩; with_reducible rfl)
      try simp only [List.getElem_toArray, List.getElem_cons_zero, List.getElem_cons_succ, Act.put, List.setIfInBounds_toArray, List.set_cons_zero, List.set_cons_succ]
      refine wpAnyU_take (i := 2) (v := ?v2b) rfl (by kernel_rfl) (by kernel_rfl) (by kernel_rfl) (by kernel_rfl) (fun _ _ _ h => h) ?hy2b SD ?rest2b
      case hy2b => first | (refine Or.inl ⟨by rfl, ?_⟩; (intro w' hSw; go_simp) <;> with_reducible rfl) | (refine Or.inr ⟨by rfl, ?_⟩; with_reducible rfl)
      try simp only [List.getElem_toArray, List.getElem_cons_zero, List.getElem_cons_succ, Act.put, List.setIfInBounds_toArray, List.set_cons_zero, List.set_cons_succ]
      refine wpAnyU_take (i := 3) (v := ?v3b) rfl (by kernel_rfl) (by kernel_rfl) (by kernel_rfl) (by kernel_rfl) (fun _ _ _ h => h) ?hy3b SD ?rest3b
      case hy3b => first | (refine Or.inl ⟨by rfl, ?_⟩; (intro w' hSw; go_simp) <;> with_reducible rfl) | (refine Or.inr ⟨by rfl, ?_⟩; with_reducible rfl)
      try simp only [List.getElem_toArray, List.getElem_cons_zero, List.getElem_cons_succ, Act.put, List.setIfInBounds_toArray, List.set_cons_zero, List.set_cons_succ]
      refine wpAnyU_take (i := 4) (v := ?v4b) rfl (by kernel_rfl) (by kernel_rfl) (by kernel_rfl) (by kernel_rfl) (fun _ _ _ h => h) ?hy4b SD ?rest4b
      case hy4b => first | (refine Or.inl ⟨by rfl, ?_⟩; (intro w' hSw; go_simp) <;> with_reducible rfl) | (refine Or.inr ⟨by rfl, ?_⟩; with_reducible rfl)
      try simp only [List.getElem_toArray, List.getElem_cons_zero, List.getElem_cons_succ, Act.put, List.setIfInBounds_toArray, List.set_cons_zero, List.set_cons_succ]
      refine wpAnyU_take (i := 5) (v := ?v5b) rfl (by kernel_rfl) (by kernel_rfl) (by kernel_rfl) (by kernel_rfl) (fun _ _ _ h => h) ?hy5b SD ?rest5b
      case hy5b => first | (refine Or.inl ⟨by rfl, ?_⟩; (intro w' hSw; go_simp) <;> with_reducible rfl) | (refine Or.inr ⟨by rfl, ?_⟩; with_reducible rfl)
      try simp only [List.getElem_toArray, List.getElem_cons_zero, List.getElem_cons_succ, Act.put, List.setIfInBounds_toArray, List.set_cons_zero, List.set_cons_succ]
      refine wpAnyU_take (i := 6) (v := ?v6b) rfl (by kernel_rfl) (by kernel_rfl) (by kernel_rfl) (by kernel_rfl) (fun _ _ _ h => h) ?hy6b SD ?rest6b
      case hy6b => first | (refine Or.inl ⟨by rfl, ?_⟩; (intro w' hSw; go_simp) <;> with_reducible rfl) | (refine Or.inr ⟨by rfl, ?_⟩; with_reducible rfl)
      try simp only [List.getElem_toArray, List.getElem_cons_zero, List.getElem_cons_succ, Act.put, List.setIfInBounds_toArray, List.set_cons_zero, List.set_cons_succ]
      refine wpAnyU_take (i := 7) (v := ?v7b) rfl (by kernel_rfl) (by kernel_rfl) (by kernel_rfl) (by kernel_rfl) (fun _ _ _ h => h) ?hy7b SD ?rest7b
      case hy7b => first | (refine Or.inl ⟨by rfl, ?_⟩; (intro w' hSw; go_simp) <;> with_reducible rfl) | (refine Or.inr ⟨by rfl, ?_⟩; with_reducible rfl)
      try simp only [List.getElem_toArray, List.getElem_cons_zero, List.getElem_cons_succ, Act.put, List.setIfInBounds_toArray, List.set_cons_zero, List.set_cons_succ]
      refine wpAnyU_take (i := 8) (v := ?v8b) rfl (by kernel_rfl) (by kernel_rfl) (by kernel_rfl) (by kernel_rfl) (fun _ _ _ h => h) ?hy8b SD ?rest8b
      case hy8b => first | (refine Or.inl ⟨by rfl, ?_⟩; (intro w' hSw; go_simp) <;> with_reducible rfl) | (refine Or.inr ⟨by rfl, ?_⟩; with_reducible rfl)
      try simp only [List.getElem_toArray, List.getElem_cons_zero, List.getElem_cons_succ, Act.put, List.setIfInBounds_toArray, List.set_cons_zero, List.set_cons_succ]
      refine wpAnyU_take (i := 9) (v := ?v9b) rfl (by kernel_rfl) (by kernel_rfl) (by kernel_rfl) (by kernel_rfl) (fun _ _ _ h => h) ?hy9b SD ?rest9b
      case hy9b => first | (refine Or.inl ⟨by rfl, ?_⟩; (intro w' hSw; go_simp) <;> with_reducible rfl) | (refine Or.inr ⟨by rfl, ?_⟩; with_reducible rfl)
      try simp only [List.getElem_toArray, List.getElem_cons_zero, List.getElem_cons_succ, Act.put, List.setIfInBounds_toArray, List.set_cons_zero, List.set_cons_succ]
      refine wpAnyU_take (i := 10) rfl (by kernel_rfl) (by kernel_rfl) (by kernel_rfl) (by kernel_rfl) (fun _ _ _ h => h) (yields_loadV (by rfl) rfl (by rfl) L2) SD ?rest10b
      try simp only [List.getElem_toArray, List.getElem_cons_zero, List.getElem_cons_succ, Act.put, List.setIfInBounds_toArray, List.set_cons_zero, List.set_cons_succ]
      refine wpAnyU_take (i := 11) (v := ?v11b) rfl (by kernel_rfl) (by kernel_rfl) (by kernel_rfl) (by kernel_rfl) (fun _ _ _ h => h) ?hy11b SD ?rest11b
      case hy11b => first | (refine Or.inl ⟨by rfl, ?_⟩; (intro w' hSw; go_simp) <;> with_reducible rfl) | (refine Or.inr ⟨by rfl, ?_⟩; with_reducible rfl)
      try simp only [List.getElem_toArray, List.getElem_cons_zero, List.getElem_cons_succ, Act.put, List.setIfInBounds_toArray, List.set_cons_zero, List.set_cons_succ]
      refine wpAnyT_one (i := 12) (by kernel_rfl) rfl (fun K hK => ?_)
      refine wpT_storeV rfl rfl (by rfl) (by rfl) HST ?_
      refine hK.out _ _ (fun _ => SE) ?_
      clear hK K
      try simp only [List.getElem_toArray, List.getElem_cons_zero, List.getElem_cons_succ, Act.put, List.setIfInBounds_toArray, List.set_cons_zero, List.set_cons_succ]
      refine wpAnyU_take (i := 13) (v := ?v13b) rfl (by kernel_rfl) (by kernel_rfl) (by kernel_rfl) (by kernel_rfl) (fun _ _ _ h => h) ?hy13b SE ?rest13b
      case hy13b => first | (refine Or.inl ⟨by rfl, ?_⟩; (intro w' hSw; go_simp) <;> with_reducible rfl) | (refine Or.inr ⟨by rfl, ?_⟩; with_reducible rfl)
      try simp only [List.getElem_toArray, List.getElem_cons_zero, List.getElem_cons_succ, Act.put, List.setIfInBounds_toArray, List.set_cons_zero, List.set_cons_succ]
      refine wpAnyT_one (i := 14) (by kernel_rfl) rfl (fun K hK => ?_)
      go_simp
      refine hK.out _ _ (fun h => absurd h (by decide)) ?_
      clear hK K
      try simp only [List.getElem_toArray, List.getElem_cons_zero, List.getElem_cons_succ, Act.put, List.setIfInBounds_toArray, List.set_cons_zero, List.set_cons_succ]
      refine wpAnyT_done (by kernel_rfl) ?_ _
      refine NoPanic.normal ?_
      clear SD SE
      go_wp2_with fail
      go_end0
      exact ⟨rfl, by simpa using HW.out, HF.out⟩
  · rw [dif_neg hj] at hre
    subst hre
    have hj2 : (v.len : Int) ≤ j := by omega
    have HW := Lib.hid ((H0.out.safe false).bel ((Bel.refl _).alloc (.cells (shC s) 69)))
    have HF := Lib.hid ((Fr.set (v := v) (N := N) W (p := ⟨v.g, 6, none⟩) (.inl rfl) H.ng (.bool false)).trans (Fr.bel ((Bel.refl _).alloc (.cells (shC s) 69)) (H0.out.safe false).nw))
    go_enter Tryz.func47, Tryz.ntmps47
    go_wp2_with fail
    go_end0
    exact ⟨rfl, by simpa using HW.out, HF.out⟩
set_option maxHeartbeats 4000000 in
set_option maxRecDepth 100000 in
theorem wthen_any (v : VE) (N : Nat) (W : World) (k : Nat) (safe : Bool) (ins : InsD) (h : Wk v N W k safe ins) (hk : k < ins.length) (s : ShD) (hs : shOk s) (r : Option InsD) (hr : Hid (vTo ins (k + 1) s = r)) :
    Calls Tryz.prog 131 #[.pointer (some ⟨v.g, 0, none⟩), .agg (shC s)] W fun e w' => e = .returned (.tuple #[]) ∧ Wk v N w' k (safe && r.isSome) (if safe = true then r.getD ins else ins) ∧ Fr v N W w' := by
  have H := h.bel ((Bel.refl W).alloc (.cells (shC s) 69))
  have HB := (Bel.refl W).alloc (.cells (shC s) 69)
  have B1 := Bk.new W 69 (shC s)
  have hnw := h.nw
  have hk64 : k < 64 := by have := h.len; have := h.small; omega
  have ek : IntKind.i64.wrap ((k : Int) + 1) = (k : Int) + 1 := wrap_i64 (by omega) (by omega)
  clear h
  have c5 := H.w.cell 5 (v := .int .i64 k) rfl
  have c6 := H.w.cell 6 (v := .bool safe) rfl
  cases safe
  · have HW := Lib.hid H
    have HF := Lib.hid (Fr.bel (v := v) HB hnw)
    go_enter Tryz.func131, Tryz.ntmps131
    go_wp2_with fail
    go_end0
    exact ⟨rfl, by simpa using HW.out, HF.out⟩
  · go_enter Tryz.func131, Tryz.ntmps131
    go_wp2_with fail
    generalize W.alloc (.cells (shC s) 69) = W0 at *
    obtain ⟨gr, hgg⟩ : ∃ gr, W.heap.size = gr := ⟨_, rfl⟩
    rw [hgg] at B1
    simp only [hgg]
    clear hgg
    have SD : Bel W0 W0.drew := (Bel.refl W0).drew
    have M5 := fun (w' : World) (hb : Bel W0 w') => hb.cell c5
    have L2 := fun (w' : World) (hb : Bel W0 w') => (B1.bel hb).load
    clear c5 c6
    refine wp_region_T (fun w' => Bel W0 w') (fun i => i != 4 && i != 6) (by kernel_rfl) ?_
    refine wpAnyW_take (i := 0) (v := ?v0) rfl (by kernel_rfl) (by kernel_rfl) (by kernel_rfl) (by kernel_rfl) (fun _ _ _ h => h) (Or.inl ⟨by rfl, ?hy0⟩) ?rest0
    case hy0 => (intro w' hSw; go_simp) <;> with_reducible rfl
    try simp only [List.getElem_toArray, List.getElem_cons_zero, List.getElem_cons_succ, Act.put, List.setIfInBounds_toArray, List.set_cons_zero, List.set_cons_succ]
    refine wpAnyW_take (i := 1) (v := ?v1) rfl (by kernel_rfl) (by kernel_rfl) (by kernel_rfl) (by kernel_rfl) (fun _ _ _ h => h) (Or.inl ⟨by rfl, ?hy1⟩) ?rest1
    case hy1 => (intro w' hSw; go_simp) <;> with_reducible rfl
    try simp only [List.getElem_toArray, List.getElem_cons_zero, List.getElem_cons_succ, Act.put, List.setIfInBounds_toArray, List.set_cons_zero, List.set_cons_succ]
    refine wpAnyW_take (i := 2) (v := ?v2) rfl (by kernel_rfl) (by kernel_rfl) (by kernel_rfl) (by kernel_rfl) (fun _ _ _ h => h) (Or.inl ⟨by rfl, ?hy2⟩) ?rest2
    case hy2 => (intro w' hSw; go_simp) <;> with_reducible rfl
    try simp only [List.getElem_toArray, List.getElem_cons_zero, List.getElem_cons_succ, Act.put, List.setIfInBounds_toArray, List.set_cons_zero, List.set_cons_succ]
    refine wpAnyW_take (i := 3) (v := ?v3) rfl (by kernel_rfl) (by kernel_rfl) (by kernel_rfl) (by kernel_rfl) (fun _ _ _ h => h) (Or.inl ⟨by rfl, ?hy3⟩) ?rest3
    case hy3 => (intro w' hSw; go_simp) <;> with_reducible rfl
    try simp only [List.getElem_toArray, List.getElem_cons_zero, List.getElem_cons_succ, Act.put, List.setIfInBounds_toArray, List.set_cons_zero, List.set_cons_succ]
    refine wpAnyU_take (i := 4) (v := ?v4) rfl (by kernel_rfl) (by kernel_rfl) (by kernel_rfl) (by kernel_rfl) (fun _ _ _ h => h) ?hy4 SD ?rest4
    case hy4 => first | (refine Or.inl ⟨by rfl, ?_⟩; (intro w' hSw; go_simp) <;> with_reducible rfl) | (refine Or.inr ⟨by rfl, ?_⟩; with_reducible rfl)
    try simp only [List.getElem_toArray, List.getElem_cons_zero, List.getElem_cons_succ, Act.put, List.setIfInBounds_toArray, List.set_cons_zero, List.set_cons_succ]
    refine wpAnyW_take (i := 5) (v := ?v5) rfl (by kernel_rfl) (by kernel_rfl) (by kernel_rfl) (by kernel_rfl) (fun _ _ _ h => h) (Or.inl ⟨by rfl, ?hy5⟩) ?rest5
    case hy5 => (intro w' hSw; go_simp) <;> with_reducible rfl
    try simp only [List.getElem_toArray, List.getElem_cons_zero, List.getElem_cons_succ, Act.put, List.setIfInBounds_toArray, List.set_cons_zero, List.set_cons_succ]
    refine wpAnyU_take (i := 6) rfl (by kernel_rfl) (by kernel_rfl) (by kernel_rfl) (by kernel_rfl) (fun _ _ _ h => h) (yields_loadV (by rfl) rfl (by rfl) L2) SD ?rest6
    try simp only [List.getElem_toArray, List.getElem_cons_zero, List.getElem_cons_succ, Act.put, List.setIfInBounds_toArray, List.set_cons_zero, List.set_cons_succ]
    refine wpAnyT_one (i := 7) (by kernel_rfl) rfl (fun K hK => ?_)
    go_simp
    go_at_call 47
    refine (wto_any v N _ k true ins (H.bel SD) (k + 1) s hs r hr).mono ?_
    rintro en w5 ⟨rfl, hw5, hf5⟩
    have HW := Lib.hid hw5
    have HF := Lib.hid ((Fr.bel (HB.trans SD) hnw).trans hf5)
    dsimp only
    refine hK.out _ _ (fun h => absurd h (by decide)) ?_
    clear hK K
    try simp only [List.getElem_toArray, List.getElem_cons_zero, List.getElem_cons_succ, Act.put, List.setIfInBounds_toArray, List.set_cons_zero, List.set_cons_succ]
    refine wpAnyT_done (by kernel_rfl) ?_ _
    refine NoPanic.normal ?_
    go_wp2_with fail
    go_end0
    exact ⟨rfl, by simpa using HW.out, HF.out⟩
set_option maxHeartbeats 4000000 in
set_option maxRecDepth 100000 in
theorem wput_any (v : VE) (N : Nat) (W : World) (k : Nat) (safe : Bool) (ins : InsD) (h : Wk v N W k safe ins) (hk : k < ins.length) (s : ShD) (hsk : Hid (sh0 ins[k] = s)) (n : Int) (b : Bd) (hb : bdOk b) (r : Option InsD) (hr : Hid (vTo ins (k + 1) (shPut s n b) = r)) :
    Calls Tryz.prog 125 #[.pointer (some ⟨v.g, 0, none⟩), .int .i64 n, cV b] W fun e w' => e = .returned (.tuple #[]) ∧ Wk v N w' k (safe && r.isSome) (if safe = true then r.getD ins else ins) ∧ Fr v N W w' := by
  have hs : shOk s := by
    rw [← hsk.out]
    cases e : ins[k] with
    | none => intro i b hb; cases hb
    | some u => exact h.ok _ (List.getElem_mem hk) u e
  have H := Lib.hid h
  clear h
  go_enter Tryz.func125, Tryz.ntmps125
  go_wp2_with fail
  refine (here_any v N W k safe ins H.out hk s hsk).mono ?_
  rintro e w1 ⟨rfl, hb1⟩
  go_wp2_with fail
  refine (shput_any s (shPut s n b) hs n b hb (Lib.hid rfl) _).mono ?_
  rintro e w2 ⟨rfl, hb2⟩
  go_wp2_with fail
  refine (wthen_any v N _ k safe ins (H.out.bel (hb1.trans hb2)) hk (shPut s n b) (shPut_ok hs hb) r hr).mono ?_
  rintro e w3 ⟨rfl, hw3, hf3⟩
  have HW := Lib.hid hw3
  have HF := Lib.hid ((Fr.bel (hb1.trans hb2) H.out.nw).trans hf3)
  clear hw3 hf3 hb1 hb2
  cases safe
  all_goals
    go_wp2_with fail
    go_end0
    exact ⟨rfl, by simpa using HW.out, HF.out⟩
end Go.Proofs.YtebdnobgdimdoaaGreat
