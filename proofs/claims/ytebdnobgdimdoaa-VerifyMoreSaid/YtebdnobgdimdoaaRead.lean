/- How data that came in lie in memory: slices of whatever element, structs field by field. Over whatever program. -/
import Derived.Test.YtebdnobgdimdoaaKit
import Derived.ProofKit
import Derived.OpenShut
import Derived.Deep.Slices
set_option linter.unusedVariables false
set_option linter.unusedSimpArgs false
namespace Go.Proofs.Ytebdnobgdimdoaa
open Go.RowKit Go.ChangeShapes Go.WideShapes

/-- A slice of 'l.length' elements, each of 'sz' cells; 'R' says what an element's cells are. -/
structure Sl {T : Type} (R : World → List Value → T → Prop) (sz : Nat) (w : World) (A : Option Addr) (cap : Nat) (l : List T) : Prop where
  le : l.length ≤ cap
  big : cap ≤ maxLen
  get : ∀ i (h : i < l.length), ∃ b off cs, A = some ⟨b, off, none⟩ ∧ cs.length = sz ∧ R w cs l[i] ∧ ∀ j v, cs[j]? = some v → w.cell? ⟨b, off + i * sz + j, none⟩ = some v
def Mono {T : Type} (R : World → List Value → T → Prop) : Prop := ∀ w w' cs x, Bel w w' → R w cs x → R w' cs x
theorem Sl.mono {T : Type} {R : World → List Value → T → Prop} (hR : Mono R) {sz : Nat} {w w' : World} {A : Option Addr} {cap : Nat} {l : List T} (h : Sl R sz w A cap l) (hb : Bel w w') : Sl R sz w' A cap l :=
  ⟨h.le, h.big, fun i hi => by
    obtain ⟨b, off, cs, hA, hl, hr, hc⟩ := h.get i hi
    exact ⟨b, off, cs, hA, hl, hR _ _ _ _ hb hr, fun j v hv => hb.cell (hc j v hv)⟩⟩
theorem Sl.nil {T : Type} (R : World → List Value → T → Prop) (sz : Nat) (w : World) : Sl R sz w none 0 [] := ⟨by simp, by decide, fun i hi => by simp at hi⟩
/-- Where there is an element, the slice leads to a block. -/
theorem Sl.addr {T : Type} {R : World → List Value → T → Prop} {sz : Nat} {w : World} {A : Option Addr} {cap : Nat} {l : List T} (h : Sl R sz w A cap l) (hp : 0 < l.length) : ∃ b off, A = some ⟨b, off, none⟩ := by
  obtain ⟨b, off, cs, hA, _⟩ := h.get 0 hp
  exact ⟨b, off, hA⟩

section
variable {H : Type} {enc : TypeId × Value → H} {P : Program} {w : World} {base : Nat} {spare : Nat → Bool} {held : Bool}

/-- A struct's fields, each by its own cells. -/
theorem trod_fields {t : TypeId} {fs : Array Field} {fuel : Nat} {cs : List Value} {x : DataW H × List MemPlace} (ht : P.underlying t = some (.struct fs)) (h : DataW.trod enc P w base spare held fuel t cs = some x) :
    ∃ n, cs.length = P.cellsOf t ∧ ∀ (j : Nat) (f : Field), fs[j]? = some f → ∃ y, DataW.trod enc P w base spare held n f.type ((cs.drop f.offset).take (P.cellsOf f.type)) = some y := by
  cases fuel with
  | zero => simp [DataW.trod] at h
  | succ n =>
    unfold DataW.trod at h
    rw [ht] at h
    have key : cs.length = P.cellsOf t ∧ ∃ xs, (fs.toList.mapM fun f => DataW.trod enc P w base spare held n f.type ((cs.drop f.offset).take (P.cellsOf f.type))) = some xs := by
      split at h <;> simp_all
      all_goals (obtain ⟨_, xs, hx, _⟩ := h; exact ⟨xs, hx⟩)
    obtain ⟨hl, xs, hx⟩ := key
    refine ⟨n, hl, fun j f hf => ?_⟩
    have hm : f ∈ fs.toList := by
      have := Array.getElem?_eq_some_iff.1 hf
      obtain ⟨hj, e⟩ := this
      rw [← e]; simp
    clear h hf
    generalize fs.toList = L at hx hm
    induction L generalizing xs with
    | nil => simp at hm
    | cons g L ih =>
      simp only [List.mapM_cons, Option.bind_eq_bind, Option.bind_eq_some_iff, Option.pure_def] at hx
      obtain ⟨y, hy, ys, hys, _⟩ := hx
      rcases List.mem_cons.1 hm with rfl | hm
      · exact ⟨y, hy⟩
      · exact ih ys hys hm

theorem trod_field {t : TypeId} {fs : Array Field} {fuel : Nat} {cs : List Value} {x : DataW H × List MemPlace} (ht : P.underlying t = some (.struct fs)) (h : DataW.trod enc P w base spare held fuel t cs = some x) :
    ∃ n, cs.length = P.cellsOf t ∧ ∀ (j : Nat) (u : TypeId) (o c : Nat), (fs[j]?).map (fun f => (f.type, f.offset)) = some (u, o) → P.cellsOf u = c → ∃ y, DataW.trod enc P w base spare held n u ((cs.drop o).take c) = some y := by
  obtain ⟨n, hl, hf⟩ := trod_fields ht h
  refine ⟨n, hl, fun j u o c hu hc => ?_⟩
  obtain ⟨f, hj, he⟩ := Option.map_eq_some_iff.1 hu
  simp only [Prod.mk.injEq] at he
  obtain ⟨rfl, rfl⟩ := he
  subst hc
  exact hf j f hj
theorem cells_at {b : World} {base : Nat} {a : Addr} {n : Nat} {cs : List Value} (h : b.cells? base a n = some cs) : cs.length = n ∧ ∀ j v, cs[j]? = some v → b.cell? (a.add j) = some v := by
  unfold World.cells? at h
  split at h
  · have key : ∀ (L : List Nat) (cs : List Value), (L.mapM fun i => b.cell? (a.add i)) = some cs → cs.length = L.length ∧ ∀ (j : Nat) (v : Value), cs[j]? = some v → ∃ i : Nat, L[j]? = some i ∧ b.cell? (a.add i) = some v := by
      intro L
      induction L with
      | nil => intro cs hc; simp at hc; subst hc; simp
      | cons i L ih =>
        intro cs hc
        simp only [List.mapM_cons, Option.bind_eq_bind, Option.bind_eq_some_iff, Option.pure_def] at hc
        obtain ⟨y, hy, ys, hys, e⟩ := hc
        simp at e; subst e
        obtain ⟨h1, h2⟩ := ih ys hys
        refine ⟨by simp [h1], fun j v hv => ?_⟩
        cases j with
        | zero => simp at hv; subst hv; exact ⟨i, rfl, hy⟩
        | succ j => simp at hv; obtain ⟨i', e1, e2⟩ := h2 j v hv; exact ⟨i', by simpa using e1, e2⟩
    obtain ⟨h1, h2⟩ := key _ _ h
    refine ⟨by simpa using h1, fun j v hv => ?_⟩
    obtain ⟨i, e1, e2⟩ := h2 j v hv
    rw [List.getElem?_range] at e1
    · simp at e1; subst e1; exact e2
    · have := List.getElem?_eq_some_iff.1 hv
      obtain ⟨hj, _⟩ := this
      simp at h1; omega
  · simp at h

/-- A slice, element by element. -/
theorem open_sl {T : Type} {R : World → List Value → T → Prop} {sz : Nat} {t e : TypeId} {fuel : Nat} {cs : List Value} {x : DataW H × List MemPlace} (ht : P.underlying t = some (.slice e)) (hsz : P.cellsOf e = sz) (hp : 0 < sz)
    (hR : ∀ n cs y, cs.length = sz → DataW.trod enc P w base spare held n e cs = some y → ∃ x : T, R w cs x) (h : DataW.trod enc P w base spare held fuel t cs = some x) :
    ∃ A cap l, cs = [.slice A l.length cap] ∧ Sl R sz w A cap l := by
  rcases Go.Deep.open_slice ht h with ⟨rfl, _⟩ | ⟨a, len, cap, m, n, D, Pl, rfl, hb, hl, hm, hmm, _, hel⟩
  · exact ⟨none, 0, [], rfl, Sl.nil R sz w⟩
  · have hlm : len ≤ m := by rw [hmm]; split <;> omega
    have one : ∀ i, i < len → ∃ (y : T) (cs' : List Value), cs'.length = sz ∧ R w cs' y ∧ ∀ j v, cs'[j]? = some v → w.cell? ((a.add (i * sz)).add j) = some v := by
      intro i hi
      obtain ⟨cs', h1, h2⟩ := hel i (by omega)
      rw [hsz] at h1
      obtain ⟨k1, k2⟩ := cells_at h1
      obtain ⟨y, hy⟩ := hR _ _ _ k1 h2
      exact ⟨y, cs', k1, hy, k2⟩
    have all : ∃ l : List T, l.length = len ∧ ∀ i (hi : i < l.length), ∃ (cs' : List Value), cs'.length = sz ∧ R w cs' l[i] ∧ ∀ j v, cs'[j]? = some v → w.cell? ((a.add (i * sz)).add j) = some v := by
      have step : ∀ k, k ≤ len → ∃ l : List T, l.length = k ∧ ∀ i (hi : i < l.length), ∃ (cs' : List Value), cs'.length = sz ∧ R w cs' l[i] ∧ ∀ j v, cs'[j]? = some v → w.cell? ((a.add (i * sz)).add j) = some v := by
        intro k
        induction k with
        | zero => intro _; exact ⟨[], rfl, fun i hi => by simp at hi⟩
        | succ k ih =>
          intro hk
          obtain ⟨l, h1, h2⟩ := ih (by omega)
          obtain ⟨y, cs', q1, q2, q3⟩ := one k (by omega)
          refine ⟨l ++ [y], by simp [h1], fun i hi => ?_⟩
          by_cases he : i < l.length
          · obtain ⟨c, r1, r2, r3⟩ := h2 i he
            exact ⟨c, r1, by rw [List.getElem_append_left he]; exact r2, r3⟩
          · have : i = k := by simp at hi; omega
            subst this
            refine ⟨cs', q1, ?_, q3⟩
            rw [List.getElem_append_right (by omega)]
            simpa [h1] using q2
      exact step len (Nat.le_refl _)
    obtain ⟨l, rfl, hl2⟩ := all
    refine ⟨some a, cap, l, rfl, ⟨hl, hm, fun i hi => ?_⟩⟩
    obtain ⟨cs', q1, q2, q3⟩ := hl2 i hi
    have hsp : a.spot = none := by
      obtain ⟨cs0, z1, z2, z3⟩ := hl2 0 (by omega)
      have hz : (a.add (0 * sz)).add 0 = a := by simp [Addr.add]
      have hv : cs0[0]? = some (cs0[0]'(by omega)) := List.getElem?_eq_getElem _
      have := World.cell?_spot (z3 0 _ hv)
      rwa [hz] at this
    obtain ⟨b, off, spot⟩ := a
    simp at hsp; subst hsp
    refine ⟨b, off, cs', rfl, q1, q2, fun j v hv => ?_⟩
    have := q3 j v hv
    rwa [Go.WideShapes.add_plain, Go.WideShapes.add_plain] at this
/-- A number of a kind, in one cell. -/
def IntR (k : IntKind) (w : World) (cs : List Value) (x : Int) : Prop := cs = [.int k x] ∧ (Lit.int k x).wf = true
theorem IntR.mono (k : IntKind) : Mono (IntR k) := fun w w' cs x hb h => h
theorem open_Int {t : TypeId} {k : IntKind} (ht : P.underlying t = some (.int k)) {n : Nat} {cs : List Value} {y : DataW H × List MemPlace} (h : DataW.trod enc P w base spare held n t cs = some y) : ∃ x, IntR k w cs x := by
  obtain ⟨x, e, _, hw⟩ := DataW.trod_int ht h
  exact ⟨x, e, hw⟩
/-- A slice of numbers: its cells. -/
theorem Sl.int_cell {k : IntKind} {w : World} {A : Option Addr} {cap : Nat} {l : List Int} (h : Sl (IntR k) 1 w A cap l) (hp : 0 < l.length) :
    ∃ b off, A = some ⟨b, off, none⟩ ∧ ∀ i (hi : i < l.length), w.cell? ⟨b, off + i, none⟩ = some (.int k (l.getD i 0)) ∧ (Lit.int k (l.getD i 0)).wf = true := by
  obtain ⟨b, off, rfl⟩ := h.addr hp
  refine ⟨b, off, rfl, fun i hi => ?_⟩
  obtain ⟨b', off', cs, e, hl, ⟨rfl, hw⟩, hc⟩ := h.get i hi
  simp at e; obtain ⟨rfl, rfl⟩ := e
  have := hc 0 _ rfl
  simp at this
  rw [List.getD_eq_getElem?_getD, List.getElem?_eq_getElem hi]
  exact ⟨this, hw⟩
end
end Go.Proofs.Ytebdnobgdimdoaa
