/- A region that draws its order and ends with a store into a cell that it has read: what is held need not hold behind the operations named by 'fin'. Over whatever program. Two more ways to take an operation first in a drawn region: one that reads the world, where whatever breaks what is held waits for it in the end; and one that does not read it, where nothing need be held any more. Over whatever program. A drawn region by an invariant: whatever may come up keeps it, in any order. Over whatever program. -/
import Derived.Deep.RegionHeld3
set_option linter.unusedVariables false
namespace Go.Proofs.YtebdnobgdimdoaaGreat
open Go
section
variable {P : Program} {ops : Array Oper} {Q : Exit → Act → World → Prop} {md : Region.Mode} {S : World → Prop} {fin : Nat → Bool}
def wpAnyT (P : Program) (md : Region.Mode) (ops : Array Oper) (Q : Exit → Act → World → Prop) (S : World → Prop) (fin : Nat → Bool) : Nat → Array Bool → Act → World → Prop
  | 0, listed, a, w => Region.ready md ops listed = [] ∧ Q .normal a w
  | fuel + 1, listed, a, w =>
    (Region.ready md ops listed = [] → Q .normal a w) ∧
    ∀ i ∈ Region.ready md ops listed, wpOp P ops Q i (fun a' w' => (fin i = false → S w') ∧ wpAnyT P md ops Q S fin fuel (listed.setIfInBounds i true) a' w') a w
theorem wpAny_of_T : ∀ (fuel : Nat) (listed : Array Bool) (a : Act) (w : World), wpAnyT P md ops Q S fin fuel listed a w → wpAny P md ops Q fuel listed a w
  | 0, _, _, _, h => h
  | fuel + 1, _, _, _, h => ⟨h.1, fun i hi => wpOp_mono (fun a' w' h' => wpAny_of_T fuel _ a' w' h'.2) (h.2 i hi)⟩
theorem wpAnyT_first {i : Nat} {oi : Oper} {v : Value} (hi : ops[i]? = some oi) (hsel : ∀ (j : Nat) (o : Oper) cs b, ops[j]? = some o → o.op ≠ .select cs b)
    (hQ : ∀ c a w, Q (.panic c) (a.put oi.dst v) w → Q (.panic c) a w) (hfin : ∀ j oj, fin j = true → ops[j]? = some oj → j ≠ i → ∃ e ∈ oj.after, Region.binds md e = true ∧ e.on = i) :
    ∀ (fuel : Nat) (listed : Array Bool) (a : Act) (w : World),
      (∀ j oj, ops[j]? = some oj → j ≠ i → listed.getD j true = false → (∀ e ∈ oj.after, Region.binds md e = true → e.on ≠ i) → oi.apart ops oj = true) →
      i ∈ Region.ready md ops listed → YieldsIf P ops S oi v a → S w →
      wpAnyT P md ops Q S fin fuel (listed.setIfInBounds i true) (a.put oi.dst v) w → wpAnyT P md ops Q S fin (fuel + 1) listed a w := by
  intro fuel
  induction fuel with
  | zero =>
    intro listed a w _ hr hy hS H
    refine ⟨fun h => (by rw [h] at hr; cases hr), fun j hj => ?_⟩
    by_cases hji : j = i
    · subst hji; exact hy.wpOp hi hS ⟨fun _ => hS, H⟩
    · have := ready_mono hj hji
      rw [H.1] at this
      cases this
  | succ fuel ih =>
    intro listed a w hfree hr hy hS H
    refine ⟨fun h => (by rw [h] at hr; cases hr), fun j hj => ?_⟩
    by_cases hji : j = i
    · subst hji; exact hy.wpOp hi hS ⟨fun _ => hS, H⟩
    · have h1 := H.2 j (ready_mono hj hji)
      obtain ⟨hjun, oj, hoj, hall⟩ := mem_ready.1 hj
      have hnot : ∀ e ∈ oj.after, Region.binds md e = true → e.on ≠ i := fun e he hb heq => by
        have h1 := hall e he hb
        have h0 := (mem_ready.1 hr).1
        rw [heq] at h1
        rcases Nat.lt_or_ge i listed.size with h' | h'
        · simp [h'] at h0 h1; rw [h0] at h1; cases h1
        · simp [Array.getElem?_eq_none h'] at h1
      have hjf : fin j = false := by
        cases hf : fin j
        · rfl
        · obtain ⟨e, he, hb, ho⟩ := hfin j oj hf hoj hji
          exact absurd ho (hnot e he hb)
      have h2 := wpOp_putIf hoj (hfree j oj hoj hji hjun hnot) (fun cs b => hsel i oi cs b hi) (fun cs b => hsel j oj cs b hoj) hQ hy h1
      have hfree' : ∀ k ok, ops[k]? = some ok → k ≠ i → (listed.setIfInBounds j true).getD k true = false →
          (∀ e ∈ ok.after, Region.binds md e = true → e.on ≠ i) → oi.apart ops ok = true := fun k ok hk hki hun hno => by
        refine hfree k ok hk hki ?_ hno
        by_cases hjk : j = k
        · subst hjk; exact hjun
        · rw [getD_set_ne true hjk] at hun; exact hun
      refine wpOp_mono (fun a' w' h3 => ⟨h3.2.1, ih (listed.setIfInBounds j true) a' w' hfree' (ready_mono hr (Ne.symm hji)) h3.1 (h3.2.1 hjf) ?_⟩) h2
      rw [Array.setIfInBounds_comm _ _ hji]
      exact h3.2.2
/-- Whatever is named by 'fin' waits for number i. -/
def finB (md : Region.Mode) (ops : Array Oper) (fin : Nat → Bool) (i : Nat) : Bool :=
  (List.range ops.size).all fun j => !fin j || j == i || match ops[j]? with
    | some oj => oj.after.any fun e => Region.binds md e && e.on == i
    | none => true
theorem finB_spec {i : Nat} (h : finB md ops fin i = true) (j : Nat) (oj : Oper) (hf : fin j = true) (hj : ops[j]? = some oj) (hne : j ≠ i) : ∃ e ∈ oj.after, Region.binds md e = true ∧ e.on = i := by
  unfold finB at h
  rw [List.all_eq_true] at h
  have h1 := h j (List.mem_range.2 (Array.getElem?_eq_some_iff.1 hj).1)
  simp only [hf, Bool.not_true, Bool.false_or, hj, Bool.or_eq_true, beq_iff_eq, hne, false_or] at h1
  obtain ⟨e, he, hb⟩ := Array.any_eq_true'.1 h1
  simp only [Bool.and_eq_true, beq_iff_eq] at hb
  exact ⟨e, he, hb.1, hb.2⟩
theorem wpAnyT_take {i : Nat} {oi : Oper} {v : Value} {fuel : Nat} {listed : Array Bool} {a : Act} {w : World} (hi : ops[i]? = some oi)
    (hs : Region.noSelect ops = true) (hf : Region.free md ops listed i = true) (hr : (Region.ready md ops listed).contains i = true) (hfin : finB md ops fin i = true)
    (hQ : ∀ c a w, Q (.panic c) (a.put oi.dst v) w → Q (.panic c) a w) (hy : YieldsIf P ops S oi v a) (hS : S w)
    (h : wpAnyT P md ops Q S fin fuel (listed.setIfInBounds i true) (a.put oi.dst v) w) : wpAnyT P md ops Q S fin (fuel + 1) listed a w :=
  wpAnyT_first hi (Region.noSelect_spec hs) hQ (finB_spec hfin) fuel listed a w (Region.free_spec hi hf) (by simpa using hr) hy hS h
/-- One operation alone may come up. -/
theorem wpAnyT_one {i : Nat} {o : Oper} {fuel : Nat} {listed : Array Bool} {a : Act} {w : World} (hr : Region.ready md ops listed = [i]) (ho : ops[i]? = some o)
    (h : ∀ K' : Act → World → Prop, Shut (∀ a w, (fin i = false → S w) → wpAnyT P md ops Q S fin fuel (listed.setIfInBounds i true) a w → K' a w) → if Region.wanted o (yielded ops a.tmps) = true then Oper.wp P o a w K' Q else K' (a.put o.dst undef) w) :
    wpAnyT P md ops Q S fin (fuel + 1) listed a w :=
  ⟨fun h0 => (by rw [hr] at h0; cases h0), fun j hj => by
    rw [hr] at hj
    obtain rfl := List.mem_singleton.1 hj
    exact wpOp_step ho (fun K' hK => h K' (fun a w hS hW => hK a w ⟨hS, hW⟩))⟩
theorem wpAnyT_done {listed : Array Bool} {a : Act} {w : World} (hr : Region.ready md ops listed = []) (h : Q .normal a w) : ∀ fuel, wpAnyT P md ops Q S fin fuel listed a w
  | 0 => ⟨hr, h⟩
  | _ + 1 => ⟨fun _ => h, by rw [hr]; simp⟩
/-- The beginning; the region does not panic. -/
theorem wp_region_T {id : Nat} {a : Act} {w : World} (S : World → Prop) (fin : Nat → Bool) (hm : P.follows .mixedOrders = true)
    (h : wpAnyT P .any ops (NoPanic Q) S fin ops.size (Array.replicate ops.size false) a w.drew) : (Code.region id ops true).wp P Q a w :=
  wp_region_noPanic (wp_region_any hm (wpAny_of_T _ _ _ _ h))
end
end Go.Proofs.YtebdnobgdimdoaaGreat
set_option linter.unusedVariables false
namespace Go.Proofs.YtebdnobgdimdoaaGreat
open Go
section
variable {P : Program} {ops : Array Oper} {Q : Exit → Act → World → Prop} {md : Region.Mode} {S : World → Prop} {fin : Nat → Bool}
theorem getD_set_true {l : Array Bool} {j k : Nat} (h : l.getD k true = true) : (l.setIfInBounds j true).getD k true = true := by
  by_cases e : j = k
  · subst e
    rcases Nat.lt_or_ge j l.size with h' | h'
    · simp [h']
    · rw [Array.getD_eq_getD_getElem?, Array.getElem?_eq_none (by simpa using h')]
      rfl
  · rw [getD_set_ne true e]; exact h
theorem wpAnyU_first {i : Nat} {oi : Oper} {v : Value} (bl : Nat → Bool) (hi : ops[i]? = some oi) (hsel : ∀ (j : Nat) (o : Oper) cs b, ops[j]? = some o → o.op ≠ .select cs b)
    (hQ : ∀ c a w, Q (.panic c) (a.put oi.dst v) w → Q (.panic c) a w) (hfin : ∀ j oj, bl j = true → ops[j]? = some oj → j ≠ i → ∃ e ∈ oj.after, Region.binds md e = true ∧ (e.on = i ∨ (bl e.on = true ∧ e.on ≠ i))) :
    ∀ (fuel : Nat) (listed : Array Bool) (a : Act) (w : World),
      (∀ j oj, ops[j]? = some oj → j ≠ i → listed.getD j true = false → (∀ e ∈ oj.after, Region.binds md e = true → e.on ≠ i) → oi.apart ops oj = true) →
      (∀ j, fin j = true → j ≠ i → bl j = true ∨ listed.getD j true = true) →
      (∀ j, bl j = true → j ≠ i → listed.getD j false = false) →
      i ∈ Region.ready md ops listed → YieldsIf P ops S oi v a → S w →
      wpAnyT P md ops Q S fin fuel (listed.setIfInBounds i true) (a.put oi.dst v) w → wpAnyT P md ops Q S fin (fuel + 1) listed a w := by
  intro fuel
  induction fuel with
  | zero =>
    intro listed a w _ _ _ hr hy hS H
    refine ⟨fun h => (by rw [h] at hr; cases hr), fun j hj => ?_⟩
    by_cases hji : j = i
    · subst hji; exact hy.wpOp hi hS ⟨fun _ => hS, H⟩
    · have := ready_mono hj hji
      rw [H.1] at this
      cases this
  | succ fuel ih =>
    intro listed a w hfree hfb hun hr hy hS H
    refine ⟨fun h => (by rw [h] at hr; cases hr), fun j hj => ?_⟩
    by_cases hji : j = i
    · subst hji; exact hy.wpOp hi hS ⟨fun _ => hS, H⟩
    · have h1 := H.2 j (ready_mono hj hji)
      obtain ⟨hjun, oj, hoj, hall⟩ := mem_ready.1 hj
      have hnot : ∀ e ∈ oj.after, Region.binds md e = true → e.on ≠ i := fun e he hb heq => by
        have h1 := hall e he hb
        have h0 := (mem_ready.1 hr).1
        rw [heq] at h1
        rcases Nat.lt_or_ge i listed.size with h' | h'
        · simp [h'] at h0 h1; rw [h0] at h1; cases h1
        · simp [Array.getElem?_eq_none h'] at h1
      have hjb : bl j = false := by
        cases hf : bl j
        · rfl
        · obtain ⟨e, he, hb, ho⟩ := hfin j oj hf hoj hji
          rcases ho with ho | ⟨ho1, ho2⟩
          · exact absurd ho (hnot e he hb)
          · have h5 := hall e he hb
            rw [hun _ ho1 ho2] at h5
            cases h5
      have hjf : fin j = false := by
        cases hf : fin j
        · rfl
        · rcases hfb j hf hji with h | h
          · rw [hjb] at h; cases h
          · rw [hjun] at h; cases h
      have h2 := wpOp_putIf hoj (hfree j oj hoj hji hjun hnot) (fun cs b => hsel i oi cs b hi) (fun cs b => hsel j oj cs b hoj) hQ hy h1
      have hfree' : ∀ k ok, ops[k]? = some ok → k ≠ i → (listed.setIfInBounds j true).getD k true = false →
          (∀ e ∈ ok.after, Region.binds md e = true → e.on ≠ i) → oi.apart ops ok = true := fun k ok hk hki hunk hno => by
        refine hfree k ok hk hki ?_ hno
        by_cases hjk : j = k
        · subst hjk; exact hjun
        · rw [getD_set_ne true hjk] at hunk; exact hunk
      have hun' : ∀ k, bl k = true → k ≠ i → (listed.setIfInBounds j true).getD k false = false := fun k hk hki => by
        have hjk : j ≠ k := fun e => by rw [← e, hjb] at hk; cases hk
        rw [getD_set_ne false hjk]
        exact hun k hk hki
      refine wpOp_mono (fun a' w' h3 => ⟨h3.2.1, ih (listed.setIfInBounds j true) a' w' hfree' (fun k hk hki => (hfb k hk hki).imp id getD_set_true) hun' (ready_mono hr (Ne.symm hji)) h3.1 (h3.2.1 hjf) ?_⟩) h2
      rw [Array.setIfInBounds_comm _ _ hji]
      exact h3.2.2
theorem wpAnyW_first {i : Nat} {oi : Oper} {v : Value} (hi : ops[i]? = some oi) (hsel : ∀ (j : Nat) (o : Oper) cs b, ops[j]? = some o → o.op ≠ .select cs b)
    (hQ : ∀ c a w, Q (.panic c) (a.put oi.dst v) w → Q (.panic c) a w) (hif : fin i = true) :
    ∀ (fuel : Nat) (listed : Array Bool) (a : Act) (w : World),
      (∀ j oj, ops[j]? = some oj → j ≠ i → listed.getD j true = false → (∀ e ∈ oj.after, Region.binds md e = true → e.on ≠ i) → oi.apart ops oj = true) →
      i ∈ Region.ready md ops listed → YieldsIf P ops (fun _ => True) oi v a →
      wpAnyT P md ops Q S fin fuel (listed.setIfInBounds i true) (a.put oi.dst v) w → wpAnyT P md ops Q S fin (fuel + 1) listed a w := by
  intro fuel
  have hvac : fin i = false → ∀ w, S w := fun h => by rw [hif] at h; cases h
  induction fuel with
  | zero =>
    intro listed a w _ hr hy H
    refine ⟨fun h => (by rw [h] at hr; cases hr), fun j hj => ?_⟩
    by_cases hji : j = i
    · subst hji; exact hy.wpOp hi trivial ⟨fun h => hvac h _, H⟩
    · have := ready_mono hj hji
      rw [H.1] at this
      cases this
  | succ fuel ih =>
    intro listed a w hfree hr hy H
    refine ⟨fun h => (by rw [h] at hr; cases hr), fun j hj => ?_⟩
    by_cases hji : j = i
    · subst hji; exact hy.wpOp hi trivial ⟨fun h => hvac h _, H⟩
    · have h1 := H.2 j (ready_mono hj hji)
      obtain ⟨hjun, oj, hoj, hall⟩ := mem_ready.1 hj
      have hnot : ∀ e ∈ oj.after, Region.binds md e = true → e.on ≠ i := fun e he hb heq => by
        have h1 := hall e he hb
        have h0 := (mem_ready.1 hr).1
        rw [heq] at h1
        rcases Nat.lt_or_ge i listed.size with h' | h'
        · simp [h'] at h0 h1; rw [h0] at h1; cases h1
        · simp [Array.getElem?_eq_none h'] at h1
      have h2 := wpOp_putIf hoj (hfree j oj hoj hji hjun hnot) (fun cs b => hsel i oi cs b hi) (fun cs b => hsel j oj cs b hoj) hQ hy h1
      have hfree' : ∀ k ok, ops[k]? = some ok → k ≠ i → (listed.setIfInBounds j true).getD k true = false →
          (∀ e ∈ ok.after, Region.binds md e = true → e.on ≠ i) → oi.apart ops ok = true := fun k ok hk hki hunk hno => by
        refine hfree k ok hk hki ?_ hno
        by_cases hjk : j = k
        · subst hjk; exact hjun
        · rw [getD_set_ne true hjk] at hunk; exact hunk
      refine wpOp_mono (fun a' w' h3 => ⟨h3.2.1, ih (listed.setIfInBounds j true) a' w' hfree' (ready_mono hr (Ne.symm hji)) h3.1 ?_⟩) h2
      rw [Array.setIfInBounds_comm _ _ hji]
      exact h3.2.2
def blU (fin : Nat → Bool) (listed : Array Bool) (j : Nat) : Bool := fin j && !listed.getD j true
def finU (md : Region.Mode) (ops : Array Oper) (fin : Nat → Bool) (listed : Array Bool) (i : Nat) : Bool :=
  (List.range ops.size).all fun j => !blU fin listed j || j == i || match ops[j]? with
    | some oj => oj.after.any fun e => Region.binds md e && (e.on == i || (blU fin listed e.on && !(e.on == i)))
    | none => true
theorem finU_spec {listed : Array Bool} {i : Nat} (h : finU md ops fin listed i = true) : (∀ j oj, blU fin listed j = true → ops[j]? = some oj → j ≠ i → ∃ e ∈ oj.after, Region.binds md e = true ∧ (e.on = i ∨ (blU fin listed e.on = true ∧ e.on ≠ i))) ∧ (∀ j, fin j = true → j ≠ i → blU fin listed j = true ∨ listed.getD j true = true) ∧ (∀ j, blU fin listed j = true → j ≠ i → listed.getD j false = false) := by
  unfold finU at h
  rw [List.all_eq_true] at h
  refine ⟨fun j oj hf hj hne => ?_, fun j hf hne => ?_, fun j hf hne => ?_⟩
  · have h1 := h j (List.mem_range.2 (Array.getElem?_eq_some_iff.1 hj).1)
    simp only [hf, Bool.not_true, Bool.false_or, hj, Bool.or_eq_true, beq_iff_eq, hne, false_or] at h1
    obtain ⟨e, he, hb⟩ := Array.any_eq_true'.1 h1
    simp only [Bool.and_eq_true, Bool.or_eq_true, beq_iff_eq, Bool.not_eq_true', beq_eq_false_iff_ne] at hb
    exact ⟨e, he, hb.1, hb.2⟩
  · unfold blU
    cases listed.getD j true
    · left; rw [hf]; rfl
    · right; rfl
  · unfold blU at hf
    simp only [Bool.and_eq_true, Bool.not_eq_true'] at hf
    have h2 := hf.2
    rw [Array.getD_eq_getD_getElem?] at h2 ⊢
    cases hl : listed[j]? with
    | none => rfl
    | some b => rw [hl] at h2; simpa using h2
theorem wpAnyU_take {i : Nat} {oi : Oper} {v : Value} {fuel : Nat} {listed : Array Bool} {a : Act} {w : World} (hi : ops[i]? = some oi)
    (hs : Region.noSelect ops = true) (hf : Region.free md ops listed i = true) (hr : (Region.ready md ops listed).contains i = true) (hfin : finU md ops fin listed i = true)
    (hQ : ∀ c a w, Q (.panic c) (a.put oi.dst v) w → Q (.panic c) a w) (hy : YieldsIf P ops S oi v a) (hS : S w)
    (h : wpAnyT P md ops Q S fin fuel (listed.setIfInBounds i true) (a.put oi.dst v) w) : wpAnyT P md ops Q S fin (fuel + 1) listed a w :=
  wpAnyU_first (blU fin listed) hi (Region.noSelect_spec hs) hQ (finU_spec hfin).1 fuel listed a w (Region.free_spec hi hf) (finU_spec hfin).2.1 (finU_spec hfin).2.2 (by simpa using hr) hy hS h
theorem wpAnyW_take {i : Nat} {oi : Oper} {v : Value} {fuel : Nat} {listed : Array Bool} {a : Act} {w : World} (hi : ops[i]? = some oi)
    (hs : Region.noSelect ops = true) (hf : Region.free md ops listed i = true) (hr : (Region.ready md ops listed).contains i = true) (hif : fin i = true)
    (hQ : ∀ c a w, Q (.panic c) (a.put oi.dst v) w → Q (.panic c) a w) (hy : YieldsIf P ops (fun _ => True) oi v a)
    (h : wpAnyT P md ops Q S fin fuel (listed.setIfInBounds i true) (a.put oi.dst v) w) : wpAnyT P md ops Q S fin (fuel + 1) listed a w :=
  wpAnyW_first hi (Region.noSelect_spec hs) hQ hif fuel listed a w (Region.free_spec hi hf) (by simpa using hr) hy h
/-- Several may come up: each in turn. -/
theorem wpAnyT_two {i j : Nat} {oi oj : Oper} {fuel : Nat} {listed : Array Bool} {a : Act} {w : World} (hr : Region.ready md ops listed = [i, j]) (hi : ops[i]? = some oi) (hj : ops[j]? = some oj)
    (h1 : ∀ K' : Act → World → Prop, Shut (∀ a w, (fin i = false → S w) → wpAnyT P md ops Q S fin fuel (listed.setIfInBounds i true) a w → K' a w) → if Region.wanted oi (yielded ops a.tmps) = true then Oper.wp P oi a w K' Q else K' (a.put oi.dst undef) w)
    (h2 : ∀ K' : Act → World → Prop, Shut (∀ a w, (fin j = false → S w) → wpAnyT P md ops Q S fin fuel (listed.setIfInBounds j true) a w → K' a w) → if Region.wanted oj (yielded ops a.tmps) = true then Oper.wp P oj a w K' Q else K' (a.put oj.dst undef) w) :
    wpAnyT P md ops Q S fin (fuel + 1) listed a w :=
  ⟨fun h0 => (by rw [hr] at h0; cases h0), fun k hk => by
    rw [hr] at hk
    rcases List.mem_cons.1 hk with rfl | hk
    · exact wpOp_step hi (fun K' hK => h1 K' (fun a w hS hW => hK a w ⟨hS, hW⟩))
    · obtain rfl := List.mem_singleton.1 hk
      exact wpOp_step hj (fun K' hK => h2 K' (fun a w hS hW => hK a w ⟨hS, hW⟩))⟩
end
end Go.Proofs.YtebdnobgdimdoaaGreat
set_option linter.unusedVariables false
namespace Go.Proofs.YtebdnobgdimdoaaGreat
open Go
section
variable {P : Program} {ops : Array Oper} {Q : Exit → Act → World → Prop} {md : Region.Mode} {S : World → Prop} {fin : Nat → Bool}
def undone (l : Array Bool) : Nat := l.toList.count false
theorem count_set_true : ∀ (l : List Bool) (i : Nat), l[i]? = some false → (l.set i true).count false + 1 = l.count false
  | [], i, h => by simp at h
  | b :: l, 0, h => by
    simp only [List.getElem?_cons_zero, Option.some.injEq] at h
    subst h
    simp
  | b :: l, i + 1, h => by
    simp only [List.getElem?_cons_succ] at h
    have := count_set_true l i h
    rw [List.set_cons_succ, List.count_cons, List.count_cons]
    omega
theorem undone_set {l : Array Bool} {i : Nat} (h : l.getD i true = false) : undone (l.setIfInBounds i true) + 1 = undone l := by
  have hlt : i < l.size := by
    rcases Nat.lt_or_ge i l.size with h' | h'
    · exact h'
    · simp [Array.getElem?_eq_none h'] at h
  have e : l[i] = false := by simpa [hlt] using h
  unfold undone
  rw [Array.toList_setIfInBounds]
  exact count_set_true l.toList i (by simp [hlt, e])
theorem wpAny_inv (I : Array Bool → Act → World → Prop)
    (hstep : ∀ l a w, I l a w → ∀ i, i ∈ Region.ready md ops l → wpOp P ops Q i (fun a' w' => I (l.setIfInBounds i true) a' w') a w)
    (hend : ∀ l a w, I l a w → Region.ready md ops l = [] → Q .normal a w) :
    ∀ (fuel : Nat) (l : Array Bool) (a : Act) (w : World), undone l ≤ fuel → I l a w → wpAny P md ops Q fuel l a w
  | 0, l, a, w, hu, h => by
    have : Region.ready md ops l = [] := by
      cases e : Region.ready md ops l with
      | nil => rfl
      | cons i r =>
        have hi : i ∈ Region.ready md ops l := by rw [e]; exact List.mem_cons_self
        have := undone_set (mem_ready.1 hi).1
        omega
    exact ⟨this, hend l a w h this⟩
  | fuel + 1, l, a, w, hu, h => by
    refine ⟨fun h0 => hend l a w h h0, fun i hi => ?_⟩
    refine wpOp_mono (fun a' w' h' => wpAny_inv I hstep hend fuel _ a' w' ?_ h') (hstep l a w h i hi)
    have := undone_set (mem_ready.1 hi).1
    omega
/-- The same amid a region: the invariant may hold for a part of it alone. -/
theorem wpAnyT_inv (I : Array Bool → Act → World → Prop)
    (hstep : ∀ fuel l a w, undone l ≤ fuel → I l a w → wpAnyT P md ops Q S fin fuel l a w ∨ (Region.ready md ops l ≠ [] ∧ ∀ i ∈ Region.ready md ops l, wpOp P ops Q i (fun a' w' => (fin i = false → S w') ∧ I (l.setIfInBounds i true) a' w') a w)) :
    ∀ (fuel : Nat) (l : Array Bool) (a : Act) (w : World), undone l ≤ fuel → I l a w → wpAnyT P md ops Q S fin fuel l a w
  | 0, l, a, w, hu, h => by
    rcases hstep 0 l a w hu h with h1 | ⟨h1, -⟩
    · exact h1
    · cases e : Region.ready md ops l with
      | nil => exact absurd e h1
      | cons i r =>
        have hi : i ∈ Region.ready md ops l := by rw [e]; exact List.mem_cons_self
        have := undone_set (mem_ready.1 hi).1
        omega
  | fuel + 1, l, a, w, hu, h => by
    rcases hstep (fuel + 1) l a w hu h with h1 | ⟨h1, h2⟩
    · exact h1
    · refine ⟨fun h0 => absurd h0 h1, fun i hi => ?_⟩
      refine wpOp_mono (fun a' w' h' => ⟨h'.1, wpAnyT_inv I hstep fuel _ a' w' ?_ h'.2⟩) (h2 i hi)
      have := undone_set (mem_ready.1 hi).1
      omega
/-- Whether an operation may come up now. -/
def chk (md : Region.Mode) (ops : Array Oper) (l : Array Bool) (i : Nat) : Bool := decide (i < ops.size) && (!l.getD i true && ((ops[i]?).map (·.after.all fun e => !Region.binds md e || l.getD e.on false)).getD false)
theorem ready_iff {l : Array Bool} {i : Nat} : i ∈ Region.ready md ops l ↔ chk md ops l i = true := by
  unfold Region.ready chk
  simp only [List.mem_filter, List.mem_range, Bool.and_eq_true, decide_eq_true_iff]
theorem not_ready {l : Array Bool} {i : Nat} (h : i ∈ Region.ready md ops l) (hf : chk md ops l i = false) : False := by
  rw [ready_iff, hf] at h; cases h
theorem ready_ne {l : Array Bool} (i : Nat) (h : chk md ops l i = true) : Region.ready md ops l ≠ [] := fun e => by
  have := ready_iff.2 h
  rw [e] at this; cases this
theorem ready_lt {l : Array Bool} {i : Nat} (h : i ∈ Region.ready md ops l) : i < ops.size := by
  unfold Region.ready at h
  exact List.mem_range.1 (List.mem_filter.1 h).1
/-- Does operation i wait for operation j? -/
def depB (md : Region.Mode) (ops : Array Oper) (i j : Nat) : Bool := match ops[i]? with
  | some o => o.after.any fun e => Region.binds md e && e.on == j
  | none => false
theorem ready_dep {l : Array Bool} {i : Nat} (h : i ∈ Region.ready md ops l) (j : Nat) (hd : depB md ops i j = true) : l.getD j false = true := by
  obtain ⟨-, o, ho, hall⟩ := mem_ready.1 h
  unfold depB at hd
  rw [ho] at hd
  obtain ⟨e, he, hb⟩ := Array.any_eq_true'.1 hd
  simp only [Bool.and_eq_true, beq_iff_eq] at hb
  rw [← hb.2]
  exact hall e he hb.1
theorem ready_new {l : Array Bool} {i : Nat} (h : i ∈ Region.ready md ops l) : l.getD i true = false := (mem_ready.1 h).1
theorem wpOp_shut {i : Nat} {o : Oper} {K : Act → World → Prop} {a : Act} {w : World} (ho : ops[i]? = some o)
    (h : ∀ K' : Act → World → Prop, Shut (∀ a w, K a w → K' a w) → if Region.wanted o (yielded ops a.tmps) = true then Oper.wp P o a w K' Q else K' (a.put o.dst undef) w) : wpOp P ops Q i K a w :=
  wpOp_step ho (fun K' hK => h K' hK)
theorem wpAnyT_listed {fuel : Nat} {l l' : Array Bool} {a : Act} {w : World} (e : l = l') (h : wpAnyT P md ops Q S fin fuel l' a w) : wpAnyT P md ops Q S fin fuel l a w := e ▸ h
theorem wpAnyT_named {fuel : Nat} {l : Array Bool} {a : Act} {w : World} (h : ∀ A, A = a → wpAnyT P md ops Q S fin fuel l A w) : wpAnyT P md ops Q S fin fuel l a w := h a rfl
theorem undone_all (n : Nat) : undone (Array.replicate n false) = n := by simp [undone]
/-- A region that draws its order and does not panic. -/
theorem wp_region_inv {id : Nat} {a : Act} {w : World} (I : Array Bool → Act → World → Prop) (hm : P.follows .mixedOrders = true)
    (hbeg : I (Array.replicate ops.size false) a w.drew)
    (hstep : ∀ l a w, I l a w → ∀ i, i ∈ Region.ready .any ops l → wpOp P ops (NoPanic Q) i (fun a' w' => I (l.setIfInBounds i true) a' w') a w)
    (hend : ∀ l a w, I l a w → Region.ready .any ops l = [] → Q .normal a w) : (Code.region id ops true).wp P Q a w :=
  wp_region_noPanic (wp_region_any hm (wpAny_inv I hstep (fun l a w h h0 => NoPanic.normal (hend l a w h h0)) _ _ _ _ (by rw [undone_all]; exact Nat.le_refl _) hbeg))
end
end Go.Proofs.YtebdnobgdimdoaaGreat
