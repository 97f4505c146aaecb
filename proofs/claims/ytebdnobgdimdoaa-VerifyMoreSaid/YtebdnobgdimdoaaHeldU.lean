/- Two more ways to take an operation first in a drawn region: one that reads the world, where whatever breaks what is held waits for it in the end; and one that does not read it, where nothing need be held any more. Over whatever program. -/
import Derived.Test.YtebdnobgdimdoaaHeldT
set_option linter.unusedVariables false
namespace Go.Proofs.Ytebdnobgdimdoaa
open Go
section
variable {P : Program} {ops : Array Oper} {Q : Exit → Act → World → Prop} {md : Region.Mode} {S : World → Prop} {fin : Nat → Bool}

theorem getD_set_true {l : Array Bool} {j k : Nat} (h : l.getD k true = true) : (l.setIfInBounds j true).getD k true = true := by
  by_cases e : j = k
  · subst e
    rcases Nat.lt_or_ge j l.size with h' | h'
    · simp [h']
    · rw [Array.getD_eq_getD_getElem?, Array.getElem?_eq_none (by simpa using h')]
      rfl
  · rw [getD_set_ne true e]; exact h
theorem wpAnyU_first {i : Nat} {oi : Oper} {v : Value} (bl : Nat → Bool) (hi : ops[i]? = some oi) (hsel : ∀ (j : Nat) (o : Oper) cs b, ops[j]? = some o → o.op ≠ .select cs b)
    (hQ : ∀ c a w, Q (.panic c) (a.put oi.dst v) w → Q (.panic c) a w) (hfin : ∀ j oj, bl j = true → ops[j]? = some oj → j ≠ i → ∃ e ∈ oj.after, Region.binds md e = true ∧ (e.on = i ∨ (bl e.on = true ∧ e.on ≠ i))) :
    ∀ (fuel : Nat) (listed : Array Bool) (a : Act) (w : World),
      (∀ j oj, ops[j]? = some oj → j ≠ i → listed.getD j true = false → (∀ e ∈ oj.after, Region.binds md e = true → e.on ≠ i) → oi.apart ops oj = true) →
      (∀ j, fin j = true → j ≠ i → bl j = true ∨ listed.getD j true = true) →
      (∀ j, bl j = true → j ≠ i → listed.getD j false = false) →
      i ∈ Region.ready md ops listed → YieldsIf P ops S oi v a → S w →
      wpAnyT P md ops Q S fin fuel (listed.setIfInBounds i true) (a.put oi.dst v) w → wpAnyT P md ops Q S fin (fuel + 1) listed a w := by
  intro fuel
  induction fuel with
  | zero =>
    intro listed a w _ _ _ hr hy hS H
    refine ⟨fun h => (by rw [h] at hr; cases hr), fun j hj => ?_⟩
    by_cases hji : j = i
    · subst hji; exact hy.wpOp hi hS ⟨fun _ => hS, H⟩
    · have := ready_mono hj hji
      rw [H.1] at this
      cases this
  | succ fuel ih =>
    intro listed a w hfree hfb hun hr hy hS H
    refine ⟨fun h => (by rw [h] at hr; cases hr), fun j hj => ?_⟩
    by_cases hji : j = i
    · subst hji; exact hy.wpOp hi hS ⟨fun _ => hS, H⟩
    · have h1 := H.2 j (ready_mono hj hji)
      obtain ⟨hjun, oj, hoj, hall⟩ := mem_ready.1 hj
      have hnot : ∀ e ∈ oj.after, Region.binds md e = true → e.on ≠ i := fun e he hb heq => by
        have h1 := hall e he hb
        have h0 := (mem_ready.1 hr).1
        rw [heq] at h1
        rcases Nat.lt_or_ge i listed.size with h' | h'
        · simp [h'] at h0 h1; rw [h0] at h1; cases h1
        · simp [Array.getElem?_eq_none h'] at h1
      have hjb : bl j = false := by
        cases hf : bl j
        · rfl
        · obtain ⟨e, he, hb, ho⟩ := hfin j oj hf hoj hji
          rcases ho with ho | ⟨ho1, ho2⟩
          · exact absurd ho (hnot e he hb)
          · have h5 := hall e he hb
            rw [hun _ ho1 ho2] at h5
            cases h5
      have hjf : fin j = false := by
        cases hf : fin j
        · rfl
        · rcases hfb j hf hji with h | h
          · rw [hjb] at h; cases h
          · rw [hjun] at h; cases h
      have h2 := wpOp_putIf hoj (hfree j oj hoj hji hjun hnot) (fun cs b => hsel i oi cs b hi) (fun cs b => hsel j oj cs b hoj) hQ hy h1
      have hfree' : ∀ k ok, ops[k]? = some ok → k ≠ i → (listed.setIfInBounds j true).getD k true = false →
          (∀ e ∈ ok.after, Region.binds md e = true → e.on ≠ i) → oi.apart ops ok = true := fun k ok hk hki hunk hno => by
        refine hfree k ok hk hki ?_ hno
        by_cases hjk : j = k
        · subst hjk; exact hjun
        · rw [getD_set_ne true hjk] at hunk; exact hunk
      have hun' : ∀ k, bl k = true → k ≠ i → (listed.setIfInBounds j true).getD k false = false := fun k hk hki => by
        have hjk : j ≠ k := fun e => by rw [← e, hjb] at hk; cases hk
        rw [getD_set_ne false hjk]
        exact hun k hk hki
      refine wpOp_mono (fun a' w' h3 => ⟨h3.2.1, ih (listed.setIfInBounds j true) a' w' hfree' (fun k hk hki => (hfb k hk hki).imp id getD_set_true) hun' (ready_mono hr (Ne.symm hji)) h3.1 (h3.2.1 hjf) ?_⟩) h2
      rw [Array.setIfInBounds_comm _ _ hji]
      exact h3.2.2
theorem wpAnyW_first {i : Nat} {oi : Oper} {v : Value} (hi : ops[i]? = some oi) (hsel : ∀ (j : Nat) (o : Oper) cs b, ops[j]? = some o → o.op ≠ .select cs b)
    (hQ : ∀ c a w, Q (.panic c) (a.put oi.dst v) w → Q (.panic c) a w) (hif : fin i = true) :
    ∀ (fuel : Nat) (listed : Array Bool) (a : Act) (w : World),
      (∀ j oj, ops[j]? = some oj → j ≠ i → listed.getD j true = false → (∀ e ∈ oj.after, Region.binds md e = true → e.on ≠ i) → oi.apart ops oj = true) →
      i ∈ Region.ready md ops listed → YieldsIf P ops (fun _ => True) oi v a →
      wpAnyT P md ops Q S fin fuel (listed.setIfInBounds i true) (a.put oi.dst v) w → wpAnyT P md ops Q S fin (fuel + 1) listed a w := by
  intro fuel
  have hvac : fin i = false → ∀ w, S w := fun h => by rw [hif] at h; cases h
  induction fuel with
  | zero =>
    intro listed a w _ hr hy H
    refine ⟨fun h => (by rw [h] at hr; cases hr), fun j hj => ?_⟩
    by_cases hji : j = i
    · subst hji; exact hy.wpOp hi trivial ⟨fun h => hvac h _, H⟩
    · have := ready_mono hj hji
      rw [H.1] at this
      cases this
  | succ fuel ih =>
    intro listed a w hfree hr hy H
    refine ⟨fun h => (by rw [h] at hr; cases hr), fun j hj => ?_⟩
    by_cases hji : j = i
    · subst hji; exact hy.wpOp hi trivial ⟨fun h => hvac h _, H⟩
    · have h1 := H.2 j (ready_mono hj hji)
      obtain ⟨hjun, oj, hoj, hall⟩ := mem_ready.1 hj
      have hnot : ∀ e ∈ oj.after, Region.binds md e = true → e.on ≠ i := fun e he hb heq => by
        have h1 := hall e he hb
        have h0 := (mem_ready.1 hr).1
        rw [heq] at h1
        rcases Nat.lt_or_ge i listed.size with h' | h'
        · simp [h'] at h0 h1; rw [h0] at h1; cases h1
        · simp [Array.getElem?_eq_none h'] at h1
      have h2 := wpOp_putIf hoj (hfree j oj hoj hji hjun hnot) (fun cs b => hsel i oi cs b hi) (fun cs b => hsel j oj cs b hoj) hQ hy h1
      have hfree' : ∀ k ok, ops[k]? = some ok → k ≠ i → (listed.setIfInBounds j true).getD k true = false →
          (∀ e ∈ ok.after, Region.binds md e = true → e.on ≠ i) → oi.apart ops ok = true := fun k ok hk hki hunk hno => by
        refine hfree k ok hk hki ?_ hno
        by_cases hjk : j = k
        · subst hjk; exact hjun
        · rw [getD_set_ne true hjk] at hunk; exact hunk
      refine wpOp_mono (fun a' w' h3 => ⟨h3.2.1, ih (listed.setIfInBounds j true) a' w' hfree' (ready_mono hr (Ne.symm hji)) h3.1 ?_⟩) h2
      rw [Array.setIfInBounds_comm _ _ hji]
      exact h3.2.2
def blU (fin : Nat → Bool) (listed : Array Bool) (j : Nat) : Bool := fin j && !listed.getD j true
def finU (md : Region.Mode) (ops : Array Oper) (fin : Nat → Bool) (listed : Array Bool) (i : Nat) : Bool :=
  (List.range ops.size).all fun j => !blU fin listed j || j == i || match ops[j]? with
    | some oj => oj.after.any fun e => Region.binds md e && (e.on == i || (blU fin listed e.on && !(e.on == i)))
    | none => true
theorem finU_spec {listed : Array Bool} {i : Nat} (h : finU md ops fin listed i = true) : (∀ j oj, blU fin listed j = true → ops[j]? = some oj → j ≠ i → ∃ e ∈ oj.after, Region.binds md e = true ∧ (e.on = i ∨ (blU fin listed e.on = true ∧ e.on ≠ i))) ∧ (∀ j, fin j = true → j ≠ i → blU fin listed j = true ∨ listed.getD j true = true) ∧ (∀ j, blU fin listed j = true → j ≠ i → listed.getD j false = false) := by
  unfold finU at h
  rw [List.all_eq_true] at h
  refine ⟨fun j oj hf hj hne => ?_, fun j hf hne => ?_, fun j hf hne => ?_⟩
  · have h1 := h j (List.mem_range.2 (Array.getElem?_eq_some_iff.1 hj).1)
    simp only [hf, Bool.not_true, Bool.false_or, hj, Bool.or_eq_true, beq_iff_eq, hne, false_or] at h1
    obtain ⟨e, he, hb⟩ := Array.any_eq_true'.1 h1
    simp only [Bool.and_eq_true, Bool.or_eq_true, beq_iff_eq, Bool.not_eq_true', beq_eq_false_iff_ne] at hb
    exact ⟨e, he, hb.1, hb.2⟩
  · unfold blU
    cases listed.getD j true
    · left; rw [hf]; rfl
    · right; rfl
  · unfold blU at hf
    simp only [Bool.and_eq_true, Bool.not_eq_true'] at hf
    have h2 := hf.2
    rw [Array.getD_eq_getD_getElem?] at h2 ⊢
    cases hl : listed[j]? with
    | none => rfl
    | some b => rw [hl] at h2; simpa using h2
theorem wpAnyU_take {i : Nat} {oi : Oper} {v : Value} {fuel : Nat} {listed : Array Bool} {a : Act} {w : World} (hi : ops[i]? = some oi)
    (hs : Region.noSelect ops = true) (hf : Region.free md ops listed i = true) (hr : (Region.ready md ops listed).contains i = true) (hfin : finU md ops fin listed i = true)
    (hQ : ∀ c a w, Q (.panic c) (a.put oi.dst v) w → Q (.panic c) a w) (hy : YieldsIf P ops S oi v a) (hS : S w)
    (h : wpAnyT P md ops Q S fin fuel (listed.setIfInBounds i true) (a.put oi.dst v) w) : wpAnyT P md ops Q S fin (fuel + 1) listed a w :=
  wpAnyU_first (blU fin listed) hi (Region.noSelect_spec hs) hQ (finU_spec hfin).1 fuel listed a w (Region.free_spec hi hf) (finU_spec hfin).2.1 (finU_spec hfin).2.2 (by simpa using hr) hy hS h
theorem wpAnyW_take {i : Nat} {oi : Oper} {v : Value} {fuel : Nat} {listed : Array Bool} {a : Act} {w : World} (hi : ops[i]? = some oi)
    (hs : Region.noSelect ops = true) (hf : Region.free md ops listed i = true) (hr : (Region.ready md ops listed).contains i = true) (hif : fin i = true)
    (hQ : ∀ c a w, Q (.panic c) (a.put oi.dst v) w → Q (.panic c) a w) (hy : YieldsIf P ops (fun _ => True) oi v a)
    (h : wpAnyT P md ops Q S fin fuel (listed.setIfInBounds i true) (a.put oi.dst v) w) : wpAnyT P md ops Q S fin (fuel + 1) listed a w :=
  wpAnyW_first hi (Region.noSelect_spec hs) hQ hif fuel listed a w (Region.free_spec hi hf) (by simpa using hr) hy h
/-- Several may come up: each in turn. -/
theorem wpAnyT_two {i j : Nat} {oi oj : Oper} {fuel : Nat} {listed : Array Bool} {a : Act} {w : World} (hr : Region.ready md ops listed = [i, j]) (hi : ops[i]? = some oi) (hj : ops[j]? = some oj)
    (h1 : ∀ K' : Act → World → Prop, Shut (∀ a w, (fin i = false → S w) → wpAnyT P md ops Q S fin fuel (listed.setIfInBounds i true) a w → K' a w) → if Region.wanted oi (yielded ops a.tmps) = true then Oper.wp P oi a w K' Q else K' (a.put oi.dst undef) w)
    (h2 : ∀ K' : Act → World → Prop, Shut (∀ a w, (fin j = false → S w) → wpAnyT P md ops Q S fin fuel (listed.setIfInBounds j true) a w → K' a w) → if Region.wanted oj (yielded ops a.tmps) = true then Oper.wp P oj a w K' Q else K' (a.put oj.dst undef) w) :
    wpAnyT P md ops Q S fin (fuel + 1) listed a w :=
  ⟨fun h0 => (by rw [hr] at h0; cases h0), fun k hk => by
    rw [hr] at hk
    rcases List.mem_cons.1 hk with rfl | hk
    · exact wpOp_step hi (fun K' hK => h1 K' (fun a w hS hW => hK a w ⟨hS, hW⟩))
    · obtain rfl := List.mem_singleton.1 hk
      exact wpOp_step hj (fun K' hK => h2 K' (fun a w hS hW => hK a w ⟨hS, hW⟩))⟩
end
end Go.Proofs.Ytebdnobgdimdoaa
