/- Where control goes (chapter 8): what holds of it and of what ways cost. Nothing of the program. -/
import Derived.Test.YtebdnobgdimdoaaCrsPure
set_option linter.unusedVariables false
set_option linter.unusedSimpArgs false
namespace Go.Proofs.Ytebdnobgdimdoaa
open Go.RowKit

theorem crsMay_facts {l : List InstD} (h : crsMay l = true) : 0 < l.length ∧ l.length ≤ 64 ∧ ∀ k, k < l.length → (l[k]!).okB = true := by
  unfold crsMay at h
  rw [Bool.and_eq_true, decide_eq_true_iff, List.all_eq_true] at h
  refine ⟨h.1.1, h.1.2, fun k hk => ?_⟩
  rw [getElem!_pos l k hk]
  exact h.2 _ (List.getElem_mem hk)
theorem reach_zero {l : List InstD} (h : 0 < l.length) : (reach l).getD 0 false = true := (reach_get l h).2 (.inl rfl)
theorem fine_facts {l : List InstD} (h : fineB l = true) : crsMay l = true ∧ ∀ k, k < l.length → (reach l).getD k false = true → ∀ t ∈ nxt l[k]! k, t < l.length := by
  unfold fineB at h
  rw [Bool.and_eq_true, List.all_eq_true] at h
  refine ⟨h.1, fun k hk hr t ht => ?_⟩
  have := h.2 k (List.mem_range.2 hk)
  rw [hr] at this
  simp only [Bool.not_true, Bool.false_or, List.all_eq_true] at this
  exact of_decide_eq_true (this t ht)
theorem nxt_nil_iff {i : InstD} {k : Nat} : nxt i k = [] ↔ i.op = 7 := by
  unfold nxt
  constructor
  · intro h
    by_cases h7 : i.op = 7
    · exact h7
    · rw [if_neg h7] at h
      split at h
      · simp at h
      · split at h <;> simp at h
  · intro h; rw [if_pos h]
/-- What is next of what is reached is reached. -/
theorem reach_next {l : List InstD} {k t : Nat} (hk : k < l.length) (ht : t < l.length) (hr : (reach l).getD k false = true) (h : t ∈ nxt l[k]! k) : (reach l).getD t false = true :=
  (reach_get l ht).2 (.inr ⟨k, nxt_gt h, hr, h⟩)
/-- Where nothing goes off the end some end is reached. -/
theorem fine_end {l : List InstD} (h : fineB l = true) : ∃ k, k < l.length ∧ (reach l).getD k false = true ∧ (l[k]!).op = 7 := by
  obtain ⟨hm, hf⟩ := fine_facts h
  obtain ⟨h0, _, _⟩ := crsMay_facts hm
  have key : ∀ n k, l.length - k = n → k < l.length → (reach l).getD k false = true → ∃ k, k < l.length ∧ (reach l).getD k false = true ∧ (l[k]!).op = 7 := by
    intro n
    induction n using Nat.strongRecOn with
    | ind n ih =>
      intro k hn hk hr
      by_cases h7 : (l[k]!).op = 7
      · exact ⟨k, hk, hr, h7⟩
      · cases hx : nxt l[k]! k with
        | nil => exact absurd (nxt_nil_iff.1 hx) h7
        | cons t ts =>
          have ht : t ∈ nxt l[k]! k := by rw [hx]; simp
          have htl := hf k hk hr t ht
          have hgt := nxt_gt ht
          exact ih (l.length - t) (by omega) t rfl htl (reach_next hk htl hr ht)
  exact key _ 0 rfl h0 (reach_zero h0)
/-- Code with something behind that is reached by nothing. -/
theorem getElem!_app {l m : List InstD} {k : Nat} (h : k < l.length) : (l ++ m)[k]! = l[k]! := by
  rw [getElem!_pos (l ++ m) k (by rw [List.length_append]; omega), getElem!_pos l k h, List.getElem_append_left h]
theorem reach_app {l m : List InstD} (hf : fineB l = true) : ∀ i, i < (l ++ m).length → ((reach (l ++ m)).getD i false = true ↔ (i < l.length ∧ (reach l).getD i false = true)) := by
  obtain ⟨hm, hf⟩ := fine_facts hf
  obtain ⟨h0, _, _⟩ := crsMay_facts hm
  intro i
  induction i using Nat.strongRecOn with
  | ind i ih =>
    intro hi
    rw [reach_get _ hi]
    constructor
    · rintro (rfl | ⟨k, hk, h1, h2⟩)
      · exact ⟨h0, reach_zero h0⟩
      · obtain ⟨h3, h4⟩ := (ih k hk (by omega)).1 h1
        rw [getElem!_app h3] at h2
        have h5 := hf k h3 h4 i h2
        exact ⟨h5, reach_next h3 h5 h4 h2⟩
    · rintro ⟨h1, h2⟩
      rcases (reach_get l h1).1 h2 with rfl | ⟨k, hk, h3, h4⟩
      · exact .inl rfl
      · refine .inr ⟨k, hk, (ih k hk (by omega)).2 ⟨by omega, h3⟩, ?_⟩
        rw [getElem!_app (by omega)]
        exact h4
theorem fine_app {l m : List InstD} (hf : fineB l = true) (hm : crsMay (l ++ m) = true) : fineB (l ++ m) = true := by
  unfold fineB
  rw [Bool.and_eq_true, List.all_eq_true]
  refine ⟨hm, fun k hk => ?_⟩
  rw [List.mem_range] at hk
  by_cases hr : (reach (l ++ m)).getD k false = true
  · obtain ⟨h1, h2⟩ := (reach_app hf k hk).1 hr
    rw [hr]
    simp only [Bool.not_true, Bool.false_or, List.all_eq_true]
    intro t ht
    rw [getElem!_app h1] at ht
    have := (fine_facts hf).2 k h1 h2 t ht
    rw [List.length_append]
    exact decide_eq_true (by omega)
  · have : (reach (l ++ m)).getD k false = false := by simpa using hr
    rw [this]
    simp
theorem crsMay_app {l m : List InstD} (hm : crsMay (l ++ m) = true) (h : 0 < l.length) : crsMay l = true := by
  unfold crsMay at *
  rw [Bool.and_eq_true, decide_eq_true_iff, List.all_eq_true] at *
  refine ⟨⟨h, ?_⟩, fun x hx => hm.2 x (List.mem_append_left _ hx)⟩
  have := hm.1.2
  rw [List.length_append] at this
  omega
/-! What ways cost. -/
theorem costFrom_length (l : List InstD) (calls : List Int) : ∀ m, (costFrom l calls m).length = 65
  | 0 => by simp [costFrom]
  | m + 1 => by rw [costFrom, cstep, List.length_set, costFrom_length l calls m]
theorem costFrom_other {l : List InstD} {calls : List Int} {m k : Nat} (h : k ≠ l.length - 1 - m) : (costFrom l calls (m + 1)).getD k 0 = (costFrom l calls m).getD k 0 := by
  rw [costFrom, cstep]
  simp only [List.getD_eq_getElem?_getD, List.getElem?_set]
  rw [if_neg (fun e => h e.symm)]
theorem costFrom_still {l : List InstD} {calls : List Int} {k : Nat} (hk : k < l.length) : ∀ m, l.length - k ≤ m → m ≤ l.length → (costFrom l calls m).getD k 0 = (costFrom l calls (l.length - k)).getD k 0
  | 0, h, _ => by omega
  | m + 1, h, h2 => by
    by_cases e : l.length - k = m + 1
    · rw [e]
    · rw [costFrom_other (by omega), costFrom_still hk m (by omega) (by omega)]
theorem behindC_congr {n : Nat} {C D : List Int} : ∀ (ts : List Nat) (b : Int), (∀ t ∈ ts, t < n → C.getD t 0 = D.getD t 0) → ts.foldl (fun b t => if t < n then max b (C.getD t 0) else b) b = ts.foldl (fun b t => if t < n then max b (D.getD t 0) else b) b
  | [], b, h => rfl
  | t :: ts, b, h => by
    rw [List.foldl_cons, List.foldl_cons]
    have : (if t < n then max b (C.getD t 0) else b) = (if t < n then max b (D.getD t 0) else b) := by
      split
      · rename_i ht; rw [h t (by simp) ht]
      · rfl
    rw [this]
    exact behindC_congr ts _ fun t' ht' => h t' (by simp [ht'])
/-- All costs. -/
def cost (l : List InstD) (calls : List Int) (k : Nat) : Int := (costFrom l calls l.length).getD k 0
theorem cost_eq {l : List InstD} (hl : l.length ≤ 64) (calls : List Int) {k : Nat} (hk : k < l.length) :
    cost l calls k = min (ownC l[k]! calls + behindC l.length (costFrom l calls l.length) (nxt l[k]! k)) 1000000 := by
  unfold cost
  rw [costFrom_still hk l.length (by omega) (by omega)]
  obtain ⟨m, hm⟩ : ∃ m, l.length - k = m + 1 := ⟨l.length - k - 1, by omega⟩
  have hk' : l.length - 1 - m = k := by omega
  rw [hm, costFrom, cstep, hk']
  simp only [List.getD_eq_getElem?_getD, List.getElem?_set, costFrom_length]
  rw [if_pos True.intro, if_pos (by omega)]
  simp only [Option.getD_some]
  congr 2
  unfold behindC
  refine behindC_congr _ _ fun t ht htl => ?_
  have hgt := nxt_gt ht
  rw [costFrom_still htl m (by omega) (by omega), costFrom_still htl l.length (by omega) (by omega)]
theorem behindC_bounds {n : Nat} {C : List Int} {M : Int} : ∀ (ts : List Nat) (b : Int), 0 ≤ b → b ≤ M → (∀ t ∈ ts, t < n → C.getD t 0 ≤ M) → 0 ≤ ts.foldl (fun b t => if t < n then max b (C.getD t 0) else b) b ∧ ts.foldl (fun b t => if t < n then max b (C.getD t 0) else b) b ≤ M
  | [], b, h1, h2, _ => ⟨h1, h2⟩
  | t :: ts, b, h1, h2, h3 => by
    rw [List.foldl_cons]
    refine behindC_bounds ts _ ?_ ?_ fun t' ht' => h3 t' (by simp [ht'])
    · split <;> omega
    · split
      · rename_i ht; have := h3 t (by simp) ht; omega
      · exact h2
/-- What all instructions from a place on cost together. -/
def costSum (l : List InstD) (calls : List Int) (k : Nat) : Int := ((l.drop k).map fun i => ownC i calls).sum
theorem ownC_pos (i : InstD) (calls : List Int) : 1 ≤ ownC i calls := by
  unfold ownC
  split
  · rename_i h; omega
  · omega
theorem costSum_step {l : List InstD} (calls : List Int) {k : Nat} (hk : k < l.length) : costSum l calls k = ownC l[k]! calls + costSum l calls (k + 1) := by
  unfold costSum
  rw [List.drop_eq_getElem_cons hk, List.map_cons, List.sum_cons, getElem!_pos l k hk]
theorem costSum_mono {l : List InstD} (calls : List Int) : ∀ (n k t : Nat), t - k = n → k ≤ t → t ≤ l.length → costSum l calls t ≤ costSum l calls k
  | 0, k, t, h, h1, h2 => by obtain rfl : k = t := by omega
                             exact Int.le_refl _
  | n + 1, k, t, h, h1, h2 => by
    rw [costSum_step calls (by omega : k < l.length)]
    have := costSum_mono calls n (k + 1) t (by omega) (by omega) h2
    have := ownC_pos l[k]! calls
    omega
theorem costSum_nonneg (l : List InstD) (calls : List Int) (k : Nat) (h : k ≤ l.length) : 0 ≤ costSum l calls k := by
  have := costSum_mono (l := l) calls (l.length - k) k l.length rfl h (Nat.le_refl _)
  simpa [costSum] using this
theorem cost_bounds {l : List InstD} (hl : l.length ≤ 64) (calls : List Int) : ∀ (n k : Nat), l.length - k = n → k < l.length → 1 ≤ cost l calls k ∧ cost l calls k ≤ costSum l calls k ∧ cost l calls k ≤ 1000000 := by
  intro n
  induction n using Nat.strongRecOn with
  | ind n ih =>
    intro k hn hk
    have hb := behindC_bounds (n := l.length) (C := costFrom l calls l.length) (M := costSum l calls (k + 1)) (nxt l[k]! k) 0 (Int.le_refl _) (costSum_nonneg l calls _ (by omega)) (fun t ht htl => by
      have hgt := nxt_gt ht
      have h1 := (ih (l.length - t) (by omega) t rfl htl).2.1
      have h2 := costSum_mono (l := l) calls (t - (k + 1)) (k + 1) t rfl (by omega) (by omega)
      exact Int.le_trans h1 h2)
    have h1 := ownC_pos l[k]! calls
    rw [cost_eq hl calls hk, costSum_step calls hk]
    unfold behindC
    omega
theorem behindC_le {n : Nat} {C D : List Int} {y : Int} (hy : 0 ≤ y) : ∀ (ts : List Nat) (b d : Int), b ≤ d + y → (∀ t ∈ ts, t < n → C.getD t 0 ≤ D.getD t 0 + y) → ts.foldl (fun b t => if t < n then max b (C.getD t 0) else b) b ≤ ts.foldl (fun b t => if t < n then max b (D.getD t 0) else b) d + y
  | [], b, d, h, _ => h
  | t :: ts, b, d, h, h3 => by
    rw [List.foldl_cons, List.foldl_cons]
    refine behindC_le hy ts _ _ ?_ fun t' ht' => h3 t' (by simp [ht'])
    split
    · rename_i ht; have := h3 t (by simp) ht; omega
    · exact h
/-- Costs that are greater, each by no more than 'more'. -/
theorem cost_more {l : List InstD} (hl : l.length ≤ 64) {c d : List Int} {more : Int} (hm : 0 ≤ more) (h1 : ∀ i : InstD, ownC i c ≤ ownC i d) (h2 : ∀ i : InstD, ownC i d ≤ ownC i c + more) : ∀ (n k : Nat), l.length - k = n → k < l.length →
    cost l c k ≤ cost l d k ∧ cost l d k ≤ cost l c k + ((l.length - k : Nat) : Int) * more := by
  intro n
  induction n using Nat.strongRecOn with
  | ind n ih =>
    intro k hn hk
    have b1 := behindC_le (n := l.length) (C := costFrom l c l.length) (D := costFrom l d l.length) (y := 0) (Int.le_refl _) (nxt l[k]! k) 0 0 (by omega) (fun t ht htl => by
      have := (ih (l.length - t) (by have := nxt_gt ht; omega) t rfl htl).1
      unfold cost at this
      omega)
    have b2 := behindC_le (n := l.length) (C := costFrom l d l.length) (D := costFrom l c l.length) (y := ((l.length - (k + 1) : Nat) : Int) * more) (Int.mul_nonneg (by omega) hm) (nxt l[k]! k) 0 0 (by have := Int.mul_nonneg (show (0 : Int) ≤ ((l.length - (k + 1) : Nat) : Int) by omega) hm; omega) (fun t ht htl => by
      have hgt := nxt_gt ht
      have h3 := (ih (l.length - t) (by omega) t rfl htl).2
      have h4 : ((l.length - t : Nat) : Int) * more ≤ ((l.length - (k + 1) : Nat) : Int) * more := Int.mul_le_mul_of_nonneg_right (by omega) hm
      unfold cost at h3
      omega)
    have e : ((l.length - k : Nat) : Int) * more = ((l.length - (k + 1) : Nat) : Int) * more + more := by
      rw [show ((l.length - k : Nat) : Int) = ((l.length - (k + 1) : Nat) : Int) + 1 by omega, Int.add_mul, Int.one_mul]
    have o1 := h1 l[k]!
    have o2 := h2 l[k]!
    rw [cost_eq hl c hk, cost_eq hl d hk, e]
    unfold behindC
    have b3 := Int.mul_nonneg (show (0 : Int) ≤ ((l.length - (k + 1) : Nat) : Int) by omega) hm
    generalize ((l.length - (k + 1) : Nat) : Int) * more = z at *
    omega
/-- Of code with something behind that nothing reaches the ways cost the same. -/
theorem cost_app {l m : List InstD} (hf : fineB l = true) (hm : crsMay (l ++ m) = true) (calls : List Int) : ∀ (n k : Nat), l.length - k = n → k < l.length → (reach l).getD k false = true → cost (l ++ m) calls k = cost l calls k := by
  obtain ⟨hml, hf⟩ := fine_facts hf
  have hl := (crsMay_facts hml).2.1
  have hlm := (crsMay_facts hm).2.1
  intro n
  induction n using Nat.strongRecOn with
  | ind n ih =>
    intro k hn hk hr
    rw [cost_eq hl calls hk, cost_eq hlm calls (by rw [List.length_append]; omega), getElem!_app hk]
    congr 2
    unfold behindC
    have key : ∀ (ts : List Nat) (b : Int), (∀ t ∈ ts, t < l.length ∧ cost (l ++ m) calls t = cost l calls t) →
        ts.foldl (fun b t => if t < (l ++ m).length then max b ((costFrom (l ++ m) calls (l ++ m).length).getD t 0) else b) b = ts.foldl (fun b t => if t < l.length then max b ((costFrom l calls l.length).getD t 0) else b) b := by
      intro ts
      induction ts with
      | nil => intro b h; rfl
      | cons t ts ih2 =>
        intro b h
        obtain ⟨h1, h2⟩ := h t (by simp)
        unfold cost at h2
        rw [List.foldl_cons, List.foldl_cons, if_pos h1, if_pos (by rw [List.length_append]; omega), h2]
        exact ih2 _ fun t' ht' => h t' (by simp [ht'])
    refine key _ _ fun t ht => ?_
    have htl := hf k hk hr t ht
    have hgt := nxt_gt ht
    exact ⟨htl, ih (l.length - t) (by omega) t rfl htl (reach_next hk htl hr ht)⟩
end Go.Proofs.Ytebdnobgdimdoaa
