/- Where control goes (chapter 8), as plain functions, and what holds of them. Nothing of the program. -/
import Derived.Test.YtebdnobgdimdoaaReadInst
import Derived.Test.YtebdnobgdimdoaaInst2
set_option linter.unusedVariables false
set_option linter.unusedSimpArgs false
namespace Go.Proofs.Ytebdnobgdimdoaa
open Go.RowKit

def InstD.okB (i : InstD) : Bool := mayB i.op i.fn i.dst i.src i.reg i.off i.imm
/-- May code be? -/
def crsMay (l : List InstD) : Bool := decide (0 < l.length ∧ l.length ≤ 64) && l.all InstD.okB
/-- What is next of a place. -/
def nxt (i : InstD) (k : Nat) : List Nat :=
  if i.op = 7 then [] else if i.op = 1 ∧ i.fn = 0 then [k + i.off.toNat + 1] else if i.op = 1 ∧ 0 < i.off then [k + 1, k + i.off.toNat + 1] else [k + 1]
theorem nxt_gt {i : InstD} {k t : Nat} (h : t ∈ nxt i k) : k < t := by
  unfold nxt at h
  split at h
  · simp at h
  · split at h
    · simp at h; omega
    · split at h
      · simp at h; omega
      · simp at h; omega
theorem nxt_two (i : InstD) (k : Nat) : (nxt i k).length ≤ 2 := by
  unfold nxt
  split
  · simp
  · split
    · simp
    · split <;> simp
theorem nxt_le {i : InstD} (h : i.okB = true) {k t : Nat} (ht : t ∈ nxt i k) : t ≤ k + 65536 := by
  obtain ⟨_, _, _, _, ⟨e1, e2⟩, _⟩ := of_decide_eq_true h
  have : i.off ≤ 65535 := by split at e2 <;> omega
  unfold nxt at ht
  split at ht
  · simp at ht
  · split at ht
    · simp at ht; omega
    · split at ht
      · simp at ht; omega
      · simp at ht; omega
def mark (n : Nat) (R : List Bool) (t : Nat) : List Bool := if t < n then R.set t true else R
def rstep (l : List InstD) (R : List Bool) (k : Nat) : List Bool := if R.getD k false = true then (nxt l[k]! k).foldl (mark l.length) R else R
/-- What is reached, the first places looked at. -/
def reachUpto (l : List InstD) : Nat → List Bool
  | 0 => (List.replicate l.length false).set 0 true
  | k + 1 => rstep l (reachUpto l k) k
def reach (l : List InstD) : List Bool := reachUpto l l.length
theorem mark_length (n : Nat) (R : List Bool) (t : Nat) : (mark n R t).length = R.length := by unfold mark; split <;> simp
theorem marks_length (n : Nat) : ∀ (ts : List Nat) (R : List Bool), (ts.foldl (mark n) R).length = R.length
  | [], R => rfl
  | t :: ts, R => by rw [List.foldl_cons, marks_length n ts, mark_length]
theorem rstep_length (l : List InstD) (R : List Bool) (k : Nat) : (rstep l R k).length = R.length := by
  unfold rstep; split
  · exact marks_length _ _ _
  · rfl
theorem reachUpto_length (l : List InstD) : ∀ k, (reachUpto l k).length = l.length
  | 0 => by simp [reachUpto]
  | k + 1 => by rw [reachUpto, rstep_length, reachUpto_length l k]
theorem mark_get {n : Nat} {R : List Bool} {t i : Nat} (hR : R.length = n) (hi : i < n) : (mark n R t).getD i false = true ↔ (R.getD i false = true ∨ i = t) := by
  unfold mark
  simp only [List.getD_eq_getElem?_getD]
  split
  · rename_i ht
    rw [List.getElem?_set]
    by_cases h : t = i
    · subst h; simp [hR, hi]
    · simp only [h, if_false]
      constructor
      · exact .inl
      · rintro (h1 | h1)
        · exact h1
        · exact absurd h1.symm h
  · rename_i ht
    constructor
    · exact .inl
    · rintro (h1 | h1)
      · exact h1
      · omega
theorem marks_get {n i : Nat} (hi : i < n) : ∀ (ts : List Nat) (R : List Bool), R.length = n → ((ts.foldl (mark n) R).getD i false = true ↔ (R.getD i false = true ∨ i ∈ ts))
  | [], R, h => by simp
  | t :: ts, R, h => by
    rw [List.foldl_cons, marks_get hi ts _ (by rw [mark_length]; exact h), mark_get h hi, List.mem_cons, or_assoc]
theorem rstep_get {l : List InstD} {R : List Bool} {k i : Nat} (hR : R.length = l.length) (hi : i < l.length) :
    (rstep l R k).getD i false = true ↔ (R.getD i false = true ∨ (R.getD k false = true ∧ i ∈ nxt l[k]! k)) := by
  unfold rstep
  split
  · rename_i h
    rw [marks_get hi _ _ hR]
    simp only [h, true_and]
  · rename_i h
    simp only [h]
    simp
theorem reachUpto_get (l : List InstD) {i : Nat} (hi : i < l.length) : ∀ m, (reachUpto l m).getD i false = true ↔ (i = 0 ∨ ∃ k, k < m ∧ (reachUpto l k).getD k false = true ∧ i ∈ nxt l[k]! k)
  | 0 => by
    simp only [reachUpto, List.getD_eq_getElem?_getD, List.getElem?_set, List.length_replicate]
    by_cases h : 0 = i
    · subst h; simp [hi]
    · have h' : ¬ i = 0 := fun e => h e.symm
      simp [h, h', List.getElem?_replicate, hi]
  | m + 1 => by
    rw [reachUpto, rstep_get (reachUpto_length l m) hi, reachUpto_get l hi m]
    constructor
    · rintro ((h | ⟨k, hk, h1, h2⟩) | ⟨h1, h2⟩)
      · exact .inl h
      · exact .inr ⟨k, by omega, h1, h2⟩
      · exact .inr ⟨m, by omega, h1, h2⟩
    · rintro (h | ⟨k, hk, h1, h2⟩)
      · exact .inl (.inl h)
      · by_cases e : k = m
        · subst e; exact .inr ⟨h1, h2⟩
        · exact .inl (.inr ⟨k, by omega, h1, h2⟩)
/-- Behind a place nothing more is marked there. -/
theorem reachUpto_still (l : List InstD) {i : Nat} (hi : i < l.length) {m : Nat} (hm : i ≤ m) : (reachUpto l m).getD i false = (reachUpto l i).getD i false := by
  have key : (reachUpto l m).getD i false = true ↔ (reachUpto l i).getD i false = true := by
    rw [reachUpto_get l hi m, reachUpto_get l hi i]
    constructor
    · rintro (h | ⟨k, hk, h1, h2⟩)
      · exact .inl h
      · exact .inr ⟨k, nxt_gt h2, h1, h2⟩
    · rintro (h | ⟨k, hk, h1, h2⟩)
      · exact .inl h
      · exact .inr ⟨k, by omega, h1, h2⟩
  rw [Bool.eq_iff_iff]
  exact key
theorem reach_length (l : List InstD) : (reach l).length = l.length := reachUpto_length l _
/-- What is reached is the beginning, or next of what is. -/
theorem reach_get (l : List InstD) {i : Nat} (hi : i < l.length) : (reach l).getD i false = true ↔ (i = 0 ∨ ∃ k, k < i ∧ (reach l).getD k false = true ∧ i ∈ nxt l[k]! k) := by
  unfold reach
  rw [reachUpto_still l hi (Nat.le_of_lt hi), reachUpto_get l hi i]
  constructor
  · rintro (h | ⟨k, hk, h1, h2⟩)
    · exact .inl h
    · exact .inr ⟨k, hk, by rw [reachUpto_still l (by omega) (by omega)]; exact h1, h2⟩
  · rintro (h | ⟨k, hk, h1, h2⟩)
    · exact .inl h
    · exact .inr ⟨k, hk, by rw [reachUpto_still l (by omega) (by omega)] at h1; exact h1, h2⟩
/-- Does nothing go off the end? -/
def fineB (l : List InstD) : Bool := crsMay l && (List.range l.length).all fun k => !(reach l).getD k false || (nxt l[k]! k).all fun t => decide (t < l.length)
/-- What an instruction costs by itself. -/
def ownC (i : InstD) (calls : List Int) : Int :=
  if i.op = 6 ∧ i.imm.toNat < calls.length ∧ 0 ≤ calls.getD i.imm.toNat 0 ∧ calls.getD i.imm.toNat 0 ≤ 1000000 then 1 + calls.getD i.imm.toNat 0 else 1
def behindC (n : Nat) (C : List Int) (ts : List Nat) : Int := ts.foldl (fun b t => if t < n then max b (C.getD t 0) else b) 0
def cstep (l : List InstD) (calls : List Int) (C : List Int) (k : Nat) : List Int := C.set k (min (ownC l[k]! calls + behindC l.length C (nxt l[k]! k)) 1000000)
/-- The costs of the last places. -/
def costFrom (l : List InstD) (calls : List Int) : Nat → List Int
  | 0 => List.replicate 65 0
  | m + 1 => cstep l calls (costFrom l calls m) (l.length - 1 - m)
def longest (l : List InstD) (calls : List Int) : Int := if crsMay l = true then (costFrom l calls l.length).getD 0 0 else 0
end Go.Proofs.Ytebdnobgdimdoaa
