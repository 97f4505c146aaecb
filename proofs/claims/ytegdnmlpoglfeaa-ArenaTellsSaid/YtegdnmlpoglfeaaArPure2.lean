/- A memory of blocks: a block put, dropped, a word fetched. Plain. -/
import Derived.Test.YtegdnmlpoglfeaaArPure
set_option linter.unusedVariables false
set_option linter.unusedSimpArgs false
namespace Go.Proofs.Ytegdnmlpoglfeaa

def ins (l : List BlkD) (i : Nat) (b : BlkD) : List BlkD := l.take i ++ b :: l.drop i
theorem ins_length {l : List BlkD} {i : Nat} (hi : i ≤ l.length) (b : BlkD) : (ins l i b).length = l.length + 1 := by
  unfold ins
  rw [List.length_append, List.length_cons, List.length_take, List.length_drop]
  omega
theorem ins_get {l : List BlkD} {i : Nat} (hi : i ≤ l.length) (b : BlkD) (j : Nat) : (ins l i b)[j]! = if j < i then l[j]! else if j = i then b else l[j - 1]! := by
  unfold ins
  simp only [List.getElem!_eq_getElem?_getD]
  rw [List.getElem?_append, List.length_take, Nat.min_eq_left hi]
  by_cases h1 : j < i
  · rw [if_pos h1, if_pos h1, List.getElem?_take, if_pos h1]
  · rw [if_neg h1, if_neg h1]
    by_cases h2 : j = i
    · subst h2
      rw [if_pos rfl, Nat.sub_self]
      rfl
    · rw [if_neg h2, show j - i = (j - 1 - i) + 1 by omega, List.getElem?_cons_succ, List.getElem?_drop, show i + (j - 1 - i) = j - 1 by omega]
theorem ins_prev {l : List BlkD} {i : Nat} (hi : i ≤ l.length) (b : BlkD) (j : Nat) : prevEnd (ins l i b) j = if j ≤ i then prevEnd l j else if j = i + 1 then b.at' + (b.w.length : Int) else prevEnd l (j - 1) := by
  cases j with
  | zero => rw [if_pos (Nat.zero_le _)]; rfl
  | succ j =>
    rw [prevEnd_succ, ins_get hi]
    by_cases h1 : j < i
    · rw [if_pos h1, if_pos (show j + 1 ≤ i by omega), prevEnd_succ]
    · rw [if_neg h1, if_neg (show ¬ j + 1 ≤ i by omega)]
      by_cases h2 : j = i
      · rw [if_pos h2, if_pos (show j + 1 = i + 1 by omega)]
      · rw [if_neg h2, if_neg (show ¬ j + 1 = i + 1 by omega), Nat.add_sub_cancel]
        cases j with
        | zero => omega
        | succ j => rw [prevEnd_succ, Nat.add_sub_cancel]
theorem Ok.put {m : MemD} (h : Ok m) {i : Nat} (hi : i ≤ m.l.length) {b : BlkD} (hid : 1 ≤ b.id) (hnew : ∀ k, k < m.l.length → (m.l[k]!).id ≠ b.id) (hl : 0 < b.w.length) (h1 : prevEnd m.l i ≤ b.at') (h2 : b.at' + (b.w.length : Int) ≤ nextAt m i) : Ok ⟨m.cap, ins m.l i b⟩ := by
  have hn := (h.next hi).2
  have hp := (h.prev i hi).1
  refine ⟨h.cap0, h.cap1, fun j hj => ?_⟩
  rw [ins_length hi] at hj
  have e := ins_get hi b j
  have ep := ins_prev hi b j
  by_cases hji : j < i
  · rw [if_pos hji] at e
    rw [if_pos (by omega)] at ep
    have o := h.blk j (by omega)
    refine ⟨?_, fun k hk => ?_, ?_, ?_, ?_, ?_⟩ <;> simp only <;> rw [e]
    · exact o.id1
    · rw [ins_get hi, if_pos (by omega)]
      exact o.ids k hk
    · exact o.len
    · rw [ep]; exact o.lo
    · exact o.hi
    · exact o.cap
  · rw [if_neg hji] at e
    by_cases hj2 : j = i
    · subst hj2
      rw [if_pos rfl] at e
      rw [if_pos (Nat.le_refl _)] at ep
      refine ⟨?_, fun k hk => ?_, ?_, ?_, ?_, ?_⟩ <;> simp only <;> rw [e]
      · exact hid
      · rw [ins_get hi, if_pos hk]
        exact hnew k (by omega)
      · exact hl
      · rw [ep]; exact h1
      · omega
      · omega
    · rw [if_neg hj2] at e
      rw [if_neg (by omega)] at ep
      have o := h.blk (j - 1) (by omega)
      refine ⟨?_, fun k hk => ?_, ?_, ?_, ?_, ?_⟩ <;> simp only <;> rw [e]
      · exact o.id1
      · rw [ins_get hi]
        by_cases k1 : k < i
        · rw [if_pos k1]; exact o.ids k (by omega)
        · rw [if_neg k1]
          by_cases k2 : k = i
          · rw [if_pos k2]; exact fun hh => hnew (j - 1) (by omega) hh.symm
          · rw [if_neg k2]; exact o.ids (k - 1) (by omega)
      · exact o.len
      · rw [ep]
        by_cases h3 : j = i + 1
        · rw [if_pos h3]
          subst h3
          unfold nextAt at h2
          rw [if_pos (by omega)] at h2
          exact h2
        · rw [if_neg h3]; exact o.lo
      · exact o.hi
      · exact o.cap
/-- How many blocks begin ahead of a place. -/
def insIdx (l : List BlkD) (place : Int) : Nat := (l.takeWhile fun b => decide (b.at' < place)).length
theorem Ok.rise {m : MemD} (h : Ok m) : ∀ (j i : Nat), i < j → j < m.l.length → (m.l[i]!).at' + ((m.l[i]!).w.length : Int) ≤ (m.l[j]!).at'
  | 0, i, hi, _ => absurd hi (Nat.not_lt_zero _)
  | j + 1, i, hi, hj => by
    have b := (h.blk (j + 1) hj).lo
    rw [prevEnd_succ] at b
    by_cases e : i = j
    · subst e; exact b
    · have ih := h.rise j i (by omega) (by omega)
      have := (h.blk j (by omega)).len
      omega
theorem takeWhile_len {α : Type} {p : α → Bool} : ∀ (l : List α) (i : Nat), i ≤ l.length → (∀ j (hj : j < l.length), j < i → p l[j] = true) → (∀ (hi : i < l.length), p l[i] = false) → (l.takeWhile p).length = i
  | [], i, h, _, _ => by simp at h; subst h; rfl
  | a :: l, 0, _, _, h2 => by
    have := h2 (by simp)
    simp only [List.getElem_cons_zero] at this
    rw [List.takeWhile_cons, this]
    rfl
  | a :: l, i + 1, h, h1, h2 => by
    have h0 := h1 0 (by simp) (by omega)
    simp only [List.getElem_cons_zero] at h0
    rw [List.takeWhile_cons, h0]
    simp only [if_true, List.length_cons]
    congr 1
    exact takeWhile_len l i (by simpa using h) (fun j hj hji => by have := h1 (j + 1) (by simpa using hj) (by omega); simpa using this) (fun hi => by have := h2 (by simpa using hi); simpa using this)
theorem Ok.idx {m : MemD} (h : Ok m) {i : Nat} (hi : i ≤ m.l.length) {place n : Int} (hn : 1 ≤ n) (h1 : prevEnd m.l i ≤ place) (h2 : place + n ≤ nextAt m i) : insIdx m.l place = i := by
  unfold insIdx
  refine takeWhile_len _ i hi (fun j hj hji => decide_eq_true ?_) (fun hil => decide_eq_false ?_)
  · have hb := (h.blk j hj).len
    rw [getElem!_pos m.l j hj] at hb
    by_cases e : j + 1 = i
    · subst e
      rw [prevEnd_succ, getElem!_pos m.l j hj] at h1
      omega
    · have hr := h.rise (i - 1) j (by omega) (by omega)
      have hp := prevEnd_succ m.l (i - 1)
      rw [show i - 1 + 1 = i by omega] at hp
      have hb2 := (h.blk (i - 1) (by omega)).len
      rw [getElem!_pos m.l j hj] at hr
      omega
  · unfold nextAt at h2
    rw [if_pos hil, getElem!_pos m.l i hil] at h2
    omega
/-! ### Words -/
/-- Which block a place is of. -/
def blkOf (l : List BlkD) (place : Int) : Option Nat := l.findIdx? fun b => decide (b.at' ≤ place ∧ place < b.at' + (b.w.length : Int))
theorem blkOf_some {m : MemD} (h : Ok m) {place : Int} {i : Nat} : blkOf m.l place = some i ↔ i < m.l.length ∧ (m.l[i]!).at' ≤ place ∧ place < (m.l[i]!).at' + ((m.l[i]!).w.length : Int) := by
  unfold blkOf
  rw [List.findIdx?_eq_some_iff_getElem]
  constructor
  · rintro ⟨hi, h1, _⟩
    have := of_decide_eq_true h1
    rw [getElem!_pos m.l i hi]
    exact ⟨hi, this⟩
  · rintro ⟨hi, h1, h2⟩
    refine ⟨hi, ?_, fun j hj => ?_⟩
    · rw [getElem!_pos m.l i hi] at h1 h2
      exact decide_eq_true ⟨h1, h2⟩
    · have hr := h.rise i j hj hi
      rw [getElem!_pos m.l j (by omega)] at hr
      have := h1
      simp only [decide_eq_true_eq]
      omega
theorem blkOf_none {l : List BlkD} {place : Int} : blkOf l place = none ↔ ∀ i, i < l.length → ¬ ((l[i]!).at' ≤ place ∧ place < (l[i]!).at' + ((l[i]!).w.length : Int)) := by
  unfold blkOf
  rw [List.findIdx?_eq_none_iff]
  constructor
  · intro h i hi hh
    have := h _ (List.getElem_mem hi)
    rw [getElem!_pos l i hi] at hh
    simp only [decide_eq_false_iff_not] at this
    exact this hh
  · intro h b hb
    obtain ⟨i, hi, rfl⟩ := List.mem_iff_getElem.1 hb
    have := h i hi
    rw [getElem!_pos l i hi] at this
    exact decide_eq_false this
def fetchM (m : MemD) (place : Int) : Int × Int × Bool := if mayM m = true then (match blkOf m.l place with | some i => ((m.l[i]!).w.getD (place - (m.l[i]!).at').toNat 0, (m.l[i]!).id, true) | none => (0, 0, false)) else (0, 0, false)
end Go.Proofs.Ytegdnmlpoglfeaa
