/- A memory of blocks: what the program's functions tell, as plain functions. -/
import Derived.Test.YtegdnmlpoglfeaaKit
set_option linter.unusedVariables false
set_option linter.unusedSimpArgs false
namespace Go.Proofs.Ytegdnmlpoglfeaa

structure BlkD where
  id : Int
  at' : Int
  w : List Int
deriving DecidableEq
instance : Inhabited BlkD := ⟨⟨0, 0, []⟩⟩
structure MemD where
  cap : Int
  l : List BlkD
deriving DecidableEq
/-- Where the block ahead ends; 0 at the first. -/
def prevEnd (l : List BlkD) (i : Nat) : Int := if i = 0 then 0 else (l[i - 1]!).at' + ((l[i - 1]!).w.length : Int)
/-- Where the next block begins; the end behind the last. -/
def nextAt (m : MemD) (i : Nat) : Int := if i < m.l.length then (m.l[i]!).at' else m.cap
def ckB (m : MemD) (i : Nat) : Bool :=
  decide (1 ≤ (m.l[i]!).id) && ((List.range i).all fun k => decide ((m.l[k]!).id ≠ (m.l[i]!).id)) && decide (0 < (m.l[i]!).w.length) && decide (prevEnd m.l i ≤ (m.l[i]!).at') && decide (((m.l[i]!).w.length : Int) ≤ m.cap) && decide ((m.l[i]!).at' ≤ m.cap - (m.l[i]!).w.length)
def roomB (c : Int) : Bool := decide (0 ≤ c ∧ c ≤ 1024)
def mayM (m : MemD) : Bool := roomB m.cap && (List.range m.l.length).all (ckB m)
structure BlkOk (m : MemD) (i : Nat) : Prop where
  id1 : 1 ≤ (m.l[i]!).id
  ids : ∀ k, k < i → (m.l[k]!).id ≠ (m.l[i]!).id
  len : 0 < (m.l[i]!).w.length
  lo : prevEnd m.l i ≤ (m.l[i]!).at'
  hi : (m.l[i]!).at' + ((m.l[i]!).w.length : Int) ≤ m.cap
  cap : ((m.l[i]!).w.length : Int) ≤ m.cap
theorem ckB_iff {m : MemD} {i : Nat} : ckB m i = true ↔ BlkOk m i := by
  unfold ckB
  simp only [Bool.and_eq_true, decide_eq_true_iff, List.all_eq_true, List.mem_range]
  constructor
  · rintro ⟨⟨⟨⟨⟨h1, h2⟩, h3⟩, h4⟩, h5⟩, h6⟩
    exact ⟨h1, h2, h3, h4, by omega, h5⟩
  · intro h
    exact ⟨⟨⟨⟨⟨h.id1, h.ids⟩, h.len⟩, h.lo⟩, h.cap⟩, by have := h.hi; omega⟩
structure Ok (m : MemD) : Prop where
  cap0 : 0 ≤ m.cap
  cap1 : m.cap ≤ 1024
  blk : ∀ i, i < m.l.length → BlkOk m i
theorem mayM_iff {m : MemD} : mayM m = true ↔ Ok m := by
  unfold mayM roomB
  rw [Bool.and_eq_true, decide_eq_true_iff, List.all_eq_true]
  constructor
  · rintro ⟨⟨h1, h2⟩, h3⟩
    exact ⟨h1, h2, fun i hi => ckB_iff.1 (h3 i (List.mem_range.2 hi))⟩
  · intro h
    exact ⟨⟨h.cap0, h.cap1⟩, fun i hi => ckB_iff.2 (h.blk i (List.mem_range.1 hi))⟩
theorem prevEnd_succ (l : List BlkD) (i : Nat) : prevEnd l (i + 1) = (l[i]!).at' + ((l[i]!).w.length : Int) := by
  unfold prevEnd
  rw [if_neg (by omega), Nat.add_sub_cancel]
theorem Ok.prev {m : MemD} (h : Ok m) : ∀ i, i ≤ m.l.length → 0 ≤ prevEnd m.l i ∧ prevEnd m.l i ≤ m.cap
  | 0, _ => by have := h.cap0; unfold prevEnd; rw [if_pos rfl]; omega
  | i + 1, hi => by
    have ih := h.prev i (by omega)
    have b := h.blk i (by omega)
    have h1 := b.lo
    have h2 := b.hi
    rw [prevEnd_succ]
    omega
theorem Ok.bounds {m : MemD} (h : Ok m) {i : Nat} (hi : i < m.l.length) : 0 ≤ (m.l[i]!).at' ∧ (m.l[i]!).at' ≤ 1024 ∧ ((m.l[i]!).w.length : Int) ≤ 1024 ∧ (m.l[i]!).at' + ((m.l[i]!).w.length : Int) ≤ 1024 := by
  have h1 := h.prev i (by omega)
  have b := h.blk i hi
  have h2 := b.lo
  have h3 := b.hi
  have h4 := b.cap
  have h5 := h.cap1
  omega
theorem Ok.next {m : MemD} (h : Ok m) {i : Nat} (hi : i ≤ m.l.length) : prevEnd m.l i ≤ nextAt m i ∧ nextAt m i ≤ m.cap := by
  unfold nextAt
  split
  · rename_i hl
    have b := h.blk i hl
    have h2 := b.lo
    have h3 := b.hi
    omega
  · exact ⟨(h.prev i hi).2, Int.le_refl _⟩

/-! ### Gaps -/
def gapAt (m : MemD) (i : Nat) : List (Int × Int) := if prevEnd m.l i < nextAt m i then [(prevEnd m.l i, nextAt m i)] else []
def gapsUpto (m : MemD) : Nat → List (Int × Int)
  | 0 => []
  | i + 1 => gapsUpto m i ++ gapAt m i
def gapsL (m : MemD) : List (Int × Int) := gapsUpto m (m.l.length + 1)
theorem gapsUpto_pre (m : MemD) (i : Nat) : ∀ j, i ≤ j → gapsUpto m i <+: gapsUpto m j
  | 0, h => by
    obtain rfl : i = 0 := by omega
    exact List.prefix_refl _
  | j + 1, h => by
    by_cases e : i = j + 1
    · subst e; exact List.prefix_refl _
    · exact (gapsUpto_pre m i j (by omega)).trans (List.prefix_append _ _)
theorem mem_gaps {m : MemD} {x : Int × Int} : ∀ {i}, x ∈ gapsUpto m i ↔ ∃ j, j < i ∧ prevEnd m.l j < nextAt m j ∧ x = (prevEnd m.l j, nextAt m j)
  | 0 => by simp [gapsUpto]
  | i + 1 => by
    rw [gapsUpto, List.mem_append, mem_gaps (i := i)]
    constructor
    · rintro (⟨j, h1, h2⟩ | h)
      · exact ⟨j, by omega, h2⟩
      · unfold gapAt at h
        split at h
        · rename_i hl
          exact ⟨i, by omega, hl, by simpa using h⟩
        · simp at h
    · rintro ⟨j, h1, h2, h3⟩
      by_cases e : j = i
      · subst e
        refine .inr ?_
        unfold gapAt
        rw [if_pos h2]
        simpa using h3
      · exact .inl ⟨j, by omega, h2, h3⟩
/-- The first gap that is great enough. -/
def findL (n : Int) (gs : List (Int × Int)) : Option Int := (gs.find? fun g => decide (n ≤ g.2 - g.1)).map Prod.fst
def findM (m : MemD) (n : Int) : Int × Bool := if mayM m = true ∧ 1 ≤ n then (match findL n (gapsL m) with | some a => (a, true) | none => (0, false)) else (0, false)
def leftL (gs : List (Int × Int)) : Int := (gs.map fun g => g.2 - g.1).sum
def leftM (m : MemD) : Int := if mayM m = true then leftL (gapsL m) else 0
def fitsL (place n : Int) (gs : List (Int × Int)) : Bool := gs.any fun g => decide (g.1 ≤ place ∧ place < g.2 ∧ n ≤ g.2 - place)
/-- What all blocks take. -/
def taken (l : List BlkD) : Int := (l.map fun b => (b.w.length : Int)).sum
theorem taken_take (l : List BlkD) {i : Nat} (h : i < l.length) : taken (l.take (i + 1)) = taken (l.take i) + ((l[i]!).w.length : Int) := by
  unfold taken
  rw [← List.take_append_getElem h, List.map_append, List.sum_append, getElem!_pos l i h]
  simp
theorem left_upto {m : MemD} (h : Ok m) : ∀ i, i ≤ m.l.length → leftL (gapsUpto m i) = prevEnd m.l i - taken (m.l.take i)
  | 0, _ => by simp [gapsUpto, leftL, prevEnd, taken]
  | i + 1, hi => by
    have ih := left_upto h i (by omega)
    have hb := (h.blk i (by omega)).lo
    rw [gapsUpto, taken_take m.l (by omega), prevEnd_succ]
    unfold leftL at ih ⊢
    rw [List.map_append, List.sum_append, ih]
    unfold gapAt nextAt
    rw [if_pos (show i < m.l.length by omega)]
    split
    · simp only [List.map_cons, List.map_nil, List.sum_cons, List.sum_nil]
      omega
    · simp only [List.map_nil, List.sum_nil]
      omega
/-- What is left is all but what the blocks take. -/
theorem left_all {m : MemD} (h : Ok m) : leftM m = m.cap - taken m.l := by
  unfold leftM
  rw [if_pos (mayM_iff.2 h)]
  unfold gapsL
  have ih := left_upto h m.l.length (Nat.le_refl _)
  have hp := (h.prev m.l.length (Nat.le_refl _)).2
  rw [List.take_length] at ih
  rw [gapsUpto]
  unfold leftL at ih ⊢
  rw [List.map_append, List.sum_append, ih]
  unfold gapAt nextAt
  rw [if_neg (Nat.lt_irrefl _)]
  split
  · simp only [List.map_cons, List.map_nil, List.sum_cons, List.sum_nil]
    omega
  · simp only [List.map_nil, List.sum_nil]
    omega
/-- A block fits just where it lies between two that are next to each other. -/
theorem fits_iff {m : MemD} (h : Ok m) {place n : Int} (hn : 1 ≤ n) : fitsL place n (gapsL m) = true ↔ ∃ i, i ≤ m.l.length ∧ prevEnd m.l i ≤ place ∧ place + n ≤ nextAt m i := by
  unfold fitsL
  rw [List.any_eq_true]
  constructor
  · rintro ⟨g, hg, hd⟩
    obtain ⟨j, hj, hl, rfl⟩ := mem_gaps.1 hg
    have := of_decide_eq_true hd
    simp only at this
    exact ⟨j, by omega, by omega, by omega⟩
  · rintro ⟨i, hi, h1, h2⟩
    exact ⟨_, mem_gaps.2 ⟨i, by omega, by omega, rfl⟩, decide_eq_true (by simp only; omega)⟩
end Go.Proofs.Ytegdnmlpoglfeaa
