/- A memory of blocks: what the program's functions tell, as plain functions. A memory of blocks: a block put, dropped, a word fetched. Plain. How a memory of blocks lies in memory; blocks and memories that came in are read. arena.end, at and New by their contracts. -/
import Derived.Test.YtebdnobgdimdoaaGreatGA
import Derived.Test.YtebdnobgdimdoaaGreatProg
import Derived.KernelRfl
import Derived.Lib.SlBy
import Derived.Test.YtebdnobgdimdoaaGreatGO
import Derived.Shelf.SlicesQ.IndexFunc
import Derived.Ground.SlgfProg
import Derived.Lib.SliceRun
import Derived.Lib.Hide
import Derived.LoopTactic
import Derived.WalkMore
import Derived.Laws.ResultCell
import Derived.RangeFuncBox
set_option linter.unusedVariables false
set_option linter.unusedSimpArgs false
namespace Go.Proofs.YtebdnobgdimdoaaGreat
structure BlkD where
  id : Int
  at' : Int
  w : List Int
deriving DecidableEq
instance : Inhabited BlkD := ⟨⟨0, 0, []⟩⟩
structure MemD where
  cap : Int
  l : List BlkD
deriving DecidableEq
/-- Where the block ahead ends; 0 at the first. -/
def prevEnd (l : List BlkD) (i : Nat) : Int := if i = 0 then 0 else (l[i - 1]!).at' + ((l[i - 1]!).w.length : Int)
/-- Where the next block begins; the end behind the last. -/
def nextAt (m : MemD) (i : Nat) : Int := if i < m.l.length then (m.l[i]!).at' else m.cap
def ckB (m : MemD) (i : Nat) : Bool :=
  decide (1 ≤ (m.l[i]!).id) && ((List.range i).all fun k => decide ((m.l[k]!).id ≠ (m.l[i]!).id)) && decide (0 < (m.l[i]!).w.length) && decide (prevEnd m.l i ≤ (m.l[i]!).at') && decide (((m.l[i]!).w.length : Int) ≤ m.cap) && decide ((m.l[i]!).at' ≤ m.cap - (m.l[i]!).w.length)
def roomB (c : Int) : Bool := decide (0 ≤ c ∧ c ≤ 1024)
def mayM (m : MemD) : Bool := roomB m.cap && (List.range m.l.length).all (ckB m)
structure BlkOk (m : MemD) (i : Nat) : Prop where
  id1 : 1 ≤ (m.l[i]!).id
  ids : ∀ k, k < i → (m.l[k]!).id ≠ (m.l[i]!).id
  len : 0 < (m.l[i]!).w.length
  lo : prevEnd m.l i ≤ (m.l[i]!).at'
  hi : (m.l[i]!).at' + ((m.l[i]!).w.length : Int) ≤ m.cap
  cap : ((m.l[i]!).w.length : Int) ≤ m.cap
theorem ckB_iff {m : MemD} {i : Nat} : ckB m i = true ↔ BlkOk m i := by
  unfold ckB
  simp only [Bool.and_eq_true, decide_eq_true_iff, List.all_eq_true, List.mem_range]
  constructor
  · rintro ⟨⟨⟨⟨⟨h1, h2⟩, h3⟩, h4⟩, h5⟩, h6⟩
    exact ⟨h1, h2, h3, h4, by omega, h5⟩
  · intro h
    exact ⟨⟨⟨⟨⟨h.id1, h.ids⟩, h.len⟩, h.lo⟩, h.cap⟩, by have := h.hi; omega⟩
structure Ok (m : MemD) : Prop where
  cap0 : 0 ≤ m.cap
  cap1 : m.cap ≤ 1024
  blk : ∀ i, i < m.l.length → BlkOk m i
theorem mayM_iff {m : MemD} : mayM m = true ↔ Ok m := by
  unfold mayM roomB
  rw [Bool.and_eq_true, decide_eq_true_iff, List.all_eq_true]
  constructor
  · rintro ⟨⟨h1, h2⟩, h3⟩
    exact ⟨h1, h2, fun i hi => ckB_iff.1 (h3 i (List.mem_range.2 hi))⟩
  · intro h
    exact ⟨⟨h.cap0, h.cap1⟩, fun i hi => ckB_iff.2 (h.blk i (List.mem_range.1 hi))⟩
theorem prevEnd_succ (l : List BlkD) (i : Nat) : prevEnd l (i + 1) = (l[i]!).at' + ((l[i]!).w.length : Int) := by
  unfold prevEnd
  rw [if_neg (by omega), Nat.add_sub_cancel]
theorem Ok.prev {m : MemD} (h : Ok m) : ∀ i, i ≤ m.l.length → 0 ≤ prevEnd m.l i ∧ prevEnd m.l i ≤ m.cap
  | 0, _ => by have := h.cap0; unfold prevEnd; rw [if_pos rfl]; omega
  | i + 1, hi => by
    have ih := h.prev i (by omega)
    have b := h.blk i (by omega)
    have h1 := b.lo
    have h2 := b.hi
    rw [prevEnd_succ]
    omega
theorem Ok.bounds {m : MemD} (h : Ok m) {i : Nat} (hi : i < m.l.length) : 0 ≤ (m.l[i]!).at' ∧ (m.l[i]!).at' ≤ 1024 ∧ ((m.l[i]!).w.length : Int) ≤ 1024 ∧ (m.l[i]!).at' + ((m.l[i]!).w.length : Int) ≤ 1024 := by
  have h1 := h.prev i (by omega)
  have b := h.blk i hi
  have h2 := b.lo
  have h3 := b.hi
  have h4 := b.cap
  have h5 := h.cap1
  omega
theorem Ok.next {m : MemD} (h : Ok m) {i : Nat} (hi : i ≤ m.l.length) : prevEnd m.l i ≤ nextAt m i ∧ nextAt m i ≤ m.cap := by
  unfold nextAt
  split
  · rename_i hl
    have b := h.blk i hl
    have h2 := b.lo
    have h3 := b.hi
    omega
  · exact ⟨(h.prev i hi).2, Int.le_refl _⟩

/-! ### Gaps -/
def gapAt (m : MemD) (i : Nat) : List (Int × Int) := if prevEnd m.l i < nextAt m i then [(prevEnd m.l i, nextAt m i)] else []
def gapsUpto (m : MemD) : Nat → List (Int × Int)
  | 0 => []
  | i + 1 => gapsUpto m i ++ gapAt m i
def gapsL (m : MemD) : List (Int × Int) := gapsUpto m (m.l.length + 1)
theorem gapsUpto_pre (m : MemD) (i : Nat) : ∀ j, i ≤ j → gapsUpto m i <+: gapsUpto m j
  | 0, h => by
    obtain rfl : i = 0 := by omega
    exact List.prefix_refl _
  | j + 1, h => by
    by_cases e : i = j + 1
    · subst e; exact List.prefix_refl _
    · exact (gapsUpto_pre m i j (by omega)).trans (List.prefix_append _ _)
theorem mem_gaps {m : MemD} {x : Int × Int} : ∀ {i}, x ∈ gapsUpto m i ↔ ∃ j, j < i ∧ prevEnd m.l j < nextAt m j ∧ x = (prevEnd m.l j, nextAt m j)
  | 0 => by simp [gapsUpto]
  | i + 1 => by
    rw [gapsUpto, List.mem_append, mem_gaps (i := i)]
    constructor
    · rintro (⟨j, h1, h2⟩ | h)
      · exact ⟨j, by omega, h2⟩
      · unfold gapAt at h
        split at h
        · rename_i hl
          exact ⟨i, by omega, hl, by simpa using h⟩
        · simp at h
    · rintro ⟨j, h1, h2, h3⟩
      by_cases e : j = i
      · subst e
        refine .inr ?_
        unfold gapAt
        rw [if_pos h2]
        simpa using h3
      · exact .inl ⟨j, by omega, h2, h3⟩
/-- The first gap that is great enough. -/
def findL (n : Int) (gs : List (Int × Int)) : Option Int := (gs.find? fun g => decide (n ≤ g.2 - g.1)).map Prod.fst
def findM (m : MemD) (n : Int) : Int × Bool := if mayM m = true ∧ 1 ≤ n then (match findL n (gapsL m) with | some a => (a, true) | none => (0, false)) else (0, false)
def leftL (gs : List (Int × Int)) : Int := (gs.map fun g => g.2 - g.1).sum
def leftM (m : MemD) : Int := if mayM m = true then leftL (gapsL m) else 0
def fitsL (place n : Int) (gs : List (Int × Int)) : Bool := gs.any fun g => decide (g.1 ≤ place ∧ place < g.2 ∧ n ≤ g.2 - place)
/-- What all blocks take. -/
def taken (l : List BlkD) : Int := (l.map fun b => (b.w.length : Int)).sum
theorem taken_take (l : List BlkD) {i : Nat} (h : i < l.length) : taken (l.take (i + 1)) = taken (l.take i) + ((l[i]!).w.length : Int) := by
  unfold taken
  rw [← List.take_append_getElem h, List.map_append, List.sum_append, getElem!_pos l i h]
  simp
theorem left_upto {m : MemD} (h : Ok m) : ∀ i, i ≤ m.l.length → leftL (gapsUpto m i) = prevEnd m.l i - taken (m.l.take i)
  | 0, _ => by simp [gapsUpto, leftL, prevEnd, taken]
  | i + 1, hi => by
    have ih := left_upto h i (by omega)
    have hb := (h.blk i (by omega)).lo
    rw [gapsUpto, taken_take m.l (by omega), prevEnd_succ]
    unfold leftL at ih ⊢
    rw [List.map_append, List.sum_append, ih]
    unfold gapAt nextAt
    rw [if_pos (show i < m.l.length by omega)]
    split
    · simp only [List.map_cons, List.map_nil, List.sum_cons, List.sum_nil]
      omega
    · simp only [List.map_nil, List.sum_nil]
      omega
/-- What is left is all but what the blocks take. -/
theorem left_all {m : MemD} (h : Ok m) : leftM m = m.cap - taken m.l := by
  unfold leftM
  rw [if_pos (mayM_iff.2 h)]
  unfold gapsL
  have ih := left_upto h m.l.length (Nat.le_refl _)
  have hp := (h.prev m.l.length (Nat.le_refl _)).2
  rw [List.take_length] at ih
  rw [gapsUpto]
  unfold leftL at ih ⊢
  rw [List.map_append, List.sum_append, ih]
  unfold gapAt nextAt
  rw [if_neg (Nat.lt_irrefl _)]
  split
  · simp only [List.map_cons, List.map_nil, List.sum_cons, List.sum_nil]
    omega
  · simp only [List.map_nil, List.sum_nil]
    omega
/-- A block fits just where it lies between two that are next to each other. -/
theorem fits_iff {m : MemD} (h : Ok m) {place n : Int} (hn : 1 ≤ n) : fitsL place n (gapsL m) = true ↔ ∃ i, i ≤ m.l.length ∧ prevEnd m.l i ≤ place ∧ place + n ≤ nextAt m i := by
  unfold fitsL
  rw [List.any_eq_true]
  constructor
  · rintro ⟨g, hg, hd⟩
    obtain ⟨j, hj, hl, rfl⟩ := mem_gaps.1 hg
    have := of_decide_eq_true hd
    simp only at this
    exact ⟨j, by omega, by omega, by omega⟩
  · rintro ⟨i, hi, h1, h2⟩
    exact ⟨_, mem_gaps.2 ⟨i, by omega, by omega, rfl⟩, decide_eq_true (by simp only; omega)⟩
end Go.Proofs.YtebdnobgdimdoaaGreat
set_option linter.unusedVariables false
set_option linter.unusedSimpArgs false
namespace Go.Proofs.YtebdnobgdimdoaaGreat
def ins (l : List BlkD) (i : Nat) (b : BlkD) : List BlkD := l.take i ++ b :: l.drop i
theorem ins_length {l : List BlkD} {i : Nat} (hi : i ≤ l.length) (b : BlkD) : (ins l i b).length = l.length + 1 := by
  unfold ins
  rw [List.length_append, List.length_cons, List.length_take, List.length_drop]
  omega
theorem ins_get {l : List BlkD} {i : Nat} (hi : i ≤ l.length) (b : BlkD) (j : Nat) : (ins l i b)[j]! = if j < i then l[j]! else if j = i then b else l[j - 1]! := by
  unfold ins
  simp only [List.getElem!_eq_getElem?_getD]
  rw [List.getElem?_append, List.length_take, Nat.min_eq_left hi]
  by_cases h1 : j < i
  · rw [if_pos h1, if_pos h1, List.getElem?_take, if_pos h1]
  · rw [if_neg h1, if_neg h1]
    by_cases h2 : j = i
    · subst h2
      rw [if_pos rfl, Nat.sub_self]
      rfl
    · rw [if_neg h2, show j - i = (j - 1 - i) + 1 by omega, List.getElem?_cons_succ, List.getElem?_drop, show i + (j - 1 - i) = j - 1 by omega]
theorem ins_prev {l : List BlkD} {i : Nat} (hi : i ≤ l.length) (b : BlkD) (j : Nat) : prevEnd (ins l i b) j = if j ≤ i then prevEnd l j else if j = i + 1 then b.at' + (b.w.length : Int) else prevEnd l (j - 1) := by
  cases j with
  | zero => rw [if_pos (Nat.zero_le _)]; rfl
  | succ j =>
    rw [prevEnd_succ, ins_get hi]
    by_cases h1 : j < i
    · rw [if_pos h1, if_pos (show j + 1 ≤ i by omega), prevEnd_succ]
    · rw [if_neg h1, if_neg (show ¬ j + 1 ≤ i by omega)]
      by_cases h2 : j = i
      · rw [if_pos h2, if_pos (show j + 1 = i + 1 by omega)]
      · rw [if_neg h2, if_neg (show ¬ j + 1 = i + 1 by omega), Nat.add_sub_cancel]
        cases j with
        | zero => omega
        | succ j => rw [prevEnd_succ, Nat.add_sub_cancel]
theorem Ok.put {m : MemD} (h : Ok m) {i : Nat} (hi : i ≤ m.l.length) {b : BlkD} (hid : 1 ≤ b.id) (hnew : ∀ k, k < m.l.length → (m.l[k]!).id ≠ b.id) (hl : 0 < b.w.length) (h1 : prevEnd m.l i ≤ b.at') (h2 : b.at' + (b.w.length : Int) ≤ nextAt m i) : Ok ⟨m.cap, ins m.l i b⟩ := by
  have hn := (h.next hi).2
  have hp := (h.prev i hi).1
  refine ⟨h.cap0, h.cap1, fun j hj => ?_⟩
  rw [ins_length hi] at hj
  have e := ins_get hi b j
  have ep := ins_prev hi b j
  by_cases hji : j < i
  · rw [if_pos hji] at e
    rw [if_pos (by omega)] at ep
    have o := h.blk j (by omega)
    refine ⟨?_, fun k hk => ?_, ?_, ?_, ?_, ?_⟩ <;> simp only <;> rw [e]
    · exact o.id1
    · rw [ins_get hi, if_pos (by omega)]
      exact o.ids k hk
    · exact o.len
    · rw [ep]; exact o.lo
    · exact o.hi
    · exact o.cap
  · rw [if_neg hji] at e
    by_cases hj2 : j = i
    · subst hj2
      rw [if_pos rfl] at e
      rw [if_pos (Nat.le_refl _)] at ep
      refine ⟨?_, fun k hk => ?_, ?_, ?_, ?_, ?_⟩ <;> simp only <;> rw [e]
      · exact hid
      · rw [ins_get hi, if_pos hk]
        exact hnew k (by omega)
      · exact hl
      · rw [ep]; exact h1
      · omega
      · omega
    · rw [if_neg hj2] at e
      rw [if_neg (by omega)] at ep
      have o := h.blk (j - 1) (by omega)
      refine ⟨?_, fun k hk => ?_, ?_, ?_, ?_, ?_⟩ <;> simp only <;> rw [e]
      · exact o.id1
      · rw [ins_get hi]
        by_cases k1 : k < i
        · rw [if_pos k1]; exact o.ids k (by omega)
        · rw [if_neg k1]
          by_cases k2 : k = i
          · rw [if_pos k2]; exact fun hh => hnew (j - 1) (by omega) hh.symm
          · rw [if_neg k2]; exact o.ids (k - 1) (by omega)
      · exact o.len
      · rw [ep]
        by_cases h3 : j = i + 1
        · rw [if_pos h3]
          subst h3
          unfold nextAt at h2
          rw [if_pos (by omega)] at h2
          exact h2
        · rw [if_neg h3]; exact o.lo
      · exact o.hi
      · exact o.cap
/-- How many blocks begin ahead of a place. -/
def insIdx (l : List BlkD) (place : Int) : Nat := (l.takeWhile fun b => decide (b.at' < place)).length
theorem Ok.rise {m : MemD} (h : Ok m) : ∀ (j i : Nat), i < j → j < m.l.length → (m.l[i]!).at' + ((m.l[i]!).w.length : Int) ≤ (m.l[j]!).at'
  | 0, i, hi, _ => absurd hi (Nat.not_lt_zero _)
  | j + 1, i, hi, hj => by
    have b := (h.blk (j + 1) hj).lo
    rw [prevEnd_succ] at b
    by_cases e : i = j
    · subst e; exact b
    · have ih := h.rise j i (by omega) (by omega)
      have := (h.blk j (by omega)).len
      omega
theorem takeWhile_len {α : Type} {p : α → Bool} : ∀ (l : List α) (i : Nat), i ≤ l.length → (∀ j (hj : j < l.length), j < i → p l[j] = true) → (∀ (hi : i < l.length), p l[i] = false) → (l.takeWhile p).length = i
  | [], i, h, _, _ => by simp at h; subst h; rfl
  | a :: l, 0, _, _, h2 => by
    have := h2 (by simp)
    simp only [List.getElem_cons_zero] at this
    rw [List.takeWhile_cons, this]
    rfl
  | a :: l, i + 1, h, h1, h2 => by
    have h0 := h1 0 (by simp) (by omega)
    simp only [List.getElem_cons_zero] at h0
    rw [List.takeWhile_cons, h0]
    simp only [if_true, List.length_cons]
    congr 1
    exact takeWhile_len l i (by simpa using h) (fun j hj hji => by have := h1 (j + 1) (by simpa using hj) (by omega); simpa using this) (fun hi => by have := h2 (by simpa using hi); simpa using this)
theorem Ok.idx {m : MemD} (h : Ok m) {i : Nat} (hi : i ≤ m.l.length) {place n : Int} (hn : 1 ≤ n) (h1 : prevEnd m.l i ≤ place) (h2 : place + n ≤ nextAt m i) : insIdx m.l place = i := by
  unfold insIdx
  refine takeWhile_len _ i hi (fun j hj hji => decide_eq_true ?_) (fun hil => decide_eq_false ?_)
  · have hb := (h.blk j hj).len
    rw [getElem!_pos m.l j hj] at hb
    by_cases e : j + 1 = i
    · subst e
      rw [prevEnd_succ, getElem!_pos m.l j hj] at h1
      omega
    · have hr := h.rise (i - 1) j (by omega) (by omega)
      have hp := prevEnd_succ m.l (i - 1)
      rw [show i - 1 + 1 = i by omega] at hp
      have hb2 := (h.blk (i - 1) (by omega)).len
      rw [getElem!_pos m.l j hj] at hr
      omega
  · unfold nextAt at h2
    rw [if_pos hil, getElem!_pos m.l i hil] at h2
    omega
/-! ### Words -/
/-- Which block a place is of. -/
def blkOf (l : List BlkD) (place : Int) : Option Nat := l.findIdx? fun b => decide (b.at' ≤ place ∧ place < b.at' + (b.w.length : Int))
theorem blkOf_some {m : MemD} (h : Ok m) {place : Int} {i : Nat} : blkOf m.l place = some i ↔ i < m.l.length ∧ (m.l[i]!).at' ≤ place ∧ place < (m.l[i]!).at' + ((m.l[i]!).w.length : Int) := by
  unfold blkOf
  rw [List.findIdx?_eq_some_iff_getElem]
  constructor
  · rintro ⟨hi, h1, _⟩
    have := of_decide_eq_true h1
    rw [getElem!_pos m.l i hi]
    exact ⟨hi, this⟩
  · rintro ⟨hi, h1, h2⟩
    refine ⟨hi, ?_, fun j hj => ?_⟩
    · rw [getElem!_pos m.l i hi] at h1 h2
      exact decide_eq_true ⟨h1, h2⟩
    · have hr := h.rise i j hj hi
      rw [getElem!_pos m.l j (by omega)] at hr
      have := h1
      simp only [decide_eq_true_eq]
      omega
theorem blkOf_none {l : List BlkD} {place : Int} : blkOf l place = none ↔ ∀ i, i < l.length → ¬ ((l[i]!).at' ≤ place ∧ place < (l[i]!).at' + ((l[i]!).w.length : Int)) := by
  unfold blkOf
  rw [List.findIdx?_eq_none_iff]
  constructor
  · intro h i hi hh
    have := h _ (List.getElem_mem hi)
    rw [getElem!_pos l i hi] at hh
    simp only [decide_eq_false_iff_not] at this
    exact this hh
  · intro h b hb
    obtain ⟨i, hi, rfl⟩ := List.mem_iff_getElem.1 hb
    have := h i hi
    rw [getElem!_pos l i hi] at this
    exact decide_eq_false this
def fetchM (m : MemD) (place : Int) : Int × Int × Bool := if mayM m = true then (match blkOf m.l place with | some i => ((m.l[i]!).w.getD (place - (m.l[i]!).at').toNat 0, (m.l[i]!).id, true) | none => (0, 0, false)) else (0, 0, false)
end Go.Proofs.YtebdnobgdimdoaaGreat
set_option linter.unusedVariables false
set_option linter.unusedSimpArgs false
namespace Go.Proofs.YtebdnobgdimdoaaGreat
open Go.RowKit
def BlkR (W : World) (cs : List Value) (x : BlkD) : Prop := ∃ A c, cs = [.int .i64 x.id, .int .i64 x.at', .slice A x.w.length c] ∧ Sl (IntR .u64) 1 W A c x.w ∧ (Lit.int .i64 x.id).wf = true ∧ (Lit.int .i64 x.at').wf = true
theorem BlkR.mono : Mono BlkR := fun w w' cs x hb ⟨A, c, e, hs, h1, h2⟩ => ⟨A, c, e, hs.mono (IntR.mono _) hb, h1, h2⟩
def MemR (W : World) (cs : List Value) (m : MemD) : Prop := ∃ A c, cs = [.int .i64 m.cap, .slice A m.l.length c] ∧ Sl BlkR 3 W A c m.l ∧ (Lit.int .i64 m.cap).wf = true
theorem MemR.mono : Mono MemR := fun w w' cs x hb ⟨A, c, e, hs, h1⟩ => ⟨A, c, e, hs.mono BlkR.mono hb, h1⟩
theorem arcells_int : Tryz.prog.cellsOf 3 = 1 := by kernel_rfl
theorem cells_Block : Tryz.prog.cellsOf 144 = 3 := by kernel_rfl
theorem cells_Mem : Tryz.prog.cellsOf 79 = 2 := by kernel_rfl
theorem cells_words : Tryz.prog.cellsOf 74 = 1 := by kernel_rfl
theorem cells_word : Tryz.prog.cellsOf 133 = 1 := by kernel_rfl
theorem cells_blocks : Tryz.prog.cellsOf 77 = 1 := by kernel_rfl
section
variable {H : Type} {enc : TypeId × Value → H} {w : World} {base : Nat} {spare : Nat → Bool} {held : Bool}
theorem open_Block {n : Nat} {cs : List Value} {y : DataW H × List MemPlace} (h : DataW.trod enc Tryz.prog w base spare held n 144 cs = some y) : ∃ x : BlkD, BlkR w cs x := by
  obtain ⟨m, hl, hf⟩ := trod_field Tryz.underlying144 h
  rw [cells_Block] at hl
  match cs, hl with
  | [v0, v1, v2], _ =>
  obtain ⟨y0, h0⟩ := hf 0 3 0 1 rfl arcells_int
  obtain ⟨y1, h1⟩ := hf 1 3 1 1 rfl arcells_int
  obtain ⟨y2, h2⟩ := hf 2 74 2 1 rfl cells_words
  obtain ⟨a0, e0, _, w0⟩ := DataW.trod_int Tryz.underlying3 h0
  obtain ⟨a1, e1, _, w1⟩ := DataW.trod_int Tryz.underlying3 h1
  obtain ⟨A, c, l, e2, hs⟩ := open_sl (R := IntR .u64) (sz := 1) Tryz.underlying74 cells_word (by decide) (fun n cs y hl hy => open_Int Tryz.underlying133 hy) h2
  simp at e0 e1 e2
  subst e0 e1 e2
  exact ⟨⟨a0, a1, l⟩, A, c, rfl, hs, w0, w1⟩
theorem open_Mem {n : Nat} {cs : List Value} {y : DataW H × List MemPlace} (h : DataW.trod enc Tryz.prog w base spare held n 79 cs = some y) : ∃ m : MemD, MemR w cs m := by
  obtain ⟨m, hl, hf⟩ := trod_field Tryz.underlying79 h
  rw [cells_Mem] at hl
  match cs, hl with
  | [v0, v1], _ =>
  obtain ⟨y0, h0⟩ := hf 0 3 0 1 rfl arcells_int
  obtain ⟨y1, h1⟩ := hf 1 77 1 1 rfl cells_blocks
  obtain ⟨a0, e0, _, w0⟩ := DataW.trod_int Tryz.underlying3 h0
  obtain ⟨A, c, l, e1, hs⟩ := open_sl (R := BlkR) (sz := 3) Tryz.underlying77 cells_Block (by decide) (fun n cs y hl hy => open_Block hy) h1
  simp at e0 e1
  subst e0 e1
  exact ⟨⟨a0, l⟩, A, c, rfl, hs, w0⟩
end
/-- A block and where its words lie. -/
structure BlkX (w : World) where
  b : BlkD
  A : Option Addr
  c : Nat
  sl : Sl (IntR .u64) 1 w A c b.w
  wf1 : (Lit.int .i64 b.id).wf = true
  wf2 : (Lit.int .i64 b.at').wf = true
instance (w : World) : Inhabited (BlkX w) := ⟨⟨⟨0, 0, []⟩, none, 0, Sl.nil _ _ _, by decide, by decide⟩⟩
def BlkX.cells {w : World} (x : BlkX w) : List Value := [.int .i64 x.b.id, .int .i64 x.b.at', .slice x.A x.b.w.length x.c]
theorem Sl.blks {w : World} {b off c : Nat} {L : List BlkD} (h : Sl BlkR 3 w (some ⟨b, off, none⟩) c L) :
    ∃ zs : List (BlkX w), zs.map BlkX.b = L ∧ ∀ j, j < zs.length → ∀ i v, (BlkX.cells zs[j]!)[i]? = some v → w.cell? ⟨b, off + j * 3 + i, none⟩ = some v := by
  have key : ∀ i : Fin L.length, ∃ x : BlkX w, x.b = L[i.1] ∧ ∀ j v, (BlkX.cells x)[j]? = some v → w.cell? ⟨b, off + i.1 * 3 + j, none⟩ = some v := by
    intro i
    obtain ⟨b', off', cs, e, hl, ⟨A, c', rfl, hs, hw1, hw2⟩, hc⟩ := h.get i.1 i.2
    simp at e; obtain ⟨rfl, rfl⟩ := e
    exact ⟨⟨L[i.1], A, c', hs, hw1, hw2⟩, rfl, hc⟩
  obtain ⟨f, hf⟩ := Classical.axiomOfChoice key
  refine ⟨List.ofFn f, ?_, ?_⟩
  · apply List.ext_getElem
    · simp
    · intro i h1 h2
      simp only [List.getElem_map, List.getElem_ofFn]
      exact (hf _).1
  · intro j hj i v hv
    rw [getElem!_pos _ j hj, List.getElem_ofFn] at hv
    exact (hf ⟨j, by simpa using hj⟩).2 i v hv
theorem blk_cells {w : World} {b off c : Nat} {L : List BlkD} (h : Sl BlkR 3 w (some ⟨b, off, none⟩) c L) (j : Nat) (hj : j < L.length) :
    ∃ A c', w.cell? ⟨b, off + j * 3, none⟩ = some (.int .i64 (L[j]!).id) ∧ w.cell? ⟨b, off + j * 3 + 1, none⟩ = some (.int .i64 (L[j]!).at') ∧ w.cell? ⟨b, off + j * 3 + 2, none⟩ = some (.slice A (L[j]!).w.length c') ∧ Sl (IntR .u64) 1 w A c' (L[j]!).w ∧ (Lit.int .i64 (L[j]!).id).wf = true ∧ (Lit.int .i64 (L[j]!).at').wf = true := by
  obtain ⟨b', off', cs, e, hl, ⟨A, c', rfl, hs, hw1, hw2⟩, hc⟩ := h.get j hj
  simp at e; obtain ⟨rfl, rfl⟩ := e
  rw [getElem!_pos L j hj]
  exact ⟨A, c', hc 0 _ rfl, hc 1 _ rfl, hc 2 _ rfl, hs, hw1, hw2⟩
/-- The first block of a number, or -1. -/
def idxR (l : List BlkD) (id : Int) : Int := Lib.idxBy (fun _ (b : BlkD) => decide (b.id = id)) l default
end Go.Proofs.YtebdnobgdimdoaaGreat
set_option linter.unusedVariables false
set_option linter.unusedSimpArgs false
namespace Go.Proofs.YtebdnobgdimdoaaGreat
open Go.RowKit Go.Shelf Go.Lib
shelf_lay_g SlLaysH0.n6 Slgf 6 at Tryz 110 as arI6
theorem end_any (id a : Int) (A : Option Addr) (n c : Nat) (w : World) (r : Int) (hr : Hid (IntKind.i64.wrap (a + n) = r)) :
    Calls Tryz.prog 66 #[.agg #[.int .i64 id, .int .i64 a, .slice A n c]] w fun e w' => e = .returned (.int .i64 r) ∧ Bel w w' := by
  have hr' := hr.out
  go_enter Tryz.func66, Tryz.ntmps66
  go_wp2_with fail
  go_ret
  exact ⟨rfl, by repeat (first | exact Bel.refl _ | apply Bel.alloc)⟩
/-- 'func(b api.Block) bool { return b.Id == id }'. -/
theorem at_pred (id : Int) (B : Nat) (w : World) (hcell : w.cell? ⟨B, 0, none⟩ = some (.int .i64 id)) : PredBelow Tryz.prog 111 #[.pointer (some ⟨B, 0, none⟩)] (fun x : BlkX w => .agg (BlkX.cells x).toArray) (fun x => decide (x.b.id = id)) w := fun W x hb => by
  obtain ⟨⟨i, a, ws⟩, A, c, hs, hw1, hw2⟩ := x
  show Calls Tryz.prog 111 #[.agg #[.int .i64 i, .int .i64 a, .slice A ws.length c], .pointer (some ⟨B, 0, none⟩)] W _
  have HB := Bel.of hb
  have hB : B < w.heap.size := World.block_lt_of_cell? _ _ hcell
  have hc := HB.cell hcell
  have hlt := HB.size
  have hB2 : B < W.heap.size := by omega
  have ne : ¬ B = W.heap.size := by omega
  have ne' : ¬ W.heap.size = B := by omega
  show Calls _ _ _ _ fun e w' => e = .returned (.bool (decide (i = id))) ∧ _
  by_cases h : i = id
  · subst h
    clear hb hs hw1 hw2 hcell
    go_enter Tryz.func111, Tryz.ntmps111
    go_wp2_with fail
    go_ret
    exact ⟨by simp, by first | exact HB.out | exact (HB.alloc _).out⟩
  · have h' : (i == id) = false := by simpa using h
    rw [decide_eq_false h]
    clear hb hs hw1 hw2 hcell h
    go_enter Tryz.func111, Tryz.ntmps111
    go_wp2_with fail
    go_ret
    exact ⟨by simp, by first | exact HB.out | exact (HB.alloc _).out⟩
theorem at_enters : ∀ args w, (callFunc 111 args).run Tryz.prog w = .ok (.enter 111 args) w := enters_of Tryz.func111 (by kernel_rfl) rfl
theorem idxBy_map {α β : Type} (f : α → β) (p : β → Bool) (d : α) (e : β) : ∀ (l : List α) (i : Nat), Lib.idxByFrom (fun _ y => p (f y)) d l i = Lib.idxByFrom (fun _ y => p y) e (l.map f) i
  | [], i => rfl
  | y :: l, i => by
    rw [List.map_cons, Lib.idxByFrom, Lib.idxByFrom, idxBy_map f p d e l (i + 1)]
set_option maxHeartbeats 1000000 in
theorem index_any (A : Option Addr) (n c B : Nat) (l : List BlkD) (id r : Int) (w : World) (h : Sl BlkR 3 w A c l) (hn : Hid (l.length = n)) (hr : Hid (idxR l id = r)) (hcell : w.cell? ⟨B, 0, none⟩ = some (.int .i64 id)) :
    Calls Tryz.prog 110 #[.slice A n c, .func (.func 111) #[] #[.pointer (some ⟨B, 0, none⟩)]] w fun e w' => e = .returned (.int .i64 r) ∧ Bel w w' := by
  by_cases h0 : n = 0
  · subst h0
    have e : l = [] := List.eq_nil_of_length_eq_zero hn.out
    subst e
    rw [← hr.out]
    clear hr h hn hcell
    show Calls _ _ _ _ fun e w' => e = .returned (.int .i64 (-1)) ∧ _
    go_enter Tryz.func110, Tryz.ntmps110
    go_wp2_with fail
    go_loopw [8] (fun v wr => v = .int .i64 0 ∧ wr = w) (fun v _ => 0)
    case atStart => exact ⟨rfl, rfl⟩
    case round =>
      obtain ⟨rfl, rfl⟩ := hrel
      go_wp2
      go_ret
      exact ⟨rfl, Bel.refl _⟩
  · obtain ⟨b, off, rfl⟩ := h.addr (by rw [hn.out]; omega)
    have hb : b < w.heap.size := by
      obtain ⟨b', off', cs, e, hl, ⟨A', c', rfl, hw⟩, hc⟩ := h.get 0 (by rw [hn.out]; omega)
      simp at e; obtain ⟨rfl, rfl⟩ := e
      exact World.block_lt_of_cell? _ _ (hc 0 _ rfl)
    have hle := h.le
    have hbig := h.big
    simp only [maxLen] at hbig
    obtain ⟨zs, hz, hcs⟩ := h.blks
    have hlen : zs.length = l.length := by rw [← hz]; simp
    have hcon := AnyQ.slices_IndexFunc arI6 3 Tryz.isAgg144 Tryz.sizeOf144 BlkX.cells (fun _ => rfl) (fun x => decide (x.b.id = id)) 111 #[.pointer (some ⟨B, 0, none⟩)] at_enters b off zs.length c zs w (at_pred id B w hcell) (Nat.le_refl _) (by omega) hb hcs
    change Calls Tryz.prog 110 _ _ _ at hcon
    have e : Lib.idxBy (fun _ (y : BlkX w) => decide (y.b.id = id)) zs default = r := by
      rw [← hr.out]
      unfold idxR Lib.idxBy
      rw [idxBy_map BlkX.b (fun y => decide (y.id = id)) default default zs 0, hz]
    rw [List.take_length, e, hlen, hn.out] at hcon
    exact hcon.mono fun e w' ⟨h1, h2⟩ => ⟨h1, Bel.of h2⟩
set_option maxHeartbeats 1000000 in
theorem at_any (cap : Int) (A : Option Addr) (n c : Nat) (l : List BlkD) (id r : Int) (w : World) (h : Sl BlkR 3 w A c l) (hn : Hid (l.length = n)) (hr : Hid (idxR l id = r)) :
    Calls Tryz.prog 65 #[.agg #[.int .i64 cap, .slice A n c], .int .i64 id] w fun e w' => e = .returned (.int .i64 r) ∧ Bel w w' := by
  have HS := Lib.hid h
  clear h
  have hmf : ∀ (fn : Fn) (first cap : Array Value) (w : World), (Instr.makeFunc fn first cap).run Tryz.prog w = .ok (.func fn first cap) w := fun _ _ _ _ => rfl
  go_enter Tryz.func65, Tryz.ntmps65
  go_wp2_with fail
  have HB : Bel w ((w.alloc (.cells #[.int .i64 cap, .slice A n c] 79)).alloc (.cells #[.int .i64 id] 3)) := ((Bel.refl w).alloc _).alloc _
  have hc := cell_fresh (w.alloc (.cells #[.int .i64 cap, .slice A n c] 79)) #[.int .i64 id] 3 0 (.int .i64 id) rfl
  rw [World.size_alloc] at hc
  refine (index_any A n c _ l id r _ (HS.out.mono BlkR.mono HB) hn hr hc).mono ?_
  rintro e w1 ⟨rfl, hb⟩
  have HB := HB.trans hb
  clear hb hc
  go_wp2_with fail
  go_ret
  exact ⟨rfl, HB⟩
def newE (room : Int) : Int := if roomB room = true then 0 else 1
def newC (room : Int) : Int := if roomB room = true then room else 0
set_option maxHeartbeats 1000000 in
theorem New_any (room : Int) (w : World) :
    Calls Tryz.prog 23 #[.int .i64 room] w fun e w' => e = .returned (.tuple #[.agg #[.int .i64 (newC room), .slice none 0 0], .int .i64 (newE room)]) ∧ Bel w w' := by
  unfold newC newE roomB
  by_cases h0 : room < 0
  · rw [decide_eq_false (by omega)]
    go_enter Tryz.func23, Tryz.ntmps23
    go_wp2_with fail
    have c0 := cell_fresh w #[.int .i64 0, .slice none 0 0] 79 0 _ rfl
    have c1 := cell_fresh w #[.int .i64 0, .slice none 0 0] 79 1 _ rfl
    refine bodyPost_ret (v := .tuple #[.agg #[.int .i64 0, .slice none 0 0], .int .i64 1]) ?_ rfl ⟨rfl, (Bel.refl w).alloc _⟩
    simp [results, Tryz.results23, go_sem, c0, c1]
  · by_cases h1 : 1024 < room
    · rw [decide_eq_false (by omega)]
      have h0' : ¬ room < 0 := h0
      go_enter Tryz.func23, Tryz.ntmps23
      go_wp2_with fail
      have c0 := cell_fresh w #[.int .i64 0, .slice none 0 0] 79 0 _ rfl
      have c1 := cell_fresh w #[.int .i64 0, .slice none 0 0] 79 1 _ rfl
      refine bodyPost_ret (v := .tuple #[.agg #[.int .i64 0, .slice none 0 0], .int .i64 1]) ?_ rfl ⟨rfl, (Bel.refl w).alloc _⟩
      simp [results, Tryz.results23, go_sem, c0, c1]
    · rw [decide_eq_true (by omega)]
      have h0' : ¬ room < 0 := h0
      have h1' : ¬ 1024 < room := h1
      go_enter Tryz.func23, Tryz.ntmps23
      go_wp2_with fail
      have c0 := cell_fresh w #[.int .i64 room, .slice none 0 0] 79 0 _ rfl
      have c1 := cell_fresh w #[.int .i64 room, .slice none 0 0] 79 1 _ rfl
      refine bodyPost_ret (v := .tuple #[.agg #[.int .i64 room, .slice none 0 0], .int .i64 0]) ?_ rfl ⟨rfl, (Bel.refl w).alloc _⟩
      simp [results, Tryz.results23, go_sem, c0, c1]
end Go.Proofs.YtebdnobgdimdoaaGreat
