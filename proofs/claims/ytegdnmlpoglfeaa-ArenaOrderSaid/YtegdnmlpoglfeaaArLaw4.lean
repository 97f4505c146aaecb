/- Plain facts for ArenaOrder: blocks put and dropped one after the other. -/
import Derived.Test.YtegdnmlpoglfeaaArLaw3
set_option linter.unusedVariables false
set_option linter.unusedSimpArgs false
namespace Go.Proofs.Ytegdnmlpoglfeaa
open Go.RowKit

theorem del_prev {l : List BlkD} {k : Nat} (hk : k < l.length) (j : Nat) : prevEnd (del l k) j = if j ≤ k then prevEnd l j else prevEnd l (j + 1) := by
  cases j with
  | zero => rw [if_pos (Nat.zero_le _)]; rfl
  | succ j =>
    rw [prevEnd_succ, del_get hk]
    by_cases h : j < k
    · rw [if_pos h, if_pos (show j + 1 ≤ k by omega), prevEnd_succ]
    · rw [if_neg h, if_neg (show ¬ j + 1 ≤ k by omega), prevEnd_succ]
theorem Ok.del {m : MemD} (h : Ok m) {k : Nat} (hk : k < m.l.length) : Ok ⟨m.cap, del m.l k⟩ := by
  refine ⟨h.cap0, h.cap1, fun j hj => ?_⟩
  simp only at hj
  rw [del_length hk] at hj
  have e := del_get hk j
  have ep := del_prev hk j
  by_cases h1 : j < k
  · rw [if_pos h1] at e
    rw [if_pos (by omega)] at ep
    have o := h.blk j (by omega)
    refine ⟨?_, fun q hq => ?_, ?_, ?_, ?_, ?_⟩ <;> simp only <;> rw [e]
    · exact o.id1
    · rw [del_get hk, if_pos (by omega)]; exact o.ids q hq
    · exact o.len
    · rw [ep]; exact o.lo
    · exact o.hi
    · exact o.cap
  · rw [if_neg h1] at e
    have o := h.blk (j + 1) (by omega)
    refine ⟨?_, fun q hq => ?_, ?_, ?_, ?_, ?_⟩ <;> simp only <;> rw [e]
    · exact o.id1
    · rw [del_get hk]
      by_cases h2 : q < k
      · rw [if_pos h2]; exact o.ids q (by omega)
      · rw [if_neg h2]; exact o.ids (q + 1) (by omega)
    · exact o.len
    · rw [ep]
      split
      · exact Int.le_trans (h.prev_mono (j + 1) j (by omega) (by omega)) o.lo
      · exact o.lo
    · exact o.hi
    · exact o.cap
/-- Blocks of one size, their numbers between two. -/
structure OrdM (room : Int) (size : Nat) (lo hi : Int) (m : MemD) : Prop where
  ok : Ok m
  cap : m.cap = room
  all : ∀ j, j < m.l.length → (m.l[j]!).w.length = size ∧ lo ≤ (m.l[j]!).id ∧ (m.l[j]!).id ≤ hi
theorem OrdM.nil {room : Int} (h0 : 0 ≤ room) (h1 : room ≤ 1024) (size : Nat) (lo hi : Int) : OrdM room size lo hi ⟨room, []⟩ := ⟨ok_nil h0 h1, rfl, fun j hj => by simp at hj⟩
theorem OrdM.up {room : Int} {size : Nat} {lo hi hi' : Int} {m : MemD} (h : OrdM room size lo hi m) (hh : hi ≤ hi') : OrdM room size lo hi' m := ⟨h.ok, h.cap, fun j hj => ⟨(h.all j hj).1, (h.all j hj).2.1, by have := (h.all j hj).2.2; omega⟩⟩
theorem OrdM.put {room : Int} {size : Nat} {lo hi : Int} {m m' : MemD} (h : OrdM room size lo hi m) {p : Int} (hlo : lo ≤ hi + 1) (hp : putM m ⟨hi + 1, p, zeros size⟩ = (m', 0)) : OrdM room size lo (hi + 1) m' ∧ m'.l.length = m.l.length + 1 := by
  obtain ⟨i, hok, hi', hid, hl, hnew, h1, h2, hpe, hok'⟩ := putM_ok (m := m) (b := ⟨hi + 1, p, zeros size⟩) (by rw [hp])
  rw [hp] at hpe
  simp only [Prod.mk.injEq, and_true] at hpe
  subst hpe
  refine ⟨⟨hok', h.cap, fun j hj => ?_⟩, ins_length hi' _⟩
  simp only at hj ⊢
  rw [ins_length hi'] at hj
  rw [ins_get hi']
  by_cases h3 : j < i
  · rw [if_pos h3]
    have := h.all j (by omega)
    exact ⟨this.1, this.2.1, by omega⟩
  · rw [if_neg h3]
    by_cases h4 : j = i
    · rw [if_pos h4]
      exact ⟨zeros_length size, hlo, Int.le_refl _⟩
    · rw [if_neg h4]
      have := h.all (j - 1) (by omega)
      exact ⟨this.1, this.2.1, by omega⟩
theorem OrdM.apart {room : Int} {size : Nat} {lo hi : Int} {m : MemD} (h : OrdM room size lo hi m) {j : Nat} (hj : j + 1 < m.l.length) : (m.l[j]!).at' + size ≤ (m.l[j + 1]!).at' := by
  have b := (h.ok.blk (j + 1) hj).lo
  rw [prevEnd_succ, (h.all j (by omega)).1] at b
  exact b
theorem OrdM.drop {room : Int} {size : Nat} {lo hi : Int} {m : MemD} (h : OrdM room size lo hi m) : (∃ m', dropM m lo = (m', 0) ∧ OrdM room size (lo + 1) hi m' ∧ m'.l.length + 1 = m.l.length) ∨ (dropM m lo = (⟨0, []⟩, 3) ∧ OrdM room size (lo + 1) hi m) := by
  have hm := mayM_iff.2 h.ok
  rcases idxR_cases m.l lo with ⟨k, h1, h2, h3, h4⟩ | ⟨h1, h2⟩
  · refine .inl ⟨⟨m.cap, del m.l k⟩, ?_, ⟨h.ok.del h1, h.cap, fun j hj => ?_⟩, ?_⟩
    · unfold dropM
      rw [if_pos hm, h4, if_neg (by omega), Int.toNat_natCast]
    · simp only at hj ⊢
      rw [del_length h1] at hj
      rw [del_get h1]
      have key : ∀ q, q < m.l.length → q ≠ k → lo + 1 ≤ (m.l[q]!).id := fun q hq hqk => by
        have a := (h.all q hq).2.1
        have hne : (m.l[q]!).id ≠ lo := fun e => by
          by_cases hlt : q < k
          · exact h3 q hlt e
          · exact (h.ok.blk q hq).ids k (by omega) (by rw [h2, e])
        omega
      split
      · have := h.all j (by omega)
        exact ⟨this.1, key j (by omega) (by omega), this.2.2⟩
      · have := h.all (j + 1) (by omega)
        exact ⟨this.1, key (j + 1) (by omega) (by omega), this.2.2⟩
    · simp only
      rw [del_length h1]
      omega
  · refine .inr ⟨?_, h.ok, h.cap, fun j hj => ?_⟩
    · unfold dropM
      rw [if_pos hm, h2, if_pos (by omega)]
    · have a := h.all j hj
      have := h1 j hj
      exact ⟨a.1, by omega, a.2.2⟩
theorem OrdM.none {room : Int} {size : Nat} {lo hi : Int} {m : MemD} (h : OrdM room size lo hi m) (hh : hi < lo) : m = ⟨room, []⟩ := by
  obtain ⟨cap, l⟩ := m
  have := h.cap
  simp only at this
  subst this
  cases l with
  | nil => rfl
  | cons b l =>
    have := h.all 0 (by simp)
    omega
theorem OrdM.left {room : Int} {size : Nat} {lo hi : Int} {m : MemD} (h : OrdM room size lo hi m) : leftM m ≤ room := by
  rw [left_all h.ok, h.cap]
  have : 0 ≤ taken m.l := by
    have key : ∀ l : List BlkD, 0 ≤ taken l := fun l => by
      induction l with
      | nil => simp [taken]
      | cons b l ih => rw [taken_cons]; omega
    exact key _
  omega
end Go.Proofs.Ytegdnmlpoglfeaa
