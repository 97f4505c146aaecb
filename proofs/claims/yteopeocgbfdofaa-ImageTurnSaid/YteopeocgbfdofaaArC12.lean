/- arena.Drop and arena.Patch by their contracts. -/
import Derived.Test.YteopeocgbfdofaaArC11
import Derived.Test.YteopeocgbfdofaaHeldT
set_option linter.unusedVariables false
set_option linter.unusedSimpArgs false
namespace Go.Proofs.Yteopeocgbfdofaa
open Go.RowKit

def del (l : List BlkD) (i : Nat) : List BlkD := l.take i ++ l.drop (i + 1)
theorem del_length {l : List BlkD} {i : Nat} (hi : i < l.length) : (del l i).length = l.length - 1 := by
  unfold del
  rw [List.length_append, List.length_take, List.length_drop]
  omega
theorem del_get {l : List BlkD} {i : Nat} (hi : i < l.length) (j : Nat) : (del l i)[j]! = if j < i then l[j]! else l[j + 1]! := by
  unfold del
  simp only [List.getElem!_eq_getElem?_getD]
  rw [List.getElem?_append, List.length_take, Nat.min_eq_left (by omega)]
  by_cases h1 : j < i
  · rw [if_pos h1, if_pos h1, List.getElem?_take, if_pos h1]
  · rw [if_neg h1, if_neg h1, List.getElem?_drop, show i + 1 + (j - i) = j + 1 by omega]
def dropM (m : MemD) (id : Int) : MemD × Int := if mayM m = true then (if idxR m.l id < 0 then (⟨0, []⟩, 3) else (⟨m.cap, del m.l (idxR m.l id).toNat⟩, 0)) else (⟨0, []⟩, 1)
def patchM (m : MemD) (place v : Int) : MemD × Int := if mayM m = true then (match blkOf m.l place with | some i => (⟨m.cap, m.l.set i ⟨(m.l[i]!).id, (m.l[i]!).at', (m.l[i]!).w.set (place - (m.l[i]!).at').toNat v⟩⟩, 0) | none => (⟨0, []⟩, 3)) else (⟨0, []⟩, 1)
theorem drop_sl {w0 W : World} {D c : Nat} {l : List BlkD} {A : Nat → Option Addr} {cc : Nat → Nat} (h : OwnB w0 W D c l l.length A cc) (hwf : ∀ i, i < l.length → (Lit.int .i64 (l[i]!).id).wf = true ∧ (Lit.int .i64 (l[i]!).at').wf = true)
    {i : Nat} (hi : i < l.length) {D9 c9 : Nat} (hc1 : l.length - 1 ≤ c9) (hc2 : c9 ≤ maxLen)
    (hcells : ∀ q u, (rowL l A cc 0 i ++ rowL l A cc (i + 1) (l.length - (i + 1)))[q]? = some u → W.cell? ⟨D9, q, none⟩ = some u) : Sl BlkR 3 W (some ⟨D9, 0, none⟩) c9 (del l i) := by
  refine rows_sl (by rw [del_length hi]; exact hc1) hc2 fun j hj => ?_
  rw [del_length hi] at hj
  have e := del_get hi j
  by_cases h1 : j < i
  · rw [if_pos h1] at e
    rw [e]
    obtain ⟨g', e1, -, -, -, e5⟩ := h.own j (by omega) (by omega)
    refine ⟨g', cc j, fun q v hv => hcells _ _ ?_, e5, hwf j (by omega)⟩
    have hq : q < 3 := (List.getElem?_eq_some_iff.1 hv).1
    rw [List.getElem?_append_left (by rw [rowL_len]; omega), rowL_get l A cc 0 i h1 hq, Nat.zero_add, e1]
    exact hv
  · rw [if_neg h1] at e
    rw [e]
    obtain ⟨g', e1, -, -, -, e5⟩ := h.own (j + 1) (by omega) (by omega)
    refine ⟨g', cc (j + 1), fun q v hv => hcells _ _ ?_, e5, hwf (j + 1) (by omega)⟩
    have hq : q < 3 := (List.getElem?_eq_some_iff.1 hv).1
    rw [List.getElem?_append_right (by rw [rowL_len]; omega), rowL_len, show j * 3 + q - i * 3 = (j - i) * 3 + q by omega, rowL_get l A cc (i + 1) _ (by omega) hq, show i + 1 + (j - i) = j + 1 by omega, e1]
    exact hv
/-- 'append(l[:i:i], l[i+1:]...)'. -/
theorem appB_drop (ty : TypeId) {b0 : Nat} {W0 W : World} {D c n : Nat} {l : List BlkD} {A : Nat → Option Addr} {cc : Nat → Nat} (h : RowB b0 W0 D c l A cc) (hb : Bel W0 W) (hn : l.length = n) (hs : n ≤ 4096) {i : Nat} (hi : i < n) (hb0 : b0 ≤ W0.heap.size) :
    ∃ v' w', (Builtin.append_ #[43, 43] ty #[.slice (some ⟨D, 0, none⟩) i i, .slice (if c = i + 1 then some ⟨D, 0, none⟩ else some ⟨D, (i + 1) * 3, none⟩) (n - (i + 1)) (c - (i + 1))]).run Try.prog W = .ok v' w' ∧ ∃ g cg, v' = .slice (some ⟨g, 0, none⟩) (i + (n - (i + 1))) cg ∧ b0 ≤ g ∧ g < w'.heap.size ∧ i + (n - (i + 1)) ≤ cg ∧ cg ≤ maxLen ∧ (∀ j u, (rowL l A cc 0 i ++ rowL l A cc (i + 1) (n - (i + 1)))[j]? = some u → w'.cell? ⟨g, j, none⟩ = some u) ∧ Bel W w' := by
  have holds := olds_of (A := A) (cc := cc) h hb (k := i) (by omega)
  have hle := h.le
  obtain ⟨hz1, hz2⟩ := news_if (i := i + 1) (k := n - (i + 1)) h hb (by omega) (p := c = i + 1) (by omega)
  obtain ⟨ad, had⟩ : ∃ ad, (if c = i + 1 then some (⟨D, 0, none⟩ : Addr) else some ⟨D, (i + 1) * 3, none⟩) = some ad := by
    split
    · exact ⟨_, rfl⟩
    · exact ⟨_, rfl⟩
  have hnews := hz2 ad had
  rw [had]
  by_cases h0 : n - (i + 1) = 0
  · obtain ⟨i0, hi0, hzz⟩ := Option.map_eq_some_iff.1 info_Block
    rw [h0]
    have hr := run_append_room_cells (P := Try.prog) W 43 ty 69 i0 Try.underlying43 hi0 D 0 i i ad 0 (c - (i + 1)) [] (by simp) (by intro j u hu; simp at hu) (by intro u hu; cases hu) (Nat.le_refl _) (by intro j hj; simp at hj) (by intro j hj; simp at hj)
    refine ⟨_, _, hr, D, i, rfl, h.D0, Nat.lt_of_lt_of_le h.lt hb.size, Nat.le_refl _, by simp only [maxLen]; omega, fun j u hu => ?_, Bel.refl _⟩
    rw [show rowL l A cc (i + 1) 0 = [] from rfl, List.append_nil] at hu
    have := holds _ rfl j u hu
    rw [Addr.add_lit, Nat.zero_add] at this
    exact this
  · obtain ⟨v', w', hr, g, cg, h1, h2, h3, h4, h5, h6, h7⟩ := appB_grow ty W (some ⟨D, 0, none⟩) i i (fun h => by cases h) (rowL l A cc 0 i) (rowL_len _ _ _ _ _) holds ad (n - (i + 1)) (c - (i + 1)) (rowL l A cc (i + 1) (n - (i + 1))) (rowL_len _ _ _ _ _) hnews (rowL_one _ _ _ _ _) (by omega) (by omega)
    exact ⟨v', w', hr, g, cg, h1, Nat.le_trans hb0 (Nat.le_trans hb.size h2), h3, h4, h5, h6, h7⟩
theorem idxR_range (l : List BlkD) (id : Int) : idxR l id < 0 ∨ ∃ i : Nat, idxR l id = i ∧ i < l.length := by
  have key : ∀ (zs : List BlkD) (k : Nat), Lib.idxByFrom (fun _ (b : BlkD) => decide (b.id = id)) default zs k < 0 ∨ ∃ i : Nat, Lib.idxByFrom (fun _ (b : BlkD) => decide (b.id = id)) default zs k = ((k + i : Nat) : Int) ∧ i < zs.length := by
    intro zs
    induction zs with
    | nil => intro k; left; simp [Lib.idxByFrom]
    | cons z zs ih =>
      intro k
      simp only [Lib.idxByFrom]
      split
      · right; exact ⟨0, by simp, by simp⟩
      · rcases ih (k + 1) with h | ⟨i, h1, h2⟩
        · left; exact h
        · right; exact ⟨i + 1, by rw [h1]; congr 1; omega, by simpa using h2⟩
  rcases key l 0 with h | ⟨i, h1, h2⟩
  · exact .inl h
  · exact .inr ⟨i, by unfold idxR Lib.idxBy; rw [h1]; simp, h2⟩
/-- The cells of a result that was stored whole. -/
theorem res_two {W : World} {B : Nat} {t : TypeId} {a b : Value} (h : Blk W B t #[a, b]) (x v : Value) :
    ((W.setCell ⟨B, 0, none⟩ x).setCell ⟨B, 1, none⟩ v).cell? ⟨B, 0, none⟩ = some x ∧ ((W.setCell ⟨B, 0, none⟩ x).setCell ⟨B, 1, none⟩ v).cell? ⟨B, 1, none⟩ = some v :=
  ⟨((h.set 0 x).set 1 v).cell 0 rfl, ((h.set 0 x).set 1 v).cell 1 rfl⟩
end Go.Proofs.Yteopeocgbfdofaa
