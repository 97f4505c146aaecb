/- Instructions and their bytes: plain laws. -/
import Derived.Test.YtcllifcafgiopaaInstGet
set_option linter.unusedVariables false
set_option linter.unusedSimpArgs false
namespace Go.Proofs.Ytcllifcafgiopaa
open Go.RowKit

def InstD.put (i : InstD) : List Int := putL i.op i.fn i.dst i.src i.reg i.off i.imm
/-- What 'Put' tells. -/
def putR (i : InstD) : List Int × Int := if i.may = true then (i.put, 0) else ([], 1)
theorem may_facts {i : InstD} (h : i.may = true) :
    (0 ≤ i.op ∧ i.op < 8) ∧ (0 ≤ i.dst ∧ i.dst < 8) ∧ (0 ≤ i.src ∧ i.src < 8) ∧ (0 ≤ i.fn ∧ i.fn < 11) ∧ (0 ≤ i.off ∧ i.off < 65536)
    ∧ (i.op ≠ 1 → i.off = 0) ∧ (1 < i.op → i.fn = 0) ∧ (i.reg = true → i.imm = 0) ∧ (i.reg = false → i.src = 0) ∧ (i.op = 7 → i.fn = 0 ∧ i.dst = 0 ∧ i.src = 0 ∧ i.reg = false ∧ i.off = 0 ∧ i.imm = 0) := by
  obtain ⟨op, fn, dst, src, reg, off, imm⟩ := i
  obtain ⟨k1, k2, k3, k4, k5⟩ := may_bounds h
  have h := of_decide_eq_true h
  obtain ⟨a, b, c, d, e, f, g, i⟩ := h
  simp only at *
  refine ⟨k1, k2, k3, k4, k5, fun h => ?_, fun h => ?_, fun h => ?_, fun h => ?_, fun h => ?_⟩
  · rw [if_neg h] at e; omega
  · rw [if_neg (by omega), if_neg (by omega)] at d; omega
  · rw [if_pos h] at i; exact i
  · rw [if_neg (by simp [h])] at i; exact i
  · subst h
    rcases f with ⟨f, _⟩ | ⟨f1, f2⟩
    · omega
    · rw [if_neg (by simp [f2])] at i
      refine ⟨?_, f1, i, f2, ?_, ?_⟩
      · simp at d; omega
      · simp at e; omega
      · rcases g with ⟨g, _⟩ | g
        · omega
        · exact g
theorem get_put {i : InstD} (hm : i.may = true) (hi : U32 i.imm) : getI i.put = i := by
  obtain ⟨op, fn, dst, src, reg, off, imm⟩ := i
  obtain ⟨⟨a1, a2⟩, ⟨b1, b2⟩, ⟨c1, c2⟩, ⟨d1, d2⟩, ⟨e1, e2⟩⟩ := may_bounds hm
  have h1 := hi.lo
  have h2 := hi.hi
  simp only at *
  simp only [InstD.put, putL, getI, beN, List.getD_cons_zero, List.getD_cons_succ, InstD.mk.injEq, Nat.add_zero, Nat.zero_add, Nat.reduceAdd]
  refine ⟨by omega, by omega, ?_, ?_, ?_, by omega, by omega⟩
  · cases reg <;> simp <;> omega
  · cases reg <;> simp <;> omega
  · cases reg <;> simp <;> omega
theorem put_length (i : InstD) : i.put.length = 8 := rfl
theorem getR_put {i : InstD} (hm : i.may = true) (hi : U32 i.imm) : getR i.put = (i, 0) := by
  unfold getR
  rw [if_pos (put_length i), get_put hm hi, if_pos hm]
theorem put_get {l : List Int} (hl : l.length = 8) (h : ∀ x ∈ l, 0 ≤ x ∧ x < 256) (hm : (getI l).may = true) : (getI l).put = l := by
  match l, hl with
  | [b0, b1, b2, b3, b4, b5, b6, b7], _ =>
    obtain ⟨⟨a1, a2⟩, ⟨d1, d2⟩, ⟨c1, c2⟩, ⟨f1, f2⟩, ⟨e1, e2⟩⟩ := may_bounds hm
    have h0 := h b0 (by simp)
    have h1 := h b1 (by simp)
    have h2 := h b2 (by simp)
    have h3 := h b3 (by simp)
    have h4 := h b4 (by simp)
    have h5 := h b5 (by simp)
    have h6 := h b6 (by simp)
    have h7 := h b7 (by simp)
    simp only [getI, beN, List.getD_cons_zero, List.getD_cons_succ, Nat.add_zero, Nat.zero_add, Nat.reduceAdd] at *
    simp only [InstD.put, putL, List.cons.injEq, and_true, beN, List.getD_cons_zero, List.getD_cons_succ, Nat.add_zero, Nat.zero_add, Nat.reduceAdd]
    refine ⟨by omega, ?_, by omega, by omega, by omega, by omega, by omega, by omega⟩
    by_cases hb : 128 ≤ b1
    · simp [hb]; omega
    · simp [hb]; omega
theorem put_range {i : InstD} (hm : i.may = true) (hi : U32 i.imm) : ∀ x ∈ i.put, 0 ≤ x ∧ x < 256 := by
  obtain ⟨op, fn, dst, src, reg, off, imm⟩ := i
  obtain ⟨⟨a1, a2⟩, ⟨b1, b2⟩, ⟨c1, c2⟩, ⟨d1, d2⟩, ⟨e1, e2⟩⟩ := may_bounds hm
  have h1 := hi.lo
  have h2 := hi.hi
  simp only at *
  intro x hx
  simp only [InstD.put, putL, List.mem_cons, List.not_mem_nil, or_false] at hx
  rcases hx with rfl | rfl | rfl | rfl | rfl | rfl | rfl | rfl
  · omega
  · cases reg <;> simp <;> omega
  all_goals omega
theorem put_inj {i k : InstD} (h1 : i.may = true) (h2 : k.may = true) (u1 : U32 i.imm) (u2 : U32 k.imm) : (i.put = k.put) ↔ i = k :=
  ⟨fun h => by rw [← get_put h1 u1, ← get_put h2 u2, h], fun h => by rw [h]⟩
theorem getR_two {l : List Int} (h : (getR l).2 ≠ 0) : getR l = (InstD.zero, 7) := by
  unfold getR at *
  split
  · rename_i hl
    rw [if_pos hl] at h
    split
    · rename_i hm; rw [if_pos hm] at h; simp at h
    · rfl
  · rfl
theorem getR_ok {l : List Int} (h : (getR l).2 = 0) : l.length = 8 ∧ (getI l).may = true ∧ getR l = (getI l, 0) := by
  unfold getR at *
  split at h
  · rename_i hl
    split at h
    · rename_i hm; exact ⟨hl, hm, by rw [if_pos hl, if_pos hm]⟩
    · simp at h
  · simp at h
theorem getR_may {l : List Int} (hm : (getI l).may = true) (hl : l.length = 8) : getR l = (getI l, 0) := by unfold getR; rw [if_pos hl, if_pos hm]
theorem getI_imm {l : List Int} (hl : l.length = 8) (h : ∀ x ∈ l, 0 ≤ x ∧ x < 256) : U32 (getI l).imm := by
  have := beN_small l 4 4 (fun i hi => h _ (by rw [List.getD_eq_getElem?_getD, List.getElem?_eq_getElem (by omega)]; simp)) (by decide) (by decide) 4 (by decide)
  exact ⟨this.1, this.2⟩
end Go.Proofs.Ytcllifcafgiopaa
