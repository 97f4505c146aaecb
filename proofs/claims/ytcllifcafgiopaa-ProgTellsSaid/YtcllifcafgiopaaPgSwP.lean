/- Swapped back: plain; parts of a slice of any elements. -/
import Derived.Test.YtcllifcafgiopaaPg16
set_option linter.unusedVariables false
set_option linter.unusedSimpArgs false
namespace Go.Proofs.Ytcllifcafgiopaa
open Go.RowKit

theorem fnFine_with {f : FnD} {a : Int} (h : fnFine ⟨0, f.code⟩ = true) (h0 : 0 ≤ f.args) (h4 : f.args ≤ 4) : fnFine f = true := by
  unfold fnFine at h ⊢
  simp only [Bool.and_eq_true, decide_eq_true_iff] at h ⊢
  exact ⟨⟨h0, h4⟩, h.2⟩
theorem fnFine_zero {f : FnD} (h : fnFine f = true) : fnFine ⟨0, f.code⟩ = true := by
  unfold fnFine at h ⊢
  simp only [Bool.and_eq_true, decide_eq_true_iff] at h ⊢
  exact ⟨⟨by omega, by omega⟩, h.2⟩
theorem progMay_set {L : List FnD} {k : Nat} (hk : k < L.length) (h : progMay L = true) {f : FnD} (hf : fnFine ⟨0, f.code⟩ = true) (ha : (L[k]).args = f.args) : progMay (L.set k f) = true := by
  have hL := progMay_iff.1 h
  have hff := fnFine_facts (hL.fine k hk)
  refine progMay_iff.2 ⟨by rw [List.length_set]; exact hL.n0, by rw [List.length_set]; exact hL.n8, ?_, fun j hj => ?_⟩
  · have h0 := hL.a0
    have hl := hL.n0
    rw [List.getD_eq_getElem?_getD, List.getElem?_map, List.getElem?_eq_getElem hl] at h0
    rw [List.getD_eq_getElem?_getD, List.getElem?_map, List.getElem?_eq_getElem (by rw [List.length_set]; exact hl)]
    by_cases e : k = 0
    · subst e
      rw [List.getElem_set_self]
      simp only [Option.map_some, Option.getD_some] at h0 ⊢
      rw [← ha]; exact h0
    · rw [List.getElem_set_ne e]
      exact h0
  · by_cases e : k = j
    · subst e
      rw [List.getElem_set_self]
      exact fnFine_with (a := 0) hf (by rw [← ha]; exact hff.1) (by rw [← ha]; exact hff.2.1)
    · rw [List.getElem_set_ne e]
      exact hL.fine j _
/-- What a swap that is done tells. -/
theorem swap_ok {L Q : List FnD} {i : Int} {f : FnD} (h : swapP L i f = (Q, 0)) : progMay L = true ∧ fnFine ⟨0, f.code⟩ = true ∧ ∃ (k : Nat) (hk : k < L.length), i = k ∧ (L[k]).args = f.args ∧ Q = L.set k f := by
  unfold swapP at h
  split at h
  · rename_i h1
    split at h
    · simp at h
    · rename_i h2
      split at h
      · simp at h
      · rename_i h3
        have h4 := (Prod.mk.inj h).1
        obtain ⟨k, rfl⟩ : ∃ k : Nat, i = k := ⟨i.toNat, by omega⟩
        have hk : k < L.length := by omega
        rw [Int.toNat_natCast, List.getD_eq_getElem?_getD, List.getElem?_eq_getElem hk] at h3
        refine ⟨h1.1, h1.2, k, hk, rfl, by simpa using h3, ?_⟩
        rw [Int.toNat_natCast] at h4
        exact h4.symm
  · simp at h
theorem swap_err (L : List FnD) (i : Int) (f : FnD) : (swapP L i f).2 = 0 ∨ (swapP L i f).1 = [] := by
  unfold swapP
  split
  · split
    · exact .inr rfl
    · split
      · exact .inr rfl
      · exact .inl rfl
  · exact .inr rfl
theorem swap_back {L : List FnD} {k : Nat} (hk : k < L.length) {f : FnD} (hm : progMay L = true) (hf : fnFine ⟨0, f.code⟩ = true) (ha : (L[k]).args = f.args) : swapP (L.set k f) k (L[k]) = (L, 0) := by
  unfold swapP
  have h1 := progMay_set hk hm hf ha
  have h2 := fnFine_zero ((progMay_iff.1 hm).fine k hk)
  have hk' : k < (L.set k f).length := by rw [List.length_set]; exact hk
  rw [if_pos ⟨h1, h2⟩, if_neg (by omega), Int.toNat_natCast, List.getD_eq_getElem?_getD, List.getElem?_eq_getElem hk', Option.getD_some, List.getElem_set_self, if_neg (by rw [ha]; simp), List.set_set, List.set_getElem_self]
theorem set_take {L : List FnD} {k : Nat} (f : FnD) : (L.set k f).take k = L.take k := by
  rw [List.take_set]
  exact List.set_eq_of_length_le (by rw [List.length_take]; omega)
theorem set_drop {L : List FnD} {k : Nat} (f : FnD) : (L.set k f).drop (k + 1) = L.drop (k + 1) := by
  rw [List.drop_set, if_pos (by omega)]
theorem set_one {L : List FnD} {k : Nat} (hk : k < L.length) (f : FnD) : ((L.set k f).take (k + 1)).drop k = [f] := by
  rw [List.drop_take, show k + 1 - k = 1 by omega]
  have : (L.set k f).drop k = f :: (L.set k f).drop (k + 1) := by
    have h := List.drop_eq_getElem_cons (l := L.set k f) (i := k) (by rw [List.length_set]; exact hk)
    rwa [List.getElem_set_self] at h
  rw [this]
  rfl
theorem Sl.takeR {T : Type} {R : World → List Value → T → Prop} {sz : Nat} {w : World} {A : Option Addr} {c : Nat} {l : List T} (h : Sl R sz w A c l) (n : Nat) : Sl R sz w A c (l.take n) :=
  ⟨Nat.le_trans (by rw [List.length_take]; omega) h.le, h.big, fun i hi => by
    have hi' : i < l.length := by rw [List.length_take] at hi; omega
    obtain ⟨b, off, cs, e1, e2, e3, e4⟩ := h.get i hi'
    exact ⟨b, off, cs, e1, e2, by rw [List.getElem_take]; exact e3, e4⟩⟩
theorem Sl.dropR {T : Type} {R : World → List Value → T → Prop} {sz : Nat} {w : World} {b off c : Nat} {l : List T} (h : Sl R sz w (some ⟨b, off, none⟩) c l) (n : Nat) (hn : n ≤ l.length) : Sl R sz w (some ⟨b, off + n * sz, none⟩) (c - n) (l.drop n) :=
  ⟨by rw [List.length_drop]; have := h.le; omega, by have := h.big; omega, fun i hi => by
    have hi' : n + i < l.length := by rw [List.length_drop] at hi; omega
    obtain ⟨b', off', cs, e1, e2, e3, e4⟩ := h.get (n + i) hi'
    simp at e1; obtain ⟨rfl, rfl⟩ := e1
    refine ⟨b, off + n * sz, cs, rfl, e2, by rw [List.getElem_drop]; exact e3, fun j v hv => ?_⟩
    have := e4 j v hv
    rwa [Nat.add_mul, ← Nat.add_assoc] at this⟩
/-- The same, where no word is said of the address behind the last place. -/
theorem Sl.dropIf {T : Type} {R : World → List Value → T → Prop} {sz : Nat} {w : World} {b off c : Nat} {l : List T} (h : Sl R sz w (some ⟨b, off, none⟩) c l) (n : Nat) (hn : n ≤ l.length) : ∀ A', (¬ c = n → A' = some ⟨b, off + n * sz, none⟩) → Sl R sz w A' (c - n) (l.drop n) := by
  intro A' hA
  by_cases hc : c = n
  · have h0 : l.drop n = [] := List.drop_eq_nil_of_le (by have := h.le; omega)
    rw [h0]
    exact ⟨Nat.zero_le _, by have := h.big; omega, fun i hi => by simp at hi⟩
  · rw [hA hc]
    exact h.dropR n hn
/-- One function, just made a row. -/
theorem fn_one_sl (w : World) (t : TypeId) (a : Int) (A : Option Addr) (c n : Nat) (l : List InstD) (hn : l.length = n) (hw : (Lit.int .i64 a).wf = true) (hs : Sl InstR 7 w A c l) : Sl FnR 2 (w.alloc (.cells #[.int .i64 a, .slice A n c] t)) (some ⟨w.heap.size, 0, none⟩) 1 [⟨a, l⟩] := by
  subst hn
  exact ⟨Nat.le_refl _, (by decide : 1 ≤ maxLen), fun i hi => by
    obtain rfl : i = 0 := by simpa using hi
    refine ⟨w.heap.size, 0, [.int .i64 a, .slice A l.length c], rfl, rfl, ⟨A, c, rfl, hs.mono InstR.mono ((Bel.refl _).alloc _), hw⟩, fun j v hv => ?_⟩
    rw [show 0 + 0 * 2 + j = j by omega]
    exact cell_fresh w _ t j v (by simpa using hv)⟩
end Go.Proofs.Ytcllifcafgiopaa
