/- The document's Get: what it computes, and that it is what prog's does; plain. -/
import Derived.Test.YtcllifcafgiopaaPgRef2
import Derived.Test.YtcllifcafgiopaaPgRefSwap
set_option linter.unusedVariables false
set_option linter.unusedSimpArgs false
namespace Go.Proofs.Ytcllifcafgiopaa
open Go.RowKit

def gCode : Nat → List InstD → List Int → Option (List InstD × List Int)
  | 0, acc, l => some (acc, l)
  | k + 1, acc, l => if l.length < 8 then none else if (getR (l.take 8)).2 ≠ 0 then none else gCode k (acc ++ [(getR (l.take 8)).1]) (l.drop 8)
def gFns : Nat → List FnD → List Int → Option (List FnD × List Int)
  | 0, acc, l => some (acc, l)
  | r + 1, acc, l => if l.length < 2 then none else
    match gCode (l.getD 1 0).toNat [] (l.drop 2) with
    | none => none
    | some q => gFns r (acc ++ [⟨l.getD 0 0, q.1⟩]) q.2
def gGet (bs : List Int) : List FnD × Int :=
  if bs.length < 3 ∨ bs.getD 0 0 ≠ 88 ∨ bs.getD 1 0 ≠ 86 then ([], 7) else
  match gFns (bs.getD 2 0).toNat [] (bs.drop 3) with
  | none => ([], 7)
  | some q => if progMay q.1 = true ∧ q.2 = [] then (q.1, 0) else ([], 7)
theorem rdCode_bad : ∀ (k : Nat) (acc : List InstD) (l : List Int), (rdCode k acc l true).2.2 = true
  | 0, _, _ => rfl
  | _ + 1, _, _ => rfl
theorem rdFns_bad : ∀ (k : Nat) (acc : List FnD) (l : List Int), (rdFns k acc l true).2.2 = true
  | 0, _, _ => rfl
  | _ + 1, _, _ => rfl
theorem gCode_rd : ∀ (k : Nat) (acc : List InstD) (l : List Int), (∀ q, gCode k acc l = some q → rdCode k acc l false = (q.1, q.2, false)) ∧ (gCode k acc l = none → (rdCode k acc l false).2.2 = true)
  | 0, acc, l => ⟨fun q h => by simp only [gCode, Option.some.injEq] at h; subst h; rfl, fun h => by simp [gCode] at h⟩
  | k + 1, acc, l => by
    have e : rdCode (k + 1) acc l false = rdCode k (acc ++ [(rdI l false).1]) (rdI l false).2.1 (rdI l false).2.2 := rfl
    rw [e]
    unfold gCode
    by_cases h8 : l.length < 8
    · have hb : (rdI l false).2.2 = true := by
        unfold rdI rdB tkB
        simp [h8]
      rw [if_pos h8, hb]
      exact ⟨fun q h => (by cases h), fun _ => rdCode_bad _ _ _⟩
    · rw [if_neg h8]
      have h1 : tkL l false 8 = l.take 8 := by unfold tkL; rw [if_neg (by simp; omega)]
      have h2 : tkR l false 8 = l.drop 8 := by unfold tkR; rw [if_neg (by simp; omega)]
      have h3 : rdI l false = ((getR (l.take 8)).1, l.drop 8, decide ((getR (l.take 8)).2 ≠ 0)) := by
        unfold rdI rdB tkB
        rw [h1, h2, decide_eq_false h8]
        rfl
      rw [h3]
      by_cases h0 : (getR (l.take 8)).2 ≠ 0
      · rw [if_pos h0, decide_eq_true h0]
        exact ⟨fun q h => (by cases h), fun _ => rdCode_bad _ _ _⟩
      · rw [if_neg h0, decide_eq_false h0]
        exact gCode_rd k _ _
theorem rdF_short {l : List Int} (h : l.length < 2) : (rdF l false).2.2 = true := by
  have hb : tkB (tkR l false 1) (tkB l false 1) 1 = true := by
    unfold tkB tkR
    match l, h with
    | [], _ => rfl
    | [a], _ => rfl
  unfold rdF
  simp only
  rw [hb]
  exact rdCode_bad _ _ _
theorem rdF_cons (a n : Int) (t : List Int) : rdF (a :: n :: t) false = (⟨a, (rdCode n.toNat [] t false).1⟩, (rdCode n.toNat [] t false).2.1, (rdCode n.toNat [] t false).2.2) := by
  obtain ⟨h1, h2, h3⟩ := rd_cons a (n :: t)
  obtain ⟨k1, k2, k3⟩ := rd_cons n t
  unfold rdF
  simp only [h1, h2, h3, k1, k2, k3]
theorem gFns_rd : ∀ (r : Nat) (acc : List FnD) (l : List Int), (∀ q, gFns r acc l = some q → rdFns r acc l false = (q.1, q.2, false)) ∧ (gFns r acc l = none → (rdFns r acc l false).2.2 = true)
  | 0, acc, l => ⟨fun q h => by simp only [gFns, Option.some.injEq] at h; subst h; rfl, fun h => by simp [gFns] at h⟩
  | r + 1, acc, l => by
    have e : rdFns (r + 1) acc l false = rdFns r (acc ++ [(rdF l false).1]) (rdF l false).2.1 (rdF l false).2.2 := rfl
    rw [e]
    unfold gFns
    by_cases h2 : l.length < 2
    · rw [if_pos h2, rdF_short h2]
      exact ⟨fun q h => (by cases h), fun _ => rdFns_bad _ _ _⟩
    · rw [if_neg h2]
      match l, h2 with
      | [], h2 => simp at h2
      | [a], h2 => simp at h2
      | a :: n :: t, _ =>
        have hd : (a :: n :: t).drop 2 = t := rfl
        have h0 : (a :: n :: t).getD 0 0 = a := rfl
        have h1 : (a :: n :: t).getD 1 0 = n := rfl
        rw [hd, h0, h1, rdF_cons]
        obtain ⟨k1, k2⟩ := gCode_rd n.toNat [] t
        cases hc : gCode n.toNat [] t with
        | none =>
          simp only
          rw [k2 hc]
          exact ⟨fun q h => (by cases h), fun _ => rdFns_bad _ _ _⟩
        | some q =>
          simp only
          rw [k1 q hc]
          exact gFns_rd r _ _
theorem gGet_eq (bs : List Int) : gGet bs = getP bs := by
  unfold gGet getP
  match bs with
  | [] =>
    rw [if_pos (.inl (by simp)), if_neg (by rintro ⟨h, _⟩; simp [rdX, tkL] at h)]
  | [a] =>
    rw [if_pos (.inl (by simp))]
    obtain ⟨h1, h2, h3⟩ := rd_cons a []
    rw [h1, h2, h3, if_neg (by rintro ⟨_, h⟩; simp [rdX, tkL] at h)]
  | [a, b] =>
    rw [if_pos (.inl (by simp))]
    obtain ⟨h1, h2, h3⟩ := rd_cons a [b]
    obtain ⟨k1, k2, k3⟩ := rd_cons b []
    rw [h1, h2, h3, k1, k2, k3]
    have hb : (getP2 [] false).2.2 = true := by
      unfold getP2
      have : tkB [] false 1 = true := rfl
      rw [this]
      exact rdFns_bad _ _ _
    split
    · simp only
      rw [if_neg (by rw [hb]; simp)]
    · rfl
  | a :: b :: c :: t =>
    have h0 : (a :: b :: c :: t).getD 0 0 = a := rfl
    have h1 : (a :: b :: c :: t).getD 1 0 = b := rfl
    have h2 : (a :: b :: c :: t).getD 2 0 = c := rfl
    have hd : (a :: b :: c :: t).drop 3 = t := rfl
    rw [h0, h1, h2, hd]
    obtain ⟨q1, q2, q3⟩ := rd_cons a (b :: c :: t)
    obtain ⟨k1, k2, k3⟩ := rd_cons b (c :: t)
    obtain ⟨m1, m2, m3⟩ := rd_cons c t
    rw [q1, q2, q3, k1, k2, k3]
    by_cases hh : a = 88 ∧ b = 86
    · rw [if_pos hh, if_neg (by
        rintro (h | h | h)
        · exact absurd h (by simp only [List.length_cons]; omega)
        · exact h hh.1
        · exact h hh.2)]
      have hg : getP2 (c :: t) false = rdFns c.toNat [] t false := by
        unfold getP2
        rw [m1, m2, m3]
      simp only [hg]
      obtain ⟨z1, z2⟩ := gFns_rd c.toNat [] t
      cases hc : gFns c.toNat [] t with
      | none =>
        simp only
        rw [if_neg (by rw [z2 hc]; simp)]
      | some q =>
        simp only
        rw [z1 q hc]
        simp only [true_and]
        by_cases hf : progMay q.1 = true ∧ q.2 = []
        · rw [if_pos hf, if_pos ⟨hf.2, hf.1⟩]
        · rw [if_neg hf, if_neg (fun h => hf ⟨h.2, h.1⟩)]
    · rw [if_neg hh, if_pos (by
        by_cases ha : a = 88
        · exact .inr (.inr (fun hb => hh ⟨ha, hb⟩))
        · exact .inr (.inl ha))]
theorem getD_drop (l : List Int) (p i : Nat) : (l.drop p).getD i 0 = l.getD (p + i) 0 := by
  rw [List.getD_eq_getElem?_getD, List.getD_eq_getElem?_getD, List.getElem?_drop]
end Go.Proofs.Ytcllifcafgiopaa
