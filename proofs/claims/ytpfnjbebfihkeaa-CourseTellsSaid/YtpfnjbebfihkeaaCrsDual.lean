/- The document's way to reckon the longest way (forward) comes to the program's (backward). Plain. -/
import Derived.Test.YtpfnjbebfihkeaaCrsLaw
set_option linter.unusedVariables false
set_option linter.unusedSimpArgs false
namespace Go.Proofs.Ytpfnjbebfihkeaa

def upd (n : Nat) (x : Int) (b : List Int) (t : Nat) : List Int := if t < n ∧ b.getD t 0 < x then b.set t x else b
theorem upd_length (n : Nat) (x : Int) (b : List Int) (t : Nat) : (upd n x b t).length = b.length := by unfold upd; split <;> simp
theorem upds_length (n : Nat) (x : Int) : ∀ (ts : List Nat) (b : List Int), (ts.foldl (upd n x) b).length = b.length
  | [], _ => rfl
  | t :: ts, b => by rw [List.foldl_cons, upds_length n x ts, upd_length]
theorem upd_get {n : Nat} {x : Int} {b : List Int} (hb : b.length = n) (t i : Nat) : (upd n x b t).getD i 0 = if i = t ∧ i < n then max (b.getD i 0) x else b.getD i 0 := by
  unfold upd
  by_cases hc : t < n ∧ b.getD t 0 < x
  · rw [if_pos hc]
    by_cases hi : i = t
    · subst hi
      rw [List.getD_eq_getElem?_getD, List.getElem?_set, if_pos rfl, if_pos (by omega), if_pos ⟨rfl, hc.1⟩]
      have := hc.2
      simp only [Option.getD_some]
      omega
    · rw [if_neg (fun h => hi h.1), List.getD_eq_getElem?_getD, List.getElem?_set, if_neg (fun h => hi h.symm), ← List.getD_eq_getElem?_getD]
  · rw [if_neg hc]
    by_cases h : i = t ∧ i < n
    · rw [if_pos h]
      obtain ⟨rfl, h2⟩ := h
      have : ¬ b.getD i 0 < x := fun hh => hc ⟨h2, hh⟩
      omega
    · rw [if_neg h]
theorem upds_get {n : Nat} {x : Int} (i : Nat) : ∀ (ts : List Nat) (b : List Int), b.length = n → (ts.foldl (upd n x) b).getD i 0 = if i ∈ ts ∧ i < n then max (b.getD i 0) x else b.getD i 0
  | [], b, hb => by simp
  | t :: ts, b, hb => by
    rw [List.foldl_cons, upds_get i ts _ (by rw [upd_length]; exact hb), upd_get hb]
    by_cases h1 : i = t <;> by_cases h2 : i ∈ ts <;> by_cases h3 : i < n <;> simp [h1, h2, h3]
    all_goals (try (subst h1; simp_all; try omega))
/-- One place's round, forward. -/
def fstep (l : List InstD) (cs : List Int) (R : List Bool) (st : List Int × Int) (i : Nat) : List Int × Int :=
  if R.getD i false = true then ((nxt l[i]! i).foldl (upd l.length (st.1.getD i 0 + ownC l[i]! cs)) st.1, max st.2 (st.1.getD i 0 + ownC l[i]! cs)) else st
def fwd (l : List InstD) (cs : List Int) : Nat → List Int × Int
  | 0 => (List.replicate l.length 0, 0)
  | m + 1 => fstep l cs (reach l) (fwd l cs m) m
theorem fwd_length (l : List InstD) (cs : List Int) : ∀ m, (fwd l cs m).1.length = l.length
  | 0 => by simp [fwd]
  | m + 1 => by
    rw [fwd, fstep]
    split
    · rw [upds_length]; exact fwd_length l cs m
    · exact fwd_length l cs m
structure FInv (l : List InstD) (cs : List Int) (m : Nat) (b : List Int) (out : Int) : Prop where
  pos : ∀ t, 0 ≤ b.getD t 0
  pos2 : 0 ≤ out
  ge : ∀ k, k < m → k < l.length → (reach l).getD k false = true → ∀ t ∈ nxt l[k]! k, t < l.length → b.getD k 0 + ownC l[k]! cs ≤ b.getD t 0
  eq : ∀ t, b.getD t 0 = 0 ∨ ∃ k, k < m ∧ k < l.length ∧ (reach l).getD k false = true ∧ t ∈ nxt l[k]! k ∧ t < l.length ∧ b.getD t 0 = b.getD k 0 + ownC l[k]! cs
  oge : ∀ k, k < m → k < l.length → (reach l).getD k false = true → b.getD k 0 + ownC l[k]! cs ≤ out
  oeq : out = 0 ∨ ∃ k, k < m ∧ k < l.length ∧ (reach l).getD k false = true ∧ out = b.getD k 0 + ownC l[k]! cs
theorem fwd_inv (l : List InstD) (cs : List Int) : ∀ m, m ≤ l.length → FInv l cs m (fwd l cs m).1 (fwd l cs m).2
  | 0, _ => ⟨fun t => by simp [fwd, List.getD_eq_getElem?_getD, List.getElem?_replicate]; split <;> simp, by simp [fwd], fun k h => absurd h (Nat.not_lt_zero _), fun t => .inl (by simp [fwd, List.getD_eq_getElem?_getD, List.getElem?_replicate]; split <;> simp), fun k h => absurd h (Nat.not_lt_zero _), .inl (by simp [fwd])⟩
  | m + 1, hm => by
    have ih := fwd_inv l cs m (by omega)
    have hl := fwd_length l cs m
    rw [fwd, fstep]
    rcases hfw : fwd l cs m with ⟨b, out⟩
    rw [hfw] at ih hl
    simp only at ih hl ⊢
    clear hfw
    by_cases hr : (reach l).getD m false = true
    · rw [if_pos hr]
      simp only
      have hx1 := ownC_pos l[m]! cs
      have hbm := ih.pos m
      obtain ⟨x, hx⟩ : ∃ x, b.getD m 0 + ownC l[m]! cs = x := ⟨_, rfl⟩
      rw [hx]
      have hg : ∀ t, ((nxt l[m]! m).foldl (upd l.length x) b).getD t 0 = if t ∈ nxt l[m]! m ∧ t < l.length then max (b.getD t 0) x else b.getD t 0 := fun t => upds_get t _ b hl
      have hsame : ∀ k, k ≤ m → ((nxt l[m]! m).foldl (upd l.length x) b).getD k 0 = b.getD k 0 := fun k hk => by
        rw [hg, if_neg (fun h => by have := nxt_gt h.1; omega)]
      have hup : ∀ t, b.getD t 0 ≤ ((nxt l[m]! m).foldl (upd l.length x) b).getD t 0 := fun t => by
        rw [hg]; split <;> omega
      refine ⟨fun t => Int.le_trans (ih.pos t) (hup t), by have := ih.pos2; omega, ?_, ?_, ?_, ?_⟩
      · intro k hk hkl hkr t ht htl
        by_cases e : k = m
        · subst e
          rw [hsame k (Nat.le_refl _), hg, if_pos ⟨ht, htl⟩]
          omega
        · rw [hsame k (by omega)]
          exact Int.le_trans (ih.ge k (by omega) hkl hkr t ht htl) (hup t)
      · intro t
        rw [hg]
        by_cases ht : t ∈ nxt l[m]! m ∧ t < l.length
        · rw [if_pos ht]
          by_cases hc : b.getD t 0 ≤ x
          · exact .inr ⟨m, by omega, by omega, hr, ht.1, ht.2, by rw [hsame m (Nat.le_refl _), hx]; omega⟩
          · rcases ih.eq t with h0 | ⟨k, h1, h2, h3, h4, h5, h6⟩
            · omega
            · exact .inr ⟨k, by omega, h2, h3, h4, h5, by rw [hsame k (by omega)]; omega⟩
        · rw [if_neg ht]
          rcases ih.eq t with h0 | ⟨k, h1, h2, h3, h4, h5, h6⟩
          · exact .inl h0
          · exact .inr ⟨k, by omega, h2, h3, h4, h5, by rw [hsame k (by omega)]; exact h6⟩
      · intro k hk hkl hkr
        by_cases e : k = m
        · subst e
          rw [hsame k (Nat.le_refl _)]
          omega
        · rw [hsame k (by omega)]
          have := ih.oge k (by omega) hkl hkr
          omega
      · by_cases hc : out ≤ x
        · exact .inr ⟨m, by omega, by omega, hr, by rw [hsame m (Nat.le_refl _), hx]; omega⟩
        · rcases ih.oeq with h0 | ⟨k, h1, h2, h3, h4⟩
          · have := ih.pos2; omega
          · exact .inr ⟨k, by omega, h2, h3, by rw [hsame k (by omega)]; omega⟩
    · rw [if_neg hr]
      refine ⟨ih.pos, ih.pos2, ?_, ?_, ?_, ?_⟩
      · intro k hk hkl hkr
        by_cases e : k = m
        · subst e; exact absurd hkr hr
        · exact ih.ge k (by omega) hkl hkr
      · intro t
        rcases ih.eq t with h0 | ⟨k, h1, h2⟩
        · exact .inl h0
        · exact .inr ⟨k, by omega, h2⟩
      · intro k hk hkl hkr
        by_cases e : k = m
        · subst e; exact absurd hkr hr
        · exact ih.oge k (by omega) hkl hkr
      · rcases ih.oeq with h0 | ⟨k, h1, h2⟩
        · exact .inl h0
        · exact .inr ⟨k, by omega, h2⟩
theorem fold_max {n : Nat} {C : List Int} : ∀ (ts : List Nat) (b : Int), (ts.foldl (fun b t => if t < n then max b (C.getD t 0) else b) b = b ∨ ∃ t ∈ ts, t < n ∧ ts.foldl (fun b t => if t < n then max b (C.getD t 0) else b) b = C.getD t 0) ∧ b ≤ ts.foldl (fun b t => if t < n then max b (C.getD t 0) else b) b ∧ ∀ t ∈ ts, t < n → C.getD t 0 ≤ ts.foldl (fun b t => if t < n then max b (C.getD t 0) else b) b
  | [], b => ⟨.inl rfl, Int.le_refl _, fun t h => by cases h⟩
  | t :: ts, b => by
    rw [List.foldl_cons]
    by_cases ht : t < n
    · rw [if_pos ht]
      obtain ⟨h1, h2, h3⟩ := fold_max (n := n) (C := C) ts (max b (C.getD t 0))
      refine ⟨?_, by omega, ?_⟩
      · rcases h1 with h1 | ⟨u, hu, hun, h1⟩
        · by_cases hc : C.getD t 0 ≤ b
          · exact .inl (by omega)
          · exact .inr ⟨t, by simp, ht, by omega⟩
        · exact .inr ⟨u, by simp [hu], hun, h1⟩
      · intro u hu hun
        rcases List.mem_cons.1 hu with rfl | hu
        · omega
        · exact h3 u hu hun
    · rw [if_neg ht]
      obtain ⟨h1, h2, h3⟩ := fold_max (n := n) (C := C) ts b
      refine ⟨?_, h2, ?_⟩
      · rcases h1 with h1 | ⟨u, hu, hun, h1⟩
        · exact .inl h1
        · exact .inr ⟨u, by simp [hu], hun, h1⟩
      · intro u hu hun
        rcases List.mem_cons.1 hu with rfl | hu
        · exact absurd hun ht
        · exact h3 u hu hun
/-- What a place costs, by the places behind it. -/
theorem cost_facts {l : List InstD} (hl : l.length ≤ 64) (cs : List Int) {k : Nat} (hk : k < l.length) :
    ∃ B, cost l cs k = min (ownC l[k]! cs + B) 1000000 ∧ 0 ≤ B ∧ (B = 0 ∨ ∃ t ∈ nxt l[k]! k, t < l.length ∧ B = cost l cs t) ∧ ∀ t ∈ nxt l[k]! k, t < l.length → cost l cs t ≤ B := by
  obtain ⟨h1, h2, h3⟩ := fold_max (n := l.length) (C := costFrom l cs l.length) (nxt l[k]! k) 0
  exact ⟨_, cost_eq hl cs hk, h2, h1.imp id (fun ⟨t, ht, hn, e⟩ => ⟨t, ht, hn, e⟩), h3⟩
theorem dual {l : List InstD} (hl : l.length ≤ 64) (h0 : 0 < l.length) (cs : List Int) : min (fwd l cs l.length).2 1000000 = cost l cs 0 := by
  have I := fwd_inv l cs l.length (Nat.le_refl _)
  generalize (fwd l cs l.length).1 = b at *
  generalize (fwd l cs l.length).2 = out at *
  have hM : ∀ k, k < l.length → 1 ≤ cost l cs k ∧ cost l cs k ≤ 1000000 := fun k hk => by
    have := cost_bounds hl cs _ k rfl hk
    exact ⟨this.1, this.2.2⟩
  -- what lies ahead of a place, and what it costs, is no more than all
  have up : ∀ k, k < l.length → (reach l).getD k false = true → min (b.getD k 0 + cost l cs k) 1000000 ≤ cost l cs 0 ∧ cost l cs k ≤ cost l cs 0 := by
    intro k
    induction k using Nat.strongRecOn with
    | ind k ih =>
      intro hk hr
      have key : cost l cs k ≤ cost l cs 0 := by
        rcases (reach_get l hk).1 hr with rfl | ⟨j, hj, hjr, hjn⟩
        · exact Int.le_refl _
        · obtain ⟨B, e, b0, -, bt⟩ := cost_facts hl cs (show j < l.length by omega)
          have h1 := bt k hjn hk
          have h2 := (ih j hj (by omega) hjr).2
          have h3 := ownC_pos l[j]! cs
          have h4 := hM k hk
          omega
      refine ⟨?_, key⟩
      rcases I.eq k with h | ⟨j, -, hjl, hjr, hjn, -, h⟩
      · rw [h]; omega
      · have hjk := nxt_gt hjn
        obtain ⟨B, e, b0, -, bt⟩ := cost_facts hl cs hjl
        have h1 := bt k hjn hk
        have h2 := (ih j hjk hjl hjr).1
        have h5 := I.pos j
        omega
  have down : ∀ n k, l.length - k = n → k < l.length → (reach l).getD k false = true → min (b.getD k 0 + cost l cs k) 1000000 ≤ min out 1000000 := by
    intro n
    induction n using Nat.strongRecOn with
    | ind n ih =>
      intro k hn hk hr
      obtain ⟨B, e, b0, bc, -⟩ := cost_facts hl cs hk
      have h1 := I.oge k hk hk hr
      rcases bc with bc | ⟨t, ht, htl, bc⟩
      · omega
      · have htk := nxt_gt ht
        have h2 := I.ge k hk hk hr t ht htl
        have h3 := ih (l.length - t) (by omega) t rfl htl (reach_next hk htl hr ht)
        omega
  have hr0 := reach_zero h0
  have d0 := down _ 0 rfl h0 hr0
  have c0 := hM 0 h0
  have p0 := I.pos 0
  have p2 := I.pos2
  rcases I.oeq with h | ⟨k, -, hk, hkr, h⟩
  · omega
  · have u := (up k hk hkr).1
    have pk := I.pos k
    obtain ⟨B, e, b0, -, -⟩ := cost_facts hl cs hk
    omega
end Go.Proofs.Ytpfnjbebfihkeaa
