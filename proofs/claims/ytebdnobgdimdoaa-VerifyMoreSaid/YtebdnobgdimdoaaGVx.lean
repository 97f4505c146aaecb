/- All steps of the verifier by their contracts; verify.Shapes and verify.Verify without any condition on the steps. What going through a function leaves, as plain facts: what is known at a place is kept, and reached (chapter 11). Nothing of the program. What a program that is accepted is, as plain facts (chapter 11). Nothing of the program. Slices of elements of any kind: their cells in one row, appended to nothing, one more behind. Over whatever program. -/
import Derived.Test.YtebdnobgdimdoaaGVs
import Derived.Test.YtebdnobgdimdoaaGVj
import Derived.Test.YtebdnobgdimdoaaVf0
import Derived.Test.YtebdnobgdimdoaaCrsLaw
import Derived.Test.YtebdnobgdimdoaaRead
import Derived.Test.YtebdnobgdimdoaaKit
set_option linter.unusedVariables false
set_option linter.unusedSimpArgs false
namespace Go.Proofs.Ytebdnobgdimdoaa
open Go.RowKit

theorem step_jump : StepOk 1 := fun p ls v N w0 W k ins h _ _ _ _ _ _ _ _ _ hk s hsk fn dst src reg off imm him hm r hr => jump_any p ls v N W k ins h hk s hsk 1 fn dst src reg off imm him hm rfl r hr
theorem step_help : StepOk 5 := fun p ls v N w0 W k ins h h1 h2 h3 h4 h5 h6 h7 h8 h9 hk s hsk fn dst src reg off imm him hm r hr => help_any p ls v N w0 W k ins h h1 h2 h3 h4 h5 h6 h7 h8 h9 hk s hsk 5 fn dst src reg off imm him hm rfl r hr
theorem step_call : StepOk 6 := fun p ls v N w0 W k ins h h1 h2 h3 h4 h5 h6 h7 h8 h9 hk s hsk fn dst src reg off imm him hm r hr => call_any p ls v N w0 W k ins h h1 h2 h3 h4 h5 h6 h7 h8 h9 hk s hsk 6 fn dst src reg off imm him hm rfl r hr
theorem step_all {op : Int} (h0 : 0 ≤ op) (h8 : op < 8) : StepOk op := by
  rcases (show op = 0 ∨ op = 1 ∨ op = 2 ∨ op = 3 ∨ op = 4 ∨ op = 5 ∨ op = 6 ∨ op = 7 by omega) with rfl | rfl | rfl | rfl | rfl | rfl | rfl | rfl
  · exact step_alu
  · exact step_jump
  · exact step_ctx
  · exact step_load
  · exact step_store
  · exact step_help
  · exact step_call
  · exact step_exit
theorem prog_ok {p : List FnD} (h : progMay p = true) (j : Nat) (hj : j < p.length) : crsMay ((p.map FnD.code).getD j []) = true := by
  rw [List.getD_eq_getElem?_getD, List.getElem?_map, List.getElem?_eq_getElem hj]
  exact (fn_fine h hj).1
theorem steps_all (p : List FnD) (ls : List SchD) (fn : Nat) : StepsFor p ls fn := fun hp k ins s h1 h2 h3 => by
  rw [show ((fn : Int)).toNat = fn by omega] at h2 ⊢
  by_cases hj : fn < p.length
  · obtain ⟨-, -, hok⟩ := crsMay_facts (prog_ok hp fn hj)
    have := hok k h2
    have := of_decide_eq_true (p := mayP _ _ _ _ _ _ _) this
    unfold mayP at this
    exact step_all this.1.1 this.1.2
  · rw [List.getD_eq_getElem?_getD, List.getElem?_map, List.getElem?_eq_none (by omega)] at h2
    simp at h2
/-- verify.Verify. -/
theorem verify_all (A : Option Addr) (c n : Nat) (p : List FnD) (Q : Option Addr) (nl cQ : Nat) (ls : List SchD) (w : World) (hp : Sl FnR 2 w A c p) (hn : p.length = n) (hls : Sl SchR 4 w Q cQ ls) (hnl : ls.length = nl) (m er : Int) (hr : Hid (verifyV p ls = (m, er))) :
    Calls Try.prog 9 #[.agg #[.slice A n c], .slice Q nl cQ] w fun e w' => e = .returned (.tuple #[.int .i64 m, .int .i64 er]) ∧ Bel w w' :=
  verify_any A c n p Q nl cQ ls w (Lib.hid hp) (Lib.hid hn) (Lib.hid hls) (Lib.hid hnl) m er hr (Lib.hid fun fn _ _ => steps_all p ls fn)
end Go.Proofs.Ytebdnobgdimdoaa
set_option linter.unusedVariables false
set_option linter.unusedSimpArgs false
namespace Go.Proofs.Ytebdnobgdimdoaa
open Go.RowKit

/-- The first one knows at least as much as the second. -/
def shLe (s u : ShD) : Prop := ∀ k b, u k = some b → ∃ a, s k = some a ∧ b.1 ≤ a.1 ∧ a.2 ≤ b.2
theorem shLe_refl (s : ShD) : shLe s s := fun k b h => ⟨b, h, Nat.le_refl _, Nat.le_refl _⟩
theorem shLe_trans {s t u : ShD} (h : shLe s t) (k : shLe t u) : shLe s u := fun i b hb => by
  obtain ⟨a, ha, h1, h2⟩ := k i b hb
  obtain ⟨c, hc, h3, h4⟩ := h i a ha
  exact ⟨c, hc, by omega, by omega⟩
theorem shLe_joinL (s t : ShD) : shLe s (shJoin s t) := fun i b hb => by
  unfold shJoin at hb
  cases hs : s i with
  | none => simp [hs] at hb
  | some a =>
    cases ht : t i with
    | none => simp [hs, ht] at hb
    | some c =>
      simp only [hs, ht, Option.some.injEq] at hb
      subst hb
      exact ⟨a, rfl, by unfold joinB nmin; simp only; omega, by unfold joinB nmax; simp only; omega⟩
theorem shLe_joinR (s t : ShD) : shLe t (shJoin s t) := fun i b hb => by
  unfold shJoin at hb
  cases hs : s i with
  | none => simp [hs] at hb
  | some a =>
    cases ht : t i with
    | none => simp [hs, ht] at hb
    | some c =>
      simp only [hs, ht, Option.some.injEq] at hb
      subst hb
      exact ⟨c, rfl, by unfold joinB nmin; simp only; omega, by unfold joinB nmax; simp only; omega⟩
/-- What was known at places is still known, if less may be; only at some places something is new. -/
structure Ext (T : List Nat) (ins ins' : InsD) : Prop where
  len : ins'.length = ins.length
  off : ∀ j, j ∉ T → ins'.getD j none = ins.getD j none
  grow : ∀ j t, ins.getD j none = some t → ∃ u, ins'.getD j none = some u ∧ shLe t u
theorem Ext.refl (T : List Nat) (ins : InsD) : Ext T ins ins := ⟨rfl, fun _ _ => rfl, fun j t h => ⟨t, h, shLe_refl t⟩⟩
theorem Ext.trans {T : List Nat} {a b c : InsD} (h : Ext T a b) (k : Ext T b c) : Ext T a c :=
  ⟨k.len.trans h.len, fun j hj => (k.off j hj).trans (h.off j hj), fun j t ht => by
    obtain ⟨u, hu, h1⟩ := h.grow j t ht
    obtain ⟨v, hv, h2⟩ := k.grow j u hu
    exact ⟨v, hv, shLe_trans h1 h2⟩⟩
theorem Ext.mono {T U : List Nat} {a b : InsD} (h : Ext T a b) (hT : ∀ j ∈ T, j ∈ U) : Ext U a b := ⟨h.len, fun j hj => h.off j (fun h' => hj (hT j h')), h.grow⟩
theorem vTo_ext {ins ins' : InsD} {k : Nat} {s : ShD} (e : vTo ins k s = some ins') : k < ins.length ∧ Ext [k] ins ins' ∧ ∃ u, ins'.getD k none = some u ∧ shLe s u := by
  unfold vTo at e
  split at e
  · rename_i hk
    simp only [Option.some.injEq] at e
    obtain ⟨x, hx⟩ : ∃ x, ins[k] = x := ⟨_, rfl⟩
    rw [hx] at e
    have hg : ins.getD k none = x := by rw [List.getD_eq_getElem?_getD, List.getElem?_eq_getElem hk, hx]; rfl
    refine ⟨hk, ⟨by rw [← e, List.length_set], fun j hj => ?_, fun j t ht => ?_⟩, ?_⟩
    · rw [← e, List.getD_eq_getElem?_getD, List.getD_eq_getElem?_getD, List.getElem?_set_ne (fun h => hj (by simp [h]))]
    · by_cases hj : j = k
      · subst hj
        rw [hg] at ht
        subst ht
        exact ⟨shJoin t s, by rw [← e, List.getD_eq_getElem?_getD, List.getElem?_set_self hk]; rfl, shLe_joinL t s⟩
      · exact ⟨t, by rw [← e, List.getD_eq_getElem?_getD, List.getElem?_set_ne (Ne.symm hj), ← List.getD_eq_getElem?_getD]; exact ht, shLe_refl t⟩
    · rw [← e, List.getD_eq_getElem?_getD, List.getElem?_set_self hk]
      cases x with
      | none => exact ⟨s, rfl, shLe_refl s⟩
      | some t => exact ⟨shJoin t s, rfl, shLe_joinR t s⟩
  · cases e
/-- What is known is known there, too. -/
def At (ins : InsD) (t : Nat) (s : ShD) : Prop := ∃ u, ins.getD t none = some u ∧ shLe s u
theorem At.ext {T : List Nat} {a b : InsD} {t : Nat} {s : ShD} (h : At a t s) (k : Ext T a b) : At b t s := by
  obtain ⟨u, hu, h1⟩ := h
  obtain ⟨v, hv, h2⟩ := k.grow t u hu
  exact ⟨v, hv, shLe_trans h1 h2⟩
theorem vWay_ext {ins ins' : InsD} {k : Nat} {s : ShD} {d : Int} {c : Nat × Nat × Bool} (e : vWay ins k s d c = some ins') : Ext [k] ins ins' ∧ (c.2.2 = true → k < ins.length ∧ At ins' k (shPut s d (c.1, c.2.1))) := by
  unfold vWay at e
  split at e
  · have := vTo_ext e
    exact ⟨this.2.1, fun _ => ⟨this.1, this.2.2⟩⟩
  · rename_i h
    simp only [Option.some.injEq] at e
    subst e
    exact ⟨Ext.refl _ _, fun h' => absurd h' h⟩
/-- What is asked of an instruction, and what is known behind it. -/
def Flow (p : List FnD) (fn : Nat) (ls : List SchD) (k : Nat) (i : InstD) (s : ShD) (n : Nat) (F : InsD) : Prop :=
  if i.op = 0 then ∃ b own, shWord s i = some b ∧ (if i.fn = 0 then own = bdAll else shGet s i.dst = some own) ∧ k + 1 < n ∧ At F (k + 1) (shPut s i.dst (aluS i.fn.toNat own.1 own.2 b.1 b.2))
  else if i.op = 1 then
    if i.fn = 0 then k + i.off.toNat + 1 < n ∧ At F (k + i.off.toNat + 1) s
    else ∃ own b, shGet s i.dst = some own ∧ shWord s i = some b ∧ (∀ p q, cutS i.fn own.1 own.2 b.1 b.2 = (p, q, true) → k + i.off.toNat + 1 < n ∧ At F (k + i.off.toNat + 1) (shPut s i.dst (p, q))) ∧ (∀ p q, cutS (vElse i.fn) own.1 own.2 b.1 b.2 = (p, q, true) → k + 1 < n ∧ At F (k + 1) (shPut s i.dst (p, q)))
  else if i.op = 2 then ∃ b, shWord s i = some b ∧ b.2 < 4 ∧ k + 1 < n ∧ At F (k + 1) (shPut s i.dst bdAll)
  else if i.op = 3 then ∃ b, shWord s i = some b ∧ b.2 < 16 ∧ k + 1 < n ∧ At F (k + 1) (shPut s i.dst bdAll)
  else if i.op = 4 then ∃ b own, shGet s i.dst = some own ∧ shWord s i = some b ∧ b.2 < 16 ∧ k + 1 < n ∧ At F (k + 1) s
  else if i.op = 5 then 0 ≤ hArgs i.imm ∧ vHanded s (hArgs i.imm).toNat = true ∧ vHelp s i.imm ls = true ∧ k + 1 < n ∧ At F (k + 1) (shBack s)
  else if i.op = 6 then i.imm < p.length ∧ (fn : Int) < i.imm ∧ vHanded s (((p.map FnD.args).getD i.imm.toNat 0).toNat) = true ∧ k + 1 < n ∧ At F (k + 1) (shBack s)
  else ∃ b, shGet s 0 = some b
theorem vStep_flow {p : List FnD} {fn : Nat} {ls : List SchD} {k : Nat} {i : InstD} {s : ShD} {ins ins' : InsD} (hi : 0 ≤ i.op ∧ i.op < 8) (hoff : 0 ≤ i.off) (e : vStep p fn ls k i s ins = some ins') : Ext (nxt i k) ins ins' ∧ Flow p fn ls k i s ins.length ins' := by
  unfold vStep at e
  unfold Flow
  have hn1 : ∀ j ∈ [k + 1], i.op ≠ 7 → ¬ (i.op = 1 ∧ i.fn = 0) → j ∈ nxt i k := fun j hj h1 h2 => by
    simp only [List.mem_singleton] at hj
    subst hj
    unfold nxt
    rw [if_neg h1, if_neg h2]
    split <;> simp
  by_cases h0 : i.op = 0
  · rw [if_pos h0] at e ⊢
    obtain ⟨b, hb, e⟩ := Option.bind_eq_some_iff.1 e
    obtain ⟨own, ho, e⟩ := Option.bind_eq_some_iff.1 e
    have := vTo_ext e
    refine ⟨this.2.1.mono fun j hj => hn1 j hj (by omega) (by omega), b, own, hb, ?_, this.1, this.2.2⟩
    split at ho
    · rename_i h; rw [if_pos h]; simp only [Option.some.injEq] at ho; exact ho.symm
    · rename_i h; rw [if_neg h]; exact ho
  rw [if_neg h0] at e ⊢
  by_cases h1 : i.op = 1
  · rw [if_pos h1] at e ⊢
    by_cases hf : i.fn = 0
    · rw [if_pos hf] at e ⊢
      have := vTo_ext e
      refine ⟨this.2.1.mono fun j hj => ?_, this.1, this.2.2⟩
      simp only [List.mem_singleton] at hj
      subst hj
      unfold nxt
      rw [if_neg (by omega), if_pos ⟨h1, hf⟩]
      simp
    · rw [if_neg hf] at e ⊢
      obtain ⟨own, ho, e⟩ := Option.bind_eq_some_iff.1 e
      obtain ⟨b, hb, e⟩ := Option.bind_eq_some_iff.1 e
      obtain ⟨ins1, e1, e2⟩ := Option.bind_eq_some_iff.1 e
      have w1 := vWay_ext e1
      have w2 := vWay_ext e2
      have hx : Ext (nxt i k) ins ins1 := w1.1.mono fun j hj => by
        simp only [List.mem_singleton] at hj
        subst hj
        unfold nxt
        rw [if_neg (by omega), if_neg (fun h => hf h.2)]
        split
        · simp
        · rename_i h
          have : i.off = 0 := by omega
          simp [this]
      have hy : Ext (nxt i k) ins1 ins' := w2.1.mono fun j hj => hn1 j hj (by omega) (fun h => hf h.2)
      refine ⟨hx.trans hy, own, b, ho, hb, fun p q hc => ?_, fun p q hc => ?_⟩
      · rw [hc] at w1
        have := w1.2 rfl
        exact ⟨this.1, this.2.ext hy⟩
      · rw [hc] at w2
        have := w2.2 rfl
        exact ⟨by have := this.1; rw [hx.len] at this; exact this, this.2⟩
  rw [if_neg h1] at e ⊢
  have hn2 : ∀ j ∈ [k + 1], i.op ≠ 7 → j ∈ nxt i k := fun j hj h => hn1 j hj h (fun h' => h1 h'.1)
  by_cases h2 : i.op = 2
  · rw [if_pos h2] at e ⊢
    obtain ⟨b, hb, e⟩ := Option.bind_eq_some_iff.1 e
    split at e
    · rename_i hl
      have := vTo_ext e
      exact ⟨this.2.1.mono fun j hj => hn2 j hj (by omega), b, hb, hl, this.1, this.2.2⟩
    · cases e
  rw [if_neg h2] at e ⊢
  by_cases h3 : i.op = 3
  · rw [if_pos h3] at e ⊢
    obtain ⟨b, hb, e⟩ := Option.bind_eq_some_iff.1 e
    split at e
    · rename_i hl
      have := vTo_ext e
      exact ⟨this.2.1.mono fun j hj => hn2 j hj (by omega), b, hb, hl, this.1, this.2.2⟩
    · cases e
  rw [if_neg h3] at e ⊢
  by_cases h4 : i.op = 4
  · rw [if_pos h4] at e ⊢
    obtain ⟨own, ho, e⟩ := Option.bind_eq_some_iff.1 e
    obtain ⟨b, hb, e⟩ := Option.bind_eq_some_iff.1 e
    split at e
    · rename_i hl
      have := vTo_ext e
      exact ⟨this.2.1.mono fun j hj => hn2 j hj (by omega), b, own, ho, hb, hl, this.1, this.2.2⟩
    · cases e
  rw [if_neg h4] at e ⊢
  by_cases h5 : i.op = 5
  · rw [if_pos h5] at e ⊢
    split at e
    · rename_i hl
      have := vTo_ext e
      exact ⟨this.2.1.mono fun j hj => hn2 j hj (by omega), hl.1, hl.2.1, hl.2.2, this.1, this.2.2⟩
    · cases e
  rw [if_neg h5] at e ⊢
  by_cases h6 : i.op = 6
  · rw [if_pos h6] at e ⊢
    split at e
    · rename_i hl
      have := vTo_ext e
      exact ⟨this.2.1.mono fun j hj => hn2 j hj (by omega), hl.1, hl.2.1, hl.2.2, this.1, this.2.2⟩
    · cases e
  rw [if_neg h6] at e ⊢
  obtain ⟨b, hb, e⟩ := Option.bind_eq_some_iff.1 e
  simp only [Option.some.injEq] at e
  subst e
  exact ⟨Ext.refl _ _, b, hb⟩
theorem Flow.ext {p : List FnD} {fn : Nat} {ls : List SchD} {k n : Nat} {i : InstD} {s : ShD} {a b : InsD} {T : List Nat} (h : Flow p fn ls k i s n a) (x : Ext T a b) : Flow p fn ls k i s n b := by
  unfold Flow at *
  split at h
  · rename_i h0
    rw [if_pos h0]
    obtain ⟨c, own, h1, h2, h3, h4⟩ := h
    exact ⟨c, own, h1, h2, h3, h4.ext x⟩
  rename_i h0
  rw [if_neg h0]
  split at h
  · rename_i h1
    rw [if_pos h1]
    split at h
    · rename_i h2
      rw [if_pos h2]
      exact ⟨h.1, h.2.ext x⟩
    · rename_i h2
      rw [if_neg h2]
      obtain ⟨own, c, k1, k2, k3, k4⟩ := h
      exact ⟨own, c, k1, k2, fun p q hc => ⟨(k3 p q hc).1, (k3 p q hc).2.ext x⟩, fun p q hc => ⟨(k4 p q hc).1, (k4 p q hc).2.ext x⟩⟩
  rename_i h1
  rw [if_neg h1]
  split at h
  · rename_i h2
    rw [if_pos h2]
    obtain ⟨c, k1, k2, k3, k4⟩ := h
    exact ⟨c, k1, k2, k3, k4.ext x⟩
  rename_i h2
  rw [if_neg h2]
  split at h
  · rename_i h3
    rw [if_pos h3]
    obtain ⟨c, k1, k2, k3, k4⟩ := h
    exact ⟨c, k1, k2, k3, k4.ext x⟩
  rename_i h3
  rw [if_neg h3]
  split at h
  · rename_i h4
    rw [if_pos h4]
    obtain ⟨c, own, k1, k2, k3, k4, k5⟩ := h
    exact ⟨c, own, k1, k2, k3, k4, k5.ext x⟩
  rename_i h4
  rw [if_neg h4]
  split at h
  · rename_i h5
    rw [if_pos h5]
    obtain ⟨k1, k2, k3, k4, k5⟩ := h
    exact ⟨k1, k2, k3, k4, k5.ext x⟩
  rename_i h5
  rw [if_neg h5]
  split at h
  · rename_i h6
    rw [if_pos h6]
    obtain ⟨k1, k2, k3, k4, k5⟩ := h
    exact ⟨k1, k2, k3, k4, k5.ext x⟩
  rename_i h6
  rw [if_neg h6]
  exact h
theorem nxt_gt' {i : InstD} {k j : Nat} (h : j ≤ k) : j ∉ nxt i k := fun h' => by have := nxt_gt h'; omega
theorem okB_op {i : InstD} (h : i.okB = true) : (0 ≤ i.op ∧ i.op < 8) ∧ 0 ≤ i.off := by
  have := of_decide_eq_true (p := mayP i.op i.fn i.dst i.src i.reg i.off i.imm) h
  unfold mayP at this
  refine ⟨by omega, ?_⟩
  obtain ⟨-, -, -, -, ⟨h1, -⟩, -⟩ := this
  exact h1
section
variable {p : List FnD} {fn : Nat} {ls : List SchD} {l : List InstD} {args : Nat}
theorem vUpto_len (hl : 0 < l.length) (ok : ∀ k, k < l.length → (l[k]!).okB = true) : ∀ (k : Nat) (ins : InsD), k ≤ l.length → vUpto p fn ls l args k = some ins → ins.length = l.length
  | 0, ins, _, h => by
    simp only [vUpto, Option.some.injEq] at h
    subst h
    simp
  | k + 1, ins, hk, h => by
    rw [vUpto, Option.bind_eq_some_iff] at h
    obtain ⟨a, h1, h2⟩ := h
    have ih := vUpto_len hl ok k a (by omega) h1
    split at h2
    · have := okB_op (ok k (by omega))
      rw [(vStep_flow this.1 this.2 h2).1.len, ih]
    · simp only [Option.some.injEq] at h2
      subst h2; exact ih
/-- From one place on to a later one: nothing that was known is lost, nothing ahead is touched. -/
theorem vUpto_ext (ok : ∀ k, k < l.length → (l[k]!).okB = true) {k : Nat} {a : InsD} (ha : vUpto p fn ls l args k = some a) : ∀ (m : Nat) (b : InsD), k ≤ m → m ≤ l.length → vUpto p fn ls l args m = some b → b.length = a.length ∧ (∀ j, j ≤ k → b.getD j none = a.getD j none) ∧ (∀ j t, a.getD j none = some t → ∃ u, b.getD j none = some u ∧ shLe t u)
  | 0, b, hkm, _, h => by
    obtain rfl : k = 0 := by omega
    rw [ha] at h
    simp only [Option.some.injEq] at h
    subst h
    exact ⟨rfl, fun _ _ => rfl, fun j t ht => ⟨t, ht, shLe_refl t⟩⟩
  | m + 1, b, hkm, hml, h => by
    by_cases he : k = m + 1
    · subst he
      rw [ha] at h
      simp only [Option.some.injEq] at h
      subst h
      exact ⟨rfl, fun _ _ => rfl, fun j t ht => ⟨t, ht, shLe_refl t⟩⟩
    · rw [vUpto, Option.bind_eq_some_iff] at h
      obtain ⟨c, h1, h2⟩ := h
      obtain ⟨i1, i2, i3⟩ := vUpto_ext ok ha m c (by omega) (by omega) h1
      split at h2
      · have hok := okB_op (ok m (by omega))
        have x := (vStep_flow hok.1 hok.2 h2).1
        refine ⟨x.len.trans i1, fun j hj => (x.off j (nxt_gt' (by omega))).trans (i2 j hj), fun j t ht => ?_⟩
        obtain ⟨u, hu, l1⟩ := i3 j t ht
        obtain ⟨v, hv, l2⟩ := x.grow j u hu
        exact ⟨v, hv, shLe_trans l1 l2⟩
      · simp only [Option.some.injEq] at h2
        subst h2
        exact ⟨i1, i2, i3⟩
theorem vUpto_before {m : Nat} {b : InsD} (h : vUpto p fn ls l args m = some b) : ∀ k, k ≤ m → ∃ a, vUpto p fn ls l args k = some a := by
  induction m generalizing b with
  | zero => intro k hk; obtain rfl : k = 0 := by omega
            exact ⟨b, h⟩
  | succ m ih =>
    intro k hk
    by_cases he : k = m + 1
    · subst he; exact ⟨b, h⟩
    · rw [vUpto, Option.bind_eq_some_iff] at h
      obtain ⟨c, h1, -⟩ := h
      exact ih h1 k (by omega)
/-- Of a function that was gone through: what is known at a place fits what is done there, and what is known behind it. -/
theorem flow_all (ok : ∀ k, k < l.length → (l[k]!).okB = true) (hl : 0 < l.length) {F : InsD} (h : vUpto p fn ls l args l.length = some F) : F.length = l.length ∧ At F 0 (shNew args) ∧ ∀ k s, k < l.length → F.getD k none = some s → Flow p fn ls k l[k]! s l.length F := by
  have hlen := vUpto_len hl ok _ _ (Nat.le_refl _) h
  refine ⟨hlen, ?_, fun k s hk hs => ?_⟩
  · have h0 : vUpto p fn ls l args 0 = some ((List.replicate l.length none).set 0 (some (shNew args))) := rfl
    obtain ⟨-, i2, -⟩ := vUpto_ext ok h0 _ _ (Nat.zero_le _) (Nat.le_refl _) h
    refine ⟨shNew args, ?_, shLe_refl _⟩
    rw [i2 0 (Nat.le_refl _), List.getD_eq_getElem?_getD, List.getElem?_set_self (by simpa using hl)]
    rfl
  · obtain ⟨a, ha⟩ := vUpto_before h k (by omega)
    obtain ⟨b, hb⟩ := vUpto_before h (k + 1) (by omega)
    obtain ⟨-, i2, -⟩ := vUpto_ext ok ha _ _ (by omega) (Nat.le_refl _) h
    obtain ⟨j1, j2, j3⟩ := vUpto_ext ok hb _ _ (by omega) (Nat.le_refl _) h
    have hka : a.getD k none = some s := by rw [← i2 k (Nat.le_refl _)]; exact hs
    have hb' := hb
    rw [vUpto, Option.bind_eq_some_iff] at hb'
    obtain ⟨c, h1, h2⟩ := hb'
    rw [ha] at h1
    simp only [Option.some.injEq] at h1
    subst h1
    rw [hka] at h2
    have hok := okB_op (ok k hk)
    have hf := (vStep_flow hok.1 hok.2 h2).2
    rw [vUpto_len hl ok _ _ (by omega) ha] at hf
    exact hf.ext (T := List.range F.length) ⟨j1, fun j hj => by
      have hjF : F.length ≤ j := by simpa using hj
      rw [List.getD_eq_getElem?_getD, List.getD_eq_getElem?_getD, List.getElem?_eq_none hjF, List.getElem?_eq_none (by rw [← j1]; exact hjF)], j3⟩
/-- What is known anywhere is reached. -/
theorem known_reach (ok : ∀ k, k < l.length → (l[k]!).okB = true) (hl : 0 < l.length) : ∀ (m : Nat) (a : InsD), m ≤ l.length → vUpto p fn ls l args m = some a → ∀ k, k < l.length → (a.getD k none).isSome = true → (reach l).getD k false = true
  | 0, a, _, h, k, hk, hs => by
    simp only [vUpto, Option.some.injEq] at h
    subst h
    by_cases h0 : k = 0
    · subst h0; exact reach_zero hl
    · rw [List.getD_eq_getElem?_getD, List.getElem?_set_ne (Ne.symm h0)] at hs
      simp [List.getElem?_replicate, hk] at hs
  | m + 1, a, hm, h, k, hk, hs => by
    rw [vUpto, Option.bind_eq_some_iff] at h
    obtain ⟨c, h1, h2⟩ := h
    have ih := known_reach ok hl m c (by omega) h1
    split at h2
    · rename_i s hms
      have hok := okB_op (ok m (by omega))
      have x := (vStep_flow hok.1 hok.2 h2).1
      by_cases hn : k ∈ nxt l[m]! m
      · exact reach_next (by omega) hk (ih m (by omega) (by rw [hms]; rfl)) hn
      · rw [x.off k hn] at hs
        exact ih k hk hs
    · simp only [Option.some.injEq] at h2
      subst h2
      exact ih k hk hs
end
end Go.Proofs.Ytebdnobgdimdoaa
set_option linter.unusedVariables false
set_option linter.unusedSimpArgs false
namespace Go.Proofs.Ytebdnobgdimdoaa
open Go.RowKit

def codeOf (p : List FnD) (i : Nat) : List InstD := (p.map FnD.code).getD i []
theorem codeOf_get {p : List FnD} {i : Nat} (h : i < p.length) : codeOf p i = (p[i]).code := by
  unfold codeOf
  rw [List.getD_eq_getElem?_getD, List.getElem?_map, List.getElem?_eq_getElem h]
  rfl
def argsOf (p : List FnD) (i : Nat) : Int := (p.map FnD.args).getD i 0
theorem argsOf_get {p : List FnD} {i : Nat} (h : i < p.length) : argsOf p i = (p[i]).args := by
  unfold argsOf
  rw [List.getD_eq_getElem?_getD, List.getElem?_map, List.getElem?_eq_getElem h]
  rfl
theorem verErr_zero {p : List FnD} {ls : List SchD} : ∀ {m : Nat}, verErr p ls m = 0 → ∀ fn : Nat, fn < m → (vShapes p fn ls).2 = 0 ∧ insideB p fn = true
  | m + 1, h, fn, hfn => by
    rw [verErr] at h
    split at h
    · rename_i h1; exact absurd h h1
    · rename_i h1
      have h1 : verErr p ls m = 0 := Decidable.of_not_not h1
      split at h
      · rename_i h2; exact absurd h h2
      · rename_i h2
        have h2 : (vShapes p m ls).2 = 0 := Decidable.of_not_not h2
        split at h
        · rename_i h3
          by_cases e : fn = m
          · subst e; exact ⟨h2, h3⟩
          · exact verErr_zero h1 fn (by omega)
        · exact absurd h (by decide)
/-- A function that was gone through to its end. -/
theorem vShapes_some {p : List FnD} {ls : List SchD} {fn : Nat} {er : Int} (h : (vShapes p fn ls).2 = 0) : progMay p = true ∧ (ls.length ≤ 4 ∧ ls.all schMay = true) ∧ fn < p.length ∧ ∃ F, vShapes p fn ls = (some F, 0) ∧ vUpto p fn ls (codeOf p fn) (argsOf p fn).toNat (codeOf p fn).length = some F := by
  unfold vShapes at h ⊢
  split at h
  · rename_i h1
    rw [if_pos h1]
    split at h
    · rename_i h2
      rw [if_pos h2]
      rw [show ((fn : Int)).toNat = fn by omega] at h ⊢
      split at h
      · rename_i F hF
        exact ⟨h1.1, h1.2, by omega, F, rfl, hF⟩
      · exact absurd h (by decide)
    · exact absurd h (by decide)
  · exact absurd h (by decide)
theorem verify_facts {p : List FnD} {ls : List SchD} {n : Int} (h : verifyV p ls = (n, 0)) : progMay p = true ∧ 0 < p.length ∧ (ls.length ≤ 4 ∧ ls.all schMay = true) ∧ n = budget p ∧ n ≤ 2000 ∧ ∀ fn : Nat, fn < p.length → insideB p fn = true ∧ ∃ F, vShapes p fn ls = (some F, 0) ∧ vUpto p fn ls (codeOf p fn) (argsOf p fn).toNat (codeOf p fn).length = some F := by
  unfold verifyV at h
  split at h
  · rename_i h1
    exact absurd (Prod.mk.inj h).2 h1
  · rename_i h1
    have h1 : verErr p ls (max 1 p.length) = 0 := Decidable.of_not_not h1
    split at h
    · exact absurd (Prod.mk.inj h).2 (by decide)
    · rename_i h2
      have hn := (Prod.mk.inj h).1
      have h0 := verErr_zero h1 0 (by omega)
      obtain ⟨a1, a2, a3, -⟩ := vShapes_some (er := 0) h0.1
      refine ⟨a1, a3, a2, hn.symm, by omega, fun fn hfn => ?_⟩
      have h3 := verErr_zero h1 fn (by omega)
      obtain ⟨-, -, -, F, h4, h5⟩ := vShapes_some (er := 0) h3.1
      exact ⟨h3.2, F, h4, h5⟩
theorem verify_fail {p : List FnD} {ls : List SchD} {n e : Int} (h : verifyV p ls = (n, e)) (he : e ≠ 0) : n = 0 := by
  unfold verifyV at h
  split at h
  · exact (Prod.mk.inj h).1.symm
  · split at h
    · exact (Prod.mk.inj h).1.symm
    · exact absurd (Prod.mk.inj h).2.symm he
theorem prog_ok' {p : List FnD} (h : progMay p = true) {j : Nat} (hj : j < p.length) : crsMay (codeOf p j) = true := by
  rw [codeOf_get hj]
  exact (fn_fine h hj).1
/-- What is known of a function that was gone through. -/
theorem shapes_facts {p : List FnD} {ls : List SchD} {fn : Nat} {F : InsD} (hp : progMay p = true) (hfn : fn < p.length) (h : vUpto p fn ls (codeOf p fn) (argsOf p fn).toNat (codeOf p fn).length = some F) :
    F.length = (codeOf p fn).length ∧ 0 < (codeOf p fn).length ∧ (F.getD 0 none).isSome = true ∧ ∀ k, k < F.length → (F.getD k none).isSome = true → (reach (codeOf p fn)).getD k false = true ∧ (((codeOf p fn)[k]!).op = 6 → ((codeOf p fn)[k]!).imm < p.length ∧ (fn : Int) < ((codeOf p fn)[k]!).imm) ∧ (((codeOf p fn)[k]!).op = 5 → ((codeOf p fn)[k]!).imm ≤ 5) := by
  obtain ⟨h0, h64, ok⟩ := crsMay_facts (prog_ok' hp hfn)
  obtain ⟨hlen, hat, hflow⟩ := flow_all ok h0 h
  refine ⟨hlen, h0, ?_, fun k hk hs => ?_⟩
  · obtain ⟨u, hu, -⟩ := hat
    rw [hu]; rfl
  · rw [hlen] at hk
    refine ⟨known_reach ok h0 _ F (Nat.le_refl _) h k hk hs, ?_, ?_⟩
    · intro h6
      obtain ⟨s, hs⟩ := Option.isSome_iff_exists.1 hs
      have hf := hflow k s hk hs
      unfold Flow at hf
      rw [if_neg (by omega), if_neg (by omega), if_neg (by omega), if_neg (by omega), if_neg (by omega), if_neg (by omega), if_pos h6] at hf
      exact ⟨hf.1, hf.2.1⟩
    · intro h5
      obtain ⟨s, hs⟩ := Option.isSome_iff_exists.1 hs
      have hf := hflow k s hk hs
      unfold Flow at hf
      rw [if_neg (by omega), if_neg (by omega), if_neg (by omega), if_neg (by omega), if_neg (by omega), if_pos h5] at hf
      have := hf.1
      unfold hArgs at this
      repeat' split at this
      all_goals omega
theorem more_step {p : List FnD} {fn : Nat} {ls : List SchD} {x : SchD} {k : Nat} {i : InstD} {s : ShD} {ins r : InsD} (h : vStep p fn ls k i s ins = some r) : vStep p fn (ls ++ [x]) k i s ins = some r := by
  unfold vStep at h ⊢
  by_cases h0 : i.op = 0
  · rw [if_pos h0] at h ⊢; exact h
  rw [if_neg h0] at h ⊢
  by_cases h1 : i.op = 1
  · rw [if_pos h1] at h ⊢; exact h
  rw [if_neg h1] at h ⊢
  by_cases h2 : i.op = 2
  · rw [if_pos h2] at h ⊢; exact h
  rw [if_neg h2] at h ⊢
  by_cases h3 : i.op = 3
  · rw [if_pos h3] at h ⊢; exact h
  rw [if_neg h3] at h ⊢
  by_cases h4 : i.op = 4
  · rw [if_pos h4] at h ⊢; exact h
  rw [if_neg h4] at h ⊢
  by_cases h5 : i.op = 5
  · rw [if_pos h5] at h ⊢
    split at h
    · rename_i hc
      have hv' : vHelp s i.imm (ls ++ [x]) = true := by
        have hv := hc.2.2
        unfold vHelp at hv ⊢
        split at hv
        · rename_i q; rw [if_pos q]
        · rename_i q
          rw [if_neg q]
          split at hv
          · cases hv
          · rename_i b hb
            simp only [Bool.and_eq_true, decide_eq_true_iff] at hv
            obtain ⟨⟨⟨e1, e2⟩, e3⟩, e4⟩ := hv
            have eg : (ls ++ [x])[b.1]! = ls[b.1]! := by
              rw [getElem!_pos (ls ++ [x]) b.1 (by rw [List.length_append]; omega), getElem!_pos ls b.1 e2, List.getElem_append_left e2]
            simp only [Bool.and_eq_true, decide_eq_true_iff]
            rw [eg]
            exact ⟨⟨⟨e1, by rw [List.length_append]; omega⟩, e3⟩, e4⟩
      rw [if_pos ⟨hc.1, hc.2.1, hv'⟩]
      exact h
    · cases h
  rw [if_neg h5] at h ⊢
  exact h
theorem more_upto {p : List FnD} {fn : Nat} {ls : List SchD} {x : SchD} {l : List InstD} {args : Nat} : ∀ {k : Nat} {r : InsD}, vUpto p fn ls l args k = some r → vUpto p fn (ls ++ [x]) l args k = some r
  | 0, r, h => h
  | k + 1, r, h => by
    rw [vUpto, Option.bind_eq_some_iff] at h
    obtain ⟨c, h1, h2⟩ := h
    rw [vUpto, more_upto h1, Option.bind_some]
    split at h2
    · exact more_step h2
    · exact h2
theorem verErr_none {p : List FnD} {ls : List SchD} : ∀ {m : Nat}, (∀ fn : Nat, fn < m → (vShapes p fn ls).2 = 0 ∧ insideB p fn = true) → verErr p ls m = 0
  | 0, _ => rfl
  | m + 1, h => by
    have h1 := verErr_none (m := m) fun fn hfn => h fn (by omega)
    have h2 := h m (by omega)
    rw [verErr, if_neg (by rw [h1]; simp), if_neg (by rw [h2.1]; simp), if_pos h2.2]
theorem verify_more {p : List FnD} {ls : List SchD} {x : SchD} {n : Int} (h : verifyV p ls = (n, 0)) (hl : ls.length ≤ 3) : verifyV p (ls ++ [x]) = (0, 1) ∨ verifyV p (ls ++ [x]) = (n, 0) := by
  obtain ⟨hp, h0, ⟨hl4, hall⟩, hn, hn2, hfn⟩ := verify_facts h
  by_cases hx : schMay x = true
  · right
    have hz : verErr p (ls ++ [x]) (max 1 p.length) = 0 := by
      refine verErr_none fun fn hf => ?_
      obtain ⟨hi, F, h1, h2⟩ := hfn fn (by omega)
      refine ⟨?_, hi⟩
      unfold vShapes
      rw [if_pos ⟨hp, by rw [List.length_append]; simp; omega, by rw [List.all_append, hall]; simp [hx]⟩, if_pos ⟨by omega, by omega⟩]
      rw [show ((fn : Int)).toNat = fn by omega]
      have := more_upto (x := x) h2
      unfold codeOf argsOf at this
      rw [this]
    unfold verifyV
    rw [hz, if_neg (by simp), if_neg (by omega), hn]
  · left
    have h1 : verErr p (ls ++ [x]) 1 = 1 := by
      have : vShapes p ((0 : Nat) : Int) (ls ++ [x]) = (none, 1) := by
        unfold vShapes
        rw [if_neg (fun h' => ?_)]
        have := h'.2.2
        rw [List.all_append] at this
        simp [hx] at this
      show (if verErr p (ls ++ [x]) 0 ≠ 0 then _ else if (vShapes p ((0 : Nat) : Int) (ls ++ [x])).2 ≠ 0 then (vShapes p ((0 : Nat) : Int) (ls ++ [x])).2 else _) = 1
      rw [this]
      rfl
    unfold verifyV
    rw [verErr_stay h1 (by decide) _ (Nat.le_max_left _ _), if_pos (by decide)]
end Go.Proofs.Ytebdnobgdimdoaa
set_option linter.unusedVariables false
set_option linter.unusedSimpArgs false
namespace Go.Proofs.Ytebdnobgdimdoaa
open Go.RowKit

/-- Rows of cells, one for each element. -/
structure Css {T : Type} (R : World → List Value → T → Prop) (sz : Nat) (w : World) (l : List T) (css : List (List Value)) : Prop where
  len : css.length = l.length
  all : ∀ cs ∈ css, cs.length = sz
  rel : ∀ i (h : i < l.length), R w (css.getD i []) l[i]
theorem flat_len {sz : Nat} : ∀ {css : List (List Value)}, (∀ cs ∈ css, cs.length = sz) → css.flatten.length = css.length * sz
  | [], _ => by simp
  | c :: css, h => by
    rw [List.flatten_cons, List.length_append, flat_len (fun cs hc => h cs (List.mem_cons_of_mem _ hc)), h c List.mem_cons_self, List.length_cons, Nat.succ_mul]
    omega
theorem flat_at {sz : Nat} : ∀ {css : List (List Value)}, (∀ cs ∈ css, cs.length = sz) → ∀ (i j : Nat), i < css.length → j < sz → css.flatten[i * sz + j]? = (css.getD i [])[j]?
  | [], _, i, j, hi, _ => by cases hi
  | c :: css, h, 0, j, _, hj => by
    rw [List.flatten_cons, List.getElem?_append_left (by rw [h c List.mem_cons_self]; omega)]
    simp
  | c :: css, h, i + 1, j, hi, hj => by
    have hc := h c List.mem_cons_self
    rw [List.flatten_cons, List.getElem?_append_right (by rw [hc, Nat.succ_mul]; omega), hc, show (i + 1) * sz + j - sz = i * sz + j by rw [Nat.succ_mul]; omega]
    rw [flat_at (fun cs hc => h cs (List.mem_cons_of_mem _ hc)) i j (by simpa using hi) hj]
    simp
theorem Css.mono {T : Type} {R : World → List Value → T → Prop} (hR : Mono R) {sz : Nat} {w w' : World} {l : List T} {css : List (List Value)} (h : Css R sz w l css) (hb : Bel w w') : Css R sz w' l css :=
  ⟨h.len, h.all, fun i hi => hR _ _ _ _ hb (h.rel i hi)⟩
theorem Css.nil {T : Type} (R : World → List Value → T → Prop) (sz : Nat) (w : World) : Css R sz w [] [] := ⟨rfl, fun _ h => (by cases h), fun i h => by cases h⟩
theorem Css.snoc {T : Type} {R : World → List Value → T → Prop} {sz : Nat} {w : World} {l : List T} {css : List (List Value)} (h : Css R sz w l css) {cs : List Value} {x : T} (hl : cs.length = sz) (hx : R w cs x) : Css R sz w (l ++ [x]) (css ++ [cs]) := by
  refine ⟨by simp [h.len], fun c hc => ?_, fun i hi => ?_⟩
  · rcases List.mem_append.1 hc with hc | hc
    · exact h.all c hc
    · obtain rfl := List.mem_singleton.1 hc
      exact hl
  · by_cases he : i < l.length
    · rw [List.getElem_append_left he, List.getD_eq_getElem?_getD, List.getElem?_append_left (by rw [h.len]; exact he), ← List.getD_eq_getElem?_getD]
      exact h.rel i he
    · have : i = l.length := by simp at hi; omega
      subst this
      rw [List.getElem_append_right (Nat.le_refl _), List.getD_eq_getElem?_getD, List.getElem?_append_right (by rw [h.len]; exact Nat.le_refl _), h.len]
      simpa using hx
/-- The elements of a slice in one row. -/
theorem Sl.rows {T : Type} {R : World → List Value → T → Prop} {sz : Nat} {w : World} {A : Option Addr} {c : Nat} {l : List T} (h : Sl R sz w A c l) :
    ∃ css, Css R sz w l css ∧ ∀ b off, A = some ⟨b, off, none⟩ → ∀ j u, css.flatten[j]? = some u → w.cell? ⟨b, off + j, none⟩ = some u := by
  have key : ∀ n, n ≤ l.length → ∃ css : List (List Value), css.length = n ∧ (∀ cs ∈ css, cs.length = sz) ∧ (∀ i (hi : i < l.length), i < n → R w (css.getD i []) l[i]) ∧ ∀ b off, A = some ⟨b, off, none⟩ → ∀ i, i < n → ∀ j u, (css.getD i [])[j]? = some u → w.cell? ⟨b, off + i * sz + j, none⟩ = some u := by
    intro n
    induction n with
    | zero => intro _; exact ⟨[], rfl, fun _ h => (by cases h), fun i _ h => (by cases h), fun _ _ _ i h => by cases h⟩
    | succ n ih =>
      intro hn
      obtain ⟨css, h1, h2, h3, h4⟩ := ih (by omega)
      obtain ⟨b, off, cs, hA, hl, hr, hc⟩ := h.get n (by omega)
      have ga : ∀ i, i < n → (css ++ [cs]).getD i [] = css.getD i [] := fun i hi => by
        rw [List.getD_eq_getElem?_getD, List.getElem?_append_left (by omega), ← List.getD_eq_getElem?_getD]
      have gb : (css ++ [cs]).getD n [] = cs := by
        rw [List.getD_eq_getElem?_getD, List.getElem?_append_right (by omega), h1]
        simp
      refine ⟨css ++ [cs], by simp [h1], fun c hc' => ?_, fun i hi hin => ?_, fun b' off' hA' i hin j u hu => ?_⟩
      · rcases List.mem_append.1 hc' with hc' | hc'
        · exact h2 c hc'
        · obtain rfl := List.mem_singleton.1 hc'
          exact hl
      · by_cases he : i < n
        · rw [ga i he]; exact h3 i hi he
        · have : i = n := by omega
          subst this
          rw [gb]; exact hr
      · by_cases he : i < n
        · rw [ga i he] at hu; exact h4 b' off' hA' i he j u hu
        · have : i = n := by omega
          subst this
          rw [gb] at hu
          rw [hA] at hA'
          simp only [Option.some.injEq, Addr.mk.injEq, and_true] at hA'
          obtain ⟨rfl, rfl⟩ := hA'
          exact hc j u hu
  obtain ⟨css, h1, h2, h3, h4⟩ := key l.length (Nat.le_refl _)
  refine ⟨css, ⟨h1, h2, fun i hi => h3 i hi hi⟩, fun b off hA j u hu => ?_⟩
  have hj : j < css.length * sz := by rw [← flat_len h2]; exact (List.getElem?_eq_some_iff.1 hu).1
  have hs : 0 < sz := by
    rcases Nat.eq_zero_or_pos sz with e | e
    · subst e; simp at hj
    · exact e
  have hq : j / sz < css.length := Nat.div_lt_of_lt_mul (by rw [Nat.mul_comm]; exact hj)
  have hm := Nat.mod_lt j hs
  have hdm : j / sz * sz + j % sz = j := by rw [Nat.mul_comm]; exact Nat.div_add_mod j sz
  have e := flat_at h2 (j / sz) (j % sz) hq hm
  rw [hdm, hu] at e
  have := h4 b off hA (j / sz) (by omega) (j % sz) u e.symm
  rwa [Nat.add_assoc, hdm] at this
/-- What a row of the call's own tells, cell by cell. -/
theorem own_openG {w : World} {b : Nat} {e : TypeId} {s : Nat} {v : Value} {n : Nat} {xs : List Value} (h : w.ownsRow b e s v n xs) :
    (v = .slice none 0 0 ∧ n = 0) ∨ ∃ g c, v = .slice (some ⟨g, 0, none⟩) n c ∧ b ≤ g ∧ g < w.heap.size ∧ n ≤ c ∧ c ≤ maxLen ∧ (∀ i, w.frozen? ⟨g, i, none⟩ = false) ∧ ∀ j u, xs[j]? = some u → w.cell? ⟨g, j, none⟩ = some u := by
  obtain ⟨h1, h2⟩ := h
  rcases h2 with ⟨rfl, h2⟩ | ⟨g, cap, cur, rfl, hb, hh, hc, hm, hs, ht⟩
  · exact .inl ⟨rfl, h2⟩
  · refine .inr ⟨g, cap, rfl, hb, (Array.getElem?_eq_some_iff.1 hh).1, hc, hm, fun i => by simp [World.frozen?, hh], fun j u hj => ?_⟩
    rw [← ht, List.getElem?_take] at hj
    split at hj
    · rw [Array.getElem?_toList] at hj
      simp [World.cell?, hh, hj]
    · cases hj
section
variable {T : Type} {R : World → List Value → T → Prop} {sz : Nat} {P : Program} {t e : TypeId} {bytes : Nat} {z : Value}
/-- What an own row of such cells is, as a slice. -/
theorem own_sl {w : World} {base : Nat} {v : Value} {n : Nat} {l : List T} {css : List (List Value)} (h : w.ownsRow base e sz v n css.flatten) (hc : Css R sz w l css) (hn : l.length = n) : ∃ A c, v = .slice A n c ∧ Sl R sz w A c l ∧ ∀ b o, A = some ⟨b, o, none⟩ → base ≤ b ∧ o = 0 := by
  rcases own_openG h with ⟨rfl, h0⟩ | ⟨g, c, rfl, hg1, hg2, hc1, hc2, hfz, hcl⟩
  · subst h0
    obtain rfl : l = [] := List.eq_nil_of_length_eq_zero hn
    exact ⟨none, 0, rfl, Sl.nil _ _ _, fun _ _ h => by cases h⟩
  · refine ⟨some ⟨g, 0, none⟩, c, rfl, ⟨by rw [hn]; exact hc1, hc2, fun i hi => ?_⟩, fun b o h => by simp at h; omega⟩
    have hi2 : i < css.length := by rw [hc.len]; exact hi
    have hm : css.getD i [] ∈ css := by rw [List.getD_eq_getElem?_getD, List.getElem?_eq_getElem hi2]; exact List.getElem_mem hi2
    refine ⟨g, 0, css.getD i [], rfl, hc.all _ hm, hc.rel i hi, fun j u hu => ?_⟩
    have hj : j < sz := by rw [← hc.all _ hm]; exact (List.getElem?_eq_some_iff.1 hu).1
    rw [Nat.zero_add]
    exact hcl _ _ (by rw [flat_at hc.all i j hi2 hj]; exact hu)
theorem css_one {w : World} {l : List T} {css : List (List Value)} (hc : Css R sz w l css) (h1 : ∀ w cs x, R w cs x → ∀ u ∈ cs, u.oneCell' = true) : ∀ u ∈ css.flatten, u.oneCell' = true := by
  intro u hu
  obtain ⟨cs, hcs, hu⟩ := List.mem_flatten.1 hu
  obtain ⟨i, hi, rfl⟩ := List.mem_iff_getElem.1 hcs
  have := hc.rel i (by rw [← hc.len]; exact hi)
  rw [List.getD_eq_getElem?_getD, List.getElem?_eq_getElem hi] at this
  exact h1 _ _ _ this u hu
/-- 'append' onto nothing: a row of one's own. -/
theorem app_nil_any (ty : TypeId) (ht : P.underlying t = some (.slice e)) (hinfo : (P.info? e).map (fun i => (i.zero, i.size, i.bytes)) = some (some z, sz, bytes)) (hzs : z.cells.size = sz) (hsz : 0 < sz) (h1 : ∀ w cs x, R w cs x → ∀ u ∈ cs, u.oneCell' = true)
    {X : World} {A : Option Addr} {m c base : Nat} {l : List T} (h : Sl R sz X A c l) (hm : l.length = m) (hx : m ≤ 4096) (hby : bytes ≤ 4096) (hb : base ≤ X.heap.size) :
    ∃ v' w' css, (Builtin.append_ #[t, t] ty #[.slice none 0 0, .slice A m c]).run P X = .ok v' w' ∧ w'.ownsRow base e sz v' m css.flatten ∧ Css R sz X l css ∧ Bel X w' ∧ (v'.ownBlock = none ∨ v'.ownBlock = some X.heap.size) := by
  obtain ⟨i0, hi, hzz⟩ := Option.map_eq_some_iff.1 hinfo
  simp only [Prod.mk.injEq] at hzz
  obtain ⟨hz0, hz1, hz2⟩ := hzz
  have ho : X.ownsRow base e sz (.slice none 0 0) 0 [] := ⟨by simp, .inl ⟨rfl, rfl⟩⟩
  obtain ⟨css, hc, hcl⟩ := h.rows
  have hfl : css.flatten.length = m * sz := by rw [flat_len hc.all, hc.len, hm]
  cases A with
  | none =>
    have h0 : m = 0 := by
      rcases Nat.eq_zero_or_pos m with h0 | h0
      · exact h0
      · obtain ⟨b, o, e⟩ := h.addr (by rw [hm]; exact h0)
        cases e
    subst h0
    have hl : l = [] := List.eq_nil_of_length_eq_zero hm
    subst hl
    have hcs : css = [] := List.eq_nil_of_length_eq_zero hc.len
    subst hcs
    refine ⟨.slice none 0 0, X, [], ?_, ho, hc, Bel.refl _, .inl rfl⟩
    simp [Builtin.append_, run_underlying ht, sizeOf, typeInfo, hi, Builtin.lenOf, Builtin.firstCells]
  | some a =>
    have hcells : ∀ j u, css.flatten[j]? = some u → X.cell? (a.add j) = some u := by
      intro j u hu
      by_cases h0 : 0 < l.length
      · obtain ⟨b, o, e'⟩ := h.addr h0
        simp only [Option.some.injEq] at e'
        subst e'
        rw [Addr.add_lit]
        exact hcl b o rfl j u hu
      · have hl : l = [] := List.eq_nil_of_length_eq_zero (by omega)
        subst hl
        have hcs : css = [] := List.eq_nil_of_length_eq_zero hc.len
        subst hcs
        simp at hu
    obtain ⟨v', w', hr, h2, h3, _, h5⟩ := run_append_own_at (P := P) X base _ ty e i0 z sz bytes ht hi hz0 hz1 hz2 hzs hsz (.slice none 0 0) 0 [] ho a m c css.flatten hfl hcells (css_one hc h1) (by simp only [maxLen]; omega) (by rw [Nat.zero_add]; exact Nat.le_trans (Nat.mul_le_mul hx hby) (by decide)) hb
    rw [Nat.zero_add] at h2
    refine ⟨v', w', css, hr, by simpa using h2, hc, (Bel.refl X).grown h3 (fun k hk => by simp [Value.ownBlock] at hk), ?_⟩
    rcases h5 with h5 | h5
    · left; simpa [Value.ownBlock] using h5
    · right; exact h5
/-- 'append' of one element onto a row of one's own. -/
theorem app_one_any (ty : TypeId) (ht : P.underlying t = some (.slice e)) (hinfo : (P.info? e).map (fun i => (i.zero, i.size, i.bytes)) = some (some z, sz, bytes)) (hzs : z.cells.size = sz) (hsz : 0 < sz) (h1 : ∀ w cs x, R w cs x → ∀ u ∈ cs, u.oneCell' = true)
    {X : World} {v : Value} {n g base : Nat} {l : List T} {css : List (List Value)} {cs : List Value} {x : T} (ho : X.ownsRow base e sz v n css.flatten) (hc : Css R sz X l css) (hcell : ∀ j u, cs[j]? = some u → X.cell? ⟨g, j, none⟩ = some u) (hl : cs.length = sz) (hx : R X cs x) (hn : n ≤ 4096) (hby : bytes ≤ 4096) (hb : base ≤ X.heap.size) :
    ∃ v' w', (Builtin.append_ #[t, t] ty #[v, .slice (some ⟨g, 0, none⟩) 1 1]).run P X = .ok v' w' ∧ w'.ownsRow base e sz v' (n + 1) (css ++ [cs]).flatten ∧ X.grownBy w' v.ownBlock ∧ (v'.ownBlock = v.ownBlock ∨ v'.ownBlock = some X.heap.size) := by
  obtain ⟨i0, hi, hzz⟩ := Option.map_eq_some_iff.1 hinfo
  simp only [Prod.mk.injEq] at hzz
  obtain ⟨hz0, hz1, hz2⟩ := hzz
  obtain ⟨v', w', hr, h2, h3, _, h5⟩ := run_append_own_at (P := P) X base _ ty e i0 z sz bytes ht hi hz0 hz1 hz2 hzs hsz v n css.flatten ho ⟨g, 0, none⟩ 1 1 cs (by rw [hl, Nat.one_mul]) (fun j u hu => by rw [Addr.add_lit, Nat.zero_add]; exact hcell j u hu) (h1 _ _ _ hx) (by simp only [maxLen]; omega) (Nat.le_trans (Nat.mul_le_mul (show n + 1 ≤ 4097 by omega) hby) (by decide)) hb
  exact ⟨v', w', hr, by simpa using h2, h3, h5⟩
end
end Go.Proofs.Ytebdnobgdimdoaa
