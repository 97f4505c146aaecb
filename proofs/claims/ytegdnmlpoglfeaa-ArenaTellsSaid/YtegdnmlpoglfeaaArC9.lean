/- What arena.Put makes of a memory: plain; the laws on append that it needs. -/
import Derived.Test.YtegdnmlpoglfeaaArC8
import Derived.Deep.AppendLies
import Derived.Laws.AppendOwnNone
set_option linter.unusedVariables false
set_option linter.unusedSimpArgs false
namespace Go.Proofs.Ytegdnmlpoglfeaa
open Go.RowKit

def putM (m : MemD) (b : BlkD) : MemD × Int :=
  if mayM m = true ∧ 1 ≤ b.id ∧ b.w ≠ [] then
    (if idxR m.l b.id < 0 ∧ fitsL b.at' b.w.length (gapsL m) = true then (⟨m.cap, ins m.l (insIdx m.l b.at') b⟩, 0) else (⟨0, []⟩, 4))
  else (⟨0, []⟩, 1)
/-- Whatever lies from N on is as it was. -/
structure Abv (N : Nat) (W W' : World) : Prop where
  size : W.heap.size ≤ W'.heap.size
  block : ∀ k, N ≤ k → k < W.heap.size → W'.heap[k]? = W.heap[k]?
theorem Abv.refl (N : Nat) (W : World) : Abv N W W := ⟨Nat.le_refl _, fun _ _ _ => rfl⟩
theorem Abv.trans {N : Nat} {A B C : World} (h : Abv N A B) (k : Abv N B C) : Abv N A C := ⟨Nat.le_trans h.size k.size, fun i h1 h2 => (k.block i h1 (Nat.lt_of_lt_of_le h2 h.size)).trans (h.block i h1 h2)⟩
theorem Abv.of {N : Nat} {A B : World} (h : Bel A B) : Abv N A B := ⟨h.size, fun i _ h2 => h.out.block i h2⟩
theorem Abv.bel {N : Nat} {A B C : World} (h : Abv N A B) (k : Bel B C) : Abv N A C := h.trans (Abv.of k)
theorem Abv.set {N : Nat} {A B : World} (h : Abv N A B) {p : Addr} (hp : p.block < N) (v : Value) : Abv N A (B.setCell p v) :=
  h.trans ⟨by rw [setCell_size]; exact Nat.le_refl _, fun k h1 _ => setCell_heap_ne B v (by omega)⟩
theorem OwnW.abv {N : Nat} {W W' : World} {g c : Nat} {ws : List Int} (h : OwnW W g c ws) (hb : Abv N W W') (h1 : N ≤ g) (h2 : g < W.heap.size) : OwnW W' g c ws := h.other (hb.block g h1 h2)
theorem OwnB.abv {w0 W W' : World} {D c : Nat} {l : List BlkD} {k : Nat} {A : Nat → Option Addr} {cc : Nat → Nat} (h : OwnB w0 W D c l k A cc) (hb : Abv w0.heap.size W W') : OwnB w0 W' D c l k A cc := h.other (fun g h1 h2 _ => hb.block g h1 h2) hb.size
/-- The cells of one block. -/
def bcs (b : BlkD) (A : Option Addr) (c : Nat) : List Value := [.int .i64 b.id, .int .i64 b.at', .slice A b.w.length c]
theorem bcs_len (b : BlkD) (A : Option Addr) (c : Nat) : (bcs b A c).length = 3 := rfl
/-- The cells of the blocks from i on, k of them. -/
def rowL (l : List BlkD) (A : Nat → Option Addr) (cc : Nat → Nat) (i k : Nat) : List Value := (List.range k).flatMap fun j => bcs (l[i + j]!) (A (i + j)) (cc (i + j))
theorem rowL_len (l : List BlkD) (A : Nat → Option Addr) (cc : Nat → Nat) (i k : Nat) : (rowL l A cc i k).length = k * 3 := by
  unfold rowL
  rw [flat_len _ 3 (fun j => rfl), List.length_range]
theorem rowL_get (l : List BlkD) (A : Nat → Option Addr) (cc : Nat → Nat) (i k : Nat) {j q : Nat} (hj : j < k) (hq : q < 3) : (rowL l A cc i k)[j * 3 + q]? = (bcs (l[i + j]!) (A (i + j)) (cc (i + j)))[q]? := by
  unfold rowL
  rw [flat_get _ 3 (fun j => rfl) _ j q (by simpa using hj) hq, List.getElem_range]
theorem rowL_one (l : List BlkD) (A : Nat → Option Addr) (cc : Nat → Nat) (i k : Nat) : ∀ u ∈ rowL l A cc i k, u.oneCell' = true := by
  intro u hu
  obtain ⟨x, _, hx⟩ := List.mem_flatMap.1 hu
  simp only [bcs, List.mem_cons, List.not_mem_nil, or_false] at hx
  rcases hx with rfl | rfl | rfl <;> rfl
theorem bcs_one (b : BlkD) (A : Option Addr) (c : Nat) : ∀ u ∈ bcs b A c, u.oneCell' = true := by
  intro u hx
  simp only [bcs, List.mem_cons, List.not_mem_nil, or_false] at hx
  rcases hx with rfl | rfl | rfl <;> rfl
theorem RowB.news {b0 : Nat} {W : World} {D c : Nat} {l : List BlkD} {A : Nat → Option Addr} {cc : Nat → Nat} (h : RowB b0 W D c l A cc) {i k : Nat} (hk : i + k ≤ l.length) : ∀ j u, (rowL l A cc i k)[j]? = some u → W.cell? ⟨D, i * 3 + j, none⟩ = some u := by
  intro j u hu
  have hj : j < k * 3 := by
    have := (List.getElem?_eq_some_iff.1 hu).1
    rwa [rowL_len] at this
  have e := rowL_get l A cc i k (j := j / 3) (q := j % 3) (by omega) (Nat.mod_lt _ (by decide))
  rw [show j / 3 * 3 + j % 3 = j by omega, hu] at e
  obtain ⟨a, b, d⟩ := h.cells (i + j / 3) (by omega)
  have h3 : j % 3 = 0 ∨ j % 3 = 1 ∨ j % 3 = 2 := by omega
  unfold bcs at e
  rcases h3 with h3 | h3 | h3 <;> rw [h3] at e <;> simp only [List.getElem?_cons_zero, List.getElem?_cons_succ, Option.some.injEq] at e <;> subst e
  · rw [show i * 3 + j = (i + j / 3) * 3 by omega]; exact a
  · rw [show i * 3 + j = (i + j / 3) * 3 + 1 by omega]; exact b
  · rw [show i * 3 + j = (i + j / 3) * 3 + 2 by omega]; exact d
/-- Cells that are known, read as blocks. -/
theorem rows_sl {W : World} {D c : Nat} {L : List BlkD} (hc : L.length ≤ c) (hm : c ≤ maxLen) (h : ∀ i, i < L.length → ∃ g cg, (∀ q v, (bcs (L[i]!) (some ⟨g, 0, none⟩) cg)[q]? = some v → W.cell? ⟨D, i * 3 + q, none⟩ = some v) ∧ OwnW W g cg (L[i]!).w ∧ (Lit.int .i64 (L[i]!).id).wf = true ∧ (Lit.int .i64 (L[i]!).at').wf = true) : Sl BlkR 3 W (some ⟨D, 0, none⟩) c L := by
  refine ⟨hc, hm, fun i hi => ?_⟩
  obtain ⟨g, cg, h1, h2, h3, h4⟩ := h i hi
  have hl : L[i]! = L[i] := getElem!_pos L i hi
  rw [hl] at h1 h2 h3 h4
  exact ⟨D, 0, bcs L[i] (some ⟨g, 0, none⟩) cg, rfl, rfl, ⟨_, _, rfl, h2.sl, h3, h4⟩, fun j v hv => by rw [Nat.zero_add]; exact h1 j v hv⟩
/-- What Put makes reads as the blocks with the new one among them. -/
theorem put_sl {w0 W : World} {D c : Nat} {l : List BlkD} {A : Nat → Option Addr} {cc : Nat → Nat} (h : OwnB w0 W D c l l.length A cc) (hwf : ∀ i, i < l.length → (Lit.int .i64 (l[i]!).id).wf = true ∧ (Lit.int .i64 (l[i]!).at').wf = true)
    {i : Nat} (hi : i ≤ l.length) (b : BlkD) {g cg : Nat} (hw : OwnW W g cg b.w) (hb1 : (Lit.int .i64 b.id).wf = true) (hb2 : (Lit.int .i64 b.at').wf = true) {D9 c9 : Nat} (hc1 : l.length + 1 ≤ c9) (hc2 : c9 ≤ maxLen)
    (hcells : ∀ q u, (rowL l A cc 0 i ++ (bcs b (some ⟨g, 0, none⟩) cg ++ rowL l A cc i (l.length - i)))[q]? = some u → W.cell? ⟨D9, q, none⟩ = some u) : Sl BlkR 3 W (some ⟨D9, 0, none⟩) c9 (ins l i b) := by
  refine rows_sl (by rw [ins_length hi]; exact hc1) hc2 fun j hj => ?_
  rw [ins_length hi] at hj
  have e := ins_get hi b j
  by_cases h1 : j < i
  · rw [if_pos h1] at e
    rw [e]
    obtain ⟨g', e1, -, -, -, e5⟩ := h.own j (by omega) (by omega)
    refine ⟨g', cc j, fun q v hv => hcells _ _ ?_, e5, hwf j (by omega)⟩
    have hq : q < 3 := (List.getElem?_eq_some_iff.1 hv).1
    rw [List.getElem?_append_left (by rw [rowL_len]; omega), rowL_get l A cc 0 i h1 hq, Nat.zero_add, e1]
    exact hv
  · rw [if_neg h1] at e
    by_cases h2 : j = i
    · subst h2
      rw [if_pos rfl] at e
      rw [e]
      refine ⟨g, cg, fun q v hv => hcells _ _ ?_, hw, hb1, hb2⟩
      have hq : q < 3 := (List.getElem?_eq_some_iff.1 hv).1
      rw [List.getElem?_append_right (by rw [rowL_len]; omega), rowL_len, List.getElem?_append_left (by rw [bcs_len]; omega), show j * 3 + q - j * 3 = q by omega]
      exact hv
    · rw [if_neg h2] at e
      rw [e]
      obtain ⟨g', e1, -, -, -, e5⟩ := h.own (j - 1) (by omega) (by omega)
      refine ⟨g', cc (j - 1), fun q v hv => hcells _ _ ?_, e5, hwf (j - 1) (by omega)⟩
      have hq : q < 3 := (List.getElem?_eq_some_iff.1 hv).1
      rw [List.getElem?_append_right (by rw [rowL_len]; omega), rowL_len, List.getElem?_append_right (by rw [bcs_len]; omega), bcs_len, show j * 3 + q - i * 3 - 3 = (j - 1 - i) * 3 + q by omega, rowL_get l A cc i _ (by omega) hq, show i + (j - 1 - i) = j - 1 by omega, e1]
      exact hv
/-- What Put makes of no blocks. -/
theorem put_sl0 {W : World} (b : BlkD) {g cg : Nat} (hw : OwnW W g cg b.w) (hb1 : (Lit.int .i64 b.id).wf = true) (hb2 : (Lit.int .i64 b.at').wf = true) {D9 c9 : Nat} (hc1 : 1 ≤ c9) (hc2 : c9 ≤ maxLen)
    (hcells : ∀ q u, (bcs b (some ⟨g, 0, none⟩) cg)[q]? = some u → W.cell? ⟨D9, q, none⟩ = some u) : Sl BlkR 3 W (some ⟨D9, 0, none⟩) c9 [b] := by
  refine rows_sl hc1 hc2 fun j hj => ?_
  obtain rfl : j = 0 := by simpa using hj
  refine ⟨g, cg, fun q v hv => ?_, hw, hb1, hb2⟩
  rw [Nat.zero_mul, Nat.zero_add]
  exact hcells q v hv

/-! ### append at a step of a region that draws -/
section
variable {P : Program} {w : World}
theorem step_append_run {ops : Array Oper} {o : Oper} {a : Act} {K : Act → World → Prop} {Q : Exit → Act → World → Prop} {E : Prop} (hgd : o.guard = none) (s x : Operand) (t : TypeId)
    (ho : o.op = .call { callee := .builtin .append, args := #[s, x], argTypes := #[t, t] })
    (vs vx : Value) (hs : a.eval s = vs) (hx : a.eval x = vx) (R : Value → World → Prop) (hr : ∃ v' w', (Builtin.append_ #[t, t] o.type #[vs, vx]).run P w = .ok v' w' ∧ R v' w')
    (h : ∀ v' w', R v' w' → K (a.put o.dst v') w') :
    if Region.wanted o (yielded ops a.tmps) = true then Oper.wp P o a w K Q else E := by
  have hw : Region.wanted o (yielded ops a.tmps) = true := by simp [Region.wanted, hgd]
  rw [if_pos hw]
  obtain ⟨v', w', hrun, hR⟩ := hr
  unfold Oper.wp
  simp [execOp, ho, resolve, invoke, builtin, hs, hx, hrun, Result.andThen]
  exact h v' w' hR
end
/-- 'append' of blocks onto a row of the call's own that is not empty. -/
theorem appB_first (ty : TypeId) (W w0 : World) (hB : Bel w0 W) (base : Nat) (hb0 : w0.heap.size ≤ base) (hbase : base ≤ W.heap.size) (v : Value) (n : Nat) (xs : List Value) (hown : W.ownsRow base 33 3 v n xs) (hn : 0 < n) (A : Option Addr) (m c : Nat) (hA : A = none → m = 0 ∧ c = 0) (news : List Value)
    (hl : news.length = m * 3) (hnews : ∀ ad, A = some ad → ∀ j u, news[j]? = some u → W.cell? (ad.add j) = some u) (h1 : ∀ u ∈ news, u.oneCell' = true) (hs : n + m ≤ 8192) :
    ∃ v' w', (Builtin.append_ #[24, 24] ty #[v, .slice A m c]).run Try.prog W = .ok v' w' ∧ ∃ g cg, v' = .slice (some ⟨g, 0, none⟩) (n + m) cg ∧ base ≤ g ∧ g < w'.heap.size ∧ n + m ≤ cg ∧ cg ≤ maxLen ∧ (∀ j u, (xs ++ news)[j]? = some u → w'.cell? ⟨g, j, none⟩ = some u) ∧ Bel w0 w' := by
  obtain ⟨i0, hi, hzz⟩ := Option.map_eq_some_iff.1 info_Block
  simp only [Prod.mk.injEq] at hzz
  obtain ⟨hz0, hz1, hz2⟩ := hzz
  cases A with
  | none =>
    obtain ⟨rfl, rfl⟩ := hA rfl
    obtain rfl : news = [] := List.eq_nil_of_length_eq_zero (by simpa using hl)
    refine ⟨v, W, run_append_owned_none (P := Try.prog) (w := W) base _ ty 33 i0 3 Try.underlying24 hi v n xs hown, ?_⟩
    rcases own_openK hown with ⟨rfl, h0⟩ | ⟨g, c', rfl, hg1, hg2, hc1, hc2, hfz, hcl⟩
    · omega
    · exact ⟨g, c', rfl, hg1, hg2, hc1, hc2, by rw [List.append_nil]; exact hcl, hB⟩
  | some ad =>
    obtain ⟨v', w', hr, h2, h3, _, h5⟩ := run_append_own_at (P := Try.prog) W base _ ty 33 i0 _ 3 40 Try.underlying24 hi hz0 hz1 hz2 rfl (by decide) v n xs hown ad m c news hl (hnews ad rfl) h1 (by simp only [maxLen]; omega) (by omega) hbase
    refine ⟨v', w', hr, ?_⟩
    rcases own_openK h2 with ⟨rfl, h0⟩ | ⟨g, c', rfl, hg1, hg2, hc1, hc2, hfz, hcl⟩
    · omega
    · exact ⟨g, c', rfl, hg1, hg2, hc1, hc2, hcl, hB.grown h3 (fun k hk => Nat.le_trans hb0 (hown.lt k hk).1)⟩
/-- 'append' of blocks onto a slice without room for them. -/
theorem appB_grow (ty : TypeId) (W : World) (A : Option Addr) (n cap : Nat) (hA : A = none → n = 0 ∧ cap = 0) (olds : List Value) (hlo : olds.length = n * 3) (holds : ∀ ad, A = some ad → ∀ j u, olds[j]? = some u → W.cell? (ad.add j) = some u) (ad : Addr) (m c : Nat) (news : List Value)
    (hl : news.length = m * 3) (hnews : ∀ j u, news[j]? = some u → W.cell? (ad.add j) = some u) (h1 : ∀ u ∈ news, u.oneCell' = true) (hfull : cap < n + m) (hs : n + m ≤ 8192) :
    ∃ v' w', (Builtin.append_ #[24, 24] ty #[.slice A n cap, .slice (some ad) m c]).run Try.prog W = .ok v' w' ∧ ∃ g cg, v' = .slice (some ⟨g, 0, none⟩) (n + m) cg ∧ W.heap.size ≤ g ∧ g < w'.heap.size ∧ n + m ≤ cg ∧ cg ≤ maxLen ∧ (∀ j u, (olds ++ news)[j]? = some u → w'.cell? ⟨g, j, none⟩ = some u) ∧ Bel W w' := by
  obtain ⟨i0, hi, hzz⟩ := Option.map_eq_some_iff.1 info_Block
  simp only [Prod.mk.injEq] at hzz
  obtain ⟨hz0, hz1, hz2⟩ := hzz
  cases A with
  | none =>
    obtain ⟨rfl, rfl⟩ := hA rfl
    obtain rfl : olds = [] := List.eq_nil_of_length_eq_zero (by simpa using hlo)
    obtain ⟨v', w', hr, h2, h3, _⟩ := run_append_own_at (P := Try.prog) W W.heap.size _ ty 33 i0 _ 3 40 Try.underlying24 hi hz0 hz1 hz2 rfl (by decide) (.slice none 0 0) 0 [] (World.ownsRow_nil W _ _ _) ad m c news hl hnews h1 (by simp only [maxLen]; omega) (by omega) (Nat.le_refl _)
    refine ⟨v', w', hr, ?_⟩
    rcases own_openK h2 with ⟨rfl, h0⟩ | ⟨g, c', rfl, hg1, hg2, hc1, hc2, hfz, hcl⟩
    · omega
    · exact ⟨g, c', rfl, hg1, hg2, hc1, hc2, hcl, (Bel.refl W).grown h3 (fun k hk => by cases hk)⟩
  | some b =>
    obtain ⟨v', w', hr, h2, h3⟩ := run_append_arg_grows (P := Try.prog) W _ ty 33 i0 _ 3 40 Try.underlying24 hi hz0 hz1 hz2 rfl (by decide) b n cap olds hlo (holds b rfl) ad m c news hl hnews hfull (by simp only [maxLen]; omega) (by omega)
    refine ⟨v', w', hr, ?_⟩
    rcases own_openK h2 with ⟨rfl, h0⟩ | ⟨g, c', rfl, hg1, hg2, hc1, hc2, hfz, hcl⟩
    · omega
    · exact ⟨g, c', rfl, hg1, hg2, hc1, hc2, hcl, (Bel.refl W).grown h3 (fun k hk => by cases hk)⟩
/-- A memory of the call's own. -/
def OwnA (w0 W : World) (A : Option Addr) (c : Nat) (l : List BlkD) : Prop := (l = [] ∧ A = none ∧ c = 0) ∨ ∃ D A' cc, A = some ⟨D, 0, none⟩ ∧ OwnB w0 W D c l l.length A' cc
theorem own_any (cap : Int) (A : Option Addr) (n c : Nat) (l : List BlkD) (w : World) (h : Sl BlkR 3 w A c l) (hn : Hid (l.length = n)) (hok : Hid (Ok ⟨cap, l⟩)) :
    Calls Try.prog 31 #[.agg #[.int .i64 cap, .slice A n c]] w fun e w' => ∃ A' c', e = .returned (.agg #[.int .i64 cap, .slice A' n c']) ∧ OwnA w w' A' c' l ∧ Bel w w' := by
  have hf := hok.out.few
  simp only at hf
  by_cases h0 : n = 0
  · subst h0
    obtain rfl : l = [] := List.eq_nil_of_length_eq_zero hn.out
    exact (own_zero cap A c w).mono fun e w' ⟨A', c', h1, h2, h3⟩ => ⟨A', c', h1, h2.imp (fun h => ⟨rfl, h⟩) id, h3⟩
  · obtain ⟨b, off, rfl⟩ := h.addr (by rw [hn.out]; omega)
    refine (own_some cap b off n c l w h hn (Lib.hid ⟨by omega, by rw [← hn.out]; omega⟩) (Lib.hid fun i hi => ?_)).mono fun e w' ⟨D, c', A', cc, h1, h2, h3⟩ => ⟨_, c', h1, .inr ⟨D, A', cc, rfl, by rw [hn.out]; exact h2⟩, h3⟩
    have h1 := (hok.out.blk i hi).len
    have h2 := (hok.out.bounds hi).2.2.1
    simp only at h1 h2
    omega
theorem tw_facts (p : BlkD → Bool) : ∀ l : List BlkD, (l.takeWhile p).length ≤ l.length ∧ (∀ j, j < (l.takeWhile p).length → p (l[j]!) = true) ∧ ((l.takeWhile p).length < l.length → p (l[(l.takeWhile p).length]!) = false)
  | [] => by simp
  | a :: l => by
    obtain ⟨h1, h2, h3⟩ := tw_facts p l
    rw [List.takeWhile_cons]
    cases hp : p a
    · simp only [Bool.false_eq_true, if_false, List.length_nil]
      exact ⟨Nat.zero_le _, fun j hj => absurd hj (Nat.not_lt_zero _), fun _ => hp⟩
    · simp only [if_true, List.length_cons]
      refine ⟨by omega, fun j hj => ?_, fun h => h3 (by omega)⟩
      cases j with
      | zero => exact hp
      | succ j => exact h2 j (by omega)
theorem insIdx_facts (l : List BlkD) (place : Int) : insIdx l place ≤ l.length ∧ (∀ j, j < insIdx l place → (l[j]!).at' < place) ∧ (insIdx l place < l.length → ¬ (l[insIdx l place]!).at' < place) := by
  obtain ⟨h1, h2, h3⟩ := tw_facts (fun b => decide (b.at' < place)) l
  exact ⟨h1, fun j hj => of_decide_eq_true (h2 j hj), fun h => of_decide_eq_false (h3 h)⟩
theorem fits_small {m : MemD} (h : Ok m) {place n : Int} (hn : 1 ≤ n) (hf : fitsL place n (gapsL m) = true) : 0 ≤ place ∧ place + n ≤ 1024 := by
  obtain ⟨i, hi, h1, h2⟩ := (fits_iff h hn).1 hf
  have h3 := (h.prev i hi).1
  have h4 := (h.next hi).2
  have h5 := h.cap1
  omega
theorem own_one (w : World) (id place : Int) (g c m : Nat) (ws : List Int) (hm : ws.length = m) : (w.alloc (.cells #[.int .i64 id, .int .i64 place, .slice (some ⟨g, 0, none⟩) m c] 33)).ownsRow w.heap.size 33 3 (.slice (some ⟨w.heap.size, 0, none⟩) 1 1) 1 (bcs ⟨id, place, ws⟩ (some ⟨g, 0, none⟩) c) := by
  subst hm
  exact ⟨rfl, .inr ⟨w.heap.size, 1, _, rfl, Nat.le_refl _, World.alloc_heap_new w _, Nat.le_refl _, by decide, rfl, rfl⟩⟩
theorem news_of {b0 : Nat} {W W' : World} {D c : Nat} {l : List BlkD} {A : Nat → Option Addr} {cc : Nat → Nat} (h : RowB b0 W D c l A cc) (hb : Bel W W') {i k : Nat} (hk : i + k ≤ l.length) : ∀ ad, some (⟨D, i * 3, none⟩ : Addr) = some ad → ∀ j u, (rowL l A cc i k)[j]? = some u → W'.cell? (ad.add j) = some u := by
  intro ad e j u hu
  rw [← Option.some.inj e, Addr.add_lit]
  exact hb.cell (h.news hk j u hu)
theorem olds_of {b0 : Nat} {W W' : World} {D c : Nat} {l : List BlkD} {A : Nat → Option Addr} {cc : Nat → Nat} (h : RowB b0 W D c l A cc) (hb : Bel W W') {k : Nat} (hk : k ≤ l.length) : ∀ ad, some (⟨D, 0, none⟩ : Addr) = some ad → ∀ j u, (rowL l A cc 0 k)[j]? = some u → W'.cell? (ad.add j) = some u := by
  intro ad e j u hu
  rw [← Option.some.inj e, Addr.add_lit]
  have := hb.cell (h.news (i := 0) (by omega) j u hu)
  rwa [Nat.zero_mul] at this
theorem both_one {b : BlkD} {A : Option Addr} {c : Nat} {l : List BlkD} {A' : Nat → Option Addr} {cc : Nat → Nat} {i k : Nat} : ∀ u ∈ bcs b A c ++ rowL l A' cc i k, u.oneCell' = true := by
  intro u hu
  rcases List.mem_append.1 hu with h | h
  · exact bcs_one _ _ _ u h
  · exact rowL_one _ _ _ _ _ u h
theorem Abv.putObj {N : Nat} {A B : World} (h : Abv N A B) {D : Nat} (hD : D < N) (o : Obj) : Abv N A (B.putObj D o) := by
  have hg := grownBy_putObj' B D o
  exact h.trans ⟨hg.size, fun k h1 h2 => hg.block k h2 (fun e => by cases e; omega)⟩
theorem news_if {b0 : Nat} {W W' : World} {D c : Nat} {l : List BlkD} {A : Nat → Option Addr} {cc : Nat → Nat} (h : RowB b0 W D c l A cc) (hb : Bel W W') {i k : Nat} (hk : i + k ≤ l.length) {p : Prop} [Decidable p] (hp : p → k = 0) :
    ((if p then some (⟨D, 0, none⟩ : Addr) else some ⟨D, i * 3, none⟩) = none → k = 0 ∧ c - i = 0) ∧ ∀ ad, (if p then some (⟨D, 0, none⟩ : Addr) else some ⟨D, i * 3, none⟩) = some ad → ∀ j u, (rowL l A cc i k)[j]? = some u → W'.cell? (ad.add j) = some u := by
  by_cases hpp : p
  · simp only [if_pos hpp]
    refine ⟨fun h => (by cases h), fun ad _ j u hu => ?_⟩
    rw [hp hpp] at hu
    simp [rowL] at hu
  · simp only [if_neg hpp]
    exact ⟨fun h => (by cases h), news_of h hb hk⟩
/-- Three cells hold these values; the first may be written. -/
structure Thr (a1 a2 a3 : Addr) (v1 v2 v3 : Value) (w' : World) : Prop where
  c1 : w'.cell? a1 = some v1
  c2 : w'.cell? a2 = some v2
  c3 : w'.cell? a3 = some v3
  f1 : w'.frozen? a1 = false
theorem Thr.bel {a1 a2 a3 : Addr} {v1 v2 v3 : Value} {w' w'' : World} (h : Thr a1 a2 a3 v1 v2 v3 w') (hb : Bel w' w'') : Thr a1 a2 a3 v1 v2 v3 w'' := ⟨hb.cell h.c1, hb.cell h.c2, hb.cell h.c3, (hb.frozen h.c1).trans h.f1⟩
theorem Abv.up {N M : Nat} {A B : World} (h : Abv N A B) (hn : N ≤ M) : Abv M A B := ⟨h.size, fun k h1 h2 => h.block k (Nat.le_trans hn h1) h2⟩
/-- Blocks that lie from N on: whatever changes below N leaves them. -/
def SlS (N : Nat) (W : World) (A : Option Addr) (c : Nat) (l : List BlkD) : Prop := ∀ W', Abv N W W' → Sl BlkR 3 W' A c l
theorem SlS.sl {N : Nat} {W : World} {A : Option Addr} {c : Nat} {l : List BlkD} (h : SlS N W A c l) : Sl BlkR 3 W A c l := h W (Abv.refl _ _)
theorem SlS.abv {N : Nat} {W W' : World} {A : Option Addr} {c : Nat} {l : List BlkD} (h : SlS N W A c l) (hb : Abv N W W') : SlS N W' A c l := fun W2 h2 => h W2 (hb.trans h2)
theorem SlS.bel {N : Nat} {W W' : World} {A : Option Addr} {c : Nat} {l : List BlkD} (h : SlS N W A c l) (hb : Bel W W') : SlS N W' A c l := h.abv (Abv.of hb)
theorem SlS.down {N M : Nat} {W : World} {A : Option Addr} {c : Nat} {l : List BlkD} (h : SlS N W A c l) (hn : M ≤ N) : SlS M W A c l := fun W' h' => h W' (h'.up hn)
theorem SlS.nil (N : Nat) (W : World) (A : Option Addr) (c : Nat) (hc : c ≤ maxLen) : SlS N W A c [] := fun _ _ => ⟨Nat.zero_le _, hc, fun i hi => by simp at hi⟩
theorem slS_of {N M : Nat} {A0 W : World} (h : Abv M A0 W) (hn : N ≤ M) {A : Option Addr} {c : Nat} {l : List BlkD} (k : ∀ W', Abv M A0 W' → Sl BlkR 3 W' A c l) : SlS N W A c l := fun W' h' => k W' (h.trans (h'.up hn))
end Go.Proofs.Ytegdnmlpoglfeaa
