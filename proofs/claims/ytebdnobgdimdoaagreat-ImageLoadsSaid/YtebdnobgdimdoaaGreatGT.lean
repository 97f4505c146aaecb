/- slices.Clone at words and at blocks; what a memory of the call's own is. arena.own by its contract. arena.own: its walk. What arena.Put makes of a memory: plain; the laws on append that it needs. -/
import Derived.Test.YtebdnobgdimdoaaGreatGS
import Derived.ArgAppend
import Derived.Deep.RegionHeld3
import Derived.Deep.AppendLies
import Derived.Laws.AppendOwnNone
set_option linter.unusedVariables false
set_option linter.unusedSimpArgs false
namespace Go.Proofs.YtebdnobgdimdoaaGreat
open Go.RowKit
theorem info_word : (Tryz.prog.info? 133).map (fun i => (i.zero, i.size, i.bytes)) = some (some (.int .u64 0), 1, 8) := by kernel_rfl
theorem info_Block : (Tryz.prog.info? 144).map (fun i => (i.zero, i.size, i.bytes)) = some (some (.agg #[.int .i64 0, .int .i64 0, .slice none 0 0]), 3, 40) := by kernel_rfl
theorem flat_get {α : Type} (f : α → List Value) (k : Nat) (hk : ∀ x, (f x).length = k) : ∀ (zs : List α) (i j : Nat) (hi : i < zs.length), j < k → (zs.flatMap f)[i * k + j]? = (f zs[i])[j]?
  | [], i, j, hi, _ => by simp at hi
  | z :: zs, 0, j, hi, hj => by
    rw [List.flatMap_cons, Nat.zero_mul, Nat.zero_add, List.getElem?_append_left (by rw [hk]; exact hj)]
    rfl
  | z :: zs, i + 1, j, hi, hj => by
    rw [List.flatMap_cons, List.getElem?_append_right (by rw [hk, Nat.succ_mul]; omega), hk]
    have := flat_get f k hk zs i j (by simpa using hi) hj
    rw [show (i + 1) * k + j - k = i * k + j by rw [Nat.succ_mul]; omega, this]
    rfl
theorem flat_len {α : Type} (f : α → List Value) (k : Nat) (hk : ∀ x, (f x).length = k) : ∀ (zs : List α), (zs.flatMap f).length = zs.length * k
  | [] => by simp
  | z :: zs => by
    rw [List.flatMap_cons, List.length_append, hk, flat_len f k hk zs, List.length_cons, Nat.succ_mul, Nat.add_comm]
/-- What a row of the call's own tells, cell by cell. -/
theorem own_openK {w : World} {b : Nat} {e : TypeId} {s : Nat} {v : Value} {n : Nat} {xs : List Value} (h : w.ownsRow b e s v n xs) :
    (v = .slice none 0 0 ∧ n = 0) ∨ ∃ g c, v = .slice (some ⟨g, 0, none⟩) n c ∧ b ≤ g ∧ g < w.heap.size ∧ n ≤ c ∧ c ≤ maxLen ∧ (∀ i, w.frozen? ⟨g, i, none⟩ = false) ∧ ∀ j u, xs[j]? = some u → w.cell? ⟨g, j, none⟩ = some u := by
  obtain ⟨h1, h2⟩ := h
  rcases h2 with ⟨rfl, h2⟩ | ⟨g, cap, cur, rfl, hb, hh, hc, hm, hs, ht⟩
  · exact .inl ⟨rfl, h2⟩
  · refine .inr ⟨g, cap, rfl, hb, (Array.getElem?_eq_some_iff.1 hh).1, hc, hm, fun i => by simp [World.frozen?, hh], fun j u hj => ?_⟩
    rw [← ht, List.getElem?_take] at hj
    split at hj
    · rw [Array.getElem?_toList] at hj
      simp [World.cell?, hh, hj]
    · cases hj
/-- Words that lie in a block of the call's own. -/
structure OwnW (W : World) (g c : Nat) (ws : List Int) : Prop where
  le : ws.length ≤ c
  big : c ≤ maxLen
  cells : ∀ i, i < ws.length → W.cell? ⟨g, i, none⟩ = some (.int .u64 (ws.getD i 0))
  frz : ∀ i, W.frozen? ⟨g, i, none⟩ = false
  wf : ∀ i, i < ws.length → (Lit.int .u64 (ws.getD i 0)).wf = true
theorem OwnW.other {W W' : World} {g c : Nat} {ws : List Int} (h : OwnW W g c ws) (e : W'.heap[g]? = W.heap[g]?) : OwnW W' g c ws :=
  ⟨h.le, h.big, fun i hi => (World.cell?_of_block (a := ⟨g, i, none⟩) e).trans (h.cells i hi), fun i => (World.frozen?_of_block (a := ⟨g, i, none⟩) e).trans (h.frz i), h.wf⟩
theorem OwnW.sl {W : World} {g c : Nat} {ws : List Int} (h : OwnW W g c ws) : Sl (IntR .u64) 1 W (some ⟨g, 0, none⟩) c ws := by
  refine ⟨h.le, h.big, fun i hi => ⟨g, 0, [.int .u64 ws[i]], rfl, rfl, ⟨rfl, ?_⟩, fun j v hv => ?_⟩⟩
  · have := h.wf i hi
    rwa [List.getD_eq_getElem?_getD, List.getElem?_eq_getElem hi] at this
  · cases j with
    | zero =>
      simp only [List.getElem?_cons_zero, Option.some.injEq] at hv
      subst hv
      have := h.cells i hi
      rw [List.getD_eq_getElem?_getD, List.getElem?_eq_getElem hi] at this
      simpa using this
    | succ j => simp at hv
theorem OwnW.lt {W : World} {g c : Nat} {ws : List Int} (h : OwnW W g c ws) (hp : 0 < ws.length) : g < W.heap.size := World.block_lt_of_cell? _ _ (h.cells 0 hp)
theorem OwnW.set {W : World} {g c : Nat} {ws : List Int} (h : OwnW W g c ws) {k : Nat} (hk : k < ws.length) {x : Int} (hx : (Lit.int .u64 x).wf = true) : OwnW (W.setCell ⟨g, k, none⟩ (.int .u64 x)) g c (ws.set k x) := by
  refine ⟨by rw [List.length_set]; exact h.le, h.big, fun i hi => ?_, fun i => ?_, fun i hi => ?_⟩
  · rw [List.length_set] at hi
    rw [List.getD_eq_getElem?_getD, List.getElem?_set]
    by_cases e : k = i
    · subst e
      rw [if_pos rfl, if_pos hk]
      exact World.cell?_setCell_same _ _ _ (h.cells k hk)
    · rw [if_neg e, World.cell?_setCell_other _ _ _ _ (by simp only [ne_eq, Addr.mk.injEq, true_and, and_true]; exact e), h.cells i hi, List.getD_eq_getElem?_getD]
  · rw [World.frozen?_setCell]
    exact h.frz i
  · rw [List.length_set] at hi
    rw [List.getD_eq_getElem?_getD, List.getElem?_set]
    by_cases e : k = i
    · subst e
      rw [if_pos rfl, if_pos hk]
      exact hx
    · rw [if_neg e, ← List.getD_eq_getElem?_getD]
      exact h.wf i hi
def u64s (l : List Int) : List Value := l.map (Value.int .u64)
theorem u64s_one (l : List Int) : ∀ u ∈ u64s l, u.oneCell' = true := by
  intro u hu
  obtain ⟨x, _, rfl⟩ := List.mem_map.1 hu
  rfl
set_option maxHeartbeats 1000000 in
set_option maxRecDepth 100000 in
/-- slices.Clone at words. -/
theorem cloneW_any (A : Option Addr) (n c : Nat) (ws : List Int) (w : World) (h : Sl (IntR .u64) 1 w A c ws) (hn : Hid (ws.length = n)) (hp : Hid (0 < n ∧ n ≤ 4096)) :
    Calls Tryz.prog 108 #[.slice A n c] w fun e w' => ∃ g c', e = .returned (.slice (some ⟨g, 0, none⟩) n c') ∧ w.heap.size ≤ g ∧ g < w'.heap.size ∧ OwnW w' g c' ws ∧ Bel w w' := by
  obtain ⟨b, off, rfl, hc⟩ := h.int_cell (by rw [hn.out]; exact hp.out.1)
  have HC : Hid (∀ j u, (u64s ws)[j]? = some u → (w.alloc (.cells #[] 133)).cell? ((⟨b, off, none⟩ : Addr).add j) = some u) := Lib.hid (by
    intro j u hu
    have hj : j < ws.length := by
      have := (List.getElem?_eq_some_iff.1 hu).1
      simpa [u64s] using this
    have e1 : (u64s ws)[j]? = some (.int .u64 (ws.getD j 0)) := by
      simp [u64s, List.getElem?_eq_getElem hj, List.getD_eq_getElem?_getD]
    rw [e1] at hu
    rw [← Option.some.inj hu, Addr.add_lit]
    exact ((Bel.refl w).alloc _).cell (hc j hj).1)
  have HWF : Hid (∀ i, i < ws.length → (Lit.int .u64 (ws.getD i 0)).wf = true) := Lib.hid fun i hi => (hc i hi).2
  have HL : Hid ((u64s ws).length = n * 1) := Lib.hid (by simp [u64s, hn.out])
  clear hc h
  have hq : ∀ (w : World) (a : Option Addr) (n c n' c' : Nat), (binOp .eql 74 (.slice a n c) (.slice none n' c')).run Tryz.prog w = .ok (.bool a.isNone) w := fun w a n c n' c' => Lib.run_eql_slice_nil w _ _ a n c n' c' Tryz.underlying74
  have hp2 := hp.out.2
  go_enter Tryz.func108, Tryz.ntmps108
  go_wp2_with (refine at_append w.heap.size 133 (.int .u64 0) 1 8 Tryz.underlying74 info_word rfl (by decide) (.slice (some ⟨w.heap.size, 0, none⟩) 0 0) 0 [] (by rfl) (World.ownsRow_made w #[] 0 (Nat.le_refl _) (Nat.zero_le _) rfl) ⟨b, off, none⟩ n c (u64s ws) (by rfl) HL.out HC.out (u64s_one _) (by simp only [maxLen]; omega) (by omega) (by simp) w (Nat.le_refl _) ((Bel.refl w).alloc _) rfl ?_; intro v' w' o1 g1 b1 at1)
  have o2 := own_openK o1
  rw [Nat.zero_add] at o2
  rcases o2 with ⟨rfl, h0⟩ | ⟨g, c', rfl, hg1, hg2, hc1, hc2, hfz, hcl⟩
  · have := hp.out.1; omega
  clear o1 g1 at1
  have HB := Lib.hid b1
  have HG := Lib.hid hcl
  clear b1 hcl hp2
  go_wp2
  go_ret
  refine ⟨g, c', rfl, hg1, hg2, ⟨by rw [hn.out]; exact hc1, hc2, fun i hi => ?_, hfz, HWF.out⟩, HB.out⟩
  refine HG.out i _ ?_
  rw [List.nil_append]
  simp [u64s, List.getElem?_eq_getElem hi, List.getD_eq_getElem?_getD]
/-- Blocks that lie in a block of the call's own, their words where they were. -/
structure RowB (b0 : Nat) (W : World) (D c : Nat) (l : List BlkD) (A : Nat → Option Addr) (cc : Nat → Nat) : Prop where
  D0 : b0 ≤ D
  lt : D < W.heap.size
  le : l.length ≤ c
  big : c ≤ maxLen
  frz : ∀ i, W.frozen? ⟨D, i, none⟩ = false
  cells : ∀ i, i < l.length → W.cell? ⟨D, i * 3, none⟩ = some (.int .i64 (l[i]!).id) ∧ W.cell? ⟨D, i * 3 + 1, none⟩ = some (.int .i64 (l[i]!).at') ∧ W.cell? ⟨D, i * 3 + 2, none⟩ = some (.slice (A i) (l[i]!).w.length (cc i))
theorem BlkX.cells_len {w : World} (x : BlkX w) : x.cells.length = 3 := rfl
theorem BlkX.one {w : World} (zs : List (BlkX w)) : ∀ u ∈ zs.flatMap BlkX.cells, u.oneCell' = true := by
  intro u hu
  obtain ⟨x, _, hx⟩ := List.mem_flatMap.1 hu
  simp only [BlkX.cells, List.mem_cons, List.not_mem_nil, or_false] at hx
  rcases hx with rfl | rfl | rfl <;> rfl
set_option maxHeartbeats 1000000 in
set_option maxRecDepth 100000 in
/-- slices.Clone at blocks. -/
theorem cloneB_any (b off n c : Nat) (l : List BlkD) (w0 w : World) (hb0 : Hid (Bel w0 w)) (h : Sl BlkR 3 w0 (some ⟨b, off, none⟩) c l) (hn : Hid (l.length = n)) (hp : Hid (0 < n ∧ n ≤ 4096)) :
    Calls Tryz.prog 112 #[.slice (some ⟨b, off, none⟩) n c] w fun e w' => ∃ D c' A cc, e = .returned (.slice (some ⟨D, 0, none⟩) n c') ∧ RowB w.heap.size w' D c' l A cc ∧ (∀ i, i < l.length → Sl (IntR .u64) 1 w0 (A i) (cc i) (l[i]!).w) ∧ Bel w w' := by
  obtain ⟨zs, hz, hcs⟩ := h.blks
  have hzl : zs.length = n := by rw [← hn.out, ← hz]; simp
  have hfl := flat_len BlkX.cells 3 BlkX.cells_len zs
  rw [hzl] at hfl
  have HC : Hid (∀ j u, (zs.flatMap BlkX.cells)[j]? = some u → (w.alloc (.cells #[] 144)).cell? ((⟨b, off, none⟩ : Addr).add j) = some u) := Lib.hid (by
    intro j u hu
    have hj : j < n * 3 := by rw [← hfl]; exact (List.getElem?_eq_some_iff.1 hu).1
    have hi : j / 3 < zs.length := by rw [hzl]; omega
    have e := flat_get BlkX.cells 3 BlkX.cells_len zs (j / 3) (j % 3) hi (Nat.mod_lt _ (by decide))
    rw [show j / 3 * 3 + j % 3 = j by omega, hu] at e
    rw [Addr.add_lit]
    have := hcs (j / 3) hi (j % 3) u (by rw [getElem!_pos zs _ hi]; exact e.symm)
    rw [show off + j / 3 * 3 + j % 3 = off + j by omega] at this
    exact (hb0.out.alloc _).cell this)
  have HZ : Hid (zs.map BlkX.b = l) := Lib.hid hz
  have HL := Lib.hid hfl
  have HZL := Lib.hid hzl
  clear hcs h hz hfl hzl
  have hq : ∀ (w : World) (a : Option Addr) (n c n' c' : Nat), (binOp .eql 77 (.slice a n c) (.slice none n' c')).run Tryz.prog w = .ok (.bool a.isNone) w := fun w a n c n' c' => Lib.run_eql_slice_nil w _ _ a n c n' c' Tryz.underlying77
  have hp2 := hp.out.2
  go_enter Tryz.func112, Tryz.ntmps112
  go_wp2_with (refine at_append w.heap.size 144 (.agg #[.int .i64 0, .int .i64 0, .slice none 0 0]) 3 40 Tryz.underlying77 info_Block rfl (by decide) (.slice (some ⟨w.heap.size, 0, none⟩) 0 0) 0 [] (by rfl) (World.ownsRow_made w #[] 0 (Nat.le_refl _) (Nat.zero_le _) rfl) ⟨b, off, none⟩ n c (zs.flatMap BlkX.cells) (by rfl) HL.out HC.out (BlkX.one zs) (by simp only [maxLen]; omega) (by omega) (by simp) w (Nat.le_refl _) ((Bel.refl w).alloc _) rfl ?_; intro v' w' o1 g1 b1 at1)
  have o2 := own_openK o1
  rw [Nat.zero_add] at o2
  rcases o2 with ⟨rfl, h0⟩ | ⟨g, c', rfl, hg1, hg2, hc1, hc2, hfz, hcl⟩
  · have := hp.out.1; omega
  clear o1 g1 at1
  have HB := Lib.hid b1
  have HG := Lib.hid hcl
  have HF := Lib.hid hfz
  clear b1 hcl hp2 hfz
  go_wp2
  go_ret
  have hb : ∀ i (hi : i < l.length), (zs[i]!).b = l[i]! := by
    intro i hi
    have hi' : i < zs.length := by rw [HZL.out, ← hn.out]; exact hi
    have e : l[i]? = some (zs[i]'hi').b := by rw [← HZ.out]; simp [hi']
    rw [getElem!_pos zs i hi', List.getElem!_eq_getElem?_getD, e]
    rfl
  have hcell : ∀ i (hi : i < l.length) j v, (BlkX.cells zs[i]!)[j]? = some v → w'.cell? ⟨g, i * 3 + j, none⟩ = some v := by
    intro i hi j v hv
    have hi' : i < zs.length := by rw [HZL.out, ← hn.out]; exact hi
    refine HG.out _ _ ?_
    rw [List.nil_append, flat_get BlkX.cells 3 BlkX.cells_len zs i j hi' ?_, ← getElem!_pos zs i hi']
    · exact hv
    · exact (List.getElem?_eq_some_iff.1 hv).1
  refine ⟨g, c', fun i => (zs[i]!).A, fun i => (zs[i]!).c, rfl, ⟨hg1, hg2, by rw [hn.out]; exact hc1, hc2, HF.out, fun i hi => ?_⟩, fun i hi => ?_, HB.out⟩
  · have e0 := hcell i hi 0 _ rfl
    have e1 := hcell i hi 1 _ rfl
    have e2 := hcell i hi 2 _ rfl
    rw [hb i hi] at e0 e1 e2
    exact ⟨e0, e1, e2⟩
  · rw [← hb i hi]
    exact (zs[i]!).sl
set_option maxHeartbeats 1000000 in
set_option maxRecDepth 100000 in
/-- slices.Clone at no blocks. -/
theorem cloneB_zero (A : Option Addr) (c : Nat) (w : World) :
    Calls Tryz.prog 112 #[.slice A 0 c] w fun e w' => ∃ A' c', e = .returned (.slice A' 0 c') ∧ ((A' = none ∧ c' = 0) ∨ ∃ D, A' = some ⟨D, 0, none⟩ ∧ w.heap.size ≤ D ∧ D < w'.heap.size ∧ c' ≤ maxLen ∧ ∀ i, w'.frozen? ⟨D, i, none⟩ = false) ∧ Bel w w' := by
  have hq : ∀ (w : World) (a : Option Addr) (n c n' c' : Nat), (binOp .eql 77 (.slice a n c) (.slice none n' c')).run Tryz.prog w = .ok (.bool a.isNone) w := fun w a n c n' c' => Lib.run_eql_slice_nil w _ _ a n c n' c' Tryz.underlying77
  cases A with
  | none =>
    go_enter Tryz.func112, Tryz.ntmps112
    go_wp2
    go_ret
    exact ⟨none, 0, rfl, .inl ⟨rfl, rfl⟩, Bel.refl _⟩
  | some a =>
    go_enter Tryz.func112, Tryz.ntmps112
    go_wp2_with (refine at_append w.heap.size 144 (.agg #[.int .i64 0, .int .i64 0, .slice none 0 0]) 3 40 Tryz.underlying77 info_Block rfl (by decide) (.slice (some ⟨w.heap.size, 0, none⟩) 0 0) 0 [] (by rfl) (World.ownsRow_made w #[] 0 (Nat.le_refl _) (Nat.zero_le _) rfl) a 0 c [] (by rfl) (by rfl) (by intro j u hu; simp at hu) (by intro u hu; cases hu) (by simp only [maxLen]; omega) (by omega) (by simp) w (Nat.le_refl _) ((Bel.refl w).alloc _) rfl ?_; intro v' w' o1 g1 b1 at1)
    rcases own_openK o1 with ⟨rfl, h0⟩ | ⟨g, c', rfl, hg1, hg2, hc1, hc2, hfz, -⟩
    · clear o1 g1 at1
      go_wp2
      go_ret
      exact ⟨none, 0, rfl, .inl ⟨rfl, rfl⟩, b1⟩
    · clear o1 g1 at1
      have HF := Lib.hid hfz
      clear hfz
      go_wp2
      go_ret
      exact ⟨_, c', rfl, .inr ⟨g, rfl, hg1, hg2, hc2, HF.out⟩, b1⟩
end Go.Proofs.YtebdnobgdimdoaaGreat
set_option linter.unusedVariables false
set_option linter.unusedSimpArgs false
namespace Go.Proofs.YtebdnobgdimdoaaGreat
open Go.RowKit
/-- Blocks of the call's own: k of them have words of its own too; the words of the others are w0's. -/
structure OwnB (w0 W : World) (D c : Nat) (l : List BlkD) (k : Nat) (A : Nat → Option Addr) (cc : Nat → Nat) : Prop where
  row : RowB w0.heap.size W D c l A cc
  rest : ∀ i, i < l.length → k ≤ i → Sl (IntR .u64) 1 w0 (A i) (cc i) (l[i]!).w
  own : ∀ i, i < l.length → i < k → ∃ g, A i = some ⟨g, 0, none⟩ ∧ w0.heap.size ≤ g ∧ g < W.heap.size ∧ g ≠ D ∧ OwnW W g (cc i) (l[i]!).w
  ne : ∀ i j, i < j → j < l.length → j < k → A i ≠ A j
theorem RowB.other {b0 : Nat} {W W' : World} {D c : Nat} {l : List BlkD} {A : Nat → Option Addr} {cc : Nat → Nat} (h : RowB b0 W D c l A cc) (e : W'.heap[D]? = W.heap[D]?) (hs : W.heap.size ≤ W'.heap.size) : RowB b0 W' D c l A cc :=
  ⟨h.D0, Nat.lt_of_lt_of_le h.lt hs, h.le, h.big, fun i => (World.frozen?_of_block (a := ⟨D, i, none⟩) e).trans (h.frz i), fun i hi => by
    obtain ⟨a, b, c⟩ := h.cells i hi
    exact ⟨(World.cell?_of_block (a := ⟨D, _, none⟩) e).trans a, (World.cell?_of_block (a := ⟨D, _, none⟩) e).trans b, (World.cell?_of_block (a := ⟨D, _, none⟩) e).trans c⟩⟩
theorem OwnB.other {w0 W W' : World} {D c : Nat} {l : List BlkD} {k : Nat} {A : Nat → Option Addr} {cc : Nat → Nat} (h : OwnB w0 W D c l k A cc) (e : ∀ g, w0.heap.size ≤ g → g < W.heap.size → (g = D ∨ ∃ i, i < k ∧ i < l.length ∧ A i = some ⟨g, 0, none⟩) → W'.heap[g]? = W.heap[g]?) (hs : W.heap.size ≤ W'.heap.size) : OwnB w0 W' D c l k A cc :=
  ⟨h.row.other (e D h.row.D0 h.row.lt (.inl rfl)) hs, h.rest, fun i hi hk => by
    obtain ⟨g, e1, e2, e3, e4, e5⟩ := h.own i hi hk
    exact ⟨g, e1, e2, Nat.lt_of_lt_of_le e3 hs, e4, e5.other (e g e2 e3 (.inr ⟨i, hk, hi, e1⟩))⟩, h.ne⟩
theorem OwnB.bel {w0 W W' : World} {D c : Nat} {l : List BlkD} {k : Nat} {A : Nat → Option Addr} {cc : Nat → Nat} (h : OwnB w0 W D c l k A cc) (hb : Bel W W') : OwnB w0 W' D c l k A cc := h.other (fun g _ hg _ => hb.out.block g hg) hb.size
theorem setCell_heap_ne (W : World) {p : Addr} {k : Nat} (v : Value) (h : k ≠ p.block) : (W.setCell p v).heap[k]? = W.heap[k]? := Below.heap_setCell _ _ _ _ h
theorem setCell_size (W : World) (p : Addr) (v : Value) : (W.setCell p v).heap.size = W.heap.size := Array.size_modify
theorem OwnB.step {w0 W : World} {D c : Nat} {l : List BlkD} {k : Nat} {A : Nat → Option Addr} {cc : Nat → Nat} (h : OwnB w0 W D c l k A cc) (hk : k < l.length) {g cg : Nat} (hg0 : w0.heap.size ≤ g) (hgD : g ≠ D) (hgW : g < W.heap.size) (hnew : ∀ i, i < l.length → i < k → A i ≠ some ⟨g, 0, none⟩) (hw : OwnW W g cg (l[k]!).w) :
    OwnB w0 (W.setCell ⟨D, k * 3 + 2, none⟩ (.slice (some ⟨g, 0, none⟩) (l[k]!).w.length cg)) D c l (k + 1) (fun i => if i = k then some ⟨g, 0, none⟩ else A i) (fun i => if i = k then cg else cc i) := by
  have hne : ∀ i, i ≠ k → (if i = k then some (⟨g, 0, none⟩ : Addr) else A i) = A i := fun i hi => if_neg hi
  have hne2 : ∀ i, i ≠ k → (if i = k then cg else cc i) = cc i := fun i hi => if_neg hi
  have oth : ∀ q v, q ≠ k * 3 + 2 → (W.setCell ⟨D, k * 3 + 2, none⟩ v).cell? ⟨D, q, none⟩ = W.cell? ⟨D, q, none⟩ := fun q v hq => World.cell?_setCell_other _ _ _ _ (by simp only [ne_eq, Addr.mk.injEq, true_and, and_true]; omega)
  refine ⟨⟨h.row.D0, by rw [setCell_size]; exact h.row.lt, h.row.le, h.row.big, fun i => by rw [World.frozen?_setCell]; exact h.row.frz i, fun i hi => ?_⟩, fun i hi hki => ?_, fun i hi hki => ?_, fun i j hij hj hjk => ?_⟩
  · obtain ⟨a, b, d⟩ := h.row.cells i hi
    by_cases e : i = k
    · subst e
      refine ⟨by rw [oth _ _ (by omega)]; exact a, by rw [oth _ _ (by omega)]; exact b, ?_⟩
      simp only [if_true]
      exact World.cell?_setCell_same _ _ _ d
    · simp only [if_neg e]
      exact ⟨by rw [oth _ _ (by omega)]; exact a, by rw [oth _ _ (by omega)]; exact b, by rw [oth _ _ (by omega)]; exact d⟩
  · simp only [if_neg (show i ≠ k by omega)]
    exact h.rest i hi (by omega)
  · by_cases e : i = k
    · subst e
      simp only [if_true]
      exact ⟨g, rfl, hg0, by rw [setCell_size]; exact hgW, hgD, hw.other (setCell_heap_ne _ _ hgD)⟩
    · simp only [if_neg e]
      obtain ⟨g', e1, e2, e3, e4, e5⟩ := h.own i hi (by omega)
      exact ⟨g', e1, e2, by rw [setCell_size]; exact e3, e4, e5.other (setCell_heap_ne _ _ e4)⟩
  · simp only [if_neg (show i ≠ k by omega)]
    by_cases e : j = k
    · subst e
      simp only [if_true]
      exact hnew i (by omega) hij
    · simp only [if_neg e]
      exact h.ne i j hij hj (by omega)
/-- What is of the call's own reads as the same blocks. -/
theorem OwnB.sl {w0 W : World} {D c : Nat} {l : List BlkD} {A : Nat → Option Addr} {cc : Nat → Nat} (h : OwnB w0 W D c l l.length A cc) (hwf : ∀ i, i < l.length → (Lit.int .i64 (l[i]!).id).wf = true ∧ (Lit.int .i64 (l[i]!).at').wf = true) : Sl BlkR 3 W (some ⟨D, 0, none⟩) c l := by
  refine ⟨h.row.le, h.row.big, fun i hi => ?_⟩
  obtain ⟨a, b, d⟩ := h.row.cells i hi
  obtain ⟨g, e1, e2, e3, e4, e5⟩ := h.own i hi hi
  have hl : l[i]! = l[i] := getElem!_pos l i hi
  obtain ⟨f1, f2⟩ := hwf i hi
  refine ⟨D, 0, [.int .i64 (l[i]!).id, .int .i64 (l[i]!).at', .slice (A i) (l[i]!).w.length (cc i)], rfl, rfl, ⟨A i, cc i, by rw [hl], ?_, by rw [← hl]; exact f1, by rw [← hl]; exact f2⟩, fun j v hv => ?_⟩
  · rw [e1, ← hl]
    exact e5.sl
  · match j, hv with
    | 0, hv => simp only [List.getElem?_cons_zero, Option.some.injEq] at hv; subst hv; simpa using a
    | 1, hv => simp only [List.getElem?_cons_succ, List.getElem?_cons_zero, Option.some.injEq] at hv; subst hv; simpa using b
    | 2, hv => simp only [List.getElem?_cons_succ, List.getElem?_cons_zero, Option.some.injEq] at hv; subst hv; simpa using d
    | j + 3, hv => simp at hv
/-- A block that holds just these cells. -/
def Blk (W : World) (B : Nat) (t : TypeId) (cs : Array Value) : Prop := W.heap[B]? = some (.cells cs t (0, 0))
theorem Blk.lt {W : World} {B : Nat} {t : TypeId} {cs : Array Value} (h : Blk W B t cs) : B < W.heap.size := (Array.getElem?_eq_some_iff.1 h).1
theorem Blk.cell {W : World} {B : Nat} {t : TypeId} {cs : Array Value} (h : Blk W B t cs) (k : Nat) {v : Value} (e : cs[k]? = some v) : W.cell? ⟨B, k, none⟩ = some v := by simp [World.cell?, show W.heap[B]? = _ from h, e]
theorem Blk.frozen {W : World} {B : Nat} {t : TypeId} {cs : Array Value} (h : Blk W B t cs) (k : Nat) : W.frozen? ⟨B, k, none⟩ = false := by simp [World.frozen?, show W.heap[B]? = _ from h]
theorem Blk.new (W : World) (t : TypeId) (cs : Array Value) : Blk (W.alloc (.cells cs t)) W.heap.size t cs := World.alloc_heap_new W _
theorem Blk.bel {W W' : World} {B : Nat} {t : TypeId} {cs : Array Value} (h : Blk W B t cs) (hb : Bel W W') : Blk W' B t cs := (hb.out.block B h.lt).trans h
theorem Blk.alloc {W : World} {B : Nat} {t : TypeId} {cs : Array Value} (h : Blk W B t cs) (o : Obj) : Blk (W.alloc o) B t cs := h.bel ((Bel.refl W).alloc o)
theorem Blk.set {W : World} {B : Nat} {t : TypeId} {cs : Array Value} (h : Blk W B t cs) (k : Nat) (v : Value) : Blk (W.setCell ⟨B, k, none⟩ v) B t (cs.setIfInBounds k v) := by
  show (W.setCell ⟨B, k, none⟩ v).heap[B]? = _
  have hh : W.heap[B]? = some (.cells cs t (0, 0)) := h
  simp [World.setCell, Array.getElem?_modify, hh]
theorem Blk.other {W : World} {B : Nat} {t : TypeId} {cs : Array Value} (h : Blk W B t cs) {p : Addr} (hp : B ≠ p.block) (v : Value) : Blk (W.setCell p v) B t cs := (setCell_heap_ne W v hp).trans h
/-- What a round of own's loop knows. -/
structure OwnI (w0 : World) (B : Nat) (cap : Int) (D c n : Nat) (l : List BlkD) (k : Nat) (W : World) : Prop where
  bel : Bel w0 W
  bm : Blk W B 79 #[.int .i64 cap, .slice (some ⟨D, 0, none⟩) n c]
  br : Blk W (B + 1) 79 #[.int .i64 0, .slice none 0 0]
  own : ∃ A cc, OwnB w0 W D c l k A cc ∧ ∀ i, i < l.length → i < k → ∀ g, A i = some ⟨g, 0, none⟩ → B + 1 < g
theorem OwnI.next {w0 : World} {B : Nat} {cap : Int} {D c n : Nat} {l : List BlkD} {k : Nat} {W W' : World} (h : OwnI w0 B cap D c n l k W) (hBD : B ≠ D) (hBD1 : B + 1 ≠ D) (hk : k < l.length) (hb : Bel W W') {g cg : Nat} (hg : W.heap.size ≤ g) (hg2 : g < W'.heap.size) (hw : OwnW W' g cg (l[k]!).w) :
    OwnI w0 B cap D c n l (k + 1) (W'.setCell ⟨D, k * 3 + 2, none⟩ (.slice (some ⟨g, 0, none⟩) (l[k]!).w.length cg)) := by
  obtain ⟨A, cc, ho, hgt⟩ := h.own
  have hD := ho.row.lt
  have hB := h.br.lt
  have hw0 := h.bel.size
  refine ⟨(h.bel.trans hb).setCell (p := ⟨D, k * 3 + 2, none⟩) ho.row.D0 _, (h.bm.bel hb).other hBD _, (h.br.bel hb).other hBD1 _, _, _, (ho.bel hb).step hk (by omega) (by omega) hg2 (fun i hi hik e => ?_) hw, fun i hi hik g' e => ?_⟩
  · obtain ⟨g', e1, e2, e3, -⟩ := ho.own i hi hik
    rw [e1] at e
    have : g' = g := by cases e; rfl
    omega
  · by_cases ei : i = k
    · subst ei
      simp only [if_true] at e
      have : g = g' := by simpa using e
      omega
    · simp only [if_neg ei] at e
      exact hgt i hi (by omega) g' e
end Go.Proofs.YtebdnobgdimdoaaGreat
set_option linter.unusedVariables false
set_option linter.unusedSimpArgs false
namespace Go.Proofs.YtebdnobgdimdoaaGreat
open Go.RowKit
/-- Two cells hold these values. -/
structure Two (a1 a2 : Addr) (v x : Value) (w' : World) : Prop where
  c1 : w'.cell? a1 = some v
  c2 : w'.cell? a2 = some x
theorem Two.bel {a1 a2 : Addr} {v x : Value} {w' w'' : World} (h : Two a1 a2 v x w') (hb : Bel w' w'') : Two a1 a2 v x w'' := ⟨hb.cell h.c1, hb.cell h.c2⟩
theorem Two.set {a1 a2 : Addr} {v x : Value} {w' : World} (h : Two a1 a2 v x w') {p : Addr} (h1 : a1.block ≠ p.block) (h2 : a2.block ≠ p.block) (y : Value) : Two a1 a2 v x (w'.setCell p y) :=
  ⟨(World.cell?_of_block (setCell_heap_ne w' y h1)).trans h.c1, (World.cell?_of_block (setCell_heap_ne w' y h2)).trans h.c2⟩
set_option maxRecDepth 100000 in
set_option maxHeartbeats 4000000 in
theorem own_some (cap : Int) (b off n c : Nat) (l : List BlkD) (w : World) (h : Sl BlkR 3 w (some ⟨b, off, none⟩) c l) (hn : Hid (l.length = n)) (hp : Hid (0 < n ∧ n ≤ 4096)) (hws : Hid (∀ i, i < l.length → 0 < (l[i]!).w.length ∧ (l[i]!).w.length ≤ 4096)) :
    Calls Tryz.prog 67 #[.agg #[.int .i64 cap, .slice (some ⟨b, off, none⟩) n c]] w fun e w' => ∃ D c' A cc, e = .returned (.agg #[.int .i64 cap, .slice (some ⟨D, 0, none⟩) n c']) ∧ OwnB w w' D c' l n A cc ∧ Bel w w' := by
  have HS := Lib.hid h
  clear h
  have bM0 := Blk.new w 79 #[.int .i64 cap, .slice (some ⟨b, off, none⟩) n c]
  have bR0 := Blk.new (w.alloc (.cells #[.int .i64 cap, .slice (some ⟨b, off, none⟩) n c] 79)) 79 #[.int .i64 0, .slice none 0 0]
  rw [World.size_alloc] at bR0
  have bM1 := bM0.alloc (.cells #[.int .i64 0, .slice none 0 0] 79)
  have HBa := Lib.hid (((Bel.refl w).alloc (.cells #[.int .i64 cap, .slice (some ⟨b, off, none⟩) n c] 79)).alloc (.cells #[.int .i64 0, .slice none 0 0] 79))
  have hsz : ((w.alloc (.cells #[.int .i64 cap, .slice (some ⟨b, off, none⟩) n c] 79)).alloc (.cells #[.int .i64 0, .slice none 0 0] 79)).heap.size = w.heap.size + 2 := by simp
  have hn4 : n ≤ 4096 := hp.out.2
  go_enter Tryz.func67, Tryz.ntmps67
  go_wp2_with fail
  generalize (w.alloc (.cells #[.int .i64 cap, .slice (some ⟨b, off, none⟩) n c] 79)).alloc (.cells #[.int .i64 0, .slice none 0 0] 79) = W1 at *
  refine (cloneB_any b off n c l w _ HBa HS.out hn hp).mono ?_
  rintro e w1 ⟨D, c', A, cc, rfl, hrow, hsl, hb1⟩
  have bM := bM1.bel hb1
  have bR := bR0.bel hb1
  have HB1 := HBa.out.trans hb1
  have hDge := hrow.D0
  rw [hsz] at hDge
  obtain ⟨B, hB⟩ : ∃ B, w.heap.size = B := ⟨_, rfl⟩
  have HI : Hid (OwnI w B cap D c' n l 0 (w1.setCell ⟨B, 1, none⟩ (.slice (some ⟨D, 0, none⟩) n c'))) := Lib.hid (by
    rw [hB] at bM bR
    refine ⟨HB1.setCell (p := ⟨B, 1, none⟩) (by simp only; omega) _, bM.set 1 _, bR.other (by simp) _, A, cc, ?_, fun i _ h => absurd h (Nat.not_lt_zero _)⟩
    refine OwnB.other (W := w1) ⟨⟨by omega, hrow.lt, hrow.le, hrow.big, hrow.frz, hrow.cells⟩, fun i hi _ => hsl i hi, fun i _ h => absurd h (Nat.not_lt_zero _), fun i j _ _ h => absurd h (Nat.not_lt_zero _)⟩ (fun g hg0 hg1 ho => ?_) (by rw [setCell_size]; exact Nat.le_refl _)
    refine setCell_heap_ne _ _ ?_
    rcases ho with rfl | ⟨i, hi, -⟩
    · simp only; omega
    · omega)
  rw [hB] at bM bR ⊢
  have q0 : w1.cell? ⟨B, 0, none⟩ = some (.int .i64 cap) := bM.cell 0 rfl
  have q1 : w1.cell? ⟨B, 1, none⟩ = some (.slice (some ⟨b, off, none⟩) n c) := bM.cell 1 rfl
  have f1 := bM.frozen 1
  clear bM bR bM0 bR0 bM1 hrow hsl hb1 HB1
  have hq0 : w1.cell? ⟨B, 0, none⟩ = some (.int .i64 cap) := q0
  go_wp2_with fail
  generalize w1.setCell ⟨B, 1, none⟩ (.slice (some ⟨D, 0, none⟩) n c') = W2 at *
  clear q0 q1 f1 hq0
  go_loopw [12] (fun kv wr => ∃ k : Nat, kv = .int .i64 k ∧ k ≤ n ∧ OwnI w B cap D c' n l k wr) (fun kv _ => n - (intOf kv).toNat)
  case atStart => exact ⟨0, rfl, Nat.zero_le _, HI.out⟩
  case round =>
    obtain ⟨k, rfl, hk, hI⟩ := hrel
    have HIK := Lib.hid hI
    have q0 : wr.cell? ⟨B, 0, none⟩ = some (.int .i64 cap) := hI.bm.cell 0 rfl
    have q1 : wr.cell? ⟨B, 1, none⟩ = some (.slice (some ⟨D, 0, none⟩) n c') := hI.bm.cell 1 rfl
    have r0 : wr.cell? ⟨B + 1, 0, none⟩ = some (.int .i64 0) := hI.br.cell 0 rfl
    have r1 : wr.cell? ⟨B + 1, 1, none⟩ = some (.slice none 0 0) := hI.br.cell 1 rfl
    have fr0 := hI.br.frozen 0
    have fr1 := hI.br.frozen 1
    have hBlt := hI.br.lt
    obtain ⟨A', cc', hO, hgt⟩ := hI.own
    have hDlt := hO.row.lt
    by_cases hkn : k = n
    · subst hkn
      have hfin : Blk ((wr.setCell ⟨B + 1, 0, none⟩ (.int .i64 cap)).setCell ⟨B + 1, 1, none⟩ (.slice (some ⟨D, 0, none⟩) k c')) (B + 1) 79 #[.int .i64 cap, .slice (some ⟨D, 0, none⟩) k c'] := (hI.br.set 0 _).set 1 _
      have e0 : ((wr.setCell ⟨B + 1, 0, none⟩ (.int .i64 cap)).setCell ⟨B + 1, 1, none⟩ (.slice (some ⟨D, 0, none⟩) k c')).cell? ⟨B + 1, 0, none⟩ = some (.int .i64 cap) := hfin.cell 0 rfl
      have e1 : ((wr.setCell ⟨B + 1, 0, none⟩ (.int .i64 cap)).setCell ⟨B + 1, 1, none⟩ (.slice (some ⟨D, 0, none⟩) k c')).cell? ⟨B + 1, 1, none⟩ = some (.slice (some ⟨D, 0, none⟩) k c') := hfin.cell 1 rfl
      have E0 := Lib.hid e0
      have E1 := Lib.hid e1
      have HFIN : Hid (OwnB w ((wr.setCell ⟨B + 1, 0, none⟩ (.int .i64 cap)).setCell ⟨B + 1, 1, none⟩ (.slice (some ⟨D, 0, none⟩) k c')) D c' l k A' cc' ∧ Bel w ((wr.setCell ⟨B + 1, 0, none⟩ (.int .i64 cap)).setCell ⟨B + 1, 1, none⟩ (.slice (some ⟨D, 0, none⟩) k c'))) := Lib.hid ⟨hO.other (fun g hg0 hg1 ho => by
        have hne : g ≠ B + 1 := by
          rcases ho with rfl | ⟨i, hi, hil, e⟩
          · omega
          · have := hgt i hil hi g e; omega
        exact (setCell_heap_ne _ _ hne).trans (setCell_heap_ne _ _ hne)) (by rw [setCell_size, setCell_size]; exact Nat.le_refl _), (hI.bel.setCell (p := ⟨B + 1, 0, none⟩) (by simp only; omega) _).setCell (p := ⟨B + 1, 1, none⟩) (by simp only; omega) _⟩
      clear hfin e0 e1 hO hI hgt
      go_wp2_with fail
      refine bodyPost_ret (v := .agg #[.int .i64 cap, .slice (some ⟨D, 0, none⟩) k c']) ?_ rfl ⟨D, c', A', cc', rfl, HFIN.out.1, HFIN.out.2⟩
      have e0 := E0.out
      have e1 := E1.out
      simp [results, Tryz.results67, go_sem, e0, e1]
    · have hk1 : k < n := by omega
      have hk2 : (k : Int) < n := by omega
      have k0 : 0 ≤ (k : Int) := by omega
      have HKL : Hid (k < l.length) := Lib.hid (by rw [hn.out]; exact hk1)
      have HEK : Hid (IntKind.i64.wrap ((k : Int) + 1) = (k : Int) + 1) := Lib.hid (wrap_i64 (by omega) (by omega))
      obtain ⟨d0, d1, d2⟩ := hO.row.cells k HKL.out
      have fd := hO.row.frz (k * 3 + 2)
      have HSW := Lib.hid (hO.rest k HKL.out (Nat.le_refl _))
      obtain ⟨lo, hi⟩ := hws.out k HKL.out
      obtain ⟨ws, hwsk⟩ : ∃ ws, Hid ((l[k]!).w = ws) := ⟨_, Lib.hid rfl⟩
      rw [hwsk.out] at d2 HSW lo hi
      obtain ⟨m, hm⟩ : ∃ m, Hid (ws.length = m) := ⟨_, Lib.hid rfl⟩
      rw [hm.out] at d2 lo hi
      have HM : Hid (0 < m ∧ m ≤ 4096) := Lib.hid ⟨lo, hi⟩
      generalize (l[k]!).id = id at *
      generalize (l[k]!).at' = a at *
      generalize A' k = Ak at *
      generalize cc' k = ck at *
      clear hkn hI lo hi
      have g2 : (wr.alloc (.cells #[.int .i64 id, .int .i64 a, .slice Ak m ck] 144)).cell? ⟨wr.heap.size, 2, none⟩ = some (.slice Ak m ck) := cell_fresh wr #[.int .i64 id, .int .i64 a, .slice Ak m ck] 144 2 (.slice Ak m ck) rfl
      have hq1 := ((Bel.refl wr).alloc (.cells #[.int .i64 id, .int .i64 a, .slice Ak m ck] 144)).cell q1
      have hd2 := ((Bel.refl wr).alloc (.cells #[.int .i64 id, .int .i64 a, .slice Ak m ck] 144)).cell d2
      have hBX := Lib.hid ((Bel.refl wr).alloc (.cells #[.int .i64 id, .int .i64 a, .slice Ak m ck] 144))
      have G2 := Lib.hid g2
      have Q1 := Lib.hid hq1
      have D2 := Lib.hid hd2
      have hgD : wr.heap.size ≠ D := by omega
      have hBD : B ≠ D := by omega
      have hBD1 : B + 1 ≠ D := by omega
      obtain ⟨W0, hW0⟩ : ∃ W0, wr.alloc (.cells #[.int .i64 id, .int .i64 a, .slice Ak m ck] 144) = W0 := ⟨_, rfl⟩
      have FD : Hid (W0.frozen? ⟨D, k * 3 + 2, none⟩ = false) := Lib.hid (by
        have := (((Bel.refl wr).alloc (.cells #[.int .i64 id, .int .i64 a, .slice Ak m ck] 144)).frozen d2)
        rw [← hW0, this]; exact fd)
      rw [hW0] at g2 hq1 hd2
      have hS0 : Two ⟨B, 1, none⟩ ⟨wr.heap.size, 2, none⟩ (.slice (some ⟨D, 0, none⟩) n c') (.slice Ak m ck) W0 := ⟨hq1, g2⟩
      have P0 := fun (w' : World) (h : Two ⟨B, 1, none⟩ ⟨wr.heap.size, 2, none⟩ (.slice (some ⟨D, 0, none⟩) n c') (.slice Ak m ck) w') => h.c1
      have P1 := fun (w' : World) (h : Two ⟨B, 1, none⟩ ⟨wr.heap.size, 2, none⟩ (.slice (some ⟨D, 0, none⟩) n c') (.slice Ak m ck) w') => h.c2
      have HBX : Hid (Bel wr W0) := Lib.hid (by rw [← hW0]; exact (Bel.refl wr).alloc _)
      clear G2 Q1 D2 hBX g2 hq1 hO hgt fd
      have HD0 : Hid (W0.drew.cell? ⟨D, k * 3 + 2, none⟩ = some (.slice Ak m ck)) := Lib.hid (((Bel.refl W0).drew).cell hd2)
      have FD : Hid (W0.drew.frozen? ⟨D, k * 3 + 2, none⟩ = false) := Lib.hid (FD.out)
      go_wp2_with fail
      clear q0 q1 r0 r1 fr0 fr1 d0 d1 d2 hW0
      generalize wr.heap.size = gb at *
      go_region_held3 (fun w' => Two ⟨B, 1, none⟩ ⟨gb, 2, none⟩ (.slice (some ⟨D, 0, none⟩) n c') (.slice Ak m ck) w') (first | (with_reducible assumption) | (with_reducible refine Two.bel ?_ hb5; with_reducible assumption) | (with_reducible refine Two.bel ?_ (Bel.drew (Bel.refl _)); with_reducible assumption) | (refine Two.set ?_ hBD hgD _; with_reducible assumption)) (first | (go_at_call 108; refine (cloneW_any Ak m ck ws _ (HSW.out.mono (IntR.mono _) (HIK.out.bel.trans (HBX.out.trans ((Bel.refl W0).drew)))) hm HM).mono ?_; rintro e w5 ⟨g5, c5, rfl, h51, h52, h53, hb5⟩; have hd5 := hb5.cell HD0.out; have hf5 := (hb5.frozen HD0.out).trans FD.out))
      have HBW : Bel wr w5 := HBX.out.trans (((Bel.refl W0).drew).trans hb5)
      have hge : wr.heap.size ≤ g5 := Nat.le_trans (HBX.out.trans ((Bel.refl W0).drew)).size h51
      have hnext := HIK.out.next hBD hBD1 HKL.out HBW hge h52 (cg := c5) (by rw [hwsk.out]; exact h53)
      rw [hwsk.out, hm.out] at hnext
      have HNEXT := Lib.hid hnext
      have ek := HEK.out
      clear hnext hge HBW hb5 hd5 hf5 h51 h52 h53 P0 P1 hS0
      go_wp2
      go_roundw
      case rel => exact ⟨k + 1, by simp, by omega, HNEXT.out⟩
      case measure => simp [intOf]; omega
/-- What lies two blocks behind B and on is as it was. -/
def Abv0 (B : Nat) (W W' : World) : Prop := W.heap.size ≤ W'.heap.size ∧ ∀ k, B + 2 ≤ k → k < W.heap.size → W'.heap[k]? = W.heap[k]?
theorem Abv0.refl (B : Nat) (W : World) : Abv0 B W W := ⟨Nat.le_refl _, fun _ _ _ => rfl⟩
theorem Abv0.set {B : Nat} {W W' : World} (h : Abv0 B W W') {p : Addr} (hp : p.block < B + 2) (v : Value) : Abv0 B W (W'.setCell p v) :=
  ⟨by rw [setCell_size]; exact h.1, fun k h1 h2 => (setCell_heap_ne W' v (by omega)).trans (h.2 k h1 h2)⟩
set_option maxHeartbeats 1000000 in
theorem own_zero (cap : Int) (A : Option Addr) (c : Nat) (w : World) :
    Calls Tryz.prog 67 #[.agg #[.int .i64 cap, .slice A 0 c]] w fun e w' => ∃ A' c', e = .returned (.agg #[.int .i64 cap, .slice A' 0 c']) ∧ ((A' = none ∧ c' = 0) ∨ ∃ D A cc, A' = some ⟨D, 0, none⟩ ∧ OwnB w w' D c' [] 0 A cc) ∧ Bel w w' := by
  have bM0 := Blk.new w 79 #[.int .i64 cap, .slice A 0 c]
  have bR0 := Blk.new (w.alloc (.cells #[.int .i64 cap, .slice A 0 c] 79)) 79 #[.int .i64 0, .slice none 0 0]
  rw [World.size_alloc] at bR0
  have bM1 := bM0.alloc (.cells #[.int .i64 0, .slice none 0 0] 79)
  have HBa := Lib.hid (((Bel.refl w).alloc (.cells #[.int .i64 cap, .slice A 0 c] 79)).alloc (.cells #[.int .i64 0, .slice none 0 0] 79))
  have hsz : ((w.alloc (.cells #[.int .i64 cap, .slice A 0 c] 79)).alloc (.cells #[.int .i64 0, .slice none 0 0] 79)).heap.size = w.heap.size + 2 := by simp
  go_enter Tryz.func67, Tryz.ntmps67
  go_wp2_with fail
  generalize (w.alloc (.cells #[.int .i64 cap, .slice A 0 c] 79)).alloc (.cells #[.int .i64 0, .slice none 0 0] 79) = W1 at *
  refine (cloneB_zero A c _).mono ?_
  rintro e w1 ⟨A', c', rfl, hz, hb1⟩
  rw [hsz] at hz
  have bM := bM1.bel hb1
  have bR := bR0.bel hb1
  have HB1 := HBa.out.trans hb1
  obtain ⟨B, hB⟩ : ∃ B, w.heap.size = B := ⟨_, rfl⟩
  rw [hB] at hz
  have HZ2 : Hid (∀ W', Abv0 B w1 W' → ((A' = none ∧ c' = 0) ∨ ∃ D A cc, A' = some ⟨D, 0, none⟩ ∧ OwnB w W' D c' [] 0 A cc)) := Lib.hid (fun W' hA => by
    rcases hz with h | ⟨D, e1, e2, e3, e4, e5⟩
    · exact .inl h
    · have hblk := hA.2 D e2 e3
      exact .inr ⟨D, fun _ => none, fun _ => 0, e1, ⟨by omega, Nat.lt_of_lt_of_le e3 hA.1, Nat.zero_le _, e4, fun i => (World.frozen?_of_block (a := ⟨D, i, none⟩) hblk).trans (e5 i), fun i hi => by simp at hi⟩, fun i hi => by simp at hi, fun i hi => by simp at hi, fun i j _ hi => by simp at hi⟩)
  have HF1 : Hid (Bel w (w1.setCell ⟨B, 1, none⟩ (.slice A' 0 c'))) := Lib.hid (HB1.setCell (p := ⟨B, 1, none⟩) (by simp only; omega) _)
  rw [hB] at bM bR ⊢
  have bM2 := bM.set 1 (.slice A' 0 c')
  have bR2 := bR.other (p := ⟨B, 1, none⟩) (by simp) (.slice A' 0 c')
  have q0 : w1.cell? ⟨B, 0, none⟩ = some (.int .i64 cap) := bM.cell 0 rfl
  have q1 : w1.cell? ⟨B, 1, none⟩ = some (.slice A 0 c) := bM.cell 1 rfl
  have f1 := bM.frozen 1
  clear bM bR bM0 bR0 bM1 hb1 HB1 hz hsz
  go_wp2_with fail
  have HA2 := Lib.hid ((Abv0.refl B w1).set (p := ⟨B, 1, none⟩) (by simp only; omega) (.slice A' 0 c'))
  generalize w1.setCell ⟨B, 1, none⟩ (.slice A' 0 c') = W2 at *
  clear q0 q1 f1
  go_loopw [12] (fun kv wr => kv = .int .i64 0 ∧ wr = W2) (fun kv _ => 0)
  case atStart => exact ⟨rfl, rfl⟩
  case round =>
    obtain ⟨rfl, rfl⟩ := hrel
    have q0 : wr.cell? ⟨B, 0, none⟩ = some (.int .i64 cap) := bM2.cell 0 rfl
    have q1 : wr.cell? ⟨B, 1, none⟩ = some (.slice A' 0 c') := bM2.cell 1 rfl
    have r0 : wr.cell? ⟨B + 1, 0, none⟩ = some (.int .i64 0) := bR2.cell 0 rfl
    have r1 : wr.cell? ⟨B + 1, 1, none⟩ = some (.slice none 0 0) := bR2.cell 1 rfl
    have fr0 := bR2.frozen 0
    have fr1 := bR2.frozen 1
    have hfin : Blk ((wr.setCell ⟨B + 1, 0, none⟩ (.int .i64 cap)).setCell ⟨B + 1, 1, none⟩ (.slice A' 0 c')) (B + 1) 79 #[.int .i64 cap, .slice A' 0 c'] := (bR2.set 0 _).set 1 _
    have e0 : ((wr.setCell ⟨B + 1, 0, none⟩ (.int .i64 cap)).setCell ⟨B + 1, 1, none⟩ (.slice A' 0 c')).cell? ⟨B + 1, 0, none⟩ = some (.int .i64 cap) := hfin.cell 0 rfl
    have e1 : ((wr.setCell ⟨B + 1, 0, none⟩ (.int .i64 cap)).setCell ⟨B + 1, 1, none⟩ (.slice A' 0 c')).cell? ⟨B + 1, 1, none⟩ = some (.slice A' 0 c') := hfin.cell 1 rfl
    have E0 := Lib.hid e0
    have E1 := Lib.hid e1
    have HFIN := Lib.hid ((HF1.out.setCell (p := ⟨B + 1, 0, none⟩) (by simp only; omega) (.int .i64 cap)).setCell (p := ⟨B + 1, 1, none⟩) (by simp only; omega) (.slice A' 0 c'))
    have HZ := Lib.hid (HZ2.out _ ((HA2.out.set (p := ⟨B + 1, 0, none⟩) (by simp only; omega) (.int .i64 cap)).set (p := ⟨B + 1, 1, none⟩) (by simp only; omega) (.slice A' 0 c')))
    clear hfin e0 e1 bM2 bR2
    go_wp2_with fail
    refine bodyPost_ret (v := .agg #[.int .i64 cap, .slice A' 0 c']) ?_ rfl ⟨A', c', rfl, HZ.out, HFIN.out⟩
    have e0 := E0.out
    have e1 := E1.out
    simp [results, Tryz.results67, go_sem, e0, e1]
end Go.Proofs.YtebdnobgdimdoaaGreat
set_option linter.unusedVariables false
set_option linter.unusedSimpArgs false
namespace Go.Proofs.YtebdnobgdimdoaaGreat
open Go.RowKit
def putM (m : MemD) (b : BlkD) : MemD × Int :=
  if mayM m = true ∧ 1 ≤ b.id ∧ b.w ≠ [] then
    (if idxR m.l b.id < 0 ∧ fitsL b.at' b.w.length (gapsL m) = true then (⟨m.cap, ins m.l (insIdx m.l b.at') b⟩, 0) else (⟨0, []⟩, 4))
  else (⟨0, []⟩, 1)
/-- Whatever lies from N on is as it was. -/
structure Abv (N : Nat) (W W' : World) : Prop where
  size : W.heap.size ≤ W'.heap.size
  block : ∀ k, N ≤ k → k < W.heap.size → W'.heap[k]? = W.heap[k]?
theorem Abv.refl (N : Nat) (W : World) : Abv N W W := ⟨Nat.le_refl _, fun _ _ _ => rfl⟩
theorem Abv.trans {N : Nat} {A B C : World} (h : Abv N A B) (k : Abv N B C) : Abv N A C := ⟨Nat.le_trans h.size k.size, fun i h1 h2 => (k.block i h1 (Nat.lt_of_lt_of_le h2 h.size)).trans (h.block i h1 h2)⟩
theorem Abv.of {N : Nat} {A B : World} (h : Bel A B) : Abv N A B := ⟨h.size, fun i _ h2 => h.out.block i h2⟩
theorem Abv.bel {N : Nat} {A B C : World} (h : Abv N A B) (k : Bel B C) : Abv N A C := h.trans (Abv.of k)
theorem Abv.set {N : Nat} {A B : World} (h : Abv N A B) {p : Addr} (hp : p.block < N) (v : Value) : Abv N A (B.setCell p v) :=
  h.trans ⟨by rw [setCell_size]; exact Nat.le_refl _, fun k h1 _ => setCell_heap_ne B v (by omega)⟩
theorem OwnW.abv {N : Nat} {W W' : World} {g c : Nat} {ws : List Int} (h : OwnW W g c ws) (hb : Abv N W W') (h1 : N ≤ g) (h2 : g < W.heap.size) : OwnW W' g c ws := h.other (hb.block g h1 h2)
theorem OwnB.abv {w0 W W' : World} {D c : Nat} {l : List BlkD} {k : Nat} {A : Nat → Option Addr} {cc : Nat → Nat} (h : OwnB w0 W D c l k A cc) (hb : Abv w0.heap.size W W') : OwnB w0 W' D c l k A cc := h.other (fun g h1 h2 _ => hb.block g h1 h2) hb.size
/-- The cells of one block. -/
def bcs (b : BlkD) (A : Option Addr) (c : Nat) : List Value := [.int .i64 b.id, .int .i64 b.at', .slice A b.w.length c]
theorem bcs_len (b : BlkD) (A : Option Addr) (c : Nat) : (bcs b A c).length = 3 := rfl
/-- The cells of the blocks from i on, k of them. -/
def rowL (l : List BlkD) (A : Nat → Option Addr) (cc : Nat → Nat) (i k : Nat) : List Value := (List.range k).flatMap fun j => bcs (l[i + j]!) (A (i + j)) (cc (i + j))
theorem rowL_len (l : List BlkD) (A : Nat → Option Addr) (cc : Nat → Nat) (i k : Nat) : (rowL l A cc i k).length = k * 3 := by
  unfold rowL
  rw [flat_len _ 3 (fun j => rfl), List.length_range]
theorem rowL_get (l : List BlkD) (A : Nat → Option Addr) (cc : Nat → Nat) (i k : Nat) {j q : Nat} (hj : j < k) (hq : q < 3) : (rowL l A cc i k)[j * 3 + q]? = (bcs (l[i + j]!) (A (i + j)) (cc (i + j)))[q]? := by
  unfold rowL
  rw [flat_get _ 3 (fun j => rfl) _ j q (by simpa using hj) hq, List.getElem_range]
theorem rowL_one (l : List BlkD) (A : Nat → Option Addr) (cc : Nat → Nat) (i k : Nat) : ∀ u ∈ rowL l A cc i k, u.oneCell' = true := by
  intro u hu
  obtain ⟨x, _, hx⟩ := List.mem_flatMap.1 hu
  simp only [bcs, List.mem_cons, List.not_mem_nil, or_false] at hx
  rcases hx with rfl | rfl | rfl <;> rfl
theorem bcs_one (b : BlkD) (A : Option Addr) (c : Nat) : ∀ u ∈ bcs b A c, u.oneCell' = true := by
  intro u hx
  simp only [bcs, List.mem_cons, List.not_mem_nil, or_false] at hx
  rcases hx with rfl | rfl | rfl <;> rfl
theorem RowB.news {b0 : Nat} {W : World} {D c : Nat} {l : List BlkD} {A : Nat → Option Addr} {cc : Nat → Nat} (h : RowB b0 W D c l A cc) {i k : Nat} (hk : i + k ≤ l.length) : ∀ j u, (rowL l A cc i k)[j]? = some u → W.cell? ⟨D, i * 3 + j, none⟩ = some u := by
  intro j u hu
  have hj : j < k * 3 := by
    have := (List.getElem?_eq_some_iff.1 hu).1
    rwa [rowL_len] at this
  have e := rowL_get l A cc i k (j := j / 3) (q := j % 3) (by omega) (Nat.mod_lt _ (by decide))
  rw [show j / 3 * 3 + j % 3 = j by omega, hu] at e
  obtain ⟨a, b, d⟩ := h.cells (i + j / 3) (by omega)
  have h3 : j % 3 = 0 ∨ j % 3 = 1 ∨ j % 3 = 2 := by omega
  unfold bcs at e
  rcases h3 with h3 | h3 | h3 <;> rw [h3] at e <;> simp only [List.getElem?_cons_zero, List.getElem?_cons_succ, Option.some.injEq] at e <;> subst e
  · rw [show i * 3 + j = (i + j / 3) * 3 by omega]; exact a
  · rw [show i * 3 + j = (i + j / 3) * 3 + 1 by omega]; exact b
  · rw [show i * 3 + j = (i + j / 3) * 3 + 2 by omega]; exact d
/-- Cells that are known, read as blocks. -/
theorem rows_sl {W : World} {D c : Nat} {L : List BlkD} (hc : L.length ≤ c) (hm : c ≤ maxLen) (h : ∀ i, i < L.length → ∃ g cg, (∀ q v, (bcs (L[i]!) (some ⟨g, 0, none⟩) cg)[q]? = some v → W.cell? ⟨D, i * 3 + q, none⟩ = some v) ∧ OwnW W g cg (L[i]!).w ∧ (Lit.int .i64 (L[i]!).id).wf = true ∧ (Lit.int .i64 (L[i]!).at').wf = true) : Sl BlkR 3 W (some ⟨D, 0, none⟩) c L := by
  refine ⟨hc, hm, fun i hi => ?_⟩
  obtain ⟨g, cg, h1, h2, h3, h4⟩ := h i hi
  have hl : L[i]! = L[i] := getElem!_pos L i hi
  rw [hl] at h1 h2 h3 h4
  exact ⟨D, 0, bcs L[i] (some ⟨g, 0, none⟩) cg, rfl, rfl, ⟨_, _, rfl, h2.sl, h3, h4⟩, fun j v hv => by rw [Nat.zero_add]; exact h1 j v hv⟩
/-- What Put makes reads as the blocks with the new one among them. -/
theorem put_sl {w0 W : World} {D c : Nat} {l : List BlkD} {A : Nat → Option Addr} {cc : Nat → Nat} (h : OwnB w0 W D c l l.length A cc) (hwf : ∀ i, i < l.length → (Lit.int .i64 (l[i]!).id).wf = true ∧ (Lit.int .i64 (l[i]!).at').wf = true)
    {i : Nat} (hi : i ≤ l.length) (b : BlkD) {g cg : Nat} (hw : OwnW W g cg b.w) (hb1 : (Lit.int .i64 b.id).wf = true) (hb2 : (Lit.int .i64 b.at').wf = true) {D9 c9 : Nat} (hc1 : l.length + 1 ≤ c9) (hc2 : c9 ≤ maxLen)
    (hcells : ∀ q u, (rowL l A cc 0 i ++ (bcs b (some ⟨g, 0, none⟩) cg ++ rowL l A cc i (l.length - i)))[q]? = some u → W.cell? ⟨D9, q, none⟩ = some u) : Sl BlkR 3 W (some ⟨D9, 0, none⟩) c9 (ins l i b) := by
  refine rows_sl (by rw [ins_length hi]; exact hc1) hc2 fun j hj => ?_
  rw [ins_length hi] at hj
  have e := ins_get hi b j
  by_cases h1 : j < i
  · rw [if_pos h1] at e
    rw [e]
    obtain ⟨g', e1, -, -, -, e5⟩ := h.own j (by omega) (by omega)
    refine ⟨g', cc j, fun q v hv => hcells _ _ ?_, e5, hwf j (by omega)⟩
    have hq : q < 3 := (List.getElem?_eq_some_iff.1 hv).1
    rw [List.getElem?_append_left (by rw [rowL_len]; omega), rowL_get l A cc 0 i h1 hq, Nat.zero_add, e1]
    exact hv
  · rw [if_neg h1] at e
    by_cases h2 : j = i
    · subst h2
      rw [if_pos rfl] at e
      rw [e]
      refine ⟨g, cg, fun q v hv => hcells _ _ ?_, hw, hb1, hb2⟩
      have hq : q < 3 := (List.getElem?_eq_some_iff.1 hv).1
      rw [List.getElem?_append_right (by rw [rowL_len]; omega), rowL_len, List.getElem?_append_left (by rw [bcs_len]; omega), show j * 3 + q - j * 3 = q by omega]
      exact hv
    · rw [if_neg h2] at e
      rw [e]
      obtain ⟨g', e1, -, -, -, e5⟩ := h.own (j - 1) (by omega) (by omega)
      refine ⟨g', cc (j - 1), fun q v hv => hcells _ _ ?_, e5, hwf (j - 1) (by omega)⟩
      have hq : q < 3 := (List.getElem?_eq_some_iff.1 hv).1
      rw [List.getElem?_append_right (by rw [rowL_len]; omega), rowL_len, List.getElem?_append_right (by rw [bcs_len]; omega), bcs_len, show j * 3 + q - i * 3 - 3 = (j - 1 - i) * 3 + q by omega, rowL_get l A cc i _ (by omega) hq, show i + (j - 1 - i) = j - 1 by omega, e1]
      exact hv
/-- What Put makes of no blocks. -/
theorem put_sl0 {W : World} (b : BlkD) {g cg : Nat} (hw : OwnW W g cg b.w) (hb1 : (Lit.int .i64 b.id).wf = true) (hb2 : (Lit.int .i64 b.at').wf = true) {D9 c9 : Nat} (hc1 : 1 ≤ c9) (hc2 : c9 ≤ maxLen)
    (hcells : ∀ q u, (bcs b (some ⟨g, 0, none⟩) cg)[q]? = some u → W.cell? ⟨D9, q, none⟩ = some u) : Sl BlkR 3 W (some ⟨D9, 0, none⟩) c9 [b] := by
  refine rows_sl hc1 hc2 fun j hj => ?_
  obtain rfl : j = 0 := by simpa using hj
  refine ⟨g, cg, fun q v hv => ?_, hw, hb1, hb2⟩
  rw [Nat.zero_mul, Nat.zero_add]
  exact hcells q v hv

/-! ### append at a step of a region that draws -/
section
variable {P : Program} {w : World}
theorem step_append_run {ops : Array Oper} {o : Oper} {a : Act} {K : Act → World → Prop} {Q : Exit → Act → World → Prop} {E : Prop} (hgd : o.guard = none) (s x : Operand) (t : TypeId)
    (ho : o.op = .call { callee := .builtin .append, args := #[s, x], argTypes := #[t, t] })
    (vs vx : Value) (hs : a.eval s = vs) (hx : a.eval x = vx) (R : Value → World → Prop) (hr : ∃ v' w', (Builtin.append_ #[t, t] o.type #[vs, vx]).run P w = .ok v' w' ∧ R v' w')
    (h : ∀ v' w', R v' w' → K (a.put o.dst v') w') :
    if Region.wanted o (yielded ops a.tmps) = true then Oper.wp P o a w K Q else E := by
  have hw : Region.wanted o (yielded ops a.tmps) = true := by simp [Region.wanted, hgd]
  rw [if_pos hw]
  obtain ⟨v', w', hrun, hR⟩ := hr
  unfold Oper.wp
  simp [execOp, ho, resolve, invoke, builtin, hs, hx, hrun, Result.andThen]
  exact h v' w' hR
end
/-- 'append' of blocks onto a row of the call's own that is not empty. -/
theorem appB_first (ty : TypeId) (W w0 : World) (hB : Bel w0 W) (base : Nat) (hb0 : w0.heap.size ≤ base) (hbase : base ≤ W.heap.size) (v : Value) (n : Nat) (xs : List Value) (hown : W.ownsRow base 144 3 v n xs) (hn : 0 < n) (A : Option Addr) (m c : Nat) (hA : A = none → m = 0 ∧ c = 0) (news : List Value)
    (hl : news.length = m * 3) (hnews : ∀ ad, A = some ad → ∀ j u, news[j]? = some u → W.cell? (ad.add j) = some u) (h1 : ∀ u ∈ news, u.oneCell' = true) (hs : n + m ≤ 8192) :
    ∃ v' w', (Builtin.append_ #[77, 77] ty #[v, .slice A m c]).run Tryz.prog W = .ok v' w' ∧ ∃ g cg, v' = .slice (some ⟨g, 0, none⟩) (n + m) cg ∧ base ≤ g ∧ g < w'.heap.size ∧ n + m ≤ cg ∧ cg ≤ maxLen ∧ (∀ j u, (xs ++ news)[j]? = some u → w'.cell? ⟨g, j, none⟩ = some u) ∧ Bel w0 w' := by
  obtain ⟨i0, hi, hzz⟩ := Option.map_eq_some_iff.1 info_Block
  simp only [Prod.mk.injEq] at hzz
  obtain ⟨hz0, hz1, hz2⟩ := hzz
  cases A with
  | none =>
    obtain ⟨rfl, rfl⟩ := hA rfl
    obtain rfl : news = [] := List.eq_nil_of_length_eq_zero (by simpa using hl)
    refine ⟨v, W, run_append_owned_none (P := Tryz.prog) (w := W) base _ ty 144 i0 3 Tryz.underlying77 hi v n xs hown, ?_⟩
    rcases own_openK hown with ⟨rfl, h0⟩ | ⟨g, c', rfl, hg1, hg2, hc1, hc2, hfz, hcl⟩
    · omega
    · exact ⟨g, c', rfl, hg1, hg2, hc1, hc2, by rw [List.append_nil]; exact hcl, hB⟩
  | some ad =>
    obtain ⟨v', w', hr, h2, h3, _, h5⟩ := run_append_own_at (P := Tryz.prog) W base _ ty 144 i0 _ 3 40 Tryz.underlying77 hi hz0 hz1 hz2 rfl (by decide) v n xs hown ad m c news hl (hnews ad rfl) h1 (by simp only [maxLen]; omega) (by omega) hbase
    refine ⟨v', w', hr, ?_⟩
    rcases own_openK h2 with ⟨rfl, h0⟩ | ⟨g, c', rfl, hg1, hg2, hc1, hc2, hfz, hcl⟩
    · omega
    · exact ⟨g, c', rfl, hg1, hg2, hc1, hc2, hcl, hB.grown h3 (fun k hk => Nat.le_trans hb0 (hown.lt k hk).1)⟩
/-- 'append' of blocks onto a slice without room for them. -/
theorem appB_grow (ty : TypeId) (W : World) (A : Option Addr) (n cap : Nat) (hA : A = none → n = 0 ∧ cap = 0) (olds : List Value) (hlo : olds.length = n * 3) (holds : ∀ ad, A = some ad → ∀ j u, olds[j]? = some u → W.cell? (ad.add j) = some u) (ad : Addr) (m c : Nat) (news : List Value)
    (hl : news.length = m * 3) (hnews : ∀ j u, news[j]? = some u → W.cell? (ad.add j) = some u) (h1 : ∀ u ∈ news, u.oneCell' = true) (hfull : cap < n + m) (hs : n + m ≤ 8192) :
    ∃ v' w', (Builtin.append_ #[77, 77] ty #[.slice A n cap, .slice (some ad) m c]).run Tryz.prog W = .ok v' w' ∧ ∃ g cg, v' = .slice (some ⟨g, 0, none⟩) (n + m) cg ∧ W.heap.size ≤ g ∧ g < w'.heap.size ∧ n + m ≤ cg ∧ cg ≤ maxLen ∧ (∀ j u, (olds ++ news)[j]? = some u → w'.cell? ⟨g, j, none⟩ = some u) ∧ Bel W w' := by
  obtain ⟨i0, hi, hzz⟩ := Option.map_eq_some_iff.1 info_Block
  simp only [Prod.mk.injEq] at hzz
  obtain ⟨hz0, hz1, hz2⟩ := hzz
  cases A with
  | none =>
    obtain ⟨rfl, rfl⟩ := hA rfl
    obtain rfl : olds = [] := List.eq_nil_of_length_eq_zero (by simpa using hlo)
    obtain ⟨v', w', hr, h2, h3, _⟩ := run_append_own_at (P := Tryz.prog) W W.heap.size _ ty 144 i0 _ 3 40 Tryz.underlying77 hi hz0 hz1 hz2 rfl (by decide) (.slice none 0 0) 0 [] (World.ownsRow_nil W _ _ _) ad m c news hl hnews h1 (by simp only [maxLen]; omega) (by omega) (Nat.le_refl _)
    refine ⟨v', w', hr, ?_⟩
    rcases own_openK h2 with ⟨rfl, h0⟩ | ⟨g, c', rfl, hg1, hg2, hc1, hc2, hfz, hcl⟩
    · omega
    · exact ⟨g, c', rfl, hg1, hg2, hc1, hc2, hcl, (Bel.refl W).grown h3 (fun k hk => by cases hk)⟩
  | some b =>
    obtain ⟨v', w', hr, h2, h3⟩ := run_append_arg_grows (P := Tryz.prog) W _ ty 144 i0 _ 3 40 Tryz.underlying77 hi hz0 hz1 hz2 rfl (by decide) b n cap olds hlo (holds b rfl) ad m c news hl hnews hfull (by simp only [maxLen]; omega) (by omega)
    refine ⟨v', w', hr, ?_⟩
    rcases own_openK h2 with ⟨rfl, h0⟩ | ⟨g, c', rfl, hg1, hg2, hc1, hc2, hfz, hcl⟩
    · omega
    · exact ⟨g, c', rfl, hg1, hg2, hc1, hc2, hcl, (Bel.refl W).grown h3 (fun k hk => by cases hk)⟩
/-- A memory of the call's own. -/
def OwnA (w0 W : World) (A : Option Addr) (c : Nat) (l : List BlkD) : Prop := (l = [] ∧ A = none ∧ c = 0) ∨ ∃ D A' cc, A = some ⟨D, 0, none⟩ ∧ OwnB w0 W D c l l.length A' cc
theorem own_any (cap : Int) (A : Option Addr) (n c : Nat) (l : List BlkD) (w : World) (h : Sl BlkR 3 w A c l) (hn : Hid (l.length = n)) (hok : Hid (Ok ⟨cap, l⟩)) :
    Calls Tryz.prog 67 #[.agg #[.int .i64 cap, .slice A n c]] w fun e w' => ∃ A' c', e = .returned (.agg #[.int .i64 cap, .slice A' n c']) ∧ OwnA w w' A' c' l ∧ Bel w w' := by
  have hf := hok.out.few
  simp only at hf
  by_cases h0 : n = 0
  · subst h0
    obtain rfl : l = [] := List.eq_nil_of_length_eq_zero hn.out
    exact (own_zero cap A c w).mono fun e w' ⟨A', c', h1, h2, h3⟩ => ⟨A', c', h1, h2.imp (fun h => ⟨rfl, h⟩) id, h3⟩
  · obtain ⟨b, off, rfl⟩ := h.addr (by rw [hn.out]; omega)
    refine (own_some cap b off n c l w h hn (Lib.hid ⟨by omega, by rw [← hn.out]; omega⟩) (Lib.hid fun i hi => ?_)).mono fun e w' ⟨D, c', A', cc, h1, h2, h3⟩ => ⟨_, c', h1, .inr ⟨D, A', cc, rfl, by rw [hn.out]; exact h2⟩, h3⟩
    have h1 := (hok.out.blk i hi).len
    have h2 := (hok.out.bounds hi).2.2.1
    simp only at h1 h2
    omega
theorem tw_facts (p : BlkD → Bool) : ∀ l : List BlkD, (l.takeWhile p).length ≤ l.length ∧ (∀ j, j < (l.takeWhile p).length → p (l[j]!) = true) ∧ ((l.takeWhile p).length < l.length → p (l[(l.takeWhile p).length]!) = false)
  | [] => by simp
  | a :: l => by
    obtain ⟨h1, h2, h3⟩ := tw_facts p l
    rw [List.takeWhile_cons]
    cases hp : p a
    · simp only [Bool.false_eq_true, if_false, List.length_nil]
      exact ⟨Nat.zero_le _, fun j hj => absurd hj (Nat.not_lt_zero _), fun _ => hp⟩
    · simp only [if_true, List.length_cons]
      refine ⟨by omega, fun j hj => ?_, fun h => h3 (by omega)⟩
      cases j with
      | zero => exact hp
      | succ j => exact h2 j (by omega)
theorem insIdx_facts (l : List BlkD) (place : Int) : insIdx l place ≤ l.length ∧ (∀ j, j < insIdx l place → (l[j]!).at' < place) ∧ (insIdx l place < l.length → ¬ (l[insIdx l place]!).at' < place) := by
  obtain ⟨h1, h2, h3⟩ := tw_facts (fun b => decide (b.at' < place)) l
  exact ⟨h1, fun j hj => of_decide_eq_true (h2 j hj), fun h => of_decide_eq_false (h3 h)⟩
theorem fits_small {m : MemD} (h : Ok m) {place n : Int} (hn : 1 ≤ n) (hf : fitsL place n (gapsL m) = true) : 0 ≤ place ∧ place + n ≤ 1024 := by
  obtain ⟨i, hi, h1, h2⟩ := (fits_iff h hn).1 hf
  have h3 := (h.prev i hi).1
  have h4 := (h.next hi).2
  have h5 := h.cap1
  omega
theorem own_one (w : World) (id place : Int) (g c m : Nat) (ws : List Int) (hm : ws.length = m) : (w.alloc (.cells #[.int .i64 id, .int .i64 place, .slice (some ⟨g, 0, none⟩) m c] 144)).ownsRow w.heap.size 144 3 (.slice (some ⟨w.heap.size, 0, none⟩) 1 1) 1 (bcs ⟨id, place, ws⟩ (some ⟨g, 0, none⟩) c) := by
  subst hm
  exact ⟨rfl, .inr ⟨w.heap.size, 1, _, rfl, Nat.le_refl _, World.alloc_heap_new w _, Nat.le_refl _, by decide, rfl, rfl⟩⟩
theorem news_of {b0 : Nat} {W W' : World} {D c : Nat} {l : List BlkD} {A : Nat → Option Addr} {cc : Nat → Nat} (h : RowB b0 W D c l A cc) (hb : Bel W W') {i k : Nat} (hk : i + k ≤ l.length) : ∀ ad, some (⟨D, i * 3, none⟩ : Addr) = some ad → ∀ j u, (rowL l A cc i k)[j]? = some u → W'.cell? (ad.add j) = some u := by
  intro ad e j u hu
  rw [← Option.some.inj e, Addr.add_lit]
  exact hb.cell (h.news hk j u hu)
theorem olds_of {b0 : Nat} {W W' : World} {D c : Nat} {l : List BlkD} {A : Nat → Option Addr} {cc : Nat → Nat} (h : RowB b0 W D c l A cc) (hb : Bel W W') {k : Nat} (hk : k ≤ l.length) : ∀ ad, some (⟨D, 0, none⟩ : Addr) = some ad → ∀ j u, (rowL l A cc 0 k)[j]? = some u → W'.cell? (ad.add j) = some u := by
  intro ad e j u hu
  rw [← Option.some.inj e, Addr.add_lit]
  have := hb.cell (h.news (i := 0) (by omega) j u hu)
  rwa [Nat.zero_mul] at this
theorem both_one {b : BlkD} {A : Option Addr} {c : Nat} {l : List BlkD} {A' : Nat → Option Addr} {cc : Nat → Nat} {i k : Nat} : ∀ u ∈ bcs b A c ++ rowL l A' cc i k, u.oneCell' = true := by
  intro u hu
  rcases List.mem_append.1 hu with h | h
  · exact bcs_one _ _ _ u h
  · exact rowL_one _ _ _ _ _ u h
theorem Abv.putObj {N : Nat} {A B : World} (h : Abv N A B) {D : Nat} (hD : D < N) (o : Obj) : Abv N A (B.putObj D o) := by
  have hg := grownBy_putObj' B D o
  exact h.trans ⟨hg.size, fun k h1 h2 => hg.block k h2 (fun e => by cases e; omega)⟩
theorem news_if {b0 : Nat} {W W' : World} {D c : Nat} {l : List BlkD} {A : Nat → Option Addr} {cc : Nat → Nat} (h : RowB b0 W D c l A cc) (hb : Bel W W') {i k : Nat} (hk : i + k ≤ l.length) {p : Prop} [Decidable p] (hp : p → k = 0) :
    ((if p then some (⟨D, 0, none⟩ : Addr) else some ⟨D, i * 3, none⟩) = none → k = 0 ∧ c - i = 0) ∧ ∀ ad, (if p then some (⟨D, 0, none⟩ : Addr) else some ⟨D, i * 3, none⟩) = some ad → ∀ j u, (rowL l A cc i k)[j]? = some u → W'.cell? (ad.add j) = some u := by
  by_cases hpp : p
  · simp only [if_pos hpp]
    refine ⟨fun h => (by cases h), fun ad _ j u hu => ?_⟩
    rw [hp hpp] at hu
    simp [rowL] at hu
  · simp only [if_neg hpp]
    exact ⟨fun h => (by cases h), news_of h hb hk⟩
/-- Three cells hold these values; the first may be written. -/
structure Thr (a1 a2 a3 : Addr) (v1 v2 v3 : Value) (w' : World) : Prop where
  c1 : w'.cell? a1 = some v1
  c2 : w'.cell? a2 = some v2
  c3 : w'.cell? a3 = some v3
  f1 : w'.frozen? a1 = false
theorem Thr.bel {a1 a2 a3 : Addr} {v1 v2 v3 : Value} {w' w'' : World} (h : Thr a1 a2 a3 v1 v2 v3 w') (hb : Bel w' w'') : Thr a1 a2 a3 v1 v2 v3 w'' := ⟨hb.cell h.c1, hb.cell h.c2, hb.cell h.c3, (hb.frozen h.c1).trans h.f1⟩
theorem Abv.up {N M : Nat} {A B : World} (h : Abv N A B) (hn : N ≤ M) : Abv M A B := ⟨h.size, fun k h1 h2 => h.block k (Nat.le_trans hn h1) h2⟩
/-- Blocks that lie from N on: whatever changes below N leaves them. -/
def SlS (N : Nat) (W : World) (A : Option Addr) (c : Nat) (l : List BlkD) : Prop := ∀ W', Abv N W W' → Sl BlkR 3 W' A c l
theorem SlS.sl {N : Nat} {W : World} {A : Option Addr} {c : Nat} {l : List BlkD} (h : SlS N W A c l) : Sl BlkR 3 W A c l := h W (Abv.refl _ _)
theorem SlS.abv {N : Nat} {W W' : World} {A : Option Addr} {c : Nat} {l : List BlkD} (h : SlS N W A c l) (hb : Abv N W W') : SlS N W' A c l := fun W2 h2 => h W2 (hb.trans h2)
theorem SlS.bel {N : Nat} {W W' : World} {A : Option Addr} {c : Nat} {l : List BlkD} (h : SlS N W A c l) (hb : Bel W W') : SlS N W' A c l := h.abv (Abv.of hb)
theorem SlS.down {N M : Nat} {W : World} {A : Option Addr} {c : Nat} {l : List BlkD} (h : SlS N W A c l) (hn : M ≤ N) : SlS M W A c l := fun W' h' => h W' (h'.up hn)
theorem SlS.nil (N : Nat) (W : World) (A : Option Addr) (c : Nat) (hc : c ≤ maxLen) : SlS N W A c [] := fun _ _ => ⟨Nat.zero_le _, hc, fun i hi => by simp at hi⟩
theorem slS_of {N M : Nat} {A0 W : World} (h : Abv M A0 W) (hn : N ≤ M) {A : Option Addr} {c : Nat} {l : List BlkD} (k : ∀ W', Abv M A0 W' → Sl BlkR 3 W' A c l) : SlS N W A c l := fun W' h' => k W' (h.trans (h'.up hn))
end Go.Proofs.YtebdnobgdimdoaaGreat
