/- slices.Clone at words and at blocks; what a memory of the call's own is. -/
import Derived.Test.YtegdnmlpoglfeaaArC5
import Derived.ArgAppend
set_option linter.unusedVariables false
set_option linter.unusedSimpArgs false
namespace Go.Proofs.Ytegdnmlpoglfeaa
open Go.RowKit

theorem info_word : (Try.prog.info? 40).map (fun i => (i.zero, i.size, i.bytes)) = some (some (.int .u64 0), 1, 8) := by kernel_rfl
theorem info_Block : (Try.prog.info? 33).map (fun i => (i.zero, i.size, i.bytes)) = some (some (.agg #[.int .i64 0, .int .i64 0, .slice none 0 0]), 3, 40) := by kernel_rfl
theorem flat_get {α : Type} (f : α → List Value) (k : Nat) (hk : ∀ x, (f x).length = k) : ∀ (zs : List α) (i j : Nat) (hi : i < zs.length), j < k → (zs.flatMap f)[i * k + j]? = (f zs[i])[j]?
  | [], i, j, hi, _ => by simp at hi
  | z :: zs, 0, j, hi, hj => by
    rw [List.flatMap_cons, Nat.zero_mul, Nat.zero_add, List.getElem?_append_left (by rw [hk]; exact hj)]
    rfl
  | z :: zs, i + 1, j, hi, hj => by
    rw [List.flatMap_cons, List.getElem?_append_right (by rw [hk, Nat.succ_mul]; omega), hk]
    have := flat_get f k hk zs i j (by simpa using hi) hj
    rw [show (i + 1) * k + j - k = i * k + j by rw [Nat.succ_mul]; omega, this]
    rfl
theorem flat_len {α : Type} (f : α → List Value) (k : Nat) (hk : ∀ x, (f x).length = k) : ∀ (zs : List α), (zs.flatMap f).length = zs.length * k
  | [] => by simp
  | z :: zs => by
    rw [List.flatMap_cons, List.length_append, hk, flat_len f k hk zs, List.length_cons, Nat.succ_mul, Nat.add_comm]
/-- What a row of the call's own tells, cell by cell. -/
theorem own_openK {w : World} {b : Nat} {e : TypeId} {s : Nat} {v : Value} {n : Nat} {xs : List Value} (h : w.ownsRow b e s v n xs) :
    (v = .slice none 0 0 ∧ n = 0) ∨ ∃ g c, v = .slice (some ⟨g, 0, none⟩) n c ∧ b ≤ g ∧ g < w.heap.size ∧ n ≤ c ∧ c ≤ maxLen ∧ (∀ i, w.frozen? ⟨g, i, none⟩ = false) ∧ ∀ j u, xs[j]? = some u → w.cell? ⟨g, j, none⟩ = some u := by
  obtain ⟨h1, h2⟩ := h
  rcases h2 with ⟨rfl, h2⟩ | ⟨g, cap, cur, rfl, hb, hh, hc, hm, hs, ht⟩
  · exact .inl ⟨rfl, h2⟩
  · refine .inr ⟨g, cap, rfl, hb, (Array.getElem?_eq_some_iff.1 hh).1, hc, hm, fun i => by simp [World.frozen?, hh], fun j u hj => ?_⟩
    rw [← ht, List.getElem?_take] at hj
    split at hj
    · rw [Array.getElem?_toList] at hj
      simp [World.cell?, hh, hj]
    · cases hj

/-- Words that lie in a block of the call's own. -/
structure OwnW (W : World) (g c : Nat) (ws : List Int) : Prop where
  le : ws.length ≤ c
  big : c ≤ maxLen
  cells : ∀ i, i < ws.length → W.cell? ⟨g, i, none⟩ = some (.int .u64 (ws.getD i 0))
  frz : ∀ i, W.frozen? ⟨g, i, none⟩ = false
  wf : ∀ i, i < ws.length → (Lit.int .u64 (ws.getD i 0)).wf = true
theorem OwnW.other {W W' : World} {g c : Nat} {ws : List Int} (h : OwnW W g c ws) (e : W'.heap[g]? = W.heap[g]?) : OwnW W' g c ws :=
  ⟨h.le, h.big, fun i hi => (World.cell?_of_block (a := ⟨g, i, none⟩) e).trans (h.cells i hi), fun i => (World.frozen?_of_block (a := ⟨g, i, none⟩) e).trans (h.frz i), h.wf⟩
theorem OwnW.sl {W : World} {g c : Nat} {ws : List Int} (h : OwnW W g c ws) : Sl (IntR .u64) 1 W (some ⟨g, 0, none⟩) c ws := by
  refine ⟨h.le, h.big, fun i hi => ⟨g, 0, [.int .u64 ws[i]], rfl, rfl, ⟨rfl, ?_⟩, fun j v hv => ?_⟩⟩
  · have := h.wf i hi
    rwa [List.getD_eq_getElem?_getD, List.getElem?_eq_getElem hi] at this
  · cases j with
    | zero =>
      simp only [List.getElem?_cons_zero, Option.some.injEq] at hv
      subst hv
      have := h.cells i hi
      rw [List.getD_eq_getElem?_getD, List.getElem?_eq_getElem hi] at this
      simpa using this
    | succ j => simp at hv
theorem OwnW.lt {W : World} {g c : Nat} {ws : List Int} (h : OwnW W g c ws) (hp : 0 < ws.length) : g < W.heap.size := World.block_lt_of_cell? _ _ (h.cells 0 hp)
theorem OwnW.set {W : World} {g c : Nat} {ws : List Int} (h : OwnW W g c ws) {k : Nat} (hk : k < ws.length) {x : Int} (hx : (Lit.int .u64 x).wf = true) : OwnW (W.setCell ⟨g, k, none⟩ (.int .u64 x)) g c (ws.set k x) := by
  refine ⟨by rw [List.length_set]; exact h.le, h.big, fun i hi => ?_, fun i => ?_, fun i hi => ?_⟩
  · rw [List.length_set] at hi
    rw [List.getD_eq_getElem?_getD, List.getElem?_set]
    by_cases e : k = i
    · subst e
      rw [if_pos rfl, if_pos hk]
      exact World.cell?_setCell_same _ _ _ (h.cells k hk)
    · rw [if_neg e, World.cell?_setCell_other _ _ _ _ (by simp only [ne_eq, Addr.mk.injEq, true_and, and_true]; exact e), h.cells i hi, List.getD_eq_getElem?_getD]
  · rw [World.frozen?_setCell]
    exact h.frz i
  · rw [List.length_set] at hi
    rw [List.getD_eq_getElem?_getD, List.getElem?_set]
    by_cases e : k = i
    · subst e
      rw [if_pos rfl, if_pos hk]
      exact hx
    · rw [if_neg e, ← List.getD_eq_getElem?_getD]
      exact h.wf i hi
def u64s (l : List Int) : List Value := l.map (Value.int .u64)
theorem u64s_one (l : List Int) : ∀ u ∈ u64s l, u.oneCell' = true := by
  intro u hu
  obtain ⟨x, _, rfl⟩ := List.mem_map.1 hu
  rfl
set_option maxHeartbeats 1000000 in
set_option maxRecDepth 100000 in
/-- slices.Clone at words. -/
theorem cloneW_any (A : Option Addr) (n c : Nat) (ws : List Int) (w : World) (h : Sl (IntR .u64) 1 w A c ws) (hn : Hid (ws.length = n)) (hp : Hid (0 < n ∧ n ≤ 4096)) :
    Calls Try.prog 32 #[.slice A n c] w fun e w' => ∃ g c', e = .returned (.slice (some ⟨g, 0, none⟩) n c') ∧ w.heap.size ≤ g ∧ g < w'.heap.size ∧ OwnW w' g c' ws ∧ Bel w w' := by
  obtain ⟨b, off, rfl, hc⟩ := h.int_cell (by rw [hn.out]; exact hp.out.1)
  have HC : Hid (∀ j u, (u64s ws)[j]? = some u → (w.alloc (.cells #[] 40)).cell? ((⟨b, off, none⟩ : Addr).add j) = some u) := Lib.hid (by
    intro j u hu
    have hj : j < ws.length := by
      have := (List.getElem?_eq_some_iff.1 hu).1
      simpa [u64s] using this
    have e1 : (u64s ws)[j]? = some (.int .u64 (ws.getD j 0)) := by
      simp [u64s, List.getElem?_eq_getElem hj, List.getD_eq_getElem?_getD]
    rw [e1] at hu
    rw [← Option.some.inj hu, Addr.add_lit]
    exact ((Bel.refl w).alloc _).cell (hc j hj).1)
  have HWF : Hid (∀ i, i < ws.length → (Lit.int .u64 (ws.getD i 0)).wf = true) := Lib.hid fun i hi => (hc i hi).2
  have HL : Hid ((u64s ws).length = n * 1) := Lib.hid (by simp [u64s, hn.out])
  clear hc h
  have hq : ∀ (w : World) (a : Option Addr) (n c n' c' : Nat), (binOp .eql 31 (.slice a n c) (.slice none n' c')).run Try.prog w = .ok (.bool a.isNone) w := fun w a n c n' c' => Lib.run_eql_slice_nil w _ _ a n c n' c' Try.underlying31
  have hp2 := hp.out.2
  go_enter Try.func32, Try.ntmps32
  go_wp2_with (refine at_append w.heap.size 40 (.int .u64 0) 1 8 Try.underlying31 info_word rfl (by decide) (.slice (some ⟨w.heap.size, 0, none⟩) 0 0) 0 [] (by rfl) (World.ownsRow_made w #[] 0 (Nat.le_refl _) (Nat.zero_le _) rfl) ⟨b, off, none⟩ n c (u64s ws) (by rfl) HL.out HC.out (u64s_one _) (by simp only [maxLen]; omega) (by omega) (by simp) w (Nat.le_refl _) ((Bel.refl w).alloc _) rfl ?_; intro v' w' o1 g1 b1 at1)
  have o2 := own_openK o1
  rw [Nat.zero_add] at o2
  rcases o2 with ⟨rfl, h0⟩ | ⟨g, c', rfl, hg1, hg2, hc1, hc2, hfz, hcl⟩
  · have := hp.out.1; omega
  clear o1 g1 at1
  have HB := Lib.hid b1
  have HG := Lib.hid hcl
  clear b1 hcl hp2
  go_wp2
  go_ret
  refine ⟨g, c', rfl, hg1, hg2, ⟨by rw [hn.out]; exact hc1, hc2, fun i hi => ?_, hfz, HWF.out⟩, HB.out⟩
  refine HG.out i _ ?_
  rw [List.nil_append]
  simp [u64s, List.getElem?_eq_getElem hi, List.getD_eq_getElem?_getD]
/-- Blocks that lie in a block of the call's own, their words where they were. -/
structure RowB (b0 : Nat) (W : World) (D c : Nat) (l : List BlkD) (A : Nat → Option Addr) (cc : Nat → Nat) : Prop where
  D0 : b0 ≤ D
  lt : D < W.heap.size
  le : l.length ≤ c
  big : c ≤ maxLen
  frz : ∀ i, W.frozen? ⟨D, i, none⟩ = false
  cells : ∀ i, i < l.length → W.cell? ⟨D, i * 3, none⟩ = some (.int .i64 (l[i]!).id) ∧ W.cell? ⟨D, i * 3 + 1, none⟩ = some (.int .i64 (l[i]!).at') ∧ W.cell? ⟨D, i * 3 + 2, none⟩ = some (.slice (A i) (l[i]!).w.length (cc i))
theorem BlkX.cells_len {w : World} (x : BlkX w) : x.cells.length = 3 := rfl
theorem BlkX.one {w : World} (zs : List (BlkX w)) : ∀ u ∈ zs.flatMap BlkX.cells, u.oneCell' = true := by
  intro u hu
  obtain ⟨x, _, hx⟩ := List.mem_flatMap.1 hu
  simp only [BlkX.cells, List.mem_cons, List.not_mem_nil, or_false] at hx
  rcases hx with rfl | rfl | rfl <;> rfl
set_option maxHeartbeats 1000000 in
set_option maxRecDepth 100000 in
/-- slices.Clone at blocks. -/
theorem cloneB_any (b off n c : Nat) (l : List BlkD) (w0 w : World) (hb0 : Hid (Bel w0 w)) (h : Sl BlkR 3 w0 (some ⟨b, off, none⟩) c l) (hn : Hid (l.length = n)) (hp : Hid (0 < n ∧ n ≤ 4096)) :
    Calls Try.prog 41 #[.slice (some ⟨b, off, none⟩) n c] w fun e w' => ∃ D c' A cc, e = .returned (.slice (some ⟨D, 0, none⟩) n c') ∧ RowB w.heap.size w' D c' l A cc ∧ (∀ i, i < l.length → Sl (IntR .u64) 1 w0 (A i) (cc i) (l[i]!).w) ∧ Bel w w' := by
  obtain ⟨zs, hz, hcs⟩ := h.blks
  have hzl : zs.length = n := by rw [← hn.out, ← hz]; simp
  have hfl := flat_len BlkX.cells 3 BlkX.cells_len zs
  rw [hzl] at hfl
  have HC : Hid (∀ j u, (zs.flatMap BlkX.cells)[j]? = some u → (w.alloc (.cells #[] 33)).cell? ((⟨b, off, none⟩ : Addr).add j) = some u) := Lib.hid (by
    intro j u hu
    have hj : j < n * 3 := by rw [← hfl]; exact (List.getElem?_eq_some_iff.1 hu).1
    have hi : j / 3 < zs.length := by rw [hzl]; omega
    have e := flat_get BlkX.cells 3 BlkX.cells_len zs (j / 3) (j % 3) hi (Nat.mod_lt _ (by decide))
    rw [show j / 3 * 3 + j % 3 = j by omega, hu] at e
    rw [Addr.add_lit]
    have := hcs (j / 3) hi (j % 3) u (by rw [getElem!_pos zs _ hi]; exact e.symm)
    rw [show off + j / 3 * 3 + j % 3 = off + j by omega] at this
    exact (hb0.out.alloc _).cell this)
  have HZ : Hid (zs.map BlkX.b = l) := Lib.hid hz
  have HL := Lib.hid hfl
  have HZL := Lib.hid hzl
  clear hcs h hz hfl hzl
  have hq : ∀ (w : World) (a : Option Addr) (n c n' c' : Nat), (binOp .eql 24 (.slice a n c) (.slice none n' c')).run Try.prog w = .ok (.bool a.isNone) w := fun w a n c n' c' => Lib.run_eql_slice_nil w _ _ a n c n' c' Try.underlying24
  have hp2 := hp.out.2
  go_enter Try.func41, Try.ntmps41
  go_wp2_with (refine at_append w.heap.size 33 (.agg #[.int .i64 0, .int .i64 0, .slice none 0 0]) 3 40 Try.underlying24 info_Block rfl (by decide) (.slice (some ⟨w.heap.size, 0, none⟩) 0 0) 0 [] (by rfl) (World.ownsRow_made w #[] 0 (Nat.le_refl _) (Nat.zero_le _) rfl) ⟨b, off, none⟩ n c (zs.flatMap BlkX.cells) (by rfl) HL.out HC.out (BlkX.one zs) (by simp only [maxLen]; omega) (by omega) (by simp) w (Nat.le_refl _) ((Bel.refl w).alloc _) rfl ?_; intro v' w' o1 g1 b1 at1)
  have o2 := own_openK o1
  rw [Nat.zero_add] at o2
  rcases o2 with ⟨rfl, h0⟩ | ⟨g, c', rfl, hg1, hg2, hc1, hc2, hfz, hcl⟩
  · have := hp.out.1; omega
  clear o1 g1 at1
  have HB := Lib.hid b1
  have HG := Lib.hid hcl
  have HF := Lib.hid hfz
  clear b1 hcl hp2 hfz
  go_wp2
  go_ret
  have hb : ∀ i (hi : i < l.length), (zs[i]!).b = l[i]! := by
    intro i hi
    have hi' : i < zs.length := by rw [HZL.out, ← hn.out]; exact hi
    have e : l[i]? = some (zs[i]'hi').b := by rw [← HZ.out]; simp [hi']
    rw [getElem!_pos zs i hi', List.getElem!_eq_getElem?_getD, e]
    rfl
  have hcell : ∀ i (hi : i < l.length) j v, (BlkX.cells zs[i]!)[j]? = some v → w'.cell? ⟨g, i * 3 + j, none⟩ = some v := by
    intro i hi j v hv
    have hi' : i < zs.length := by rw [HZL.out, ← hn.out]; exact hi
    refine HG.out _ _ ?_
    rw [List.nil_append, flat_get BlkX.cells 3 BlkX.cells_len zs i j hi' ?_, ← getElem!_pos zs i hi']
    · exact hv
    · exact (List.getElem?_eq_some_iff.1 hv).1
  refine ⟨g, c', fun i => (zs[i]!).A, fun i => (zs[i]!).c, rfl, ⟨hg1, hg2, by rw [hn.out]; exact hc1, hc2, HF.out, fun i hi => ?_⟩, fun i hi => ?_, HB.out⟩
  · have e0 := hcell i hi 0 _ rfl
    have e1 := hcell i hi 1 _ rfl
    have e2 := hcell i hi 2 _ rfl
    rw [hb i hi] at e0 e1 e2
    exact ⟨e0, e1, e2⟩
  · rw [← hb i hi]
    exact (zs[i]!).sl
set_option maxHeartbeats 1000000 in
set_option maxRecDepth 100000 in
/-- slices.Clone at no blocks. -/
theorem cloneB_zero (A : Option Addr) (c : Nat) (w : World) :
    Calls Try.prog 41 #[.slice A 0 c] w fun e w' => ∃ A' c', e = .returned (.slice A' 0 c') ∧ ((A' = none ∧ c' = 0) ∨ ∃ D, A' = some ⟨D, 0, none⟩ ∧ w.heap.size ≤ D ∧ D < w'.heap.size ∧ c' ≤ maxLen ∧ ∀ i, w'.frozen? ⟨D, i, none⟩ = false) ∧ Bel w w' := by
  have hq : ∀ (w : World) (a : Option Addr) (n c n' c' : Nat), (binOp .eql 24 (.slice a n c) (.slice none n' c')).run Try.prog w = .ok (.bool a.isNone) w := fun w a n c n' c' => Lib.run_eql_slice_nil w _ _ a n c n' c' Try.underlying24
  cases A with
  | none =>
    go_enter Try.func41, Try.ntmps41
    go_wp2
    go_ret
    exact ⟨none, 0, rfl, .inl ⟨rfl, rfl⟩, Bel.refl _⟩
  | some a =>
    go_enter Try.func41, Try.ntmps41
    go_wp2_with (refine at_append w.heap.size 33 (.agg #[.int .i64 0, .int .i64 0, .slice none 0 0]) 3 40 Try.underlying24 info_Block rfl (by decide) (.slice (some ⟨w.heap.size, 0, none⟩) 0 0) 0 [] (by rfl) (World.ownsRow_made w #[] 0 (Nat.le_refl _) (Nat.zero_le _) rfl) a 0 c [] (by rfl) (by rfl) (by intro j u hu; simp at hu) (by intro u hu; cases hu) (by simp only [maxLen]; omega) (by omega) (by simp) w (Nat.le_refl _) ((Bel.refl w).alloc _) rfl ?_; intro v' w' o1 g1 b1 at1)
    rcases own_openK o1 with ⟨rfl, h0⟩ | ⟨g, c', rfl, hg1, hg2, hc1, hc2, hfz, -⟩
    · clear o1 g1 at1
      go_wp2
      go_ret
      exact ⟨none, 0, rfl, .inl ⟨rfl, rfl⟩, b1⟩
    · clear o1 g1 at1
      have HF := Lib.hid hfz
      clear hfz
      go_wp2
      go_ret
      exact ⟨_, c', rfl, .inr ⟨g, rfl, hg1, hg2, hc2, HF.out⟩, b1⟩
end Go.Proofs.Ytegdnmlpoglfeaa
