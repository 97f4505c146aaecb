/- slices.Clone at instructions and at functions. -/
import Derived.Test.YtcllifcafgiopaaPg14
import Derived.ArgAppend
set_option linter.unusedVariables false
set_option linter.unusedSimpArgs false
namespace Go.Proofs.Ytcllifcafgiopaa
open Go.RowKit

theorem insts_one (l : List InstD) : ∀ u ∈ l.flatMap InstD.cells, u.oneCell' = true := by
  intro u hu
  obtain ⟨x, _, hx⟩ := List.mem_flatMap.1 hu
  exact inst_one x u hx
/-- The cells of a slice of instructions, in one row. -/
theorem insts_row {w : World} {b off c : Nat} {l : List InstD} (h : Sl InstR 7 w (some ⟨b, off, none⟩) c l) : ∀ j u, (l.flatMap InstD.cells)[j]? = some u → w.cell? ((⟨b, off, none⟩ : Addr).add j) = some u := by
  intro j u hu
  have hlen : ∀ x : InstD, (InstD.cells x).length = 7 := fun _ => rfl
  have hj : j < l.length * 7 := by rw [← flat_lenP InstD.cells 7 hlen l]; exact (List.getElem?_eq_some_iff.1 hu).1
  have hi : j / 7 < l.length := by omega
  have e := flat_getP InstD.cells 7 hlen l (j / 7) (j % 7) hi (Nat.mod_lt _ (by decide))
  rw [show j / 7 * 7 + j % 7 = j by omega, hu] at e
  rw [Addr.add_lit]
  obtain ⟨b', off', cs, e', -, ⟨rfl, -⟩, hc⟩ := h.get (j / 7) hi
  simp at e'; obtain ⟨rfl, rfl⟩ := e'
  have := hc (j % 7) u e.symm
  rwa [show off + j / 7 * 7 + j % 7 = off + j by omega] at this
set_option maxHeartbeats 1000000 in
theorem cloneI_any (A : Option Addr) (n c : Nat) (l : List InstD) (w : World) (h : Sl InstR 7 w A c l) (hn : Hid (l.length = n)) (hp : Hid (0 < n ∧ n ≤ 4096)) :
    Calls Try.prog 32 #[.slice A n c] w fun e w' => ∃ v, e = .returned v ∧ w'.ownsRow w.heap.size 43 7 v n (l.flatMap InstD.cells) ∧ Bel w w' := by
  obtain ⟨b, off, rfl⟩ := h.addr (by rw [hn.out]; exact hp.out.1)
  have HC : Hid (∀ j u, (l.flatMap InstD.cells)[j]? = some u → (w.alloc (.cells #[] 43)).cell? ((⟨b, off, none⟩ : Addr).add j) = some u) := Lib.hid fun j u hu => ((Bel.refl w).alloc _).cell (insts_row h j u hu)
  have HL : Hid ((l.flatMap InstD.cells).length = n * 7) := Lib.hid (by rw [flat_lenP InstD.cells 7 (fun _ => rfl) l, hn.out])
  clear h
  have hq : ∀ (w : World) (a : Option Addr) (n c n' c' : Nat), (binOp .eql 36 (.slice a n c) (.slice none n' c')).run Try.prog w = .ok (.bool a.isNone) w := fun w a n c n' c' => Lib.run_eql_slice_nil w _ _ a n c n' c' Try.underlying36
  have hp2 := hp.out.2
  go_enter Try.func32, Try.ntmps32
  go_wp2_with (refine at_append w.heap.size 43 (.agg #[.int .i64 0, .int .i64 0, .int .i64 0, .int .i64 0, .bool false, .int .i64 0, .int .u32 0]) 7 56 Try.underlying36 info_inst rfl (by decide) (.slice (some ⟨w.heap.size, 0, none⟩) 0 0) 0 [] (by rfl) (World.ownsRow_made w #[] 0 (Nat.le_refl _) (Nat.zero_le _) rfl) ⟨b, off, none⟩ n c (l.flatMap InstD.cells) (by rfl) HL.out HC.out (insts_one l) (by simp only [maxLen]; omega) (by omega) (by simp) w (Nat.le_refl _) ((Bel.refl w).alloc _) rfl ?_; intro v' w' o1 g1 b1 at1; have at1 := Lib.hid at1)
  clear g1 at1
  have HB := Lib.hid b1
  have HG := Lib.hid o1
  clear b1 o1 hp2
  go_ret
  refine ⟨_, rfl, ?_, HB.out⟩
  have := HG.out
  rw [Nat.zero_add, List.nil_append] at this
  exact this
/-- Functions that lie in a block of the call's own, their codes where they were. -/
structure RowF (b0 : Nat) (W : World) (D c : Nat) (L : List FnD) (A : Nat → Option Addr) (cc : Nat → Nat) : Prop where
  D0 : b0 ≤ D
  ty : ∃ cur, W.heap[D]? = some (.cells cur 38 (0, 0))
  le : L.length ≤ c
  big : c ≤ maxLen
  cells : ∀ i (hi : i < L.length), W.cell? ⟨D, i * 2, none⟩ = some (.int .i64 (L[i]).args) ∧ W.cell? ⟨D, i * 2 + 1, none⟩ = some (.slice (A i) (L[i]).code.length (cc i))
theorem RowF.lt {b0 : Nat} {W : World} {D c : Nat} {L : List FnD} {A : Nat → Option Addr} {cc : Nat → Nat} (h : RowF b0 W D c L A cc) : D < W.heap.size := by
  obtain ⟨cur, e⟩ := h.ty
  exact (Array.getElem?_eq_some_iff.1 e).1
theorem RowF.frz {b0 : Nat} {W : World} {D c : Nat} {L : List FnD} {A : Nat → Option Addr} {cc : Nat → Nat} (h : RowF b0 W D c L A cc) (i : Nat) : W.frozen? ⟨D, i, none⟩ = false := by
  obtain ⟨cur, e⟩ := h.ty
  simp [World.frozen?, e]
theorem FnX.cells_len {w : World} (x : FnX w) : x.cells.length = 2 := rfl
theorem FnX.one {w : World} (zs : List (FnX w)) : ∀ u ∈ zs.flatMap FnX.cells, u.oneCell' = true := by
  intro u hu
  obtain ⟨x, _, hx⟩ := List.mem_flatMap.1 hu
  simp only [FnX.cells, List.mem_cons, List.not_mem_nil, or_false] at hx
  rcases hx with rfl | rfl <;> rfl
set_option maxHeartbeats 1000000 in
theorem cloneF_any (b off n c : Nat) (L : List FnD) (w0 w : World) (hb0 : Hid (Bel w0 w)) (h : Sl FnR 2 w0 (some ⟨b, off, none⟩) c L) (hn : Hid (L.length = n)) (hp : Hid (0 < n ∧ n ≤ 4096)) :
    Calls Try.prog 31 #[.slice (some ⟨b, off, none⟩) n c] w fun e w' => ∃ D c' A cc, e = .returned (.slice (some ⟨D, 0, none⟩) n c') ∧ RowF w.heap.size w' D c' L A cc ∧ (∀ i (hi : i < L.length), Sl InstR 7 w0 (A i) (cc i) (L[i]).code) ∧ Bel w w' := by
  obtain ⟨zs, hz, hcs⟩ := h.fns
  have hzl : zs.length = n := by rw [← hn.out, ← hz]; simp
  have hfl := flat_lenP FnX.cells 2 FnX.cells_len zs
  rw [hzl] at hfl
  have HC : Hid (∀ j u, (zs.flatMap FnX.cells)[j]? = some u → (w.alloc (.cells #[] 38)).cell? ((⟨b, off, none⟩ : Addr).add j) = some u) := Lib.hid (by
    intro j u hu
    have hj : j < n * 2 := by rw [← hfl]; exact (List.getElem?_eq_some_iff.1 hu).1
    have hi : j / 2 < zs.length := by rw [hzl]; omega
    have e := flat_getP FnX.cells 2 FnX.cells_len zs (j / 2) (j % 2) hi (Nat.mod_lt _ (by decide))
    rw [show j / 2 * 2 + j % 2 = j by omega, hu] at e
    rw [Addr.add_lit]
    have := hcs (j / 2) hi (j % 2) u (by rw [getElem!_pos zs _ hi]; exact e.symm)
    rw [show off + j / 2 * 2 + j % 2 = off + j by omega] at this
    exact (hb0.out.alloc _).cell this)
  have HZ : Hid (zs.map FnX.fn = L) := Lib.hid hz
  have HL := Lib.hid hfl
  have HZL := Lib.hid hzl
  clear hcs h hz hfl hzl
  have hq : ∀ (w : World) (a : Option Addr) (n c n' c' : Nat), (binOp .eql 22 (.slice a n c) (.slice none n' c')).run Try.prog w = .ok (.bool a.isNone) w := fun w a n c n' c' => Lib.run_eql_slice_nil w _ _ a n c n' c' Try.underlying22
  have hp2 := hp.out.2
  go_enter Try.func31, Try.ntmps31
  go_wp2_with (refine at_append w.heap.size 38 (.agg #[.int .i64 0, .slice none 0 0]) 2 32 Try.underlying22 info_fn rfl (by decide) (.slice (some ⟨w.heap.size, 0, none⟩) 0 0) 0 [] (by rfl) (World.ownsRow_made w #[] 0 (Nat.le_refl _) (Nat.zero_le _) rfl) ⟨b, off, none⟩ n c (zs.flatMap FnX.cells) (by rfl) HL.out HC.out (FnX.one zs) (by simp only [maxLen]; omega) (by omega) (by simp) w (Nat.le_refl _) ((Bel.refl w).alloc _) rfl ?_; intro v' w' o1 g1 b1 at1; have at1 := Lib.hid at1)
  clear g1 at1
  have HB := Lib.hid b1
  have HG := Lib.hid o1
  clear b1 o1 hp2
  go_ret
  have o2 := HG.out
  rw [Nat.zero_add, List.nil_append] at o2
  obtain ⟨o3, o4⟩ := o2
  rcases o4 with ⟨rfl, h0⟩ | ⟨g, c', cur, rfl, hg1, hg2, hc1, hc2, hs, ht⟩
  · have := hp.out.1; omega
  have hcell : ∀ i (hi : i < zs.length) j v, (FnX.cells zs[i])[j]? = some v → w'.cell? ⟨g, i * 2 + j, none⟩ = some v := by
    intro i hi j v hv
    have hj : j < 2 := (List.getElem?_eq_some_iff.1 hv).1
    have e := flat_getP FnX.cells 2 FnX.cells_len zs i j hi hj
    rw [hv, ← ht, List.getElem?_take, if_pos (by rw [HZL.out] at hi; omega), Array.getElem?_toList] at e
    simp [World.cell?, hg2, e]
  have hL : ∀ i (hi : i < L.length), ∃ hi' : i < zs.length, L[i] = (zs[i]).fn := by
    intro i hi
    have hi' : i < zs.length := by rw [HZL.out, ← hn.out]; exact hi
    refine ⟨hi', ?_⟩
    have := HZ.out
    subst this
    simp
  refine ⟨g, c', fun i => (zs[i]!).A, fun i => (zs[i]!).c, rfl, ⟨hg1, ⟨cur, hg2⟩, by rw [hn.out]; exact hc1, hc2, fun i hi => ?_⟩, fun i hi => ?_, HB.out⟩
  · obtain ⟨hi', e⟩ := hL i hi
    have e0 := hcell i hi' 0 _ rfl
    have e1 := hcell i hi' 1 _ rfl
    rw [e]
    simp only [getElem!_pos zs i hi']
    exact ⟨e0, e1⟩
  · obtain ⟨hi', e⟩ := hL i hi
    rw [e]
    simp only [getElem!_pos zs i hi']
    exact (zs[i]).sl
end Go.Proofs.Ytcllifcafgiopaa
