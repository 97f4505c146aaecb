/- slices.Backward at api.Fn by its contract. -/
import Derived.RangeFuncNested
import Derived.RangeFuncBound
import Derived.RangeFuncCalls
import Derived.RangeFuncLeaves
import Derived.RangeFuncBox
import Derived.Shelf.Abstract
import Derived.WalkKit
import Derived.OwnWalkIn
import Derived.TacticsInMore
import Derived.LoopNIn
import Derived.LoopIn
import Derived.Test.YtebdnobgdimdoaaCrs6
set_option linter.unusedVariables false
set_option linter.unusedSimpArgs false
namespace Go.Proofs.Ytebdnobgdimdoaa
open Go.RowKit Go.Shelf
attribute [local go_sem] Oper.semAt_some

/-- N - 1, .., 0. -/
def downTo (N : Nat) : List (Fin N) := (List.finRange N).reverse
theorem downTo_length (N : Nat) : (downTo N).length = N := by simp [downTo]
theorem downTo_get (N k : Nat) (h : k < (downTo N).length) : (downTo N)[k] = ⟨N - 1 - k, by rw [downTo_length] at h; omega⟩ := by
  simp [downTo, List.getElem_reverse]
theorem downTo_succ (N k : Nat) (hk : k < N) : (downTo N).take (k + 1) = (downTo N).take k ++ [⟨N - 1 - k, by omega⟩] := by
  have h : k < (downTo N).length := by rw [downTo_length]; exact hk
  rw [← downTo_get N k h, List.take_append_getElem]
theorem downTo_all (N : Nat) : (downTo N).take N = downTo N := by
  rw [List.take_of_length_le (by rw [downTo_length]; omega)]
/-- What a round is handed. -/
structure FnV where
  args : Int
  A : Option Addr
  len : Nat
  c : Nat
def FnV.encs {N : Nat} (V : Nat → FnV) (x : Fin N) : Array Value := #[.int .i64 (x.1 : Int), .agg #[.int .i64 (V x.1).args, .slice (V x.1).A (V x.1).len (V x.1).c]]

/-- What a round keeps: what lay below n₀, and the box Bs. -/
structure KpB (n₀ Bs : Nat) (W W' : World) : Prop where
  below : Below n₀ W W'
  box : W'.heap[Bs]? = W.heap[Bs]?
theorem KpB.refl (n₀ Bs : Nat) (W : World) : KpB n₀ Bs W W := ⟨Below.refl _ _, rfl⟩
theorem KpB.trans {n₀ Bs : Nat} {A B C : World} (h : KpB n₀ Bs A B) (k : KpB n₀ Bs B C) : KpB n₀ Bs A C := ⟨h.below.trans k.below, k.box.trans h.box⟩
theorem KpB.turn {n₀ Bs : Nat} {w : World} (hn : n₀ ≤ w.heap.size) (hs : Bs < w.heap.size) (W : World) (l : Nat) (o o' : Obj) (hl : w.heap.size ≤ l) (h : W.heap[l]? = some o) (h1 : o.isCells = false) (h2 : o.isWalk = false) : KpB n₀ Bs W (W.putObj l o') :=
  ⟨belowK_b hn W l o o' hl h h1 h2, World.putObj_heap_other (by omega)⟩
set_option maxRecDepth 100000 in
set_option maxHeartbeats 4000000 in
theorem back1_in (F : Fence) (n : Nat) (h8 : F.fn 52) (hro : F.round = none) (hn : 1 ≤ n) (l Bs n₀ b off len cap : Nat) (V : Nat → FnV) (hreach : len ≤ 1000) (hb : b < n₀) (J Jx : List (Fin len) → World → Prop)
    (hY : ∀ pre x W, J pre W → pre.length < len → YieldAt F (n - 1) Try.prog l (FnV.encs V x) W fun e W' =>
      (e = .returned (.bool true) ∧ J (pre ++ [x]) W' ∧ KpB n₀ Bs W W') ∨ (e = .returned (.bool false) ∧ Jx (pre ++ [x]) W'))
    (W : World) (hBs : W.cell? ⟨Bs, 0, none⟩ = some (.slice (some ⟨b, off, none⟩) len cap)) (hc : ∀ j, j < len → W.cell? ⟨b, off + j * 2, none⟩ = some (.int .i64 (V j).args) ∧ W.cell? ⟨b, off + j * 2 + 1, none⟩ = some (.slice (V j).A (V j).len (V j).c)) (h0 : J [] W) :
    CallsIn F n Try.prog 52 #[.func (.yield l) #[] #[], .pointer (some ⟨Bs, 0, none⟩)] W fun e W' => (∃ v, e = .returned v) ∧
      ((∃ ys, ys = downTo len ∧ J ys W') ∨ (∃ pre, True ∧ Jx pre W')) := by
  have e0 : IntKind.i64.wrap ((len : Int) - 1) = (len : Int) - 1 := wrap_i64 (by omega) (by omega)
  refine callsIn_of_wp Try.func52 rfl h8 ?_ hro
  simp only [Try.ntmps52, List.size_toArray, List.length_cons, List.length_nil, Nat.reduceAdd, Nat.reduceSub, Array.replicate_succ, Array.replicate_zero, List.push_toArray, List.append_toArray, List.nil_append, List.cons_append]
  gi_wp2
  clear e0
  gi_loopw [3] (fun i wr => ∃ k : Nat, k ≤ len ∧ i = .int .i64 ((len : Int) - 1 - k) ∧ J ((downTo len).take k) wr ∧ KpB n₀ Bs W wr)
    (fun i _ => (intOf i + 1).toNat)
  case atStart => exact ⟨0, Nat.zero_le _, by simp, h0, KpB.refl _ _ _⟩
  case round =>
    obtain ⟨k, hk, rfl, hJs, hnx⟩ := hrel
    have hBs' : wr.cell? ⟨Bs, 0, none⟩ = some (.slice (some ⟨b, off, none⟩) len cap) := (World.cell?_of_block hnx.box).trans hBs
    by_cases hlt : k < len
    · obtain ⟨p, hp⟩ : ∃ p : Nat, p = len - 1 - k := ⟨_, rfl⟩
      have ep : (len : Int) - 1 - k = (p : Int) := by omega
      have hpl : p < len := by omega
      obtain ⟨fn, tmps, assign, body, hy, hR⟩ := hY _ ⟨p, hpl⟩ wr hJs (by rw [List.length_take, downTo_length]; omega)
      have hs : (downTo len).take (k + 1) = (downTo len).take k ++ [⟨p, hpl⟩] := (downTo_succ len k hlt).trans (by rw [show (⟨len - 1 - k, by omega⟩ : Fin len) = ⟨p, hpl⟩ from Fin.ext hp.symm])
      have HSU := Lib.hid hs
      obtain ⟨hc0, hc1⟩ := hc p hpl
      have k0 : wr.cell? ⟨b, off + p * 2, none⟩ = some (.int .i64 (V p).args) := (hnx.below.cell (p := ⟨b, off + p * 2, none⟩) hb).trans hc0
      have k1 : wr.cell? ⟨b, off + p * 2 + 1, none⟩ = some (.slice (V p).A (V p).len (V p).c) := (hnx.below.cell (p := ⟨b, off + p * 2 + 1, none⟩) hb).trans hc1
      have p0 : 0 ≤ (p : Int) := by omega
      have hpl' : (p : Int) < len := by omega
      have e1 : IntKind.i64.wrap ((p : Int) - 1) = (p : Int) - 1 := wrap_i64 (by omega) (by omega)
      have eq2 : (p : Int) - 1 = (len : Int) - 1 - ((k + 1 : Nat) : Int) := by omega
      have EQ2 := Lib.hid eq2
      have hkp : Hid (k + 1 ≤ len) := Lib.hid (by omega)
      rw [ep]
      clear ep hp eq2 hs hc hc0 hc1 hk hlt hBs h0
      simp only [FnV.encs] at hy
      gi_wp2
      refine hR.mono ?_
      rintro e W3 (⟨rfl, hJ3, hk3⟩ | ⟨rfl, hJx3⟩)
      · -- THE ROUND GOES ON
        gi_wp2
        go_roundw
        case rel => exact ⟨k + 1, hkp.out, by rw [EQ2.out], by rw [HSU.out]; exact hJ3, hnx.trans hk3⟩
        case measure => simp [intOf] <;> omega
      · gi_wp2
        refine bodyPost_ret (results_none rfl _ _ _) rfl ?_
        exact ⟨⟨_, rfl⟩, .inr ⟨_, trivial, hJx3⟩⟩
    · obtain rfl : k = len := by omega
      have ep : (k : Int) - 1 - k = -1 := by omega
      rw [ep]
      rw [downTo_all] at hJs
      clear ep
      gi_wp2
      go_end0
      exact ⟨⟨_, rfl⟩, .inl ⟨_, rfl, hJs⟩⟩

/-- slices.Backward(s): the slice value is boxed; the function value captures the box. -/
theorem back_in (F : Fence) (n : Nat) (h6 : F.fn 30) (hro : F.round = none) (a : Option Addr) (len cap : Nat) (w : World) :
    CallsIn F n Try.prog 30 #[.slice a len cap] w fun e w' => e = .returned (.func (.func 52) #[] #[.pointer (some ⟨w.heap.size, 0, none⟩)]) ∧ w' = w.alloc (.cells #[.slice a len cap] 22) := by
  refine callsIn_of_wp Try.func30 rfl h6 ?_ hro
  simp only [Try.ntmps30, List.size_toArray, List.length_cons, List.length_nil, Nat.reduceAdd, Nat.reduceSub, Array.replicate_succ, Array.replicate_zero, List.push_toArray, List.append_toArray, List.nil_append, List.cons_append]
  gi_wp2
  go_ret
  exact ⟨rfl, rfl⟩

theorem back_stops (F : Fence) (n : Nat) (h8 : F.fn 52) (hro : F.round = none) (hn : 1 ≤ n) (Bs n₀ b off len cap : Nat) (V : Nat → FnV) (hreach : len ≤ 1000) (hb : b < n₀) (w : World) (hBs0 : Bs < w.heap.size) (hn₀ : n₀ ≤ w.heap.size)
    (hBs : w.cell? ⟨Bs, 0, none⟩ = some (.slice (some ⟨b, off, none⟩) len cap)) (hc : ∀ j, j < len → w.cell? ⟨b, off + j * 2, none⟩ = some (.int .i64 (V j).args) ∧ w.cell? ⟨b, off + j * 2 + 1, none⟩ = some (.slice (V j).A (V j).len (V j).c)) :
    SeqStopsK F n Try.prog 52 #[.pointer (some ⟨Bs, 0, none⟩)] (FnV.encs (N := len) V) (KpB n₀ Bs) (fun ys => ys = downTo len) (fun _ => True) len w := fun l J Jx W hW _ _ hY h0 =>
  back1_in F n h8 hro hn l Bs n₀ b off len cap V hreach hb J Jx hY W ((hW.cell (p := ⟨Bs, 0, none⟩) hBs0).trans hBs)
    (fun j hj => ⟨(hW.cell (p := ⟨b, off + j * 2, none⟩) (by simp only; omega)).trans (hc j hj).1, (hW.cell (p := ⟨b, off + j * 2 + 1, none⟩) (by simp only; omega)).trans (hc j hj).2⟩) h0
end Go.Proofs.Ytebdnobgdimdoaa
