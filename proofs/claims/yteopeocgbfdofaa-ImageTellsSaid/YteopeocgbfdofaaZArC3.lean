/- arena.gaps, the iterator, by its contract. -/
import Derived.RangeFuncNested
import Derived.RangeFuncBound
import Derived.RangeFuncCalls
import Derived.RangeFuncLeaves
import Derived.RangeFuncBox
import Derived.Shelf.Abstract
import Derived.WalkKit
import Derived.OwnWalkIn
import Derived.TacticsInMore
import Derived.LoopNIn
import Derived.LoopIn
import Derived.Test.YteopeocgbfdofaaZArC2
set_option linter.unusedVariables false
set_option linter.unusedSimpArgs false
namespace Go.Proofs.Yteopeocgbfdofaa
open Go.RowKit Go.Shelf
attribute [local go_sem] Oper.semAt_some

/-- A gap's ends. -/
abbrev GapV := { x : Int × Int // 0 ≤ x.1 ∧ x.1 ≤ 1024 ∧ 0 ≤ x.2 ∧ x.2 ≤ 1024 }
def gapEnc (x : GapV) : Array Value := #[.int .i64 x.1.1, .int .i64 x.1.2]
def vals (xs : List GapV) : List (Int × Int) := xs.map Subtype.val
theorem vals_snoc (xs : List GapV) (x : GapV) : vals (xs ++ [x]) = vals xs ++ [x.1] := by simp [vals]
/-- What a round keeps: what lay below n₀, and whatever cells there are from Bs on. -/
structure KpG (n₀ Bs : Nat) (W W' : World) : Prop where
  below : Below n₀ W W'
  cells : ∀ k o, W.heap[k]? = some o → o.isCells = true → Bs ≤ k → W'.heap[k]? = some o
theorem KpG.refl (n₀ Bs : Nat) (W : World) : KpG n₀ Bs W W := ⟨Below.refl _ _, fun _ _ h _ _ => h⟩
theorem KpG.trans {n₀ Bs : Nat} {A B C : World} (h : KpG n₀ Bs A B) (k : KpG n₀ Bs B C) : KpG n₀ Bs A C := ⟨h.below.trans k.below, fun i o h1 h2 h3 => k.cells i o (h.cells i o h1 h2 h3) h2 h3⟩
theorem KpG.turn {n₀ Bs : Nat} {w : World} (hn : n₀ ≤ w.heap.size) (W : World) (l : Nat) (o o' : Obj) (hl : w.heap.size ≤ l) (h : W.heap[l]? = some o) (h1 : o.isCells = false) (h2 : o.isWalk = false) : KpG n₀ Bs W (W.putObj l o') :=
  ⟨belowK_b hn W l o o' hl h h1 h2, fun k u hk hu _ => by
    by_cases e : k = l
    · subst e; rw [h] at hk; cases hk; rw [h1] at hu; cases hu
    · rw [World.putObj_heap_other e]; exact hk⟩
theorem KpG.alloc {n₀ Bs : Nat} {A B : World} (h : KpG n₀ Bs A B) (hn : n₀ ≤ B.heap.size) (o : Obj) : KpG n₀ Bs A (B.alloc o) :=
  ⟨h.below.alloc hn o, fun k u hk hu hb => (Below.heap_alloc _ _ _ (Array.getElem?_eq_some_iff.1 (h.cells k u hk hu hb)).1).trans (h.cells k u hk hu hb)⟩
theorem KpG.cell {n₀ Bs : Nat} {W W' : World} (h : KpG n₀ Bs W W') {p : Addr} {v : Value} (hp : Bs ≤ p.block) (hc : W.cell? p = some v) : W'.cell? p = some v := by
  obtain ⟨o, h1, h2⟩ := cells_of_cell hc
  exact (World.cell?_of_block ((h.cells _ o h1 h2 hp).trans h1.symm)).trans hc
theorem end_at (id a : Int) (A : Option Addr) (n c : Nat) (w : World) (r : Int) (hr : Hid (IntKind.i64.wrap (a + n) = r)) :
    Calls Try.prog 50 #[.agg #[.int .i64 id, .int .i64 a, .slice A n c]] w fun e w' => e = .returned (.int .i64 r) ∧ w' = w.alloc (.cells #[.int .i64 id, .int .i64 a, .slice A n c] 69) := by
  have hr' := hr.out
  go_enter Try.func50, Try.ntmps50
  go_wp2_with fail
  go_ret
  exact ⟨rfl, rfl⟩
theorem Ok.gap {m : MemD} (h : Ok m) {i : Nat} (hi : i ≤ m.l.length) : 0 ≤ prevEnd m.l i ∧ prevEnd m.l i ≤ 1024 ∧ 0 ≤ nextAt m i ∧ nextAt m i ≤ 1024 := by
  have h1 := h.prev i hi
  have h2 := h.next hi
  have h3 := h.cap1
  omega
theorem gaps_len {m : MemD} {i : Nat} {pre : List GapV} (hp : vals pre = gapsUpto m i) (hi : i ≤ m.l.length) (hl : prevEnd m.l i < nextAt m i) : pre.length < (gapsL m).length := by
  have h1 : pre.length = (gapsUpto m i).length := by rw [← hp]; simp [vals]
  have h2 := (gapsUpto_pre m (i + 1) (m.l.length + 1) (by omega)).length_le
  have h3 : (gapsUpto m (i + 1)).length = (gapsUpto m i).length + 1 := by
    rw [gapsUpto]; unfold gapAt; rw [if_pos hl]; simp
  unfold gapsL
  omega
set_option maxRecDepth 100000 in
set_option maxHeartbeats 8000000 in
theorem gaps1_in (n : Nat) (hn : 1 ≤ n) (z Bs : Nat) (cap : Int) (A : Option Addr) (c nn : Nat) (l : List BlkD) (w0 : World) (hS : Sl BlkR 3 w0 A c l) (hnn : Hid (l.length = nn)) (hok : Hid (Ok ⟨cap, l⟩)) (hbs : w0.heap.size ≤ Bs) (J Jx : List GapV → World → Prop)
    (W : World) (hW0 : Bel w0 W) (hJ : AbidesFrom W.heap.size J)
    (hY : ∀ pre x W, J pre W → pre.length < (gapsL ⟨cap, l⟩).length → YieldAt Fence.wide (n - 1) Try.prog z (gapEnc x) W fun e W' =>
      (e = .returned (.bool true) ∧ J (pre ++ [x]) W' ∧ KpG w0.heap.size Bs W W') ∨ (e = .returned (.bool false) ∧ Jx (pre ++ [x]) W'))
    (hB0 : W.cell? ⟨Bs, 0, none⟩ = some (.int .i64 cap)) (hB1 : W.cell? ⟨Bs, 1, none⟩ = some (.slice A nn c)) (h0 : J [] W) :
    CallsIn Fence.wide n Try.prog 71 #[.func (.yield z) #[] #[], .pointer (some ⟨Bs, 0, none⟩)] W fun e W' => (∃ v, e = .returned v) ∧
      ((∃ ys, vals ys = gapsL ⟨cap, l⟩ ∧ J ys W') ∨ (∃ pre, vals pre <+: gapsL ⟨cap, l⟩ ∧ Jx pre W')) := by
  have hbsW : Bs < W.heap.size := World.block_lt_of_cell? _ _ hB0
  have HS := Lib.hid hS
  have HJ := Lib.hid hJ
  have HY := Lib.hid hY
  have hnlen : l.length ≤ 9223372036854775807 := by have := hS.le; have := hS.big; simp only [maxLen] at this; omega
  rw [hnn.out] at hnlen
  have HNL := Lib.hid hnlen
  have HW0 := Lib.hid hW0
  clear hS hJ hY hnlen
  refine callsIn_of_wp Try.func71 rfl trivial ?_ rfl
  simp only [Try.ntmps71, List.size_toArray, List.length_cons, List.length_nil, Nat.reduceAdd, Nat.reduceSub, Array.replicate_succ, Array.replicate_zero, List.push_toArray, List.append_toArray, List.nil_append, List.cons_append]
  gi_wp2
  gi_loopw [3, 9] (fun fv iv wr => ∃ (i : Nat) (pre : List GapV), iv = .int .i64 i ∧ i ≤ nn ∧ fv = .int .i64 (prevEnd l i) ∧ vals pre = gapsUpto ⟨cap, l⟩ i ∧ J pre wr ∧ KpG w0.heap.size Bs W wr ∧ W.heap.size ≤ wr.heap.size)
    (fun _ iv _ => nn - (intOf iv).toNat)
  case atStart => exact ⟨0, [], rfl, Nat.zero_le _, rfl, rfl, h0, KpG.refl _ _ _, Nat.le_refl _⟩
  case round =>
    obtain ⟨i, pre, rfl, hi, rfl, hpre, hJs, hkp, hsz⟩ := hrel
    have hB0' := hkp.cell (p := ⟨Bs, 0, none⟩) (Nat.le_refl _) hB0
    have hB1' := hkp.cell (p := ⟨Bs, 1, none⟩) (Nat.le_refl _) hB1
    have HBw : Bel w0 wr := ⟨HW0.out.out.trans hkp.below⟩
    have hgap := hok.out.gap (i := i) (by simp only; rw [hnn.out]; exact hi)
    simp only at hgap
    obtain ⟨pe, hpe⟩ : ∃ pe, Hid (prevEnd l i = pe) := ⟨_, Lib.hid rfl⟩
    have hlenG := fun (h : prevEnd l i < nextAt ⟨cap, l⟩ i) => gaps_len (m := ⟨cap, l⟩) hpre (by simp only; rw [hnn.out]; exact hi) h
    have hsnoc : Hid (gapsUpto ⟨cap, l⟩ (i + 1) = vals pre ++ gapAt ⟨cap, l⟩ i) := Lib.hid (by rw [gapsUpto, hpre])
    have hupto : Hid (gapsUpto ⟨cap, l⟩ (i + 1) <+: gapsL ⟨cap, l⟩) := Lib.hid (gapsUpto_pre _ _ _ (by simp only; rw [hnn.out]; omega))
    unfold gapAt at hsnoc
    simp only at hsnoc
    obtain ⟨nx, hnx⟩ : ∃ nx, Hid (nextAt ⟨cap, l⟩ i = nx) := ⟨_, Lib.hid rfl⟩
    rw [hpe.out, hnx.out] at hgap hlenG hsnoc
    rw [hpe.out]
    by_cases hin : i = nn
    · subst hin
      have hncap : nx = cap := by
        rw [← hnx.out]; unfold nextAt; rw [if_neg (by simp only; rw [hnn.out]; omega)]
      have hfull : Hid (gapsL ⟨cap, l⟩ = gapsUpto ⟨cap, l⟩ (i + 1)) := Lib.hid (by unfold gapsL; simp only; rw [hnn.out])
      subst hncap
      by_cases hlt : pe < nx
      · obtain ⟨fn, tmps, assign, body, hy, hR⟩ := HY.out pre ⟨(pe, nx), hgap⟩ wr hJs (hlenG hlt)
        simp only [gapEnc] at hy
        have HV : Hid (vals (pre ++ [⟨(pe, nx), hgap⟩]) = gapsL ⟨nx, l⟩) := Lib.hid (by rw [vals_snoc, hfull.out, hsnoc.out, if_pos hlt])
        clear hlenG hB1 hB1' hpre
        gi_wp2
        refine hR.mono ?_
        rintro e W3 (⟨rfl, hJ3, hk3⟩ | ⟨rfl, hJx3⟩)
        · gi_wp2
          go_end0
          exact ⟨⟨_, rfl⟩, .inl ⟨_, HV.out, hJ3⟩⟩
        · gi_wp2
          go_end0
          exact ⟨⟨_, rfl⟩, .inr ⟨_, by rw [HV.out]; exact List.prefix_refl _, hJx3⟩⟩
      · have HV : Hid (vals pre = gapsL ⟨nx, l⟩) := Lib.hid (by rw [hfull.out, hsnoc.out, if_neg hlt, List.append_nil])
        have hlt' : ¬ pe < nx := hlt
        clear hlenG hB1 hB1' hpre
        gi_wp2
        go_end0
        exact ⟨⟨_, rfl⟩, .inl ⟨_, HV.out, hJs⟩⟩
    · have hi1 : i < nn := by omega
      have hi2 : (i : Int) < nn := by omega
      have i0 : 0 ≤ (i : Int) := by omega
      have HIL : Hid (i < l.length) := Lib.hid (by rw [hnn.out]; exact hi1)
      have HEI : Hid (IntKind.i64.wrap ((i : Int) + 1) = (i : Int) + 1) := Lib.hid (wrap_i64 (by omega) (by have := HNL.out; omega))
      obtain ⟨b0, o0, rfl⟩ := HS.out.addr (by rw [hnn.out]; omega)
      obtain ⟨A', c', d0, d1, d2, -, -, -⟩ := blk_cells (HS.out.mono BlkR.mono HBw) i HIL.out
      have hbnd := hok.out.bounds (i := i) HIL.out
      have hlo := (hok.out.blk i HIL.out).lo
      have hnxa : nx = (l[i]!).at' := by rw [← hnx.out]; unfold nextAt; rw [if_pos HIL.out]
      have hsucc := prevEnd_succ l i
      simp only at hbnd hlo
      rw [hpe.out] at hlo
      obtain ⟨pn, hpn⟩ : ∃ pn, Hid (prevEnd l (i + 1) = pn) := ⟨_, Lib.hid rfl⟩
      rw [hpn.out] at hsucc
      generalize l[i]! = B at *
      obtain ⟨id, a, ws⟩ := B
      simp only at d0 d1 d2 hbnd hlo hnxa hsucc
      generalize ws.length = m at *
      subst hnxa
      have HW : Hid (IntKind.i64.wrap (nx + m) = pn) := Lib.hid (by rw [wrap_i64 (by omega) (by omega)]; exact hsucc.symm)
      have hJ5 := HJ.out pre wr (wr.alloc (.cells #[.int .i64 id, .int .i64 nx, .slice A' m c'] 69)) none hJs (World.grownBy_alloc wr _ none) (fun r e => by cases e)
      have hk5 := hkp.alloc (by have := hW0.size; omega) (.cells #[.int .i64 id, .int .i64 nx, .slice A' m c'] 69)
      have f0 := cell_fresh wr #[.int .i64 id, .int .i64 nx, .slice A' m c'] 69 0 (.int .i64 id) rfl
      have f1 := cell_fresh wr #[.int .i64 id, .int .i64 nx, .slice A' m c'] 69 1 (.int .i64 nx) rfl
      have f2 := cell_fresh wr #[.int .i64 id, .int .i64 nx, .slice A' m c'] 69 2 (.slice A' m c') rfl
      have hgb : Bs ≤ wr.heap.size := by omega
      have hs5 : wr.heap.size < (wr.alloc (.cells #[.int .i64 id, .int .i64 nx, .slice A' m c'] 69)).heap.size := by simp
      have hs6 : W.heap.size ≤ (wr.alloc (.cells #[.int .i64 id, .int .i64 nx, .slice A' m c'] 69)).heap.size := by omega
      obtain ⟨gb, hgb2⟩ : ∃ gb, wr.heap.size = gb := ⟨_, rfl⟩
      rw [hgb2] at f0 f1 f2 hgb hs5
      obtain ⟨W5, hW5⟩ : ∃ W5, W5 = wr.alloc (.cells #[.int .i64 id, .int .i64 nx, .slice A' m c'] 69) := ⟨_, rfl⟩
      by_cases hlt : pe < nx
      · have hl2 := hlenG hlt
        rw [← hW5] at hJ5
        obtain ⟨fn, tmps, assign, body, hy, hR⟩ := HY.out pre ⟨(pe, nx), hgap⟩ W5 hJ5 hl2
        simp only [gapEnc] at hy
        have HV : Hid (vals (pre ++ [⟨(pe, nx), hgap⟩]) = gapsUpto ⟨cap, l⟩ (i + 1)) := Lib.hid (by rw [vals_snoc, hsnoc.out, if_pos hlt])
        rw [hW5] at hy hR
        have HK5 := Lib.hid hk5
        have HS6 := Lib.hid hs6
        have F0 := Lib.hid f0
        have F1 := Lib.hid f1
        have F2 := Lib.hid f2
        clear hlenG hB1 hB1' hpre hJ5 hW5 hl2 hkp hk5 hs6 f0 f1 f2 hin hsucc
        gi_wp2
        refine hR.mono ?_
        rintro e W3 (⟨rfl, hJ3, hk3⟩ | ⟨rfl, hJx3⟩)
        · have f0 := hk3.cell (p := ⟨gb, 0, none⟩) hgb F0.out
          have f1 := hk3.cell (p := ⟨gb, 1, none⟩) hgb F1.out
          have f2 := hk3.cell (p := ⟨gb, 2, none⟩) hgb F2.out
          have hsz3 := hk3.below.size
          gi_wp2_with fail
          refine ⟨trivial, ?_⟩
          refine (callsIn_wide.2 (end_at id nx A' m c' _ pn HW)).mono ?_
          rintro e W6 ⟨rfl, rfl⟩
          have ek := HEI.out
          have hJ6 := HJ.out _ W3 (W3.alloc (.cells #[.int .i64 id, .int .i64 nx, .slice A' m c'] 69)) none hJ3 (World.grownBy_alloc W3 _ none) (fun r e => by cases e)
          have hK6 := (HK5.out.trans hk3).alloc (by have := HK5.out.below.size; have := HW0.out.size; omega) (.cells #[.int .i64 id, .int .i64 nx, .slice A' m c'] 69)
          have hS6 : W.heap.size ≤ (W3.alloc (.cells #[.int .i64 id, .int .i64 nx, .slice A' m c'] 69)).heap.size := by have := HS6.out; simp only [World.size_alloc] at *; omega
          gi_wp2
          go_roundw
          case rel => exact ⟨i + 1, _, by simp, by omega, by rw [hpn.out], HV.out, hJ6, hK6, hS6⟩
          case measure => simp [intOf]; omega
        · gi_wp2
          refine bodyPost_ret (results_none rfl _ _ _) rfl ?_
          exact ⟨⟨_, rfl⟩, .inr ⟨_, by rw [HV.out]; exact hupto.out, hJx3⟩⟩
      · have hlt' : ¬ pe < nx := hlt
        have HV : Hid (vals pre = gapsUpto ⟨cap, l⟩ (i + 1)) := Lib.hid (by rw [hsnoc.out, if_neg hlt, List.append_nil])
        have HK5 := Lib.hid hk5
        have HS6 := Lib.hid hs6
        have HJ5 := Lib.hid hJ5
        clear hlenG hB1 hB1' hpre hJ5 hW5 hkp hk5 hs6 hin hsucc hlt
        gi_wp2_with fail
        refine ⟨fun _ h => (by cases h), ?_⟩
        gi_wp2_with fail
        refine ⟨trivial, ?_⟩
        refine (callsIn_wide.2 (end_at id nx A' m c' _ pn HW)).mono ?_
        rintro e W6 ⟨rfl, rfl⟩
        have ek := HEI.out
        have hJ6 := HJ.out _ _ ((wr.alloc (.cells #[.int .i64 id, .int .i64 nx, .slice A' m c'] 69)).alloc (.cells #[.int .i64 id, .int .i64 nx, .slice A' m c'] 69)) none HJ5.out (World.grownBy_alloc _ _ none) (fun r e => by cases e)
        have hK6 := HK5.out.alloc (by have := HK5.out.below.size; have := HW0.out.size; omega) (.cells #[.int .i64 id, .int .i64 nx, .slice A' m c'] 69)
        have hS6 : W.heap.size ≤ ((wr.alloc (.cells #[.int .i64 id, .int .i64 nx, .slice A' m c'] 69)).alloc (.cells #[.int .i64 id, .int .i64 nx, .slice A' m c'] 69)).heap.size := by have := HS6.out; simp only [World.size_alloc] at *; omega
        gi_wp2
        go_roundw
        case rel => exact ⟨i + 1, _, by simp, by omega, by rw [hpn.out], HV.out, hJ6, hK6, hS6⟩
        case measure => simp [intOf]; omega
/-- arena.gaps(m): the memory is boxed; the function value captures the box. -/
theorem gaps_in (n : Nat) (cap : Int) (A : Option Addr) (nn c : Nat) (w : World) :
    CallsIn Fence.wide n Try.prog 56 #[.agg #[.int .i64 cap, .slice A nn c]] w fun e w' => e = .returned (.func (.func 71) #[] #[.pointer (some ⟨w.heap.size, 0, none⟩)]) ∧ w' = w.alloc (.cells #[.int .i64 cap, .slice A nn c] 45) := by
  refine callsIn_of_wp Try.func56 rfl trivial ?_ rfl
  simp only [Try.ntmps56, List.size_toArray, List.length_cons, List.length_nil, Nat.reduceAdd, Nat.reduceSub, Array.replicate_succ, Array.replicate_zero, List.push_toArray, List.append_toArray, List.nil_append, List.cons_append]
  gi_wp2
  go_ret
  exact ⟨rfl, rfl⟩
theorem gaps_stops (n : Nat) (hn : 1 ≤ n) (Bs : Nat) (cap : Int) (A : Option Addr) (c nn : Nat) (l : List BlkD) (w0 w : World) (hS : Sl BlkR 3 w0 A c l) (hnn : Hid (l.length = nn)) (hok : Hid (Ok ⟨cap, l⟩)) (hbs : w0.heap.size ≤ Bs) (hw : Bel w0 w)
    (hB0 : w.cell? ⟨Bs, 0, none⟩ = some (.int .i64 cap)) (hB1 : w.cell? ⟨Bs, 1, none⟩ = some (.slice A nn c)) :
    SeqStopsK Fence.wide n Try.prog 71 #[.pointer (some ⟨Bs, 0, none⟩)] gapEnc (KpG w0.heap.size Bs) (fun ys => vals ys = gapsL ⟨cap, l⟩) (fun pre => vals pre <+: gapsL ⟨cap, l⟩) (gapsL ⟨cap, l⟩).length w := fun z J Jx W hW hJ _ hY h0 =>
  gaps1_in n hn z Bs cap A c nn l w0 hS hnn hok hbs J Jx W (hw.trans (Bel.of hW)) hJ hY ((Bel.of hW).cell hB0) ((Bel.of hW).cell hB1) h0
end Go.Proofs.Yteopeocgbfdofaa
