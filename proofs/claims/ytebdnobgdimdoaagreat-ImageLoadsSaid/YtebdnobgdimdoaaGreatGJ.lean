/- slices.Backward at api.Fn by its contract. course.Budget by its contract. -/
import Derived.RangeFuncNested
import Derived.RangeFuncBound
import Derived.RangeFuncCalls
import Derived.RangeFuncLeaves
import Derived.RangeFuncBox
import Derived.Shelf.Abstract
import Derived.WalkKit
import Derived.OwnWalkIn
import Derived.TacticsInMore
import Derived.LoopNIn
import Derived.LoopIn
import Derived.Test.YtebdnobgdimdoaaGreatGC
set_option linter.unusedVariables false
set_option linter.unusedSimpArgs false
namespace Go.Proofs.YtebdnobgdimdoaaGreat
open Go.RowKit Go.Shelf
attribute [local go_sem] Oper.semAt_some
/-- N - 1, .., 0. -/
def downTo (N : Nat) : List (Fin N) := (List.finRange N).reverse
theorem downTo_length (N : Nat) : (downTo N).length = N := by simp [downTo]
theorem downTo_get (N k : Nat) (h : k < (downTo N).length) : (downTo N)[k] = ⟨N - 1 - k, by rw [downTo_length] at h; omega⟩ := by
  simp [downTo, List.getElem_reverse]
theorem downTo_succ (N k : Nat) (hk : k < N) : (downTo N).take (k + 1) = (downTo N).take k ++ [⟨N - 1 - k, by omega⟩] := by
  have h : k < (downTo N).length := by rw [downTo_length]; exact hk
  rw [← downTo_get N k h, List.take_append_getElem]
theorem downTo_all (N : Nat) : (downTo N).take N = downTo N := by
  rw [List.take_of_length_le (by rw [downTo_length]; omega)]
/-- What a round is handed. -/
structure FnV where
  args : Int
  A : Option Addr
  len : Nat
  c : Nat
def FnV.encs {N : Nat} (V : Nat → FnV) (x : Fin N) : Array Value := #[.int .i64 (x.1 : Int), .agg #[.int .i64 (V x.1).args, .slice (V x.1).A (V x.1).len (V x.1).c]]
/-- What a round keeps: what lay below n₀, and the box Bs. -/
structure KpB (n₀ Bs : Nat) (W W' : World) : Prop where
  below : Below n₀ W W'
  box : W'.heap[Bs]? = W.heap[Bs]?
theorem KpB.refl (n₀ Bs : Nat) (W : World) : KpB n₀ Bs W W := ⟨Below.refl _ _, rfl⟩
theorem KpB.trans {n₀ Bs : Nat} {A B C : World} (h : KpB n₀ Bs A B) (k : KpB n₀ Bs B C) : KpB n₀ Bs A C := ⟨h.below.trans k.below, k.box.trans h.box⟩
theorem KpB.turn {n₀ Bs : Nat} {w : World} (hn : n₀ ≤ w.heap.size) (hs : Bs < w.heap.size) (W : World) (l : Nat) (o o' : Obj) (hl : w.heap.size ≤ l) (h : W.heap[l]? = some o) (h1 : o.isCells = false) (h2 : o.isWalk = false) : KpB n₀ Bs W (W.putObj l o') :=
  ⟨belowK_b hn W l o o' hl h h1 h2, World.putObj_heap_other (by omega)⟩
set_option maxRecDepth 100000 in
set_option maxHeartbeats 4000000 in
theorem back1_in (F : Fence) (n : Nat) (h8 : F.fn 73) (hro : F.round = none) (hn : 1 ≤ n) (l Bs n₀ b off len cap : Nat) (V : Nat → FnV) (hreach : len ≤ 1000) (hb : b < n₀) (J Jx : List (Fin len) → World → Prop)
    (hY : ∀ pre x W, J pre W → pre.length < len → YieldAt F (n - 1) Tryz.prog l (FnV.encs V x) W fun e W' =>
      (e = .returned (.bool true) ∧ J (pre ++ [x]) W' ∧ KpB n₀ Bs W W') ∨ (e = .returned (.bool false) ∧ Jx (pre ++ [x]) W'))
    (W : World) (hBs : W.cell? ⟨Bs, 0, none⟩ = some (.slice (some ⟨b, off, none⟩) len cap)) (hc : ∀ j, j < len → W.cell? ⟨b, off + j * 2, none⟩ = some (.int .i64 (V j).args) ∧ W.cell? ⟨b, off + j * 2 + 1, none⟩ = some (.slice (V j).A (V j).len (V j).c)) (h0 : J [] W) :
    CallsIn F n Tryz.prog 73 #[.func (.yield l) #[] #[], .pointer (some ⟨Bs, 0, none⟩)] W fun e W' => (∃ v, e = .returned v) ∧
      ((∃ ys, ys = downTo len ∧ J ys W') ∨ (∃ pre, True ∧ Jx pre W')) := by
  have e0 : IntKind.i64.wrap ((len : Int) - 1) = (len : Int) - 1 := wrap_i64 (by omega) (by omega)
  refine callsIn_of_wp Tryz.func73 rfl h8 ?_ hro
  simp only [Tryz.ntmps73, List.size_toArray, List.length_cons, List.length_nil, Nat.reduceAdd, Nat.reduceSub, Array.replicate_succ, Array.replicate_zero, List.push_toArray, List.append_toArray, List.nil_append, List.cons_append]
  gi_wp2
  clear e0
  gi_loopw [3] (fun i wr => ∃ k : Nat, k ≤ len ∧ i = .int .i64 ((len : Int) - 1 - k) ∧ J ((downTo len).take k) wr ∧ KpB n₀ Bs W wr)
    (fun i _ => (intOf i + 1).toNat)
  case atStart => exact ⟨0, Nat.zero_le _, by simp, h0, KpB.refl _ _ _⟩
  case round =>
    obtain ⟨k, hk, rfl, hJs, hnx⟩ := hrel
    have hBs' : wr.cell? ⟨Bs, 0, none⟩ = some (.slice (some ⟨b, off, none⟩) len cap) := (World.cell?_of_block hnx.box).trans hBs
    by_cases hlt : k < len
    · obtain ⟨p, hp⟩ : ∃ p : Nat, p = len - 1 - k := ⟨_, rfl⟩
      have ep : (len : Int) - 1 - k = (p : Int) := by omega
      have hpl : p < len := by omega
      obtain ⟨fn, tmps, assign, body, hy, hR⟩ := hY _ ⟨p, hpl⟩ wr hJs (by rw [List.length_take, downTo_length]; omega)
      have hs : (downTo len).take (k + 1) = (downTo len).take k ++ [⟨p, hpl⟩] := (downTo_succ len k hlt).trans (by rw [show (⟨len - 1 - k, by omega⟩ : Fin len) = ⟨p, hpl⟩ from Fin.ext hp.symm])
      have HSU := Lib.hid hs
      obtain ⟨hc0, hc1⟩ := hc p hpl
      have k0 : wr.cell? ⟨b, off + p * 2, none⟩ = some (.int .i64 (V p).args) := (hnx.below.cell (p := ⟨b, off + p * 2, none⟩) hb).trans hc0
      have k1 : wr.cell? ⟨b, off + p * 2 + 1, none⟩ = some (.slice (V p).A (V p).len (V p).c) := (hnx.below.cell (p := ⟨b, off + p * 2 + 1, none⟩) hb).trans hc1
      have p0 : 0 ≤ (p : Int) := by omega
      have hpl' : (p : Int) < len := by omega
      have e1 : IntKind.i64.wrap ((p : Int) - 1) = (p : Int) - 1 := wrap_i64 (by omega) (by omega)
      have eq2 : (p : Int) - 1 = (len : Int) - 1 - ((k + 1 : Nat) : Int) := by omega
      have EQ2 := Lib.hid eq2
      have hkp : Hid (k + 1 ≤ len) := Lib.hid (by omega)
      rw [ep]
      clear ep hp eq2 hs hc hc0 hc1 hk hlt hBs h0
      simp only [FnV.encs] at hy
      gi_wp2
      refine hR.mono ?_
      rintro e W3 (⟨rfl, hJ3, hk3⟩ | ⟨rfl, hJx3⟩)
      · -- THE ROUND GOES ON
        gi_wp2
        go_roundw
        case rel => exact ⟨k + 1, hkp.out, by rw [EQ2.out], by rw [HSU.out]; exact hJ3, hnx.trans hk3⟩
        case measure => simp [intOf] <;> omega
      · gi_wp2
        refine bodyPost_ret (results_none rfl _ _ _) rfl ?_
        exact ⟨⟨_, rfl⟩, .inr ⟨_, trivial, hJx3⟩⟩
    · obtain rfl : k = len := by omega
      have ep : (k : Int) - 1 - k = -1 := by omega
      rw [ep]
      rw [downTo_all] at hJs
      clear ep
      gi_wp2
      go_end0
      exact ⟨⟨_, rfl⟩, .inl ⟨_, rfl, hJs⟩⟩
/-- slices.Backward(s): the slice value is boxed; the function value captures the box. -/
theorem back_in (F : Fence) (n : Nat) (h6 : F.fn 39) (hro : F.round = none) (a : Option Addr) (len cap : Nat) (w : World) :
    CallsIn F n Tryz.prog 39 #[.slice a len cap] w fun e w' => e = .returned (.func (.func 73) #[] #[.pointer (some ⟨w.heap.size, 0, none⟩)]) ∧ w' = w.alloc (.cells #[.slice a len cap] 22) := by
  refine callsIn_of_wp Tryz.func39 rfl h6 ?_ hro
  simp only [Tryz.ntmps39, List.size_toArray, List.length_cons, List.length_nil, Nat.reduceAdd, Nat.reduceSub, Array.replicate_succ, Array.replicate_zero, List.push_toArray, List.append_toArray, List.nil_append, List.cons_append]
  gi_wp2
  go_ret
  exact ⟨rfl, rfl⟩
theorem back_stops (F : Fence) (n : Nat) (h8 : F.fn 73) (hro : F.round = none) (hn : 1 ≤ n) (Bs n₀ b off len cap : Nat) (V : Nat → FnV) (hreach : len ≤ 1000) (hb : b < n₀) (w : World) (hBs0 : Bs < w.heap.size) (hn₀ : n₀ ≤ w.heap.size)
    (hBs : w.cell? ⟨Bs, 0, none⟩ = some (.slice (some ⟨b, off, none⟩) len cap)) (hc : ∀ j, j < len → w.cell? ⟨b, off + j * 2, none⟩ = some (.int .i64 (V j).args) ∧ w.cell? ⟨b, off + j * 2 + 1, none⟩ = some (.slice (V j).A (V j).len (V j).c)) :
    SeqStopsK F n Tryz.prog 73 #[.pointer (some ⟨Bs, 0, none⟩)] (FnV.encs (N := len) V) (KpB n₀ Bs) (fun ys => ys = downTo len) (fun _ => True) len w := fun l J Jx W hW _ _ hY h0 =>
  back1_in F n h8 hro hn l Bs n₀ b off len cap V hreach hb J Jx hY W ((hW.cell (p := ⟨Bs, 0, none⟩) hBs0).trans hBs)
    (fun j hj => ⟨(hW.cell (p := ⟨b, off + j * 2, none⟩) (by simp only; omega)).trans (hc j hj).1, (hW.cell (p := ⟨b, off + j * 2 + 1, none⟩) (by simp only; omega)).trans (hc j hj).2⟩) h0
end Go.Proofs.YtebdnobgdimdoaaGreat
set_option linter.unusedVariables false
set_option linter.unusedSimpArgs false
namespace Go.Proofs.YtebdnobgdimdoaaGreat
open Go.RowKit Go.Shelf
attribute [local go_sem] Oper.semAt_some
def budStep (L : List FnD) (C : List Int) (q : Nat) : List Int := C.set q (longR ((L.map FnD.code).getD q []) C)
def budRow (L : List FnD) : List Int := (List.range L.length).reverse.foldl (budStep L) (List.replicate L.length 0)
/-- What 'Budget' tells. -/
def budget (L : List FnD) : Int := if progMay L = true then (budRow L).getD 0 0 else 0
def budUpto (L : List FnD) {n : Nat} (pre : List (Fin n)) : List Int := pre.foldl (fun C x => budStep L C x.1) (List.replicate n 0)
theorem budUpto_snoc (L : List FnD) {n : Nat} (pre : List (Fin n)) (x : Fin n) : budUpto L (pre ++ [x]) = budStep L (budUpto L pre) x.1 := by simp [budUpto]
theorem downTo_val (N : Nat) : (downTo N).map Fin.val = (List.range N).reverse := by
  unfold downTo
  rw [List.map_reverse]
  congr 1
  apply List.ext_getElem
  · simp
  · intro i h1 h2
    simp
theorem budUpto_all (L : List FnD) (n : Nat) (hn : L.length = n) : budUpto L (downTo n) = budRow L := by
  unfold budUpto budRow
  rw [hn, ← downTo_val, List.foldl_map]
theorem longR_range (l : List InstD) (cs : List Int) : 0 ≤ longR l cs ∧ longR l cs ≤ 1000000 := by
  unfold longR
  split
  · exact costFrom_range l cs _ 0
  · omega
theorem budStep_length (L : List FnD) (C : List Int) (q : Nat) : (budStep L C q).length = C.length := by simp [budStep]
theorem budUpto_facts (L : List FnD) {n : Nat} (pre : List (Fin n)) : (budUpto L pre).length = n ∧ ∀ t, 0 ≤ (budUpto L pre).getD t 0 ∧ (budUpto L pre).getD t 0 ≤ 1000000 := by
  have key : ∀ (pre : List (Fin n)) (C : List Int), C.length = n → (∀ t, 0 ≤ C.getD t 0 ∧ C.getD t 0 ≤ 1000000) → (pre.foldl (fun C x => budStep L C x.1) C).length = n ∧ ∀ t, 0 ≤ (pre.foldl (fun C x => budStep L C x.1) C).getD t 0 ∧ (pre.foldl (fun C x => budStep L C x.1) C).getD t 0 ≤ 1000000 := by
    intro pre
    induction pre with
    | nil => intro C h1 h2; exact ⟨h1, h2⟩
    | cons x pre ih =>
      intro C h1 h2
      refine ih _ (by rw [budStep_length]; exact h1) (fun t => ?_)
      have := longR_range ((L.map FnD.code).getD x.1 []) C
      have ht := h2 t
      unfold budStep
      simp only [List.getD_eq_getElem?_getD, List.getElem?_set] at ht this ⊢
      split
      · split
        · simpa using this
        · simp
      · exact ht
  exact key pre _ (by simp) (fun t => by
    simp only [List.getD_eq_getElem?_getD, List.getElem?_replicate]
    split <;> simp)
theorem Row.sl_int {t : TypeId} {w : World} {g : Nat} {C : List Int} (h : Row (Value.int .i64) t w g C) (hm : C.length ≤ maxLen) (hr : ∀ t, 0 ≤ C.getD t 0 ∧ C.getD t 0 ≤ 1000000) : Sl (IntR .i64) 1 w (some ⟨g, 0, none⟩) C.length C :=
  ⟨Nat.le_refl _, hm, fun i hi => ⟨g, 0, [.int .i64 C[i]], rfl, rfl, ⟨rfl, by
      have := hr i
      rw [List.getD_eq_getElem?_getD, List.getElem?_eq_getElem hi] at this
      simp only [Option.getD_some] at this
      exact wf_i64 (by omega) (by omega)⟩, fun j v hv => by
    cases j with
    | zero => simp at hv; subst hv; simpa using h.cell hi
    | succ j => simp at hv⟩⟩
theorem made_ints (n : Nat) (w : World) : (Instr.makeSlice 99 (.int .i64 n) (.int .i64 n)).run Tryz.prog w = .ok (.slice (some ⟨w.heap.size, 0, none⟩) n n) (w.alloc (.cells ((List.replicate n (0 : Int)).map (Value.int .i64)).toArray 3)) ∨ 64 < n := by
  by_cases hn : 64 < n
  · exact .inr hn
  · have h : (Tryz.prog.info? 3).map (fun i => (i.zero, i.size, i.bytes)) = some (some (.int .i64 0), 1, 8) := by kernel_rfl
    obtain ⟨i, hi, hz⟩ := Option.map_eq_some_iff.1 h
    simp only [Prod.mk.injEq] at hz
    obtain ⟨hz0, hz1, hz2⟩ := hz
    have := run_make (P := Tryz.prog) w 99 3 i (.int .i64 0) Tryz.underlying99 hi hz0 .i64 .i64 (n : Int) (n : Int) (by omega) (Int.le_refl _) (by rw [hz2]; omega) (by omega)
    rw [this, hz1, Int.toNat_natCast, Nat.mul_one, show (Value.int .i64 0).cells = #[Value.int .i64 0] from rfl]
    have e : madeCells #[Value.int .i64 0] n = ((List.replicate n (0 : Int)).map (Value.int .i64)).toArray := by
      apply Array.toList_inj.1
      rw [toList_madeCells_one]
      simp
    rw [e]
    exact .inl rfl
theorem row_own {β : Type} (t : TypeId) (g : Nat) (f : β → List Int) : Own (fun s W => Row (Value.int .i64) t W g (f s)) := fun s X Y row hs hg hrow =>
  ⟨(hg.block g hs.lt (fun e' => by obtain ⟨o, ho, hc⟩ := hrow g e'.symm; rw [hs.out] at ho; cases ho; cases hc)).trans hs.out⟩

/-! ### A region that draws its order, in a round of a range over a function: as outside -/
section
variable {F : Fence} {n : Nat} {P : Program} {ops : Array Oper} {Q : Exit → Act → World → Prop} {md : Region.Mode}
theorem wpIn_round {o : Oper} (l : Nat) (hro : F.round = none) (hd : ∀ c, o.op ≠ .defer c) {a : Act} {w : World} {K : Act → World → Prop} (h : o.wpIn F n P a w K Q) : o.wpIn (F.inRound l) n P a w K Q := by
  unfold Oper.wpIn at h ⊢
  refine ⟨h.1, ?_⟩
  have h := h.2
  rw [Oper.semAt_eq _ _ _ hd] at h ⊢
  generalize (execOp a.eval o).run P w = r at *
  cases r with
  | ok x w' => cases x <;> exact h
  | halt x w' => cases x <;> exact h
theorem wpAnyIn_round (l : Nat) (hro : F.round = none) (hd : ∀ (i : Nat) (o : Oper), ops[i]? = some o → ∀ c, o.op ≠ .defer c) : ∀ (fuel : Nat) (listed : Array Bool) (a : Act) (w : World), wpAnyIn F n P md ops Q fuel listed a w → wpAnyIn (F.inRound l) n P md ops Q fuel listed a w
  | 0, _, _, _, h => h
  | fuel + 1, listed, a, w, h => ⟨h.1, fun i hi => by
    have h1 := wpOpIn_mono (K' := wpAnyIn (F.inRound l) n P md ops Q fuel (listed.setIfInBounds i true)) (fun a w => wpAnyIn_round l hro hd fuel _ a w) (h.2 i hi)
    unfold wpOpIn at h1 ⊢
    cases ho : ops[i]? with
    | none => rw [ho] at h1; exact h1
    | some o =>
      rw [ho] at h1
      simp only at h1 ⊢
      split
      · rename_i hw
        rw [if_pos hw] at h1
        exact wpIn_round l hro (hd i o ho) h1
      · rename_i hw
        rw [if_neg hw] at h1
        exact h1⟩
def noDefer (ops : Array Oper) : Bool := ops.toList.all fun o => match o.op with | .defer _ => false | _ => true
theorem noDefer_spec (h : noDefer ops = true) (i : Nat) (o : Oper) (hi : ops[i]? = some o) (c) : o.op ≠ .defer c := by
  intro e
  unfold noDefer at h
  rw [List.all_eq_true] at h
  have := h o (by rw [← Array.getElem?_toList] at hi; exact List.mem_of_getElem? hi)
  rw [e] at this
  cases this
theorem wpIn_region_round {id : Nat} {a : Act} {w : World} (l : Nat) (hro : F.round = none) (hm : P.follows .mixedOrders = true) (hd : noDefer ops = true)
    (h : wpAnyIn F n P .any ops Q ops.size (Array.replicate ops.size false) a w.drew) : (Code.region id ops true).wpIn (F.inRound l) n P Q a w :=
  wpIn_region_any hm (wpAnyIn_round l hro (noDefer_spec hd) _ _ _ _ h)
end
theorem bud_fin {w W w5 : World} {g q B : Nat} {C : List Int} {r : Int} {tp tc ts t : TypeId} {vp vc vs : Value} (hwg : w.heap.size < g) (hp : Boxed W w.heap.size tp vp) (hc : Boxed W (g + 1) tc vc) (hs : Boxed W (g + 2) ts vs) (hr : Row (Value.int .i64) t W g C) (hB : Below w.heap.size w W) (hb : Bel W w5) (hq : q < C.length) :
    KeepsFrom B W (w5.setCell ⟨g, q, none⟩ (.int .i64 r)) ∧ KpB w.heap.size (g + 2) W (w5.setCell ⟨g, q, none⟩ (.int .i64 r)) ∧
      ((Boxed (w5.setCell ⟨g, q, none⟩ (.int .i64 r)) w.heap.size tp vp ∧ Boxed (w5.setCell ⟨g, q, none⟩ (.int .i64 r)) (g + 1) tc vc ∧ Boxed (w5.setCell ⟨g, q, none⟩ (.int .i64 r)) (g + 2) ts vs) ∧
        Row (Value.int .i64) t (w5.setCell ⟨g, q, none⟩ (.int .i64 r)) g (C.set q r)) ∧ Below w.heap.size w (w5.setCell ⟨g, q, none⟩ (.int .i64 r)) := by
  have hsz := hB.size
  have other : ∀ k, k < W.heap.size → k ≠ g → (w5.setCell ⟨g, q, none⟩ (.int .i64 r)).heap[k]? = W.heap[k]? := fun k hk hne => (Below.heap_setCell _ _ _ _ hne).trans (hb.out.block k hk)
  have kf : KeepsFrom B W w5 := ⟨hb.size, fun k o _ hk _ => (hb.out.block k (Array.getElem?_eq_some_iff.1 hk).1).trans hk⟩
  have hbel : Below w.heap.size W (w5.setCell ⟨g, q, none⟩ (.int .i64 r)) := (hb.out.mono hsz).setCell (p := ⟨g, q, none⟩) (by simp only; omega) _
  exact ⟨kf.trans ((KeepsOthers.setCell _ _ _).from _), ⟨hbel, other _ hs.lt (by omega)⟩,
    ⟨⟨(other _ hp.lt (by omega)).trans hp, (other _ hc.lt (by omega)).trans hc, (other _ hs.lt (by omega)).trans hs⟩, (hr.mono hb).set hq r⟩, hB.trans hbel⟩
set_option maxRecDepth 100000 in
set_option maxHeartbeats 4000000 in
theorem budget_ok (b off c n : Nat) (L : List FnD) (w : World) (h : Sl FnR 2 w (some ⟨b, off, none⟩) c L) (hn : Hid (L.length = n)) (hm : Hid (progMay L = true)) :
    CallsIn Fence.wide 3 Tryz.prog 14 #[.agg #[.slice (some ⟨b, off, none⟩) n c]] w fun e w' => e = .returned (.int .i64 ((budRow L).getD 0 0)) ∧ Bel w w' := by
  have HS := Lib.hid h
  have hn8 : n ≤ 8 := by
    have := hm.out
    unfold progMay at this
    simp only [Bool.and_eq_true, decide_eq_true_iff] at this
    rw [← hn.out]; omega
  have hn0 : 0 < n := by
    have := hm.out
    unfold progMay at this
    simp only [Bool.and_eq_true, decide_eq_true_iff] at this
    rw [← hn.out]; omega
  clear h
  refine callsIn_of_wp_marks Tryz.func14 rfl trivial ?_ rfl
  simp only [Tryz.ntmps14, List.size_toArray, List.length_cons, List.length_nil, Nat.reduceAdd, Nat.reduceSub, Array.replicate_succ, Array.replicate_zero, List.push_toArray, List.append_toArray, List.nil_append, List.cons_append]
  gi_wp2_with fail
  refine ⟨trivial, ?_⟩
  refine (callsIn_wide.2 (progmay_any _ c n L true _ (HS.out.mono FnR.mono ?_) hn hm)).mono ?_
  · repeat (first | exact Bel.refl _ | apply Bel.alloc | apply Bel.drew)
  rintro e w1 ⟨rfl, hb1⟩
  have bP : Boxed w1 w.heap.size 24 (.slice (some ⟨b, off, none⟩) n c) := (hb1.out.block _ (by simp)).trans (Boxed.new w _ _)
  have HB1 : Bel w w1 := (((Bel.refl w).alloc _).trans hb1)
  have hlt1 : w.heap.size < w1.heap.size := bP.lt
  clear hb1
  have hmk := (made_ints n w1).resolve_right (by omega)
  have hmc : (w1.alloc (.cells ((List.replicate n (0 : Int)).map (Value.int .i64)).toArray 3)).heap.size = w1.heap.size + 1 := by simp
  obtain ⟨W2, hW2⟩ : ∃ W2, w1.alloc (.cells ((List.replicate n (0 : Int)).map (Value.int .i64)).toArray 3) = W2 := ⟨_, rfl⟩
  have R2 : Row (Value.int .i64) 3 W2 w1.heap.size (List.replicate n (0 : Int)) := by rw [← hW2]; exact Row.new _ _ _
  have bP2 : Boxed W2 w.heap.size 24 (.slice (some ⟨b, off, none⟩) n c) := by rw [← hW2]; exact bP.alloc _
  have HB2 : Bel w W2 := by rw [← hW2]; exact HB1.alloc _
  rw [hW2] at hmk hmc
  have cP1 := bP.cell
  have cP2 := bP2.cell
  clear hW2 bP
  have HW1 := Lib.hid hmc
  obtain ⟨g, hg⟩ : ∃ g, w1.heap.size = g := ⟨_, rfl⟩
  rw [hg] at hmk hlt1 R2 hmc
  clear HW1
  gi_wp2_with fail
  refine ⟨trivial, ?_⟩
  refine (back_in Fence.wide 2 trivial rfl _ _ _ _).mono ?_
  rintro e w' ⟨rfl, rfl⟩
  have bC := Boxed.new W2 99 (.slice (some ⟨g, 0, none⟩) n n)
  rw [hmc] at bC
  have bC4 := bC.alloc (.cells #[.slice (some ⟨b, off, none⟩) n c] 22)
  have bP4 := (bP2.alloc (.cells #[.slice (some ⟨g, 0, none⟩) n n] 99)).alloc (.cells #[.slice (some ⟨b, off, none⟩) n c] 22)
  have R4 := (R2.alloc (.cells #[.slice (some ⟨g, 0, none⟩) n n] 99)).alloc (.cells #[.slice (some ⟨b, off, none⟩) n c] 22)
  have HB4 := (HB2.alloc (.cells #[.slice (some ⟨g, 0, none⟩) n n] 99)).alloc (.cells #[.slice (some ⟨b, off, none⟩) n c] 22)
  have bS4 := Boxed.new (W2.alloc (.cells #[.slice (some ⟨g, 0, none⟩) n n] 99)) 22 (.slice (some ⟨b, off, none⟩) n c)
  have hs3 : (W2.alloc (.cells #[.slice (some ⟨g, 0, none⟩) n n] 99)).heap.size = g + 2 := by simp [hmc]
  have hs4 : ((W2.alloc (.cells #[.slice (some ⟨g, 0, none⟩) n n] 99)).alloc (.cells #[.slice (some ⟨b, off, none⟩) n c] 22)).heap.size = g + 3 := by simp [hmc]
  rw [hs3] at bS4
  simp only [hs3]
  generalize (W2.alloc (.cells #[.slice (some ⟨g, 0, none⟩) n n] 99)).alloc (.cells #[.slice (some ⟨b, off, none⟩) n c] 22) = W4 at *
  clear hs3 bC bP2 R2 HB2 hmk hmc cP1 cP2 hg HB1
  gi_wp2_with fail
  obtain ⟨V, hV⟩ : ∃ V : Nat → FnV, ∀ j, j < n → W4.cell? ⟨b, off + j * 2, none⟩ = some (.int .i64 (V j).args) ∧ W4.cell? ⟨b, off + j * 2 + 1, none⟩ = some (.slice (V j).A (V j).len (V j).c) := by
    obtain ⟨zs, hz, hcs⟩ := (HS.out.mono FnR.mono HB4).fns
    have hzl : zs.length = n := by rw [← hn.out, ← hz]; simp
    exact ⟨fun j => ⟨(zs[j]!).fn.args, (zs[j]!).A, (zs[j]!).fn.code.length, (zs[j]!).c⟩, fun j hj => ⟨hcs j (by omega) 0 _ rfl, hcs j (by omega) 1 _ rfl⟩⟩
  have hbw : b < w.heap.size := by
    obtain ⟨A0, c0, k0, -, -⟩ := fn_cells HS.out 0 (by rw [hn.out]; exact hn0)
    exact World.block_lt_of_cell? _ _ k0
  have hBS : g + 2 < W4.heap.size := by omega
  have hwg : w.heap.size ≤ g := by omega
  refine wpIn_rangeFunc_ownG (F := Fence.wide) (n := 3) rfl (by omega) (gf := 73) (lb := #[.pointer (some ⟨g + 2, 0, none⟩)]) rfl trivial (enters_of Tryz.func73 (by kernel_rfl) rfl)
    (back_stops Fence.wide (3 - 1) trivial rfl (by omega) (g + 2) w.heap.size b off n c V (by omega) hbw W4 hBS (by omega) bS4.cell hV)
    KpB.trans (KpB.turn (by omega) hBS) (Below.refl _ _) (fun _ => rfl)
    (fun pre W => ((Boxed W w.heap.size 24 (.slice (some ⟨b, off, none⟩) n c) ∧ Boxed W (g + 1) 99 (.slice (some ⟨g, 0, none⟩) n n) ∧ Boxed W (g + 2) 22 (.slice (some ⟨b, off, none⟩) n c)) ∧ Row (Value.int .i64) 3 W g (budUpto L pre)) ∧ Below w.heap.size w W)
    (fun _ _ _ => False)
    (OwnFrom.and (Own.from (fun s A B row hs hg hr => ⟨⟨boxed_own _ _ (fun _ : Unit => _) () _ _ _ hs.1.1 hg hr, boxed_own _ _ (fun _ : Unit => _) () _ _ _ hs.1.2.1 hg hr, boxed_own _ _ (fun _ : Unit => _) () _ _ _ hs.1.2.2 hg hr⟩, row_own _ _ (budUpto L) s _ _ _ hs.2 hg hr⟩) _) (ownFrom_below (Nat.le_refl _) (by omega)))
    (fun _ _ _ _ _ hs _ _ => hs)
    ⟨⟨⟨bP4, bC4, bS4⟩, R4⟩, HB4.out⟩
    (fun x => { tmps := #[.agg #[.slice (some ⟨b, off, none⟩) n c], .pointer (some ⟨w.heap.size, 0, none⟩), .int .i64 0, .pointer (some ⟨g + 1, 0, none⟩), .int .i64 (x.1 : Int), .agg #[.slice (some ⟨b, off, none⟩) n c], .bool true, .bool false, .pointer (some ⟨w.heap.size, 0, none⟩), .slice (some ⟨b, off, none⟩) n c, .int .i64 n, .slice (some ⟨g, 0, none⟩) n n, .pointer (some ⟨w.heap.size, 0, none⟩), .slice (some ⟨b, off, none⟩) n c, .func (.func 73) #[] #[.pointer (some ⟨g + 2, 0, none⟩)], .int .i64 (x.1 : Int), .agg #[.int .i64 (V x.1).args, .slice (V x.1).A (V x.1).len (V x.1).c], undef, undef, undef, undef, undef, undef, undef, undef, undef, undef, undef, undef, undef, undef], defers := [] }) ?assign ?body ?done ?stop
  case assign =>
    intro l x W K hK
    simp only [FnV.encs]
    gi_wp2
    exact hK
  case body =>
    rintro l pre x W ⟨⟨⟨bp, bc, bs⟩, hrow⟩, hB⟩ hlen
    obtain ⟨q, hq⟩ := x
    simp only
    obtain ⟨A', c', -, k1, hsc⟩ := fn_cells (HS.out.mono FnR.mono (Bel.of hB)) q (by rw [hn.out]; exact hq)
    obtain ⟨l', hl'⟩ : ∃ l', Hid ((L[q]'(by rw [hn.out]; exact hq)).code = l') := ⟨_, Lib.hid rfl⟩
    rw [hl'.out] at k1 hsc
    obtain ⟨m, hm2⟩ : ∃ m, Hid (l'.length = m) := ⟨_, Lib.hid rfl⟩
    rw [hm2.out] at k1
    have HSC := Lib.hid hsc
    have HBF := Lib.hid (budUpto_facts L pre)
    have hbs : Hid (budUpto L (pre ++ [⟨q, hq⟩]) = (budUpto L pre).set q (longR l' (budUpto L pre))) := Lib.hid (by
      rw [budUpto_snoc]
      unfold budStep
      rw [List.getD_eq_getElem?_getD, List.getElem?_map, List.getElem?_eq_getElem (by rw [hn.out]; exact hq)]
      simp only [Option.map_some, Option.getD_some]
      rw [hl'.out])
    obtain ⟨C, hC⟩ : ∃ C, Hid (budUpto L pre = C) := ⟨_, Lib.hid rfl⟩
    rw [hC.out] at hrow HBF hbs
    obtain ⟨r, hr⟩ : ∃ r, Hid (longR l' C = r) := ⟨_, Lib.hid rfl⟩
    rw [hr.out] at hbs
    have HR := Lib.hid hrow
    have HSI := Lib.hid (hrow.sl_int (by rw [HBF.out.1]; show n ≤ maxLen; simp only [maxLen]; omega) HBF.out.2)
    rw [HBF.out.1] at HSI
    have HP := Lib.hid bp
    have HCB := Lib.hid bc
    have HSB := Lib.hid bs
    have HBW := Lib.hid hB
    have cp := bp.cell
    have cc := bc.cell
    have hq' : (q : Int) < n := by omega
    have hq0 : 0 ≤ (q : Int) := by omega
    clear hsc hrow bp bc bs hB hlen hV
    gi_wp2_with fail
    refine wpIn_region_round l rfl (by kernel_rfl) (by rfl) ?_
    refine wpAnyIn_take (i := 1) (v := .int .i64 (q : Int)) rfl rfl (by kernel_rfl) (by kernel_rfl) (by kernel_rfl) (fun _ _ _ h => h) ⟨Or.inl ⟨by rfl, ?hy⟩, fun _ => rfl⟩ ?_; (case hy => (intro w; go_simp))
    refine wpAnyIn_take (i := 2) (v := .pointer (some ⟨w.heap.size, 0, none⟩)) rfl rfl (by kernel_rfl) (by kernel_rfl) (by kernel_rfl) (fun _ _ _ h => h) ⟨Or.inl ⟨by rfl, ?hy⟩, fun _ => rfl⟩ ?_; (case hy => (intro w; go_simp))
    refine wpAnyIn_take (i := 4) (v := .int .i64 (q : Int)) rfl rfl (by kernel_rfl) (by kernel_rfl) (by kernel_rfl) (fun _ _ _ h => h) ⟨Or.inl ⟨by rfl, ?hy⟩, fun _ => rfl⟩ ?_; (case hy => (intro w; go_simp))
    refine wpAnyIn_ready (rs := [0, 3, 8]) (by kernel_rfl) (by simp) (AllReadyIn.cons rfl (fun K hK => ?_) (AllReadyIn.cons rfl (fun K hK => ?_) (AllReadyIn.cons rfl (fun K hK => ?_) (AllReadyIn.nil))))
    · go_simp
      refine hK _ _ ?_
      clear hK K
      refine wpAnyIn_ready (rs := [3, 8]) (by kernel_rfl) (by simp) (AllReadyIn.cons rfl (fun K hK => ?_) (AllReadyIn.cons rfl (fun K hK => ?_) (AllReadyIn.nil)))
      · go_simp
        refine hK _ _ ?_
        clear hK K
        refine wpAnyIn_take (i := 5) (v := .pointer (some ⟨b, off + q * 2, none⟩)) rfl rfl (by kernel_rfl) (by kernel_rfl) (by kernel_rfl) (fun _ _ _ h => h) ⟨Or.inl ⟨by rfl, ?hy⟩, fun _ => rfl⟩ ?_; (case hy => (intro w; go_simp))
        refine wpAnyIn_take (i := 6) (v := .pointer (some ⟨b, off + q * 2 + 1, none⟩)) rfl rfl (by kernel_rfl) (by kernel_rfl) (by kernel_rfl) (fun _ _ _ h => h) ⟨Or.inl ⟨by rfl, ?hy⟩, fun _ => rfl⟩ ?_; (case hy => (intro w; go_simp))
        refine wpAnyIn_ready (rs := [7, 8]) (by kernel_rfl) (by simp) (AllReadyIn.cons rfl (fun K hK => ?_) (AllReadyIn.cons rfl (fun K hK => ?_) (AllReadyIn.nil)))
        · go_simp
          refine hK _ _ ?_
          clear hK K
          refine wpAnyIn_ready (rs := [8]) (by kernel_rfl) (by simp) (AllReadyIn.cons rfl (fun K hK => ?_) (AllReadyIn.nil))
          go_simp
          refine hK _ _ ?_
          clear hK K
          refine wpAnyIn_ready (rs := [9]) (by kernel_rfl) (by simp) (AllReadyIn.cons rfl (fun K hK => ?_) (AllReadyIn.nil))
          go_simp
          refine ⟨trivial, ?_⟩
          refine (callsIn_wide.2 (Longest_any _ _ _ _ _ _ l' C r _ (HSC.out.mono InstR.mono (by repeat (first | exact Bel.refl _ | apply Bel.drew))) hm2 (HSI.out.mono (IntR.mono _) (by repeat (first | exact Bel.refl _ | apply Bel.drew))) (Lib.hid HBF.out.1) hr)).mono ?_
          rintro e w5 ⟨rfl, hb5⟩
          have HB5 : Bel W w5 := Bel.trans (by repeat (first | exact Bel.refl _ | apply Bel.drew)) hb5
          clear hb5
          have cc5 := HB5.cell cc
          have rc5 := (HR.out.mono HB5).cell (i := q) (by rw [HBF.out.1]; exact hq)
          have rf5 := (HR.out.mono HB5).frozen q
          have HB5 := Lib.hid HB5
          refine hK _ _ ?_
          clear hK K
          refine wpAnyIn_take (i := 10) (v := .pointer (some ⟨g, q, none⟩)) rfl rfl (by kernel_rfl) (by kernel_rfl) (by kernel_rfl) (fun _ _ _ h => h) ⟨Or.inl ⟨by rfl, ?hy⟩, fun _ => rfl⟩ ?_; (case hy => (intro w; go_simp))
          refine wpAnyIn_ready (rs := [11]) (by kernel_rfl) (by simp) (AllReadyIn.cons rfl (fun K hK => ?_) (AllReadyIn.nil))
          go_simp
          refine hK _ _ ?_
          clear hK K
          refine wpAnyIn_done (by kernel_rfl) ?_ _
          have hfin := bud_fin (B := W4.heap.size) (r := r) hlt1 HP.out HCB.out HSB.out HR.out HBW.out HB5.out (show q < C.length by rw [HBF.out.1]; exact hq)
          rw [← hbs.out] at hfin
          exact hfin
        · go_simp
          refine hK _ _ ?_
          clear hK K
          refine wpAnyIn_ready (rs := [7]) (by kernel_rfl) (by simp) (AllReadyIn.cons rfl (fun K hK => ?_) (AllReadyIn.nil))
          go_simp
          refine hK _ _ ?_
          clear hK K
          refine wpAnyIn_ready (rs := [9]) (by kernel_rfl) (by simp) (AllReadyIn.cons rfl (fun K hK => ?_) (AllReadyIn.nil))
          go_simp
          refine ⟨trivial, ?_⟩
          refine (callsIn_wide.2 (Longest_any _ _ _ _ _ _ l' C r _ (HSC.out.mono InstR.mono (by repeat (first | exact Bel.refl _ | apply Bel.drew))) hm2 (HSI.out.mono (IntR.mono _) (by repeat (first | exact Bel.refl _ | apply Bel.drew))) (Lib.hid HBF.out.1) hr)).mono ?_
          rintro e w5 ⟨rfl, hb5⟩
          have HB5 : Bel W w5 := Bel.trans (by repeat (first | exact Bel.refl _ | apply Bel.drew)) hb5
          clear hb5
          have cc5 := HB5.cell cc
          have rc5 := (HR.out.mono HB5).cell (i := q) (by rw [HBF.out.1]; exact hq)
          have rf5 := (HR.out.mono HB5).frozen q
          have HB5 := Lib.hid HB5
          refine hK _ _ ?_
          clear hK K
          refine wpAnyIn_take (i := 10) (v := .pointer (some ⟨g, q, none⟩)) rfl rfl (by kernel_rfl) (by kernel_rfl) (by kernel_rfl) (fun _ _ _ h => h) ⟨Or.inl ⟨by rfl, ?hy⟩, fun _ => rfl⟩ ?_; (case hy => (intro w; go_simp))
          refine wpAnyIn_ready (rs := [11]) (by kernel_rfl) (by simp) (AllReadyIn.cons rfl (fun K hK => ?_) (AllReadyIn.nil))
          go_simp
          refine hK _ _ ?_
          clear hK K
          refine wpAnyIn_done (by kernel_rfl) ?_ _
          have hfin := bud_fin (B := W4.heap.size) (r := r) hlt1 HP.out HCB.out HSB.out HR.out HBW.out HB5.out (show q < C.length by rw [HBF.out.1]; exact hq)
          rw [← hbs.out] at hfin
          exact hfin
      · go_simp
        refine hK _ _ ?_
        clear hK K
        refine wpAnyIn_ready (rs := [3]) (by kernel_rfl) (by simp) (AllReadyIn.cons rfl (fun K hK => ?_) (AllReadyIn.nil))
        go_simp
        refine hK _ _ ?_
        clear hK K
        refine wpAnyIn_take (i := 5) (v := .pointer (some ⟨b, off + q * 2, none⟩)) rfl rfl (by kernel_rfl) (by kernel_rfl) (by kernel_rfl) (fun _ _ _ h => h) ⟨Or.inl ⟨by rfl, ?hy⟩, fun _ => rfl⟩ ?_; (case hy => (intro w; go_simp))
        refine wpAnyIn_take (i := 6) (v := .pointer (some ⟨b, off + q * 2 + 1, none⟩)) rfl rfl (by kernel_rfl) (by kernel_rfl) (by kernel_rfl) (fun _ _ _ h => h) ⟨Or.inl ⟨by rfl, ?hy⟩, fun _ => rfl⟩ ?_; (case hy => (intro w; go_simp))
        refine wpAnyIn_ready (rs := [7]) (by kernel_rfl) (by simp) (AllReadyIn.cons rfl (fun K hK => ?_) (AllReadyIn.nil))
        go_simp
        refine hK _ _ ?_
        clear hK K
        refine wpAnyIn_ready (rs := [9]) (by kernel_rfl) (by simp) (AllReadyIn.cons rfl (fun K hK => ?_) (AllReadyIn.nil))
        go_simp
        refine ⟨trivial, ?_⟩
        refine (callsIn_wide.2 (Longest_any _ _ _ _ _ _ l' C r _ (HSC.out.mono InstR.mono (by repeat (first | exact Bel.refl _ | apply Bel.drew))) hm2 (HSI.out.mono (IntR.mono _) (by repeat (first | exact Bel.refl _ | apply Bel.drew))) (Lib.hid HBF.out.1) hr)).mono ?_
        rintro e w5 ⟨rfl, hb5⟩
        have HB5 : Bel W w5 := Bel.trans (by repeat (first | exact Bel.refl _ | apply Bel.drew)) hb5
        clear hb5
        have cc5 := HB5.cell cc
        have rc5 := (HR.out.mono HB5).cell (i := q) (by rw [HBF.out.1]; exact hq)
        have rf5 := (HR.out.mono HB5).frozen q
        have HB5 := Lib.hid HB5
        refine hK _ _ ?_
        clear hK K
        refine wpAnyIn_take (i := 10) (v := .pointer (some ⟨g, q, none⟩)) rfl rfl (by kernel_rfl) (by kernel_rfl) (by kernel_rfl) (fun _ _ _ h => h) ⟨Or.inl ⟨by rfl, ?hy⟩, fun _ => rfl⟩ ?_; (case hy => (intro w; go_simp))
        refine wpAnyIn_ready (rs := [11]) (by kernel_rfl) (by simp) (AllReadyIn.cons rfl (fun K hK => ?_) (AllReadyIn.nil))
        go_simp
        refine hK _ _ ?_
        clear hK K
        refine wpAnyIn_done (by kernel_rfl) ?_ _
        have hfin := bud_fin (B := W4.heap.size) (r := r) hlt1 HP.out HCB.out HSB.out HR.out HBW.out HB5.out (show q < C.length by rw [HBF.out.1]; exact hq)
        rw [← hbs.out] at hfin
        exact hfin
    · go_simp
      refine hK _ _ ?_
      clear hK K
      refine wpAnyIn_take (i := 5) (v := .pointer (some ⟨b, off + q * 2, none⟩)) rfl rfl (by kernel_rfl) (by kernel_rfl) (by kernel_rfl) (fun _ _ _ h => h) ⟨Or.inl ⟨by rfl, ?hy⟩, fun _ => rfl⟩ ?_; (case hy => (intro w; go_simp))
      refine wpAnyIn_take (i := 6) (v := .pointer (some ⟨b, off + q * 2 + 1, none⟩)) rfl rfl (by kernel_rfl) (by kernel_rfl) (by kernel_rfl) (fun _ _ _ h => h) ⟨Or.inl ⟨by rfl, ?hy⟩, fun _ => rfl⟩ ?_; (case hy => (intro w; go_simp))
      refine wpAnyIn_ready (rs := [0, 7, 8]) (by kernel_rfl) (by simp) (AllReadyIn.cons rfl (fun K hK => ?_) (AllReadyIn.cons rfl (fun K hK => ?_) (AllReadyIn.cons rfl (fun K hK => ?_) (AllReadyIn.nil))))
      · go_simp
        refine hK _ _ ?_
        clear hK K
        refine wpAnyIn_ready (rs := [7, 8]) (by kernel_rfl) (by simp) (AllReadyIn.cons rfl (fun K hK => ?_) (AllReadyIn.cons rfl (fun K hK => ?_) (AllReadyIn.nil)))
        · go_simp
          refine hK _ _ ?_
          clear hK K
          refine wpAnyIn_ready (rs := [8]) (by kernel_rfl) (by simp) (AllReadyIn.cons rfl (fun K hK => ?_) (AllReadyIn.nil))
          go_simp
          refine hK _ _ ?_
          clear hK K
          refine wpAnyIn_ready (rs := [9]) (by kernel_rfl) (by simp) (AllReadyIn.cons rfl (fun K hK => ?_) (AllReadyIn.nil))
          go_simp
          refine ⟨trivial, ?_⟩
          refine (callsIn_wide.2 (Longest_any _ _ _ _ _ _ l' C r _ (HSC.out.mono InstR.mono (by repeat (first | exact Bel.refl _ | apply Bel.drew))) hm2 (HSI.out.mono (IntR.mono _) (by repeat (first | exact Bel.refl _ | apply Bel.drew))) (Lib.hid HBF.out.1) hr)).mono ?_
          rintro e w5 ⟨rfl, hb5⟩
          have HB5 : Bel W w5 := Bel.trans (by repeat (first | exact Bel.refl _ | apply Bel.drew)) hb5
          clear hb5
          have cc5 := HB5.cell cc
          have rc5 := (HR.out.mono HB5).cell (i := q) (by rw [HBF.out.1]; exact hq)
          have rf5 := (HR.out.mono HB5).frozen q
          have HB5 := Lib.hid HB5
          refine hK _ _ ?_
          clear hK K
          refine wpAnyIn_take (i := 10) (v := .pointer (some ⟨g, q, none⟩)) rfl rfl (by kernel_rfl) (by kernel_rfl) (by kernel_rfl) (fun _ _ _ h => h) ⟨Or.inl ⟨by rfl, ?hy⟩, fun _ => rfl⟩ ?_; (case hy => (intro w; go_simp))
          refine wpAnyIn_ready (rs := [11]) (by kernel_rfl) (by simp) (AllReadyIn.cons rfl (fun K hK => ?_) (AllReadyIn.nil))
          go_simp
          refine hK _ _ ?_
          clear hK K
          refine wpAnyIn_done (by kernel_rfl) ?_ _
          have hfin := bud_fin (B := W4.heap.size) (r := r) hlt1 HP.out HCB.out HSB.out HR.out HBW.out HB5.out (show q < C.length by rw [HBF.out.1]; exact hq)
          rw [← hbs.out] at hfin
          exact hfin
        · go_simp
          refine hK _ _ ?_
          clear hK K
          refine wpAnyIn_ready (rs := [7]) (by kernel_rfl) (by simp) (AllReadyIn.cons rfl (fun K hK => ?_) (AllReadyIn.nil))
          go_simp
          refine hK _ _ ?_
          clear hK K
          refine wpAnyIn_ready (rs := [9]) (by kernel_rfl) (by simp) (AllReadyIn.cons rfl (fun K hK => ?_) (AllReadyIn.nil))
          go_simp
          refine ⟨trivial, ?_⟩
          refine (callsIn_wide.2 (Longest_any _ _ _ _ _ _ l' C r _ (HSC.out.mono InstR.mono (by repeat (first | exact Bel.refl _ | apply Bel.drew))) hm2 (HSI.out.mono (IntR.mono _) (by repeat (first | exact Bel.refl _ | apply Bel.drew))) (Lib.hid HBF.out.1) hr)).mono ?_
          rintro e w5 ⟨rfl, hb5⟩
          have HB5 : Bel W w5 := Bel.trans (by repeat (first | exact Bel.refl _ | apply Bel.drew)) hb5
          clear hb5
          have cc5 := HB5.cell cc
          have rc5 := (HR.out.mono HB5).cell (i := q) (by rw [HBF.out.1]; exact hq)
          have rf5 := (HR.out.mono HB5).frozen q
          have HB5 := Lib.hid HB5
          refine hK _ _ ?_
          clear hK K
          refine wpAnyIn_take (i := 10) (v := .pointer (some ⟨g, q, none⟩)) rfl rfl (by kernel_rfl) (by kernel_rfl) (by kernel_rfl) (fun _ _ _ h => h) ⟨Or.inl ⟨by rfl, ?hy⟩, fun _ => rfl⟩ ?_; (case hy => (intro w; go_simp))
          refine wpAnyIn_ready (rs := [11]) (by kernel_rfl) (by simp) (AllReadyIn.cons rfl (fun K hK => ?_) (AllReadyIn.nil))
          go_simp
          refine hK _ _ ?_
          clear hK K
          refine wpAnyIn_done (by kernel_rfl) ?_ _
          have hfin := bud_fin (B := W4.heap.size) (r := r) hlt1 HP.out HCB.out HSB.out HR.out HBW.out HB5.out (show q < C.length by rw [HBF.out.1]; exact hq)
          rw [← hbs.out] at hfin
          exact hfin
      · go_simp
        refine hK _ _ ?_
        clear hK K
        refine wpAnyIn_ready (rs := [0, 8]) (by kernel_rfl) (by simp) (AllReadyIn.cons rfl (fun K hK => ?_) (AllReadyIn.cons rfl (fun K hK => ?_) (AllReadyIn.nil)))
        · go_simp
          refine hK _ _ ?_
          clear hK K
          refine wpAnyIn_ready (rs := [8]) (by kernel_rfl) (by simp) (AllReadyIn.cons rfl (fun K hK => ?_) (AllReadyIn.nil))
          go_simp
          refine hK _ _ ?_
          clear hK K
          refine wpAnyIn_ready (rs := [9]) (by kernel_rfl) (by simp) (AllReadyIn.cons rfl (fun K hK => ?_) (AllReadyIn.nil))
          go_simp
          refine ⟨trivial, ?_⟩
          refine (callsIn_wide.2 (Longest_any _ _ _ _ _ _ l' C r _ (HSC.out.mono InstR.mono (by repeat (first | exact Bel.refl _ | apply Bel.drew))) hm2 (HSI.out.mono (IntR.mono _) (by repeat (first | exact Bel.refl _ | apply Bel.drew))) (Lib.hid HBF.out.1) hr)).mono ?_
          rintro e w5 ⟨rfl, hb5⟩
          have HB5 : Bel W w5 := Bel.trans (by repeat (first | exact Bel.refl _ | apply Bel.drew)) hb5
          clear hb5
          have cc5 := HB5.cell cc
          have rc5 := (HR.out.mono HB5).cell (i := q) (by rw [HBF.out.1]; exact hq)
          have rf5 := (HR.out.mono HB5).frozen q
          have HB5 := Lib.hid HB5
          refine hK _ _ ?_
          clear hK K
          refine wpAnyIn_take (i := 10) (v := .pointer (some ⟨g, q, none⟩)) rfl rfl (by kernel_rfl) (by kernel_rfl) (by kernel_rfl) (fun _ _ _ h => h) ⟨Or.inl ⟨by rfl, ?hy⟩, fun _ => rfl⟩ ?_; (case hy => (intro w; go_simp))
          refine wpAnyIn_ready (rs := [11]) (by kernel_rfl) (by simp) (AllReadyIn.cons rfl (fun K hK => ?_) (AllReadyIn.nil))
          go_simp
          refine hK _ _ ?_
          clear hK K
          refine wpAnyIn_done (by kernel_rfl) ?_ _
          have hfin := bud_fin (B := W4.heap.size) (r := r) hlt1 HP.out HCB.out HSB.out HR.out HBW.out HB5.out (show q < C.length by rw [HBF.out.1]; exact hq)
          rw [← hbs.out] at hfin
          exact hfin
        · go_simp
          refine hK _ _ ?_
          clear hK K
          refine wpAnyIn_ready (rs := [0, 9]) (by kernel_rfl) (by simp) (AllReadyIn.cons rfl (fun K hK => ?_) (AllReadyIn.cons rfl (fun K hK => ?_) (AllReadyIn.nil)))
          · go_simp
            refine hK _ _ ?_
            clear hK K
            refine wpAnyIn_ready (rs := [9]) (by kernel_rfl) (by simp) (AllReadyIn.cons rfl (fun K hK => ?_) (AllReadyIn.nil))
            go_simp
            refine ⟨trivial, ?_⟩
            refine (callsIn_wide.2 (Longest_any _ _ _ _ _ _ l' C r _ (HSC.out.mono InstR.mono (by repeat (first | exact Bel.refl _ | apply Bel.drew))) hm2 (HSI.out.mono (IntR.mono _) (by repeat (first | exact Bel.refl _ | apply Bel.drew))) (Lib.hid HBF.out.1) hr)).mono ?_
            rintro e w5 ⟨rfl, hb5⟩
            have HB5 : Bel W w5 := Bel.trans (by repeat (first | exact Bel.refl _ | apply Bel.drew)) hb5
            clear hb5
            have cc5 := HB5.cell cc
            have rc5 := (HR.out.mono HB5).cell (i := q) (by rw [HBF.out.1]; exact hq)
            have rf5 := (HR.out.mono HB5).frozen q
            have HB5 := Lib.hid HB5
            refine hK _ _ ?_
            clear hK K
            refine wpAnyIn_take (i := 10) (v := .pointer (some ⟨g, q, none⟩)) rfl rfl (by kernel_rfl) (by kernel_rfl) (by kernel_rfl) (fun _ _ _ h => h) ⟨Or.inl ⟨by rfl, ?hy⟩, fun _ => rfl⟩ ?_; (case hy => (intro w; go_simp))
            refine wpAnyIn_ready (rs := [11]) (by kernel_rfl) (by simp) (AllReadyIn.cons rfl (fun K hK => ?_) (AllReadyIn.nil))
            go_simp
            refine hK _ _ ?_
            clear hK K
            refine wpAnyIn_done (by kernel_rfl) ?_ _
            have hfin := bud_fin (B := W4.heap.size) (r := r) hlt1 HP.out HCB.out HSB.out HR.out HBW.out HB5.out (show q < C.length by rw [HBF.out.1]; exact hq)
            rw [← hbs.out] at hfin
            exact hfin
          · go_simp
            refine ⟨trivial, ?_⟩
            refine (callsIn_wide.2 (Longest_any _ _ _ _ _ _ l' C r _ (HSC.out.mono InstR.mono (by repeat (first | exact Bel.refl _ | apply Bel.drew))) hm2 (HSI.out.mono (IntR.mono _) (by repeat (first | exact Bel.refl _ | apply Bel.drew))) (Lib.hid HBF.out.1) hr)).mono ?_
            rintro e w5 ⟨rfl, hb5⟩
            have HB5 : Bel W w5 := Bel.trans (by repeat (first | exact Bel.refl _ | apply Bel.drew)) hb5
            clear hb5
            have cc5 := HB5.cell cc
            have rc5 := (HR.out.mono HB5).cell (i := q) (by rw [HBF.out.1]; exact hq)
            have rf5 := (HR.out.mono HB5).frozen q
            have HB5 := Lib.hid HB5
            refine hK _ _ ?_
            clear hK K
            refine wpAnyIn_ready (rs := [0]) (by kernel_rfl) (by simp) (AllReadyIn.cons rfl (fun K hK => ?_) (AllReadyIn.nil))
            go_simp
            refine hK _ _ ?_
            clear hK K
            refine wpAnyIn_take (i := 10) (v := .pointer (some ⟨g, q, none⟩)) rfl rfl (by kernel_rfl) (by kernel_rfl) (by kernel_rfl) (fun _ _ _ h => h) ⟨Or.inl ⟨by rfl, ?hy⟩, fun _ => rfl⟩ ?_; (case hy => (intro w; go_simp))
            refine wpAnyIn_ready (rs := [11]) (by kernel_rfl) (by simp) (AllReadyIn.cons rfl (fun K hK => ?_) (AllReadyIn.nil))
            go_simp
            refine hK _ _ ?_
            clear hK K
            refine wpAnyIn_done (by kernel_rfl) ?_ _
            have hfin := bud_fin (B := W4.heap.size) (r := r) hlt1 HP.out HCB.out HSB.out HR.out HBW.out HB5.out (show q < C.length by rw [HBF.out.1]; exact hq)
            rw [← hbs.out] at hfin
            exact hfin
      · go_simp
        refine hK _ _ ?_
        clear hK K
        refine wpAnyIn_ready (rs := [0, 7]) (by kernel_rfl) (by simp) (AllReadyIn.cons rfl (fun K hK => ?_) (AllReadyIn.cons rfl (fun K hK => ?_) (AllReadyIn.nil)))
        · go_simp
          refine hK _ _ ?_
          clear hK K
          refine wpAnyIn_ready (rs := [7]) (by kernel_rfl) (by simp) (AllReadyIn.cons rfl (fun K hK => ?_) (AllReadyIn.nil))
          go_simp
          refine hK _ _ ?_
          clear hK K
          refine wpAnyIn_ready (rs := [9]) (by kernel_rfl) (by simp) (AllReadyIn.cons rfl (fun K hK => ?_) (AllReadyIn.nil))
          go_simp
          refine ⟨trivial, ?_⟩
          refine (callsIn_wide.2 (Longest_any _ _ _ _ _ _ l' C r _ (HSC.out.mono InstR.mono (by repeat (first | exact Bel.refl _ | apply Bel.drew))) hm2 (HSI.out.mono (IntR.mono _) (by repeat (first | exact Bel.refl _ | apply Bel.drew))) (Lib.hid HBF.out.1) hr)).mono ?_
          rintro e w5 ⟨rfl, hb5⟩
          have HB5 : Bel W w5 := Bel.trans (by repeat (first | exact Bel.refl _ | apply Bel.drew)) hb5
          clear hb5
          have cc5 := HB5.cell cc
          have rc5 := (HR.out.mono HB5).cell (i := q) (by rw [HBF.out.1]; exact hq)
          have rf5 := (HR.out.mono HB5).frozen q
          have HB5 := Lib.hid HB5
          refine hK _ _ ?_
          clear hK K
          refine wpAnyIn_take (i := 10) (v := .pointer (some ⟨g, q, none⟩)) rfl rfl (by kernel_rfl) (by kernel_rfl) (by kernel_rfl) (fun _ _ _ h => h) ⟨Or.inl ⟨by rfl, ?hy⟩, fun _ => rfl⟩ ?_; (case hy => (intro w; go_simp))
          refine wpAnyIn_ready (rs := [11]) (by kernel_rfl) (by simp) (AllReadyIn.cons rfl (fun K hK => ?_) (AllReadyIn.nil))
          go_simp
          refine hK _ _ ?_
          clear hK K
          refine wpAnyIn_done (by kernel_rfl) ?_ _
          have hfin := bud_fin (B := W4.heap.size) (r := r) hlt1 HP.out HCB.out HSB.out HR.out HBW.out HB5.out (show q < C.length by rw [HBF.out.1]; exact hq)
          rw [← hbs.out] at hfin
          exact hfin
        · go_simp
          refine hK _ _ ?_
          clear hK K
          refine wpAnyIn_ready (rs := [0, 9]) (by kernel_rfl) (by simp) (AllReadyIn.cons rfl (fun K hK => ?_) (AllReadyIn.cons rfl (fun K hK => ?_) (AllReadyIn.nil)))
          · go_simp
            refine hK _ _ ?_
            clear hK K
            refine wpAnyIn_ready (rs := [9]) (by kernel_rfl) (by simp) (AllReadyIn.cons rfl (fun K hK => ?_) (AllReadyIn.nil))
            go_simp
            refine ⟨trivial, ?_⟩
            refine (callsIn_wide.2 (Longest_any _ _ _ _ _ _ l' C r _ (HSC.out.mono InstR.mono (by repeat (first | exact Bel.refl _ | apply Bel.drew))) hm2 (HSI.out.mono (IntR.mono _) (by repeat (first | exact Bel.refl _ | apply Bel.drew))) (Lib.hid HBF.out.1) hr)).mono ?_
            rintro e w5 ⟨rfl, hb5⟩
            have HB5 : Bel W w5 := Bel.trans (by repeat (first | exact Bel.refl _ | apply Bel.drew)) hb5
            clear hb5
            have cc5 := HB5.cell cc
            have rc5 := (HR.out.mono HB5).cell (i := q) (by rw [HBF.out.1]; exact hq)
            have rf5 := (HR.out.mono HB5).frozen q
            have HB5 := Lib.hid HB5
            refine hK _ _ ?_
            clear hK K
            refine wpAnyIn_take (i := 10) (v := .pointer (some ⟨g, q, none⟩)) rfl rfl (by kernel_rfl) (by kernel_rfl) (by kernel_rfl) (fun _ _ _ h => h) ⟨Or.inl ⟨by rfl, ?hy⟩, fun _ => rfl⟩ ?_; (case hy => (intro w; go_simp))
            refine wpAnyIn_ready (rs := [11]) (by kernel_rfl) (by simp) (AllReadyIn.cons rfl (fun K hK => ?_) (AllReadyIn.nil))
            go_simp
            refine hK _ _ ?_
            clear hK K
            refine wpAnyIn_done (by kernel_rfl) ?_ _
            have hfin := bud_fin (B := W4.heap.size) (r := r) hlt1 HP.out HCB.out HSB.out HR.out HBW.out HB5.out (show q < C.length by rw [HBF.out.1]; exact hq)
            rw [← hbs.out] at hfin
            exact hfin
          · go_simp
            refine ⟨trivial, ?_⟩
            refine (callsIn_wide.2 (Longest_any _ _ _ _ _ _ l' C r _ (HSC.out.mono InstR.mono (by repeat (first | exact Bel.refl _ | apply Bel.drew))) hm2 (HSI.out.mono (IntR.mono _) (by repeat (first | exact Bel.refl _ | apply Bel.drew))) (Lib.hid HBF.out.1) hr)).mono ?_
            rintro e w5 ⟨rfl, hb5⟩
            have HB5 : Bel W w5 := Bel.trans (by repeat (first | exact Bel.refl _ | apply Bel.drew)) hb5
            clear hb5
            have cc5 := HB5.cell cc
            have rc5 := (HR.out.mono HB5).cell (i := q) (by rw [HBF.out.1]; exact hq)
            have rf5 := (HR.out.mono HB5).frozen q
            have HB5 := Lib.hid HB5
            refine hK _ _ ?_
            clear hK K
            refine wpAnyIn_ready (rs := [0]) (by kernel_rfl) (by simp) (AllReadyIn.cons rfl (fun K hK => ?_) (AllReadyIn.nil))
            go_simp
            refine hK _ _ ?_
            clear hK K
            refine wpAnyIn_take (i := 10) (v := .pointer (some ⟨g, q, none⟩)) rfl rfl (by kernel_rfl) (by kernel_rfl) (by kernel_rfl) (fun _ _ _ h => h) ⟨Or.inl ⟨by rfl, ?hy⟩, fun _ => rfl⟩ ?_; (case hy => (intro w; go_simp))
            refine wpAnyIn_ready (rs := [11]) (by kernel_rfl) (by simp) (AllReadyIn.cons rfl (fun K hK => ?_) (AllReadyIn.nil))
            go_simp
            refine hK _ _ ?_
            clear hK K
            refine wpAnyIn_done (by kernel_rfl) ?_ _
            have hfin := bud_fin (B := W4.heap.size) (r := r) hlt1 HP.out HCB.out HSB.out HR.out HBW.out HB5.out (show q < C.length by rw [HBF.out.1]; exact hq)
            rw [← hbs.out] at hfin
            exact hfin
    · go_simp
      refine hK _ _ ?_
      clear hK K
      refine wpAnyIn_ready (rs := [0, 3]) (by kernel_rfl) (by simp) (AllReadyIn.cons rfl (fun K hK => ?_) (AllReadyIn.cons rfl (fun K hK => ?_) (AllReadyIn.nil)))
      · go_simp
        refine hK _ _ ?_
        clear hK K
        refine wpAnyIn_ready (rs := [3]) (by kernel_rfl) (by simp) (AllReadyIn.cons rfl (fun K hK => ?_) (AllReadyIn.nil))
        go_simp
        refine hK _ _ ?_
        clear hK K
        refine wpAnyIn_take (i := 5) (v := .pointer (some ⟨b, off + q * 2, none⟩)) rfl rfl (by kernel_rfl) (by kernel_rfl) (by kernel_rfl) (fun _ _ _ h => h) ⟨Or.inl ⟨by rfl, ?hy⟩, fun _ => rfl⟩ ?_; (case hy => (intro w; go_simp))
        refine wpAnyIn_take (i := 6) (v := .pointer (some ⟨b, off + q * 2 + 1, none⟩)) rfl rfl (by kernel_rfl) (by kernel_rfl) (by kernel_rfl) (fun _ _ _ h => h) ⟨Or.inl ⟨by rfl, ?hy⟩, fun _ => rfl⟩ ?_; (case hy => (intro w; go_simp))
        refine wpAnyIn_ready (rs := [7]) (by kernel_rfl) (by simp) (AllReadyIn.cons rfl (fun K hK => ?_) (AllReadyIn.nil))
        go_simp
        refine hK _ _ ?_
        clear hK K
        refine wpAnyIn_ready (rs := [9]) (by kernel_rfl) (by simp) (AllReadyIn.cons rfl (fun K hK => ?_) (AllReadyIn.nil))
        go_simp
        refine ⟨trivial, ?_⟩
        refine (callsIn_wide.2 (Longest_any _ _ _ _ _ _ l' C r _ (HSC.out.mono InstR.mono (by repeat (first | exact Bel.refl _ | apply Bel.drew))) hm2 (HSI.out.mono (IntR.mono _) (by repeat (first | exact Bel.refl _ | apply Bel.drew))) (Lib.hid HBF.out.1) hr)).mono ?_
        rintro e w5 ⟨rfl, hb5⟩
        have HB5 : Bel W w5 := Bel.trans (by repeat (first | exact Bel.refl _ | apply Bel.drew)) hb5
        clear hb5
        have cc5 := HB5.cell cc
        have rc5 := (HR.out.mono HB5).cell (i := q) (by rw [HBF.out.1]; exact hq)
        have rf5 := (HR.out.mono HB5).frozen q
        have HB5 := Lib.hid HB5
        refine hK _ _ ?_
        clear hK K
        refine wpAnyIn_take (i := 10) (v := .pointer (some ⟨g, q, none⟩)) rfl rfl (by kernel_rfl) (by kernel_rfl) (by kernel_rfl) (fun _ _ _ h => h) ⟨Or.inl ⟨by rfl, ?hy⟩, fun _ => rfl⟩ ?_; (case hy => (intro w; go_simp))
        refine wpAnyIn_ready (rs := [11]) (by kernel_rfl) (by simp) (AllReadyIn.cons rfl (fun K hK => ?_) (AllReadyIn.nil))
        go_simp
        refine hK _ _ ?_
        clear hK K
        refine wpAnyIn_done (by kernel_rfl) ?_ _
        have hfin := bud_fin (B := W4.heap.size) (r := r) hlt1 HP.out HCB.out HSB.out HR.out HBW.out HB5.out (show q < C.length by rw [HBF.out.1]; exact hq)
        rw [← hbs.out] at hfin
        exact hfin
      · go_simp
        refine hK _ _ ?_
        clear hK K
        refine wpAnyIn_take (i := 5) (v := .pointer (some ⟨b, off + q * 2, none⟩)) rfl rfl (by kernel_rfl) (by kernel_rfl) (by kernel_rfl) (fun _ _ _ h => h) ⟨Or.inl ⟨by rfl, ?hy⟩, fun _ => rfl⟩ ?_; (case hy => (intro w; go_simp))
        refine wpAnyIn_take (i := 6) (v := .pointer (some ⟨b, off + q * 2 + 1, none⟩)) rfl rfl (by kernel_rfl) (by kernel_rfl) (by kernel_rfl) (fun _ _ _ h => h) ⟨Or.inl ⟨by rfl, ?hy⟩, fun _ => rfl⟩ ?_; (case hy => (intro w; go_simp))
        refine wpAnyIn_ready (rs := [0, 7]) (by kernel_rfl) (by simp) (AllReadyIn.cons rfl (fun K hK => ?_) (AllReadyIn.cons rfl (fun K hK => ?_) (AllReadyIn.nil)))
        · go_simp
          refine hK _ _ ?_
          clear hK K
          refine wpAnyIn_ready (rs := [7]) (by kernel_rfl) (by simp) (AllReadyIn.cons rfl (fun K hK => ?_) (AllReadyIn.nil))
          go_simp
          refine hK _ _ ?_
          clear hK K
          refine wpAnyIn_ready (rs := [9]) (by kernel_rfl) (by simp) (AllReadyIn.cons rfl (fun K hK => ?_) (AllReadyIn.nil))
          go_simp
          refine ⟨trivial, ?_⟩
          refine (callsIn_wide.2 (Longest_any _ _ _ _ _ _ l' C r _ (HSC.out.mono InstR.mono (by repeat (first | exact Bel.refl _ | apply Bel.drew))) hm2 (HSI.out.mono (IntR.mono _) (by repeat (first | exact Bel.refl _ | apply Bel.drew))) (Lib.hid HBF.out.1) hr)).mono ?_
          rintro e w5 ⟨rfl, hb5⟩
          have HB5 : Bel W w5 := Bel.trans (by repeat (first | exact Bel.refl _ | apply Bel.drew)) hb5
          clear hb5
          have cc5 := HB5.cell cc
          have rc5 := (HR.out.mono HB5).cell (i := q) (by rw [HBF.out.1]; exact hq)
          have rf5 := (HR.out.mono HB5).frozen q
          have HB5 := Lib.hid HB5
          refine hK _ _ ?_
          clear hK K
          refine wpAnyIn_take (i := 10) (v := .pointer (some ⟨g, q, none⟩)) rfl rfl (by kernel_rfl) (by kernel_rfl) (by kernel_rfl) (fun _ _ _ h => h) ⟨Or.inl ⟨by rfl, ?hy⟩, fun _ => rfl⟩ ?_; (case hy => (intro w; go_simp))
          refine wpAnyIn_ready (rs := [11]) (by kernel_rfl) (by simp) (AllReadyIn.cons rfl (fun K hK => ?_) (AllReadyIn.nil))
          go_simp
          refine hK _ _ ?_
          clear hK K
          refine wpAnyIn_done (by kernel_rfl) ?_ _
          have hfin := bud_fin (B := W4.heap.size) (r := r) hlt1 HP.out HCB.out HSB.out HR.out HBW.out HB5.out (show q < C.length by rw [HBF.out.1]; exact hq)
          rw [← hbs.out] at hfin
          exact hfin
        · go_simp
          refine hK _ _ ?_
          clear hK K
          refine wpAnyIn_ready (rs := [0, 9]) (by kernel_rfl) (by simp) (AllReadyIn.cons rfl (fun K hK => ?_) (AllReadyIn.cons rfl (fun K hK => ?_) (AllReadyIn.nil)))
          · go_simp
            refine hK _ _ ?_
            clear hK K
            refine wpAnyIn_ready (rs := [9]) (by kernel_rfl) (by simp) (AllReadyIn.cons rfl (fun K hK => ?_) (AllReadyIn.nil))
            go_simp
            refine ⟨trivial, ?_⟩
            refine (callsIn_wide.2 (Longest_any _ _ _ _ _ _ l' C r _ (HSC.out.mono InstR.mono (by repeat (first | exact Bel.refl _ | apply Bel.drew))) hm2 (HSI.out.mono (IntR.mono _) (by repeat (first | exact Bel.refl _ | apply Bel.drew))) (Lib.hid HBF.out.1) hr)).mono ?_
            rintro e w5 ⟨rfl, hb5⟩
            have HB5 : Bel W w5 := Bel.trans (by repeat (first | exact Bel.refl _ | apply Bel.drew)) hb5
            clear hb5
            have cc5 := HB5.cell cc
            have rc5 := (HR.out.mono HB5).cell (i := q) (by rw [HBF.out.1]; exact hq)
            have rf5 := (HR.out.mono HB5).frozen q
            have HB5 := Lib.hid HB5
            refine hK _ _ ?_
            clear hK K
            refine wpAnyIn_take (i := 10) (v := .pointer (some ⟨g, q, none⟩)) rfl rfl (by kernel_rfl) (by kernel_rfl) (by kernel_rfl) (fun _ _ _ h => h) ⟨Or.inl ⟨by rfl, ?hy⟩, fun _ => rfl⟩ ?_; (case hy => (intro w; go_simp))
            refine wpAnyIn_ready (rs := [11]) (by kernel_rfl) (by simp) (AllReadyIn.cons rfl (fun K hK => ?_) (AllReadyIn.nil))
            go_simp
            refine hK _ _ ?_
            clear hK K
            refine wpAnyIn_done (by kernel_rfl) ?_ _
            have hfin := bud_fin (B := W4.heap.size) (r := r) hlt1 HP.out HCB.out HSB.out HR.out HBW.out HB5.out (show q < C.length by rw [HBF.out.1]; exact hq)
            rw [← hbs.out] at hfin
            exact hfin
          · go_simp
            refine ⟨trivial, ?_⟩
            refine (callsIn_wide.2 (Longest_any _ _ _ _ _ _ l' C r _ (HSC.out.mono InstR.mono (by repeat (first | exact Bel.refl _ | apply Bel.drew))) hm2 (HSI.out.mono (IntR.mono _) (by repeat (first | exact Bel.refl _ | apply Bel.drew))) (Lib.hid HBF.out.1) hr)).mono ?_
            rintro e w5 ⟨rfl, hb5⟩
            have HB5 : Bel W w5 := Bel.trans (by repeat (first | exact Bel.refl _ | apply Bel.drew)) hb5
            clear hb5
            have cc5 := HB5.cell cc
            have rc5 := (HR.out.mono HB5).cell (i := q) (by rw [HBF.out.1]; exact hq)
            have rf5 := (HR.out.mono HB5).frozen q
            have HB5 := Lib.hid HB5
            refine hK _ _ ?_
            clear hK K
            refine wpAnyIn_ready (rs := [0]) (by kernel_rfl) (by simp) (AllReadyIn.cons rfl (fun K hK => ?_) (AllReadyIn.nil))
            go_simp
            refine hK _ _ ?_
            clear hK K
            refine wpAnyIn_take (i := 10) (v := .pointer (some ⟨g, q, none⟩)) rfl rfl (by kernel_rfl) (by kernel_rfl) (by kernel_rfl) (fun _ _ _ h => h) ⟨Or.inl ⟨by rfl, ?hy⟩, fun _ => rfl⟩ ?_; (case hy => (intro w; go_simp))
            refine wpAnyIn_ready (rs := [11]) (by kernel_rfl) (by simp) (AllReadyIn.cons rfl (fun K hK => ?_) (AllReadyIn.nil))
            go_simp
            refine hK _ _ ?_
            clear hK K
            refine wpAnyIn_done (by kernel_rfl) ?_ _
            have hfin := bud_fin (B := W4.heap.size) (r := r) hlt1 HP.out HCB.out HSB.out HR.out HBW.out HB5.out (show q < C.length by rw [HBF.out.1]; exact hq)
            rw [← hbs.out] at hfin
            exact hfin
  case done =>
    rintro D ys W hD rfl ⟨⟨⟨bp, bc, bs⟩, hrow⟩, hB⟩ hK
    rw [budUpto_all L n hn.out] at hrow
    have cc := bc.cell
    have hl : (budRow L).length = n := by rw [← budUpto_all L n hn.out]; exact (budUpto_facts L _).1
    have rc := hrow.cell (i := 0) (by rw [hl]; exact hn0)
    have he : (budRow L)[0]'(by rw [hl]; exact hn0) = (budRow L).getD 0 0 := by rw [List.getD_eq_getElem?_getD, List.getElem?_eq_getElem (by rw [hl]; exact hn0)]; rfl
    rw [he] at rc
    obtain ⟨r, hr⟩ : ∃ r, Hid ((budRow L).getD 0 0 = r) := ⟨_, Lib.hid rfl⟩
    rw [hr.out] at rc
    have hn0' : (0 : Int) < n := by omega
    have HK := Lib.hid hK
    have hF : Bel w (W.putObj D (.deferred none)) := Bel.of (hB.trans (belowK_b (w := w) (Nat.le_refl _) W D _ _ (by omega) hK rfl rfl))
    have HF := Lib.hid hF
    have HB := Lib.hid hB
    clear bp bc bs hrow hB hl he hK hF
    gi_wp2
    refine ⟨by simp, .inl ⟨_, _, rfl, run_takeDeferred HK.out, ?_⟩⟩
    exact ⟨_, results_tmp rfl _ _ _, by rw [hr.out]; rfl, HF.out⟩
  case stop =>
    rintro D c pre W _ _ h _
    exact h.elim
set_option maxRecDepth 100000 in
set_option maxHeartbeats 4000000 in
theorem Budget_any (A : Option Addr) (c n : Nat) (L : List FnD) (r : Int) (w : World) (h : Sl FnR 2 w A c L) (hn : Hid (L.length = n)) (hr : Hid (budget L = r)) :
    Calls Tryz.prog 14 #[.agg #[.slice A n c]] w fun e w' => e = .returned (.int .i64 r) ∧ Bel w w' := by
  rw [← hr.out]
  unfold budget
  by_cases hm : progMay L = true
  · rw [if_pos hm]
    have hn0 : 0 < L.length := by
      have := hm
      unfold progMay at this
      simp only [Bool.and_eq_true, decide_eq_true_iff] at this
      omega
    obtain ⟨b, off, rfl⟩ := h.addr hn0
    exact callsIn_wide.1 (budget_ok b off c n L w h hn (Lib.hid hm))
  · rw [if_neg hm]
    have HM : Hid (progMay L = false) := Lib.hid (by simpa using hm)
    have HS := Lib.hid h
    clear hm h hr
    refine (callsIn_wide (n := 3)).1 ?_
    refine callsIn_of_wp_marks Tryz.func14 rfl trivial ?_ rfl
    simp only [Tryz.ntmps14, List.size_toArray, List.length_cons, List.length_nil, Nat.reduceAdd, Nat.reduceSub, Array.replicate_succ, Array.replicate_zero, List.push_toArray, List.append_toArray, List.nil_append, List.cons_append]
    gi_wp2_with fail
    refine ⟨trivial, ?_⟩
    refine (callsIn_wide.2 (progmay_any _ c n L false _ (HS.out.mono FnR.mono ?_) hn HM)).mono ?_
    · repeat (first | exact Bel.refl _ | apply Bel.alloc | apply Bel.drew)
    rintro e w1 ⟨rfl, hb1⟩
    have HB1 : Bel w w1 := (((Bel.refl w).alloc _).trans hb1)
    clear hb1
    gi_wp2_with fail
    exact ⟨_, results_tmp rfl _ _ _, rfl, HB1⟩
end Go.Proofs.YtebdnobgdimdoaaGreat
