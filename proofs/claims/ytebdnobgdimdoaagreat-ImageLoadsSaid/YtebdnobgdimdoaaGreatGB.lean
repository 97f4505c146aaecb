/- Where control goes (chapter 8), as plain functions, and what holds of them. Nothing of the program. inst.May by its contract. course.may by its contract. course.next and course.Next by their contracts. Where control goes (chapter 8): what holds of it and of what ways cost. Nothing of the program. A row of one-cell elements in a block of its own: what it reads as, and what a store makes of it. Over whatever program. course.Reach by its contract. course.Fine by its contract. -/
import Derived.Test.YtebdnobgdimdoaaGreatGA
import Derived.Test.YtebdnobgdimdoaaGreatZInst2a
import Derived.Test.YtebdnobgdimdoaaGreatZInst2b
import Derived.Test.YtebdnobgdimdoaaGreatZInst2c
import Derived.Shelf.SlicesQ.IndexFunc
import Derived.Ground.SlgfProg
import Derived.Lib.SliceRun
import Derived.Lib.Hide
import Derived.LoopTactic
import Derived.WalkMore
import Derived.ScopeJumps
import Derived.Shelf.SlicesE.IndexFunc
set_option linter.unusedVariables false
set_option linter.unusedSimpArgs false
namespace Go.Proofs.YtebdnobgdimdoaaGreat
open Go.RowKit
def InstD.okB (i : InstD) : Bool := mayB i.op i.fn i.dst i.src i.reg i.off i.imm
/-- May code be? -/
def crsMay (l : List InstD) : Bool := decide (0 < l.length ∧ l.length ≤ 64) && l.all InstD.okB
/-- What is next of a place. -/
def nxt (i : InstD) (k : Nat) : List Nat :=
  if i.op = 7 then [] else if i.op = 1 ∧ i.fn = 0 then [k + i.off.toNat + 1] else if i.op = 1 ∧ 0 < i.off then [k + 1, k + i.off.toNat + 1] else [k + 1]
theorem nxt_gt {i : InstD} {k t : Nat} (h : t ∈ nxt i k) : k < t := by
  unfold nxt at h
  split at h
  · simp at h
  · split at h
    · simp at h; omega
    · split at h
      · simp at h; omega
      · simp at h; omega
theorem nxt_two (i : InstD) (k : Nat) : (nxt i k).length ≤ 2 := by
  unfold nxt
  split
  · simp
  · split
    · simp
    · split <;> simp
theorem nxt_le {i : InstD} (h : i.okB = true) {k t : Nat} (ht : t ∈ nxt i k) : t ≤ k + 65536 := by
  obtain ⟨_, _, _, _, ⟨e1, e2⟩, _⟩ := of_decide_eq_true h
  have : i.off ≤ 65535 := by split at e2 <;> omega
  unfold nxt at ht
  split at ht
  · simp at ht
  · split at ht
    · simp at ht; omega
    · split at ht
      · simp at ht; omega
      · simp at ht; omega
def mark (n : Nat) (R : List Bool) (t : Nat) : List Bool := if t < n then R.set t true else R
def rstep (l : List InstD) (R : List Bool) (k : Nat) : List Bool := if R.getD k false = true then (nxt l[k]! k).foldl (mark l.length) R else R
/-- What is reached, the first places looked at. -/
def reachUpto (l : List InstD) : Nat → List Bool
  | 0 => (List.replicate l.length false).set 0 true
  | k + 1 => rstep l (reachUpto l k) k
def reach (l : List InstD) : List Bool := reachUpto l l.length
theorem mark_length (n : Nat) (R : List Bool) (t : Nat) : (mark n R t).length = R.length := by unfold mark; split <;> simp
theorem marks_length (n : Nat) : ∀ (ts : List Nat) (R : List Bool), (ts.foldl (mark n) R).length = R.length
  | [], R => rfl
  | t :: ts, R => by rw [List.foldl_cons, marks_length n ts, mark_length]
theorem rstep_length (l : List InstD) (R : List Bool) (k : Nat) : (rstep l R k).length = R.length := by
  unfold rstep; split
  · exact marks_length _ _ _
  · rfl
theorem reachUpto_length (l : List InstD) : ∀ k, (reachUpto l k).length = l.length
  | 0 => by simp [reachUpto]
  | k + 1 => by rw [reachUpto, rstep_length, reachUpto_length l k]
theorem mark_get {n : Nat} {R : List Bool} {t i : Nat} (hR : R.length = n) (hi : i < n) : (mark n R t).getD i false = true ↔ (R.getD i false = true ∨ i = t) := by
  unfold mark
  simp only [List.getD_eq_getElem?_getD]
  split
  · rename_i ht
    rw [List.getElem?_set]
    by_cases h : t = i
    · subst h; simp [hR, hi]
    · simp only [h, if_false]
      constructor
      · exact .inl
      · rintro (h1 | h1)
        · exact h1
        · exact absurd h1.symm h
  · rename_i ht
    constructor
    · exact .inl
    · rintro (h1 | h1)
      · exact h1
      · omega
theorem marks_get {n i : Nat} (hi : i < n) : ∀ (ts : List Nat) (R : List Bool), R.length = n → ((ts.foldl (mark n) R).getD i false = true ↔ (R.getD i false = true ∨ i ∈ ts))
  | [], R, h => by simp
  | t :: ts, R, h => by
    rw [List.foldl_cons, marks_get hi ts _ (by rw [mark_length]; exact h), mark_get h hi, List.mem_cons, or_assoc]
theorem rstep_get {l : List InstD} {R : List Bool} {k i : Nat} (hR : R.length = l.length) (hi : i < l.length) :
    (rstep l R k).getD i false = true ↔ (R.getD i false = true ∨ (R.getD k false = true ∧ i ∈ nxt l[k]! k)) := by
  unfold rstep
  split
  · rename_i h
    rw [marks_get hi _ _ hR]
    simp only [h, true_and]
  · rename_i h
    simp only [h]
    simp
theorem reachUpto_get (l : List InstD) {i : Nat} (hi : i < l.length) : ∀ m, (reachUpto l m).getD i false = true ↔ (i = 0 ∨ ∃ k, k < m ∧ (reachUpto l k).getD k false = true ∧ i ∈ nxt l[k]! k)
  | 0 => by
    simp only [reachUpto, List.getD_eq_getElem?_getD, List.getElem?_set, List.length_replicate]
    by_cases h : 0 = i
    · subst h; simp [hi]
    · have h' : ¬ i = 0 := fun e => h e.symm
      simp [h, h', List.getElem?_replicate, hi]
  | m + 1 => by
    rw [reachUpto, rstep_get (reachUpto_length l m) hi, reachUpto_get l hi m]
    constructor
    · rintro ((h | ⟨k, hk, h1, h2⟩) | ⟨h1, h2⟩)
      · exact .inl h
      · exact .inr ⟨k, by omega, h1, h2⟩
      · exact .inr ⟨m, by omega, h1, h2⟩
    · rintro (h | ⟨k, hk, h1, h2⟩)
      · exact .inl (.inl h)
      · by_cases e : k = m
        · subst e; exact .inr ⟨h1, h2⟩
        · exact .inl (.inr ⟨k, by omega, h1, h2⟩)
/-- Behind a place nothing more is marked there. -/
theorem reachUpto_still (l : List InstD) {i : Nat} (hi : i < l.length) {m : Nat} (hm : i ≤ m) : (reachUpto l m).getD i false = (reachUpto l i).getD i false := by
  have key : (reachUpto l m).getD i false = true ↔ (reachUpto l i).getD i false = true := by
    rw [reachUpto_get l hi m, reachUpto_get l hi i]
    constructor
    · rintro (h | ⟨k, hk, h1, h2⟩)
      · exact .inl h
      · exact .inr ⟨k, nxt_gt h2, h1, h2⟩
    · rintro (h | ⟨k, hk, h1, h2⟩)
      · exact .inl h
      · exact .inr ⟨k, by omega, h1, h2⟩
  rw [Bool.eq_iff_iff]
  exact key
theorem reach_length (l : List InstD) : (reach l).length = l.length := reachUpto_length l _
/-- What is reached is the beginning, or next of what is. -/
theorem reach_get (l : List InstD) {i : Nat} (hi : i < l.length) : (reach l).getD i false = true ↔ (i = 0 ∨ ∃ k, k < i ∧ (reach l).getD k false = true ∧ i ∈ nxt l[k]! k) := by
  unfold reach
  rw [reachUpto_still l hi (Nat.le_of_lt hi), reachUpto_get l hi i]
  constructor
  · rintro (h | ⟨k, hk, h1, h2⟩)
    · exact .inl h
    · exact .inr ⟨k, hk, by rw [reachUpto_still l (by omega) (by omega)]; exact h1, h2⟩
  · rintro (h | ⟨k, hk, h1, h2⟩)
    · exact .inl h
    · exact .inr ⟨k, hk, by rw [reachUpto_still l (by omega) (by omega)] at h1; exact h1, h2⟩
/-- Does nothing go off the end? -/
def fineB (l : List InstD) : Bool := crsMay l && (List.range l.length).all fun k => !(reach l).getD k false || (nxt l[k]! k).all fun t => decide (t < l.length)
/-- What an instruction costs by itself. -/
def ownC (i : InstD) (calls : List Int) : Int :=
  if i.op = 6 ∧ i.imm.toNat < calls.length ∧ 0 ≤ calls.getD i.imm.toNat 0 ∧ calls.getD i.imm.toNat 0 ≤ 1000000 then 1 + calls.getD i.imm.toNat 0 else 1
def behindC (n : Nat) (C : List Int) (ts : List Nat) : Int := ts.foldl (fun b t => if t < n then max b (C.getD t 0) else b) 0
def cstep (l : List InstD) (calls : List Int) (C : List Int) (k : Nat) : List Int := C.set k (min (ownC l[k]! calls + behindC l.length C (nxt l[k]! k)) 1000000)
/-- The costs of the last places. -/
def costFrom (l : List InstD) (calls : List Int) : Nat → List Int
  | 0 => List.replicate 65 0
  | m + 1 => cstep l calls (costFrom l calls m) (l.length - 1 - m)
def longest (l : List InstD) (calls : List Int) : Int := if crsMay l = true then (costFrom l calls l.length).getD 0 0 else 0
end Go.Proofs.YtebdnobgdimdoaaGreat
set_option linter.unusedVariables false
namespace Go.Proofs.YtebdnobgdimdoaaGreat
open Go.RowKit
theorem may_any (op fn dst src : Int) (reg : Bool) (off imm : Int) (w : World) :
    Calls Tryz.prog 116 #[.agg #[.int .i64 op, .int .i64 fn, .int .i64 dst, .int .i64 src, .bool reg, .int .i64 off, .int .u32 imm]] w fun e w' => e = .returned (.bool (mayB op fn dst src reg off imm)) ∧ Bel w w' := by
  by_cases h0 : 0 ≤ op ∧ op < 8
  · by_cases h1 : 0 ≤ dst ∧ dst < 8
    · by_cases h2 : 0 ≤ src ∧ src < 8
      · have b1 : inB dst 8 = true := decide_eq_true h1
        have b2 : inB src 8 = true := decide_eq_true h2
        obtain rfl | rfl | rfl | rfl | rfl | rfl | rfl | rfl : op = 0 ∨ op = 1 ∨ op = 2 ∨ op = 3 ∨ op = 4 ∨ op = 5 ∨ op = 6 ∨ op = 7 := by omega
        · exact may_0 fn dst src reg off imm w b1 b2
        · by_cases hf : fn = 0
          · subst hf; exact may_1z dst src reg off imm w b1 b2
          · exact may_1 fn dst src reg off imm w b1 b2 (by simp [hf])
        · exact may_2 fn dst src reg off imm w b1 b2
        · exact may_3 fn dst src reg off imm w b1 b2
        · exact may_4 fn dst src reg off imm w b1 b2
        · exact may_5 fn dst src reg off imm w b1 b2
        · exact may_6 fn dst src reg off imm w b1 b2
        · exact may_7 fn dst src reg off imm w b1 b2
      · rw [show mayB op fn dst src reg off imm = false from decide_eq_false (fun h => h2 h.2.2.1)]
        exact may_no_src op fn dst src reg off imm w (decide_eq_true h0) (decide_eq_true h1) (decide_eq_false h2)
    · rw [show mayB op fn dst src reg off imm = false from decide_eq_false (fun h => h1 h.2.1)]
      exact may_no_dst op fn dst src reg off imm w (decide_eq_true h0) (decide_eq_false h1)
  · rw [show mayB op fn dst src reg off imm = false from decide_eq_false (fun h => h0 h.1)]
    exact may_no_op op fn dst src reg off imm w (decide_eq_false h0)
end Go.Proofs.YtebdnobgdimdoaaGreat
set_option linter.unusedVariables false
set_option linter.unusedSimpArgs false
namespace Go.Proofs.YtebdnobgdimdoaaGreat
open Go.RowKit Go.Shelf Go.Lib
shelf_lay_g SlLaysH0.n8 Slgf 8 at Tryz 117 as crsL8
theorem inst_cells {w : World} {b off c : Nat} {l : List InstD} (h : Sl InstR 7 w (some ⟨b, off, none⟩) c l) : ∀ j, j < l.length → ∀ i v, (InstD.cells l[j]!)[i]? = some v → w.cell? ⟨b, off + j * 7 + i, none⟩ = some v := by
  intro j hj i v hv
  obtain ⟨b', off', cs, e, hl, ⟨rfl, hw⟩, hc⟩ := h.get j hj
  simp at e; obtain ⟨rfl, rfl⟩ := e
  rw [getElem!_pos l j hj] at hv
  exact hc i v hv
/-- 'func(i api.Inst) bool { return !inst.May(i) }'. -/
theorem crs_pred (w : World) : PredBelow Tryz.prog 118 #[] (fun x : InstD => .agg (InstD.cells x).toArray) (fun x => !x.okB) w := fun W x hb => by
  obtain ⟨op, fn, dst, src, reg, off, imm⟩ := x
  show Calls Tryz.prog 118 #[.agg #[.int .i64 op, .int .i64 fn, .int .i64 dst, .int .i64 src, .bool reg, .int .i64 off, .int .u32 imm]] W _
  have HB := Bel.of hb
  go_enter Tryz.func118, Tryz.ntmps118
  go_wp2_with fail
  refine (may_any _ _ _ _ _ _ _ _).mono ?_
  rintro e w1 ⟨rfl, hb1⟩
  go_wp2_with fail
  go_ret
  exact ⟨rfl, by first | exact (HB.trans hb1).out | exact ((HB.alloc _).trans hb1).out⟩
theorem crs_enters : ∀ args w, (callFunc 118 args).run Tryz.prog w = .ok (.enter 118 args) w := enters_of Tryz.func118 (by kernel_rfl) rfl
theorem contains_any (b off c n : Nat) (l : List InstD) (w : World) (h : Sl InstR 7 w (some ⟨b, off, none⟩) c l) (hp : 0 < l.length) (hn : Hid (l.length = n)) (r : Bool) (hr : Hid (l.any (fun x => !x.okB) = r)) :
    Calls Tryz.prog 117 #[.slice (some ⟨b, off, none⟩) n c, .func (.func 118) #[] #[]] w fun e w' => e = .returned (.bool r) ∧ Bel w w' := by
  have hb : b < w.heap.size := by
    obtain ⟨b', off', cs, e, hl, ⟨rfl, hw⟩, hc⟩ := h.get 0 hp
    simp at e; obtain ⟨rfl, rfl⟩ := e
    exact World.block_lt_of_cell? _ _ (hc 0 _ rfl)
  have hle := h.le
  have hbig := h.big
  simp only [maxLen] at hbig
  have hcon := AnyQ.slices_ContainsFunc crsL8 7 Tryz.isAgg95 Tryz.sizeOf95 InstD.cells (fun _ => rfl) (fun x => !x.okB) 118 #[] crs_enters b off l.length c l w (crs_pred w) (Nat.le_refl _) (by omega) hb (inst_cells h)
  change Calls Tryz.prog 117 _ _ _ at hcon
  rw [List.take_length, hr.out, hn.out] at hcon
  exact hcon.mono fun e w' ⟨h1, h2⟩ => ⟨h1, Bel.of h2⟩
set_option maxHeartbeats 1000000 in
theorem crsmay_any (A : Option Addr) (c : Nat) (l : List InstD) (w : World) (h : Sl InstR 7 w A c l) :
    Calls Tryz.prog 74 #[.slice A l.length c] w fun e w' => e = .returned (.bool (crsMay l)) ∧ Bel w w' := by
  have HB := Bel.refl w
  have b1 : l.length ≤ 9223372036854775807 := by have := h.le; have := h.big; simp only [maxLen] at this; omega
  by_cases h0 : l.length = 0
  · have hr : crsMay l = false := by unfold crsMay; rw [decide_eq_false (by omega)]; rfl
    rw [hr, h0]
    clear hr h0 h
    go_enter Tryz.func74, Tryz.ntmps74
    go_wp2_with fail
    go_ret
    exact ⟨by simp, by repeat (first | exact HB | apply Bel.alloc | apply Bel.drewN)⟩
  · by_cases h1 : 64 < l.length
    · have hr : crsMay l = false := by unfold crsMay; rw [decide_eq_false (by omega)]; rfl
      rw [hr]
      have h0' : (0 : Int) < (l.length : Int) := by omega
      have h1' : ¬ (l.length : Int) ≤ 64 := by omega
      clear hr h
      go_enter Tryz.func74, Tryz.ntmps74
      go_wp2_with fail
      go_ret
      exact ⟨by simp, by repeat (first | exact HB | apply Bel.alloc | apply Bel.drewN)⟩
    · obtain ⟨b, off, rfl⟩ := h.addr (by omega)
      have h0' : (0 : Int) < (l.length : Int) := by omega
      have h1' : (l.length : Int) ≤ 64 := by omega
      have HS := Lib.hid h
      have hp : 0 < l.length := by omega
      have hr : crsMay l = !(l.any fun x => !x.okB) := by
        unfold crsMay
        rw [decide_eq_true (by omega), Bool.true_and]
        rw [Bool.eq_iff_iff]
        simp [List.any_eq_true, List.all_eq_true]
      rw [hr]
      obtain ⟨r, hr2⟩ : ∃ r, Hid (l.any (fun x => !x.okB) = r) := ⟨_, Lib.hid rfl⟩
      rw [hr2.out]
      clear hr h
      go_enter Tryz.func74, Tryz.ntmps74
      go_wp2_with (first | (go_at_call 117; refine (contains_any b off c _ l _ (HS.out.mono InstR.mono (by first | exact Bel.refl _ | exact (Bel.refl _).drew | exact (Bel.refl _).drew.drew)) hp (Lib.hid rfl) r hr2).mono ?_; rintro e w1 ⟨rfl, hb1⟩))
      go_ret
      exact ⟨by simp, by first | exact hb1 | exact ((Bel.refl _).drew).trans hb1 | exact ((Bel.refl _).drew.drew).trans hb1⟩
end Go.Proofs.YtebdnobgdimdoaaGreat
set_option linter.unusedVariables false
set_option linter.unusedSimpArgs false
namespace Go.Proofs.YtebdnobgdimdoaaGreat
open Go.RowKit
theorem wrap_i64 {x : Int} (h1 : -9223372036854775808 ≤ x) (h2 : x < 9223372036854775808) : IntKind.i64.wrap x = x := by simp [IntKind.wrap, IntKind.bits, IntKind.signed]; omega
theorem wf_i64 {x : Int} (h1 : -9223372036854775808 ≤ x) (h2 : x < 9223372036854775808) : (Lit.int .i64 x).wf = true := by simp [Lit.wf, IntKind.min, IntKind.max, IntKind.bits, IntKind.signed]; omega
def ints (ts : List Nat) : List Int := ts.map fun (n : Nat) => (n : Int)
/-- Numbers that may be read, in new memory or none. -/
def IntsOut (ts : List Nat) (w : World) (e : Ending) (w' : World) : Prop :=
  ∃ A cap, e = .returned (.slice A ts.length cap) ∧ Sl (IntR .i64) 1 w' A cap (ints ts) ∧ (∀ x, A = some x → w.heap.size ≤ x.block) ∧ Bel w w'
/-- A block of numbers that was just made, as a slice. -/
theorem sl_new {k : IntKind} (w : World) (t : TypeId) (l : List Int) (hw : ∀ x ∈ l, (Lit.int k x).wf = true) (hm : l.length ≤ maxLen) : Sl (IntR k) 1 (w.alloc (.cells (l.map (Value.int k)).toArray t)) (some ⟨w.heap.size, 0, none⟩) l.length l :=
  ⟨Nat.le_refl _, hm, fun i hi => ⟨w.heap.size, 0, [.int k l[i]], rfl, rfl, ⟨rfl, hw _ (List.getElem_mem hi)⟩, fun j v hv => by
    cases j with
    | zero => simp at hv; subst hv; simp [World.cell?_alloc_new, List.getElem?_eq_getElem hi]
    | succ j => simp at hv⟩⟩
theorem sl_new_at {k : IntKind} (w : World) (g : Nat) (hg : w.heap.size = g) (t : TypeId) (l : List Int) (hw : ∀ x ∈ l, (Lit.int k x).wf = true) (hm : l.length ≤ maxLen) : Sl (IntR k) 1 (w.alloc (.cells (l.map (Value.int k)).toArray t)) (some ⟨g, 0, none⟩) l.length l := by
  subst hg; exact sl_new w t l hw hm
set_option maxHeartbeats 4000000 in
set_option maxRecDepth 100000 in
theorem next_exit (b off0 c n k : Nat) (op fn dst src : Int) (reg : Bool) (off imm : Int) (w : World) (hk : (k : Int) < n) (hk2 : k < 64) (ho : 0 ≤ off) (ho2 : off ≤ 65535)
    (c0 : w.cell? ⟨b, off0 + k * 7, none⟩ = some (.int .i64 op)) (c1 : w.cell? ⟨b, off0 + k * 7 + 1, none⟩ = some (.int .i64 fn)) (c2 : w.cell? ⟨b, off0 + k * 7 + 2, none⟩ = some (.int .i64 dst)) (c3 : w.cell? ⟨b, off0 + k * 7 + 3, none⟩ = some (.int .i64 src)) (c4 : w.cell? ⟨b, off0 + k * 7 + 4, none⟩ = some (.bool reg)) (c5 : w.cell? ⟨b, off0 + k * 7 + 5, none⟩ = some (.int .i64 off)) (c6 : w.cell? ⟨b, off0 + k * 7 + 6, none⟩ = some (.int .u32 imm)) (h : op = 7) :
    Calls Tryz.prog 75 #[.slice (some ⟨b, off0, none⟩) n c, .int .i64 k] w (IntsOut ([]) w) := by
  have k0 : 0 ≤ (k : Int) := by omega
  have e1 : IntKind.i64.wrap ((k : Int) + 1) = (k : Int) + 1 := wrap_i64 (by omega) (by omega)
  have e2 : IntKind.i64.wrap ((k : Int) + off) = (k : Int) + off := wrap_i64 (by omega) (by omega)
  have e3 : IntKind.i64.wrap ((k : Int) + off + 1) = (k : Int) + off + 1 := wrap_i64 (by omega) (by omega)
  subst h
  go_enter Tryz.func75, Tryz.ntmps75
  go_wp2_with fail
  go_ret
  exact ⟨none, 0, rfl, Sl.nil _ _ _, (fun _ h => by cases h), by repeat (first | exact Bel.refl _ | apply Bel.alloc | apply Bel.drew)⟩
set_option maxHeartbeats 4000000 in
set_option maxRecDepth 100000 in
theorem next_always (b off0 c n k : Nat) (op fn dst src : Int) (reg : Bool) (off imm : Int) (w : World) (hk : (k : Int) < n) (hk2 : k < 64) (ho : 0 ≤ off) (ho2 : off ≤ 65535)
    (c0 : w.cell? ⟨b, off0 + k * 7, none⟩ = some (.int .i64 op)) (c1 : w.cell? ⟨b, off0 + k * 7 + 1, none⟩ = some (.int .i64 fn)) (c2 : w.cell? ⟨b, off0 + k * 7 + 2, none⟩ = some (.int .i64 dst)) (c3 : w.cell? ⟨b, off0 + k * 7 + 3, none⟩ = some (.int .i64 src)) (c4 : w.cell? ⟨b, off0 + k * 7 + 4, none⟩ = some (.bool reg)) (c5 : w.cell? ⟨b, off0 + k * 7 + 5, none⟩ = some (.int .i64 off)) (c6 : w.cell? ⟨b, off0 + k * 7 + 6, none⟩ = some (.int .u32 imm)) (h : op = 1) (h2 : fn = 0) :
    Calls Tryz.prog 75 #[.slice (some ⟨b, off0, none⟩) n c, .int .i64 k] w (IntsOut ([k + off.toNat + 1]) w) := by
  have k0 : 0 ≤ (k : Int) := by omega
  have e1 : IntKind.i64.wrap ((k : Int) + 1) = (k : Int) + 1 := wrap_i64 (by omega) (by omega)
  have e2 : IntKind.i64.wrap ((k : Int) + off) = (k : Int) + off := wrap_i64 (by omega) (by omega)
  have e3 : IntKind.i64.wrap ((k : Int) + off + 1) = (k : Int) + off + 1 := wrap_i64 (by omega) (by omega)
  subst h
  subst h2
  go_enter Tryz.func75, Tryz.ntmps75
  go_wp2_with fail
  go_ret
  obtain ⟨o, rfl⟩ := Int.eq_ofNat_of_zero_le ho
  refine ⟨_, _, rfl, ?_, (fun x h => by cases h; simp), by repeat (first | exact Bel.refl _ | apply Bel.alloc | apply Bel.drew)⟩
  have h := sl_new_at (k := .i64) (w.alloc (.cells #[.int .i64 1, .int .i64 0, .int .i64 dst, .int .i64 src, .bool reg, .int .i64 (o : Int), .int .u32 imm] 95)) (w.heap.size + 1) (by simp) 3 (ints ([k + o + 1])) (by simp [ints]; first | exact wf_i64 (by omega) (by omega) | exact ⟨wf_i64 (by omega) (by omega), wf_i64 (by omega) (by omega)⟩) (by show _ ≤ maxLen; simp [ints, maxLen])
  simpa [ints] using h
set_option maxHeartbeats 4000000 in
set_option maxRecDepth 100000 in
theorem next_both (b off0 c n k : Nat) (op fn dst src : Int) (reg : Bool) (off imm : Int) (w : World) (hk : (k : Int) < n) (hk2 : k < 64) (ho : 0 ≤ off) (ho2 : off ≤ 65535)
    (c0 : w.cell? ⟨b, off0 + k * 7, none⟩ = some (.int .i64 op)) (c1 : w.cell? ⟨b, off0 + k * 7 + 1, none⟩ = some (.int .i64 fn)) (c2 : w.cell? ⟨b, off0 + k * 7 + 2, none⟩ = some (.int .i64 dst)) (c3 : w.cell? ⟨b, off0 + k * 7 + 3, none⟩ = some (.int .i64 src)) (c4 : w.cell? ⟨b, off0 + k * 7 + 4, none⟩ = some (.bool reg)) (c5 : w.cell? ⟨b, off0 + k * 7 + 5, none⟩ = some (.int .i64 off)) (c6 : w.cell? ⟨b, off0 + k * 7 + 6, none⟩ = some (.int .u32 imm)) (h : op = 1) (h2 : (fn == 0) = false) (h3 : 0 < off) :
    Calls Tryz.prog 75 #[.slice (some ⟨b, off0, none⟩) n c, .int .i64 k] w (IntsOut ([k + 1, k + off.toNat + 1]) w) := by
  have k0 : 0 ≤ (k : Int) := by omega
  have e1 : IntKind.i64.wrap ((k : Int) + 1) = (k : Int) + 1 := wrap_i64 (by omega) (by omega)
  have e2 : IntKind.i64.wrap ((k : Int) + off) = (k : Int) + off := wrap_i64 (by omega) (by omega)
  have e3 : IntKind.i64.wrap ((k : Int) + off + 1) = (k : Int) + off + 1 := wrap_i64 (by omega) (by omega)
  subst h
  go_enter Tryz.func75, Tryz.ntmps75
  go_wp2_with fail
  go_ret
  obtain ⟨o, rfl⟩ := Int.eq_ofNat_of_zero_le ho
  refine ⟨_, _, rfl, ?_, (fun x h => by cases h; simp), by repeat (first | exact Bel.refl _ | apply Bel.alloc | apply Bel.drew)⟩
  have h := sl_new_at (k := .i64) (w.alloc (.cells #[.int .i64 1, .int .i64 fn, .int .i64 dst, .int .i64 src, .bool reg, .int .i64 (o : Int), .int .u32 imm] 95)) (w.heap.size + 1) (by simp) 3 (ints ([k + 1, k + o + 1])) (by simp [ints]; first | exact wf_i64 (by omega) (by omega) | exact ⟨wf_i64 (by omega) (by omega), wf_i64 (by omega) (by omega)⟩) (by show _ ≤ maxLen; simp [ints, maxLen])
  simpa [ints] using h
set_option maxHeartbeats 4000000 in
set_option maxRecDepth 100000 in
theorem next_stay (b off0 c n k : Nat) (op fn dst src : Int) (reg : Bool) (off imm : Int) (w : World) (hk : (k : Int) < n) (hk2 : k < 64) (ho : 0 ≤ off) (ho2 : off ≤ 65535)
    (c0 : w.cell? ⟨b, off0 + k * 7, none⟩ = some (.int .i64 op)) (c1 : w.cell? ⟨b, off0 + k * 7 + 1, none⟩ = some (.int .i64 fn)) (c2 : w.cell? ⟨b, off0 + k * 7 + 2, none⟩ = some (.int .i64 dst)) (c3 : w.cell? ⟨b, off0 + k * 7 + 3, none⟩ = some (.int .i64 src)) (c4 : w.cell? ⟨b, off0 + k * 7 + 4, none⟩ = some (.bool reg)) (c5 : w.cell? ⟨b, off0 + k * 7 + 5, none⟩ = some (.int .i64 off)) (c6 : w.cell? ⟨b, off0 + k * 7 + 6, none⟩ = some (.int .u32 imm)) (h : op = 1) (h2 : (fn == 0) = false) (h3 : off = 0) :
    Calls Tryz.prog 75 #[.slice (some ⟨b, off0, none⟩) n c, .int .i64 k] w (IntsOut ([k + 1]) w) := by
  have k0 : 0 ≤ (k : Int) := by omega
  have e1 : IntKind.i64.wrap ((k : Int) + 1) = (k : Int) + 1 := wrap_i64 (by omega) (by omega)
  have e2 : IntKind.i64.wrap ((k : Int) + off) = (k : Int) + off := wrap_i64 (by omega) (by omega)
  have e3 : IntKind.i64.wrap ((k : Int) + off + 1) = (k : Int) + off + 1 := wrap_i64 (by omega) (by omega)
  subst h
  subst h3
  go_enter Tryz.func75, Tryz.ntmps75
  go_wp2_with fail
  go_ret
  refine ⟨_, _, rfl, ?_, (fun x h => by cases h; simp), by repeat (first | exact Bel.refl _ | apply Bel.alloc | apply Bel.drew)⟩
  have h := sl_new_at (k := .i64) (w.alloc (.cells #[.int .i64 1, .int .i64 fn, .int .i64 dst, .int .i64 src, .bool reg, .int .i64 0, .int .u32 imm] 95)) (w.heap.size + 1) (by simp) 3 (ints ([k + 1])) (by simp [ints]; first | exact wf_i64 (by omega) (by omega) | exact ⟨wf_i64 (by omega) (by omega), wf_i64 (by omega) (by omega)⟩) (by show _ ≤ maxLen; simp [ints, maxLen])
  simpa [ints] using h
set_option maxHeartbeats 4000000 in
set_option maxRecDepth 100000 in
theorem next_step (b off0 c n k : Nat) (op fn dst src : Int) (reg : Bool) (off imm : Int) (w : World) (hk : (k : Int) < n) (hk2 : k < 64) (ho : 0 ≤ off) (ho2 : off ≤ 65535)
    (c0 : w.cell? ⟨b, off0 + k * 7, none⟩ = some (.int .i64 op)) (c1 : w.cell? ⟨b, off0 + k * 7 + 1, none⟩ = some (.int .i64 fn)) (c2 : w.cell? ⟨b, off0 + k * 7 + 2, none⟩ = some (.int .i64 dst)) (c3 : w.cell? ⟨b, off0 + k * 7 + 3, none⟩ = some (.int .i64 src)) (c4 : w.cell? ⟨b, off0 + k * 7 + 4, none⟩ = some (.bool reg)) (c5 : w.cell? ⟨b, off0 + k * 7 + 5, none⟩ = some (.int .i64 off)) (c6 : w.cell? ⟨b, off0 + k * 7 + 6, none⟩ = some (.int .u32 imm)) (h : (op == 7) = false) (h2 : (op == 1) = false) :
    Calls Tryz.prog 75 #[.slice (some ⟨b, off0, none⟩) n c, .int .i64 k] w (IntsOut ([k + 1]) w) := by
  have k0 : 0 ≤ (k : Int) := by omega
  have e1 : IntKind.i64.wrap ((k : Int) + 1) = (k : Int) + 1 := wrap_i64 (by omega) (by omega)
  have e2 : IntKind.i64.wrap ((k : Int) + off) = (k : Int) + off := wrap_i64 (by omega) (by omega)
  have e3 : IntKind.i64.wrap ((k : Int) + off + 1) = (k : Int) + off + 1 := wrap_i64 (by omega) (by omega)
  go_enter Tryz.func75, Tryz.ntmps75
  go_wp2_with fail
  go_ret
  obtain ⟨o, rfl⟩ := Int.eq_ofNat_of_zero_le ho
  refine ⟨_, _, rfl, ?_, (fun x h => by cases h; simp), by repeat (first | exact Bel.refl _ | apply Bel.alloc | apply Bel.drew)⟩
  have h := sl_new_at (k := .i64) (w.alloc (.cells #[.int .i64 op, .int .i64 fn, .int .i64 dst, .int .i64 src, .bool reg, .int .i64 (o : Int), .int .u32 imm] 95)) (w.heap.size + 1) (by simp) 3 (ints ([k + 1])) (by simp [ints]; first | exact wf_i64 (by omega) (by omega) | exact ⟨wf_i64 (by omega) (by omega), wf_i64 (by omega) (by omega)⟩) (by show _ ≤ maxLen; simp [ints, maxLen])
  simpa [ints] using h
theorem ok_off {i : InstD} (h : i.okB = true) : 0 ≤ i.off ∧ i.off ≤ 65535 := by
  obtain ⟨_, _, _, _, ⟨e1, e2⟩, _⟩ := of_decide_eq_true h
  refine ⟨e1, ?_⟩
  split at e2 <;> omega
theorem next_any (A : Option Addr) (c n : Nat) (l : List InstD) (k : Nat) (ts : List Nat) (w : World) (h : Sl InstR 7 w A c l) (hn : Hid (l.length = n)) (hk : k < n) (hk2 : k < 64) (ho : (l[k]!).okB = true) (ht : Hid (nxt l[k]! k = ts)) :
    Calls Tryz.prog 75 #[.slice A n c, .int .i64 k] w (IntsOut ts w) := by
  have hk' : k < l.length := by rw [hn.out]; exact hk
  obtain ⟨b, off0, rfl⟩ := h.addr (by omega)
  have hc := inst_cells h k hk'
  have c0 := hc 0 _ rfl
  have c1 := hc 1 _ rfl
  have c2 := hc 2 _ rfl
  have c3 := hc 3 _ rfl
  have c4 := hc 4 _ rfl
  have c5 := hc 5 _ rfl
  have c6 := hc 6 _ rfl
  rw [Nat.add_zero] at c0
  obtain ⟨o1, o2⟩ := ok_off ho
  rw [← ht.out]
  clear hc ht ho h hn
  generalize l[k]! = i at *
  obtain ⟨op, fn, dst, src, reg, off, imm⟩ := i
  simp only at *
  have hkn : (k : Int) < n := by omega
  unfold nxt
  by_cases h7 : op = 7
  · rw [if_pos h7]
    exact next_exit b off0 c n k op fn dst src reg off imm w hkn hk2 o1 o2 c0 c1 c2 c3 c4 c5 c6 h7
  · rw [if_neg h7]
    by_cases h1 : op = 1
    · by_cases h0 : fn = 0
      · rw [if_pos ⟨h1, h0⟩]
        exact next_always b off0 c n k op fn dst src reg off imm w hkn hk2 o1 o2 c0 c1 c2 c3 c4 c5 c6 h1 h0
      · rw [if_neg (fun h => h0 h.2)]
        by_cases h2 : 0 < off
        · rw [if_pos ⟨h1, h2⟩]
          exact next_both b off0 c n k op fn dst src reg off imm w hkn hk2 o1 o2 c0 c1 c2 c3 c4 c5 c6 h1 (by simpa using h0) h2
        · rw [if_neg (fun h => h2 h.2)]
          exact next_stay b off0 c n k op fn dst src reg off imm w hkn hk2 o1 o2 c0 c1 c2 c3 c4 c5 c6 h1 (by simpa using h0) (by omega)
    · rw [if_neg (fun h => h1 h.1), if_neg (fun h => h1 h.1)]
      exact next_step b off0 c n k op fn dst src reg off imm w hkn hk2 o1 o2 c0 c1 c2 c3 c4 c5 c6 (by simpa using h7) (by simpa using h1)
theorem crsmay_at (A : Option Addr) (c n : Nat) (l : List InstD) (r : Bool) (w : World) (h : Sl InstR 7 w A c l) (hn : Hid (l.length = n)) (hr : Hid (crsMay l = r)) :
    Calls Tryz.prog 74 #[.slice A n c] w fun e w' => e = .returned (.bool r) ∧ Bel w w' := by
  have := crsmay_any A c l w h
  rw [hn.out, hr.out] at this
  exact this
/-- What 'Next' tells. -/
def nextR (l : List InstD) (p : Int) : List Nat := if crsMay l = true ∧ 0 ≤ p ∧ p < l.length then nxt l[p.toNat]! p.toNat else []
end Go.Proofs.YtebdnobgdimdoaaGreat
set_option linter.unusedVariables false
set_option linter.unusedSimpArgs false
namespace Go.Proofs.YtebdnobgdimdoaaGreat
open Go.RowKit
theorem crsMay_facts {l : List InstD} (h : crsMay l = true) : 0 < l.length ∧ l.length ≤ 64 ∧ ∀ k, k < l.length → (l[k]!).okB = true := by
  unfold crsMay at h
  rw [Bool.and_eq_true, decide_eq_true_iff, List.all_eq_true] at h
  refine ⟨h.1.1, h.1.2, fun k hk => ?_⟩
  rw [getElem!_pos l k hk]
  exact h.2 _ (List.getElem_mem hk)
theorem reach_zero {l : List InstD} (h : 0 < l.length) : (reach l).getD 0 false = true := (reach_get l h).2 (.inl rfl)
theorem fine_facts {l : List InstD} (h : fineB l = true) : crsMay l = true ∧ ∀ k, k < l.length → (reach l).getD k false = true → ∀ t ∈ nxt l[k]! k, t < l.length := by
  unfold fineB at h
  rw [Bool.and_eq_true, List.all_eq_true] at h
  refine ⟨h.1, fun k hk hr t ht => ?_⟩
  have := h.2 k (List.mem_range.2 hk)
  rw [hr] at this
  simp only [Bool.not_true, Bool.false_or, List.all_eq_true] at this
  exact of_decide_eq_true (this t ht)
theorem nxt_nil_iff {i : InstD} {k : Nat} : nxt i k = [] ↔ i.op = 7 := by
  unfold nxt
  constructor
  · intro h
    by_cases h7 : i.op = 7
    · exact h7
    · rw [if_neg h7] at h
      split at h
      · simp at h
      · split at h <;> simp at h
  · intro h; rw [if_pos h]
/-- What is next of what is reached is reached. -/
theorem reach_next {l : List InstD} {k t : Nat} (hk : k < l.length) (ht : t < l.length) (hr : (reach l).getD k false = true) (h : t ∈ nxt l[k]! k) : (reach l).getD t false = true :=
  (reach_get l ht).2 (.inr ⟨k, nxt_gt h, hr, h⟩)
/-- Where nothing goes off the end some end is reached. -/
theorem fine_end {l : List InstD} (h : fineB l = true) : ∃ k, k < l.length ∧ (reach l).getD k false = true ∧ (l[k]!).op = 7 := by
  obtain ⟨hm, hf⟩ := fine_facts h
  obtain ⟨h0, _, _⟩ := crsMay_facts hm
  have key : ∀ n k, l.length - k = n → k < l.length → (reach l).getD k false = true → ∃ k, k < l.length ∧ (reach l).getD k false = true ∧ (l[k]!).op = 7 := by
    intro n
    induction n using Nat.strongRecOn with
    | ind n ih =>
      intro k hn hk hr
      by_cases h7 : (l[k]!).op = 7
      · exact ⟨k, hk, hr, h7⟩
      · cases hx : nxt l[k]! k with
        | nil => exact absurd (nxt_nil_iff.1 hx) h7
        | cons t ts =>
          have ht : t ∈ nxt l[k]! k := by rw [hx]; simp
          have htl := hf k hk hr t ht
          have hgt := nxt_gt ht
          exact ih (l.length - t) (by omega) t rfl htl (reach_next hk htl hr ht)
  exact key _ 0 rfl h0 (reach_zero h0)
/-- Code with something behind that is reached by nothing. -/
theorem getElem!_app {l m : List InstD} {k : Nat} (h : k < l.length) : (l ++ m)[k]! = l[k]! := by
  rw [getElem!_pos (l ++ m) k (by rw [List.length_append]; omega), getElem!_pos l k h, List.getElem_append_left h]
theorem reach_app {l m : List InstD} (hf : fineB l = true) : ∀ i, i < (l ++ m).length → ((reach (l ++ m)).getD i false = true ↔ (i < l.length ∧ (reach l).getD i false = true)) := by
  obtain ⟨hm, hf⟩ := fine_facts hf
  obtain ⟨h0, _, _⟩ := crsMay_facts hm
  intro i
  induction i using Nat.strongRecOn with
  | ind i ih =>
    intro hi
    rw [reach_get _ hi]
    constructor
    · rintro (rfl | ⟨k, hk, h1, h2⟩)
      · exact ⟨h0, reach_zero h0⟩
      · obtain ⟨h3, h4⟩ := (ih k hk (by omega)).1 h1
        rw [getElem!_app h3] at h2
        have h5 := hf k h3 h4 i h2
        exact ⟨h5, reach_next h3 h5 h4 h2⟩
    · rintro ⟨h1, h2⟩
      rcases (reach_get l h1).1 h2 with rfl | ⟨k, hk, h3, h4⟩
      · exact .inl rfl
      · refine .inr ⟨k, hk, (ih k hk (by omega)).2 ⟨by omega, h3⟩, ?_⟩
        rw [getElem!_app (by omega)]
        exact h4
theorem fine_app {l m : List InstD} (hf : fineB l = true) (hm : crsMay (l ++ m) = true) : fineB (l ++ m) = true := by
  unfold fineB
  rw [Bool.and_eq_true, List.all_eq_true]
  refine ⟨hm, fun k hk => ?_⟩
  rw [List.mem_range] at hk
  by_cases hr : (reach (l ++ m)).getD k false = true
  · obtain ⟨h1, h2⟩ := (reach_app hf k hk).1 hr
    rw [hr]
    simp only [Bool.not_true, Bool.false_or, List.all_eq_true]
    intro t ht
    rw [getElem!_app h1] at ht
    have := (fine_facts hf).2 k h1 h2 t ht
    rw [List.length_append]
    exact decide_eq_true (by omega)
  · have : (reach (l ++ m)).getD k false = false := by simpa using hr
    rw [this]
    simp
theorem crsMay_app {l m : List InstD} (hm : crsMay (l ++ m) = true) (h : 0 < l.length) : crsMay l = true := by
  unfold crsMay at *
  rw [Bool.and_eq_true, decide_eq_true_iff, List.all_eq_true] at *
  refine ⟨⟨h, ?_⟩, fun x hx => hm.2 x (List.mem_append_left _ hx)⟩
  have := hm.1.2
  rw [List.length_append] at this
  omega
/-! What ways cost. -/
theorem costFrom_length (l : List InstD) (calls : List Int) : ∀ m, (costFrom l calls m).length = 65
  | 0 => by simp [costFrom]
  | m + 1 => by rw [costFrom, cstep, List.length_set, costFrom_length l calls m]
theorem costFrom_other {l : List InstD} {calls : List Int} {m k : Nat} (h : k ≠ l.length - 1 - m) : (costFrom l calls (m + 1)).getD k 0 = (costFrom l calls m).getD k 0 := by
  rw [costFrom, cstep]
  simp only [List.getD_eq_getElem?_getD, List.getElem?_set]
  rw [if_neg (fun e => h e.symm)]
theorem costFrom_still {l : List InstD} {calls : List Int} {k : Nat} (hk : k < l.length) : ∀ m, l.length - k ≤ m → m ≤ l.length → (costFrom l calls m).getD k 0 = (costFrom l calls (l.length - k)).getD k 0
  | 0, h, _ => by omega
  | m + 1, h, h2 => by
    by_cases e : l.length - k = m + 1
    · rw [e]
    · rw [costFrom_other (by omega), costFrom_still hk m (by omega) (by omega)]
theorem behindC_congr {n : Nat} {C D : List Int} : ∀ (ts : List Nat) (b : Int), (∀ t ∈ ts, t < n → C.getD t 0 = D.getD t 0) → ts.foldl (fun b t => if t < n then max b (C.getD t 0) else b) b = ts.foldl (fun b t => if t < n then max b (D.getD t 0) else b) b
  | [], b, h => rfl
  | t :: ts, b, h => by
    rw [List.foldl_cons, List.foldl_cons]
    have : (if t < n then max b (C.getD t 0) else b) = (if t < n then max b (D.getD t 0) else b) := by
      split
      · rename_i ht; rw [h t (by simp) ht]
      · rfl
    rw [this]
    exact behindC_congr ts _ fun t' ht' => h t' (by simp [ht'])
/-- All costs. -/
def cost (l : List InstD) (calls : List Int) (k : Nat) : Int := (costFrom l calls l.length).getD k 0
theorem cost_eq {l : List InstD} (hl : l.length ≤ 64) (calls : List Int) {k : Nat} (hk : k < l.length) :
    cost l calls k = min (ownC l[k]! calls + behindC l.length (costFrom l calls l.length) (nxt l[k]! k)) 1000000 := by
  unfold cost
  rw [costFrom_still hk l.length (by omega) (by omega)]
  obtain ⟨m, hm⟩ : ∃ m, l.length - k = m + 1 := ⟨l.length - k - 1, by omega⟩
  have hk' : l.length - 1 - m = k := by omega
  rw [hm, costFrom, cstep, hk']
  simp only [List.getD_eq_getElem?_getD, List.getElem?_set, costFrom_length]
  rw [if_pos True.intro, if_pos (by omega)]
  simp only [Option.getD_some]
  congr 2
  unfold behindC
  refine behindC_congr _ _ fun t ht htl => ?_
  have hgt := nxt_gt ht
  rw [costFrom_still htl m (by omega) (by omega), costFrom_still htl l.length (by omega) (by omega)]
theorem behindC_bounds {n : Nat} {C : List Int} {M : Int} : ∀ (ts : List Nat) (b : Int), 0 ≤ b → b ≤ M → (∀ t ∈ ts, t < n → C.getD t 0 ≤ M) → 0 ≤ ts.foldl (fun b t => if t < n then max b (C.getD t 0) else b) b ∧ ts.foldl (fun b t => if t < n then max b (C.getD t 0) else b) b ≤ M
  | [], b, h1, h2, _ => ⟨h1, h2⟩
  | t :: ts, b, h1, h2, h3 => by
    rw [List.foldl_cons]
    refine behindC_bounds ts _ ?_ ?_ fun t' ht' => h3 t' (by simp [ht'])
    · split <;> omega
    · split
      · rename_i ht; have := h3 t (by simp) ht; omega
      · exact h2
/-- What all instructions from a place on cost together. -/
def costSum (l : List InstD) (calls : List Int) (k : Nat) : Int := ((l.drop k).map fun i => ownC i calls).sum
theorem ownC_pos (i : InstD) (calls : List Int) : 1 ≤ ownC i calls := by
  unfold ownC
  split
  · rename_i h; omega
  · omega
theorem costSum_step {l : List InstD} (calls : List Int) {k : Nat} (hk : k < l.length) : costSum l calls k = ownC l[k]! calls + costSum l calls (k + 1) := by
  unfold costSum
  rw [List.drop_eq_getElem_cons hk, List.map_cons, List.sum_cons, getElem!_pos l k hk]
theorem costSum_mono {l : List InstD} (calls : List Int) : ∀ (n k t : Nat), t - k = n → k ≤ t → t ≤ l.length → costSum l calls t ≤ costSum l calls k
  | 0, k, t, h, h1, h2 => by obtain rfl : k = t := by omega
                             exact Int.le_refl _
  | n + 1, k, t, h, h1, h2 => by
    rw [costSum_step calls (by omega : k < l.length)]
    have := costSum_mono calls n (k + 1) t (by omega) (by omega) h2
    have := ownC_pos l[k]! calls
    omega
theorem costSum_nonneg (l : List InstD) (calls : List Int) (k : Nat) (h : k ≤ l.length) : 0 ≤ costSum l calls k := by
  have := costSum_mono (l := l) calls (l.length - k) k l.length rfl h (Nat.le_refl _)
  simpa [costSum] using this
theorem cost_bounds {l : List InstD} (hl : l.length ≤ 64) (calls : List Int) : ∀ (n k : Nat), l.length - k = n → k < l.length → 1 ≤ cost l calls k ∧ cost l calls k ≤ costSum l calls k ∧ cost l calls k ≤ 1000000 := by
  intro n
  induction n using Nat.strongRecOn with
  | ind n ih =>
    intro k hn hk
    have hb := behindC_bounds (n := l.length) (C := costFrom l calls l.length) (M := costSum l calls (k + 1)) (nxt l[k]! k) 0 (Int.le_refl _) (costSum_nonneg l calls _ (by omega)) (fun t ht htl => by
      have hgt := nxt_gt ht
      have h1 := (ih (l.length - t) (by omega) t rfl htl).2.1
      have h2 := costSum_mono (l := l) calls (t - (k + 1)) (k + 1) t rfl (by omega) (by omega)
      exact Int.le_trans h1 h2)
    have h1 := ownC_pos l[k]! calls
    rw [cost_eq hl calls hk, costSum_step calls hk]
    unfold behindC
    omega
theorem behindC_le {n : Nat} {C D : List Int} {y : Int} (hy : 0 ≤ y) : ∀ (ts : List Nat) (b d : Int), b ≤ d + y → (∀ t ∈ ts, t < n → C.getD t 0 ≤ D.getD t 0 + y) → ts.foldl (fun b t => if t < n then max b (C.getD t 0) else b) b ≤ ts.foldl (fun b t => if t < n then max b (D.getD t 0) else b) d + y
  | [], b, d, h, _ => h
  | t :: ts, b, d, h, h3 => by
    rw [List.foldl_cons, List.foldl_cons]
    refine behindC_le hy ts _ _ ?_ fun t' ht' => h3 t' (by simp [ht'])
    split
    · rename_i ht; have := h3 t (by simp) ht; omega
    · exact h
/-- Costs that are greater, each by no more than 'more'. -/
theorem cost_more {l : List InstD} (hl : l.length ≤ 64) {c d : List Int} {more : Int} (hm : 0 ≤ more) (h1 : ∀ i : InstD, ownC i c ≤ ownC i d) (h2 : ∀ i : InstD, ownC i d ≤ ownC i c + more) : ∀ (n k : Nat), l.length - k = n → k < l.length →
    cost l c k ≤ cost l d k ∧ cost l d k ≤ cost l c k + ((l.length - k : Nat) : Int) * more := by
  intro n
  induction n using Nat.strongRecOn with
  | ind n ih =>
    intro k hn hk
    have b1 := behindC_le (n := l.length) (C := costFrom l c l.length) (D := costFrom l d l.length) (y := 0) (Int.le_refl _) (nxt l[k]! k) 0 0 (by omega) (fun t ht htl => by
      have := (ih (l.length - t) (by have := nxt_gt ht; omega) t rfl htl).1
      unfold cost at this
      omega)
    have b2 := behindC_le (n := l.length) (C := costFrom l d l.length) (D := costFrom l c l.length) (y := ((l.length - (k + 1) : Nat) : Int) * more) (Int.mul_nonneg (by omega) hm) (nxt l[k]! k) 0 0 (by have := Int.mul_nonneg (show (0 : Int) ≤ ((l.length - (k + 1) : Nat) : Int) by omega) hm; omega) (fun t ht htl => by
      have hgt := nxt_gt ht
      have h3 := (ih (l.length - t) (by omega) t rfl htl).2
      have h4 : ((l.length - t : Nat) : Int) * more ≤ ((l.length - (k + 1) : Nat) : Int) * more := Int.mul_le_mul_of_nonneg_right (by omega) hm
      unfold cost at h3
      omega)
    have e : ((l.length - k : Nat) : Int) * more = ((l.length - (k + 1) : Nat) : Int) * more + more := by
      rw [show ((l.length - k : Nat) : Int) = ((l.length - (k + 1) : Nat) : Int) + 1 by omega, Int.add_mul, Int.one_mul]
    have o1 := h1 l[k]!
    have o2 := h2 l[k]!
    rw [cost_eq hl c hk, cost_eq hl d hk, e]
    unfold behindC
    have b3 := Int.mul_nonneg (show (0 : Int) ≤ ((l.length - (k + 1) : Nat) : Int) by omega) hm
    generalize ((l.length - (k + 1) : Nat) : Int) * more = z at *
    omega
/-- Of code with something behind that nothing reaches the ways cost the same. -/
theorem cost_app {l m : List InstD} (hf : fineB l = true) (hm : crsMay (l ++ m) = true) (calls : List Int) : ∀ (n k : Nat), l.length - k = n → k < l.length → (reach l).getD k false = true → cost (l ++ m) calls k = cost l calls k := by
  obtain ⟨hml, hf⟩ := fine_facts hf
  have hl := (crsMay_facts hml).2.1
  have hlm := (crsMay_facts hm).2.1
  intro n
  induction n using Nat.strongRecOn with
  | ind n ih =>
    intro k hn hk hr
    rw [cost_eq hl calls hk, cost_eq hlm calls (by rw [List.length_append]; omega), getElem!_app hk]
    congr 2
    unfold behindC
    have key : ∀ (ts : List Nat) (b : Int), (∀ t ∈ ts, t < l.length ∧ cost (l ++ m) calls t = cost l calls t) →
        ts.foldl (fun b t => if t < (l ++ m).length then max b ((costFrom (l ++ m) calls (l ++ m).length).getD t 0) else b) b = ts.foldl (fun b t => if t < l.length then max b ((costFrom l calls l.length).getD t 0) else b) b := by
      intro ts
      induction ts with
      | nil => intro b h; rfl
      | cons t ts ih2 =>
        intro b h
        obtain ⟨h1, h2⟩ := h t (by simp)
        unfold cost at h2
        rw [List.foldl_cons, List.foldl_cons, if_pos h1, if_pos (by rw [List.length_append]; omega), h2]
        exact ih2 _ fun t' ht' => h t' (by simp [ht'])
    refine key _ _ fun t ht => ?_
    have htl := hf k hk hr t ht
    have hgt := nxt_gt ht
    exact ⟨htl, ih (l.length - t) (by omega) t rfl htl (reach_next hk htl hr ht)⟩
end Go.Proofs.YtebdnobgdimdoaaGreat
set_option linter.unusedVariables false
set_option linter.unusedSimpArgs false
namespace Go.Proofs.YtebdnobgdimdoaaGreat
open Go.RowKit
/-- The block g holds just these elements. -/
structure Row {α : Type} (enc : α → Value) (t : TypeId) (w : World) (g : Nat) (L : List α) : Prop where mk :: (out : w.heap[g]? = some (.cells (L.map enc).toArray t (0, 0)))
section
variable {α : Type} {enc : α → Value} {t : TypeId} {w w' : World} {g : Nat} {L : List α}
theorem Row.lt (h : Row enc t w g L) : g < w.heap.size := (Array.getElem?_eq_some_iff.1 h.out).1
theorem Row.mono (h : Row enc t w g L) (hb : Bel w w') : Row enc t w' g L := ⟨by rw [hb.out.block g h.lt]; exact h.out⟩
theorem Row.cell (h : Row enc t w g L) {i : Nat} (hi : i < L.length) : w.cell? ⟨g, i, none⟩ = some (enc L[i]) := by
  simp [World.cell?, h.out, hi]
theorem Row.frozen (h : Row enc t w g L) (i : Nat) : w.frozen? ⟨g, i, none⟩ = false := by
  simp [World.frozen?, h.out]
theorem Row.set (h : Row enc t w g L) {i : Nat} (hi : i < L.length) (x : α) : Row enc t (w.setCell ⟨g, i, none⟩ (enc x)) g (L.set i x) := by
  refine ⟨?_⟩
  simp only [World.setCell, Array.getElem?_modify, ↓reduceIte, h.out, Option.map_some]
  simp [List.map_set]
theorem Row.drew (h : Row enc t w g L) : Row enc t w.drew g L := ⟨h.out⟩
theorem Row.alloc (h : Row enc t w g L) (o : Obj) : Row enc t (w.alloc o) g L := h.mono ((Bel.refl w).alloc o)
theorem Row.new (w : World) (t : TypeId) (L : List α) : Row enc t (w.alloc (.cells (L.map enc).toArray t)) w.heap.size L := ⟨by show (w.heap.push _)[w.heap.size]? = _; simp⟩
end
/-- A slice of Booleans. -/
def BoolR (w : World) (cs : List Value) (x : Bool) : Prop := cs = [.bool x]
theorem BoolR.mono : Mono BoolR := fun w w' cs x hb h => h
theorem Row.sl_bool {t : TypeId} {w : World} {g : Nat} {L : List Bool} (h : Row Value.bool t w g L) (hm : L.length ≤ maxLen) : Sl BoolR 1 w (some ⟨g, 0, none⟩) L.length L :=
  ⟨Nat.le_refl _, hm, fun i hi => ⟨g, 0, [.bool L[i]], rfl, rfl, rfl, fun j v hv => by
    cases j with
    | zero => simp at hv; subst hv; simpa using h.cell hi
    | succ j => simp at hv⟩⟩
theorem Sl.bool_cell {w : World} {A : Option Addr} {cap : Nat} {l : List Bool} (h : Sl BoolR 1 w A cap l) (hp : 0 < l.length) :
    ∃ b off, A = some ⟨b, off, none⟩ ∧ ∀ i (hi : i < l.length), w.cell? ⟨b, off + i, none⟩ = some (.bool (l.getD i false)) := by
  obtain ⟨b, off, rfl⟩ := h.addr hp
  refine ⟨b, off, rfl, fun i hi => ?_⟩
  obtain ⟨b', off', cs, e, hl, hw, hc⟩ := h.get i hi
  simp at e; obtain ⟨rfl, rfl⟩ := e
  have := hc 0 _ (by rw [hw]; rfl)
  simp at this
  rw [List.getD_eq_getElem?_getD, List.getElem?_eq_getElem hi]
  exact this
end Go.Proofs.YtebdnobgdimdoaaGreat
set_option linter.unusedVariables false
set_option linter.unusedSimpArgs false
namespace Go.Proofs.YtebdnobgdimdoaaGreat
open Go.RowKit
theorem foldl_take_succ {α β : Type} (f : β → α → β) (z : β) (ts : List α) {j : Nat} (hj : j < ts.length) : (ts.take (j + 1)).foldl f z = f ((ts.take j).foldl f z) ts[j] := by
  rw [List.take_succ_eq_append_getElem hj, List.foldl_append]
  rfl
theorem ints_getD (ts : List Nat) (j : Nat) : (ints ts).getD j 0 = ((ts.getD j 0 : Nat) : Int) := by
  simp only [ints, List.getD_eq_getElem?_getD, List.getElem?_map]
  cases ts[j]? <;> simp
/-- Numbers that lie elsewhere than in block g. -/
def IntsAt (A : Option Addr) (g : Nat) (ts : List Nat) (w : World) : Prop := ∀ j (hj : j < ts.length), ∃ b o, A = some ⟨b, o, none⟩ ∧ b ≠ g ∧ w.cell? ⟨b, o + j, none⟩ = some (.int .i64 (ts[j] : Nat))
theorem IntsAt.set {A : Option Addr} {g : Nat} {ts : List Nat} {w : World} (h : IntsAt A g ts w) (i : Nat) (v : Value) : IntsAt A g ts (w.setCell ⟨g, i, none⟩ v) := by
  intro j hj
  obtain ⟨b, o, e, hb, hc⟩ := h j hj
  refine ⟨b, o, e, hb, ?_⟩
  rw [World.cell?_setCell_other (w := w) (a := ⟨g, i, none⟩) (b := ⟨b, o + j, none⟩) (v := v) (h := fun h => hb (by cases h; rfl))]
  exact hc
theorem IntsAt.of {A : Option Addr} {g c s : Nat} {ts : List Nat} {w : World} (h : Sl (IntR .i64) 1 w A c (ints ts)) (hf : ∀ x, A = some x → s ≤ x.block) (hg : g < s) : IntsAt A g ts w := by
  intro j hj
  obtain ⟨b, o, rfl, hc⟩ := h.int_cell (by simp [ints]; omega)
  have := (hc j (by simpa [ints] using hj)).1
  rw [ints_getD] at this
  refine ⟨b, o, rfl, by have := hf _ rfl; simp at this; omega, ?_⟩
  rw [this, List.getD_eq_getElem?_getD, List.getElem?_eq_getElem hj]
  rfl
theorem reach_step_t {l : List InstD} {k n : Nat} {ts : List Nat} {R : List Bool} (hn : l.length = n) (hR : reachUpto l k = R) (hr : R.getD k false = true) (ht : nxt l[k]! k = ts) : reachUpto l (k + 1) = ts.foldl (mark n) R := by
  rw [reachUpto, hR, rstep, if_pos hr, ht, hn]
theorem reach_step_f {l : List InstD} {k : Nat} {R : List Bool} (hR : reachUpto l k = R) (hr : R.getD k false = false) : reachUpto l (k + 1) = R := by
  rw [reachUpto, hR, rstep, if_neg (by rw [hr]; decide)]
theorem row_slice {t : TypeId} {w : World} {g n : Nat} {L : List Bool} (h : Row Value.bool t w g L) (hl : L.length = n) (hn : n ≤ 64) : Sl BoolR 1 w (some ⟨g, 0, none⟩) n L := by
  have := h.sl_bool (by show L.length ≤ maxLen; simp [maxLen]; omega)
  rwa [hl] at this
theorem Row.bool_at {t : TypeId} {w : World} {g k : Nat} {R : List Bool} (h : Row Value.bool t w g R) (hk : k < R.length) : w.cell? ⟨g, k, none⟩ = some (.bool (R.getD k false)) := by
  rw [h.cell hk, List.getD_eq_getElem?_getD, List.getElem?_eq_getElem hk]
  rfl
theorem made_row (n : Nat) (w : World) : (Instr.makeSlice 62 (.int .i64 n) (.int .i64 n)).run Tryz.prog w = .ok (.slice (some ⟨w.heap.size, 0, none⟩) n n) (w.alloc (.cells ((List.replicate n false).map Value.bool).toArray 4)) ∨ 64 < n := by
  by_cases hn : 64 < n
  · exact .inr hn
  · have h : (Tryz.prog.info? 4).map (fun i => (i.zero, i.size, i.bytes)) = some (some (.bool false), 1, 1) := by kernel_rfl
    obtain ⟨i, hi, hz⟩ := Option.map_eq_some_iff.1 h
    simp only [Prod.mk.injEq] at hz
    obtain ⟨hz0, hz1, hz2⟩ := hz
    have := run_make (P := Tryz.prog) w 62 4 i (.bool false) Tryz.underlying62 hi hz0 .i64 .i64 (n : Int) (n : Int) (by omega) (Int.le_refl _) (by rw [hz2]; omega) (by omega)
    rw [this, hz1, Int.toNat_natCast, Nat.mul_one, show (Value.bool false).cells = #[Value.bool false] from rfl]
    have e : madeCells #[Value.bool false] n = ((List.replicate n false).map Value.bool).toArray := by
      apply Array.toList_inj.1
      rw [toList_madeCells_one]
      simp
    rw [e]
    exact .inl rfl
/-- What 'Reach' tells. -/
def reachR (l : List InstD) : List Bool := if crsMay l = true then reach l else []
end Go.Proofs.YtebdnobgdimdoaaGreat
set_option linter.unusedVariables false
set_option linter.unusedSimpArgs false
namespace Go.Proofs.YtebdnobgdimdoaaGreat
open Go.RowKit Go.Shelf Go.Lib
theorem Bel.un {w w1 : World} {o : Obj} (h : Bel (w.alloc o) w1) : Bel w w1 := ((Bel.refl w).alloc o).trans h
theorem ints_any (ts : List Nat) (n : Nat) : (ints ts).any (fun x => decide ((n : Int) ≤ x)) = ts.any fun t => decide (n ≤ t) := by
  unfold ints
  rw [List.any_map]
  congr 1
  funext t
  simp
def goodB (l : List InstD) (k : Nat) : Bool := !(reach l).getD k false || (nxt l[k]! k).all fun t => decide (t < l.length)
theorem fine_true {l : List InstD} (hm : crsMay l = true) (h : ∀ k, k < l.length → goodB l k = true) : fineB l = true := by
  unfold fineB
  rw [hm, Bool.true_and, List.all_eq_true]
  intro k hk
  exact h k (List.mem_range.1 hk)
theorem fine_false {l : List InstD} {k : Nat} (hk : k < l.length) (h : goodB l k = false) : fineB l = false := by
  unfold fineB
  have : (List.range l.length).all (fun k => !(reach l).getD k false || (nxt l[k]! k).all fun t => decide (t < l.length)) = false := by
    rw [Bool.eq_false_iff]
    intro hh
    rw [List.all_eq_true] at hh
    have := hh k (List.mem_range.2 hk)
    unfold goodB at h
    rw [h] at this
    cases this
  rw [this, Bool.and_false]
theorem good_of {l : List InstD} {k n : Nat} {ts : List Nat} {r : Bool} (hn : l.length = n) (hr : (reach l).getD k false = true) (ht : nxt l[k]! k = ts) (ha : ts.any (fun t => decide (n ≤ t)) = r) : goodB l k = !r := by
  unfold goodB
  rw [hr, ht, hn, ← ha]
  rw [Bool.eq_iff_iff]
  simp
theorem good_not {l : List InstD} {k : Nat} (hr : (reach l).getD k false = false) : goodB l k = true := by
  unfold goodB; rw [hr]; rfl
end Go.Proofs.YtebdnobgdimdoaaGreat
