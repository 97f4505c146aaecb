/- inst.May, Put, Get as callers use them. -/
import Derived.Test.YtcllifcafgiopaaInstPure
import Derived.Test.YtcllifcafgiopaaEqBytes
import Derived.Test.YtcllifcafgiopaaInstEq
set_option linter.unusedVariables false
set_option linter.unusedSimpArgs false
namespace Go.Proofs.Ytcllifcafgiopaa
open Go.RowKit

/-- A row of numbers of the call's own is a slice that reads as these. -/
theorem sl_of_own {k : IntKind} {w : World} {base : Nat} {e : TypeId} {v : Value} {l : List Int} (h : w.ownsRow base e 1 v l.length (l.map (Value.int k))) (hw : ∀ x ∈ l, (Lit.int k x).wf = true) :
    ∃ A cap, v = .slice A l.length cap ∧ Sl (IntR k) 1 w A cap l := by
  obtain ⟨h1, h2⟩ := h
  rcases h2 with ⟨rfl, h2⟩ | ⟨g, cap, cur, rfl, hb, hh, hc, hm, hs, ht⟩
  · have : l = [] := List.eq_nil_of_length_eq_zero h2
    subst this
    exact ⟨none, 0, rfl, Sl.nil _ _ _⟩
  · refine ⟨some ⟨g, 0, none⟩, cap, rfl, ⟨hc, hm, fun i hi => ⟨g, 0, [.int k l[i]], rfl, rfl, ⟨rfl, hw _ (List.getElem_mem hi)⟩, fun j v hv => ?_⟩⟩⟩
    cases j with
    | zero =>
      simp at hv; subst hv
      have hg : (l.map (Value.int k))[i]? = some (.int k l[i]) := by simp [List.getElem?_eq_getElem hi]
      rw [← ht, List.getElem?_take, if_pos (by omega)] at hg
      simp [World.cell?, hh]
      simpa using hg
    | succ j => simp at hv
theorem wf_u8 {x : Int} (h : 0 ≤ x ∧ x < 256) : (Lit.int .u8 x).wf = true := by simp [Lit.wf, IntKind.min, IntKind.max, IntKind.bits, IntKind.signed]; omega
theorem u8_of_wf {x : Int} (h : (Lit.int .u8 x).wf = true) : 0 ≤ x ∧ x < 256 := by simp [Lit.wf, IntKind.min, IntKind.max, IntKind.bits, IntKind.signed] at h; omega
theorem Sl.u8 {w : World} {A : Option Addr} {cap : Nat} {l : List Int} (h : Sl (IntR .u8) 1 w A cap l) : ∀ x ∈ l, 0 ≤ x ∧ x < 256 := by
  intro x hx
  obtain ⟨i, hi, rfl⟩ := List.mem_iff_getElem.1 hx
  obtain ⟨_, _, _, _, _, ⟨_, hw⟩, _⟩ := h.get i hi
  exact u8_of_wf hw
/-- Bytes, and an error's number, that may be read. -/
def BytesOut (r : List Int × Int) (w : World) (e : Ending) (w' : World) : Prop :=
  ∃ A cap, e = .returned (.tuple #[.slice A r.1.length cap, .int .i64 r.2]) ∧ Sl (IntR .u8) 1 w' A cap r.1 ∧ Bel w w'
theorem put_any (op fn dst src : Int) (reg : Bool) (off imm : Int) (w : World) (hi : U32 imm) : Calls Try.prog 36 #[.agg #[.int .i64 op, .int .i64 fn, .int .i64 dst, .int .i64 src, .bool reg, .int .i64 off, .int .u32 imm]] w (BytesOut (putR (⟨op, fn, dst, src, reg, off, imm⟩ : InstD)) w) := by
  by_cases hm : mayB op fn dst src reg off imm = true
  · have hr : putR (⟨op, fn, dst, src, reg, off, imm⟩ : InstD) = (((⟨op, fn, dst, src, reg, off, imm⟩ : InstD)).put, 0) := if_pos hm
    rw [hr]
    have key : ∀ e w', PutOk (putL op fn dst src reg off imm) w e w' → BytesOut (((⟨op, fn, dst, src, reg, off, imm⟩ : InstD)).put, 0) w e w' := by
      rintro e w' ⟨v, rfl, hown, hb⟩
      obtain ⟨A, cap, rfl, hs⟩ := sl_of_own hown (fun x hx => wf_u8 (put_range (i := (⟨op, fn, dst, src, reg, off, imm⟩ : InstD)) hm hi x hx))
      exact ⟨A, cap, rfl, hs, hb⟩
    cases reg
    · exact (put_false op fn dst src off imm w hm hi).mono key
    · exact (put_true op fn dst src off imm w hm hi).mono key
  · have hm' : mayB op fn dst src reg off imm = false := by simpa using hm
    have hr : putR (⟨op, fn, dst, src, reg, off, imm⟩ : InstD) = ([], 1) := if_neg hm
    rw [hr]
    exact (put_no op fn dst src reg off imm w hm').mono (by rintro e w' ⟨rfl, hb⟩; exact ⟨none, 0, rfl, Sl.nil _ _ _, hb⟩)
theorem get_any (A : Option Addr) (cap : Nat) (l : List Int) (w : World) (h : Sl (IntR .u8) 1 w A cap l) :
    Calls Try.prog 37 #[.slice A l.length cap] w fun e w' => e = .returned (.tuple #[(getR l).1.v, .int .i64 (getR l).2]) ∧ Bel w w' := by
  have hle := h.le
  have hbig := h.big
  simp only [maxLen] at hbig
  by_cases hl : l.length = 8
  · obtain ⟨b, off, rfl, hc⟩ := h.int_cell (by omega)
    rw [hl]
    exact get_long b off cap l w (by omega) (by omega) (Lib.hid hl) (Lib.hid fun i hi => ⟨(hc i (by omega)).1, u8_of_wf (hc i (by omega)).2⟩)
  · have : getR l = (InstD.zero, 7) := by unfold getR; rw [if_neg hl]
    rw [this]
    exact get_short A l.length cap w hl (by omega)
/-- The same, the instruction's fields written out. -/
theorem get_at (A : Option Addr) (n cap : Nat) (l : List Int) (w : World) (h : Sl (IntR .u8) 1 w A cap l) (hn : Hid (l.length = n)) (i : InstD) (e : Int) (hr : Hid (getR l = (i, e))) :
    Calls Try.prog 37 #[.slice A n cap] w fun e' w' => e' = .returned (.tuple #[.agg #[.int .i64 i.op, .int .i64 i.fn, .int .i64 i.dst, .int .i64 i.src, .bool i.reg, .int .i64 i.off, .int .u32 i.imm], .int .i64 e]) ∧ Bel w w' := by
  have := get_any A cap l w h
  rw [hn.out, hr.out] at this
  exact this
theorem bytes_at (A B : Option Addr) (n q ca cb : Nat) (l m : List Int) (w : World) (h1 : Sl (IntR .u8) 1 w A ca l) (h2 : Sl (IntR .u8) 1 w B cb m) (hn : Hid (l.length = n)) (hq : Hid (m.length = q)) (b : Bool) (hb : Hid (decide (l = m) = b)) :
    Calls Try.prog 14 #[.slice A n ca, .slice B q cb] w fun e w' => e = .returned (.bool b) ∧ Bel w w' := by
  have := bytes_any A B ca cb l m w h1 h2
  rw [hn.out, hq.out, hb.out] at this
  exact this.mono fun e w' ⟨h, z, hz⟩ => ⟨h, Drw.bel ⟨⟨z, hz⟩⟩⟩
/-- The same where nothing but reads is allowed. -/
theorem bytes_quiet (A B : Option Addr) (n q ca cb : Nat) (l m : List Int) (w : World) (k : Nat) (h1 : Sl (IntR .u8) 1 w A ca l) (h2 : Sl (IntR .u8) 1 w B cb m) (hn : Hid (l.length = n)) (hq : Hid (m.length = q)) (b : Bool) (hb : Hid (decide (l = m) = b)) :
    Calls Try.prog 14 #[.slice A n ca, .slice B q cb] (w.drewN k) fun e w'' => e = .returned (.bool b) ∧ ∃ z, w'' = w.drewN z := by
  have := bytes_any A B ca cb l m (w.drewN k) (h1.mono (IntR.mono _) ((Bel.refl w).drewN k)) (h2.mono (IntR.mono _) ((Bel.refl w).drewN k))
  rw [hn.out, hq.out, hb.out] at this
  exact Calls.quiet_of this
theorem put_at (op fn dst src : Int) (reg : Bool) (off imm : Int) (w : World) (hi : U32 imm) (l : List Int) (e : Int) (hr : Hid (putR (⟨op, fn, dst, src, reg, off, imm⟩ : InstD) = (l, e))) : Calls Try.prog 36 #[.agg #[.int .i64 op, .int .i64 fn, .int .i64 dst, .int .i64 src, .bool reg, .int .i64 off, .int .u32 imm]] w (BytesOut (l, e) w) := by
  have := put_any op fn dst src reg off imm w hi
  rw [hr.out] at this
  exact this
/-- A block of numbers that was just made, as a slice. -/
theorem sl_lit {k : IntKind} (w : World) (t : TypeId) (l : List Int) (hw : ∀ x ∈ l, (Lit.int k x).wf = true) (hm : l.length ≤ maxLen) : Sl (IntR k) 1 (w.alloc (.cells (l.map (Value.int k)).toArray t)) (some ⟨w.heap.size, 0, none⟩) l.length l :=
  ⟨Nat.le_refl _, hm, fun i hi => ⟨w.heap.size, 0, [.int k l[i]], rfl, rfl, ⟨rfl, hw _ (List.getElem_mem hi)⟩, fun j v hv => by
    cases j with
    | zero => simp at hv; subst hv; simp [World.cell?_alloc_new, List.getElem?_eq_getElem hi]
    | succ j => simp at hv⟩⟩
theorem sl_lit_at {k : IntKind} (w : World) (g : Nat) (hg : w.heap.size = g) (t : TypeId) (l : List Int) (hw : ∀ x ∈ l, (Lit.int k x).wf = true) (hm : l.length ≤ maxLen) : Sl (IntR k) 1 (w.alloc (.cells (l.map (Value.int k)).toArray t)) (some ⟨g, 0, none⟩) l.length l := by
  subst hg; exact sl_lit w t l hw hm
end Go.Proofs.Ytcllifcafgiopaa
