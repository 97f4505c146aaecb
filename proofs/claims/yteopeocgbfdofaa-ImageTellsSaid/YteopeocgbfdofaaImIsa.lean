/- Words, as chapter 14 calls for them. -/
import Derived.Test.YteopeocgbfdofaaIsa4
import Derived.Test.YteopeocgbfdofaaWrap
set_option linter.unusedVariables false
set_option linter.unusedSimpArgs false
namespace Go.Proofs.Yteopeocgbfdofaa
open Go.RowKit

theorem u64_of_wf {x : Int} (h : (Lit.int .u64 x).wf = true) : 0 ≤ x ∧ x < 18446744073709551616 := by simp [Lit.wf, IntKind.min, IntKind.max, IntKind.bits, IntKind.signed] at h; omega
theorem wrap_u64 {x : Int} (h1 : 0 ≤ x) (h2 : x < 18446744073709551616) : IntKind.u64.wrap x = x := by simp [IntKind.wrap, IntKind.bits, IntKind.signed]; omega
theorem i64_of_wf' {x : Int} (h : (Lit.int .i64 x).wf = true) : -9223372036854775808 ≤ x ∧ x < 9223372036854775808 := by simp [Lit.wf, IntKind.min, IntKind.max, IntKind.bits, IntKind.signed] at h; omega
theorem inst_arr {C : Array Value} {op fn dst src : Int} {reg : Bool} {off imm : Int} (h : C.toList = InstD.cells ⟨op, fn, dst, src, reg, off, imm⟩) : C = #[.int .i64 op, .int .i64 fn, .int .i64 dst, .int .i64 src, .bool reg, .int .i64 off, .int .u32 imm] := by
  cases C; simp only [InstD.cells] at h; simp [h]
theorem code_at (op fn dst src : Int) (reg : Bool) (off imm : Int) (c : Nat) (w : World) (hc : Hid (codeN op fn reg = c)) (hm : Hid (mayB op fn dst src reg off imm = true)) :
    Calls Try.prog 42 #[.agg #[.int .i64 op, .int .i64 fn, .int .i64 dst, .int .i64 src, .bool reg, .int .i64 off, .int .u32 imm]] w fun e w' => e = .returned (.tuple #[.int .i64 c, .bool true]) ∧ Bel w w' := by
  have := code_ok op fn dst src reg off imm w hm.out
  rw [hc.out] at this
  exact this
theorem codeno_at (op fn dst src : Int) (reg : Bool) (off imm : Int) (w : World) (hm : Hid (mayB op fn dst src reg off imm = false)) :
    Calls Try.prog 42 #[.agg #[.int .i64 op, .int .i64 fn, .int .i64 dst, .int .i64 src, .bool reg, .int .i64 off, .int .u32 imm]] w fun e w' => e = .returned (.tuple #[.int .i64 0, .bool false]) ∧ Bel w w' := code_no op fn dst src reg off imm w hm.out
theorem may_at (op fn dst src : Int) (reg : Bool) (off imm : Int) (b : Bool) (w : World) (h : Hid (mayB op fn dst src reg off imm = b)) : Calls Try.prog 62 #[.agg #[.int .i64 op, .int .i64 fn, .int .i64 dst, .int .i64 src, .bool reg, .int .i64 off, .int .u32 imm]] w fun e w' => e = .returned (.bool b) ∧ Bel w w' := by
  have := may_any op fn dst src reg off imm w
  rw [h.out] at this
  exact this
theorem put_at (op fn dst src : Int) (reg : Bool) (off imm too : Int) (v e : Int) (w : World) (hi : U32 imm) (h : Hid (wput op fn dst src reg off imm too = (v, e))) :
    Calls Try.prog 24 #[.agg #[.int .i64 op, .int .i64 fn, .int .i64 dst, .int .i64 src, .bool reg, .int .i64 off, .int .u32 imm], .int .i64 too] w fun e' w' => e' = .returned (.tuple #[.int .u64 v, .int .i64 e]) ∧ Bel w w' := by
  have := wput_any op fn dst src reg off imm too w hi
  rw [h.out] at this
  exact this
theorem get_at (x : Int) (op fn dst src : Int) (reg : Bool) (off imm too e : Int) (w : World) (hx : Hid (0 ≤ x ∧ x < 18446744073709551616)) (h : Hid (wget x = (⟨op, fn, dst, src, reg, off, imm⟩, too, e))) :
    Calls Try.prog 11 #[.int .u64 x] w fun e' w' => e' = .returned (.tuple #[.agg #[.int .i64 op, .int .i64 fn, .int .i64 dst, .int .i64 src, .bool reg, .int .i64 off, .int .u32 imm], .int .i64 too, .int .i64 e]) ∧ Bel w w' := by
  have := wget_any x w hx.out.1 hx.out.2
  rw [h.out] at this
  exact this
theorem may_ranges {op fn dst src : Int} {reg : Bool} {off imm : Int} (h : mayB op fn dst src reg off imm = true) : (0 ≤ dst ∧ dst < 8) ∧ (0 ≤ src ∧ src < 8) ∧ (op ≠ 1 → off = 0) := by
  obtain ⟨_, b, c, _, e, _⟩ := of_decide_eq_true h
  refine ⟨b, c, fun h1 => ?_⟩
  rw [if_neg h1] at e
  omega
/-- What is known of a word that was put. -/
theorem wput_ok2 {op fn dst src : Int} {reg : Bool} {off imm too v e : Int} (h : wput op fn dst src reg off imm too = (v, e)) :
    (e = 0 ∧ mayB op fn dst src reg off imm = true ∧ 0 ≤ too ∧ too ≤ 1023 ∧ (0 < too → op = 1 ∨ op = 6) ∧ v = wordI (codeN op fn reg) dst src too (if op = 6 then 0 else imm)) ∨ (e = 1 ∧ v = 0 ∧ ¬ (mayB op fn dst src reg off imm = true ∧ 0 ≤ too ∧ too ≤ 1023 ∧ (0 < too → op = 1 ∨ op = 6))) := by
  unfold wput at h
  split at h
  · rename_i hh
    obtain ⟨rfl, rfl⟩ := Prod.mk.inj h
    exact .inl ⟨rfl, hh.1, hh.2.1, hh.2.2.1, hh.2.2.2, rfl⟩
  · rename_i hh
    obtain ⟨rfl, rfl⟩ := Prod.mk.inj h
    exact .inr ⟨rfl, rfl, hh⟩
theorem word_range {c : Nat} {dst src too m : Int} (c1 : c < 40) (d : 0 ≤ dst ∧ dst < 8) (s : 0 ≤ src ∧ src < 8) (t0 : 0 ≤ too) (t1 : too ≤ 1023) (m0 : 0 ≤ m) (m1 : m < 4294967296) :
    0 ≤ wordI c dst src too m ∧ wordI c dst src too m < 11258999068426240 := by unfold wordI; omega
theorem word_parts {c : Nat} {dst src too m : Int} (c1 : c < 40) (d : 0 ≤ dst ∧ dst < 8) (s : 0 ≤ src ∧ src < 8) (t0 : 0 ≤ too) (t1 : too ≤ 1023) (m0 : 0 ≤ m) (m1 : m < 4294967296) :
    wordI c dst src too m / 281474976710656 = c ∧ wordI c dst src too m / 35184372088832 % 8 = dst ∧ wordI c dst src too m / 4398046511104 % 8 = src ∧ wordI c dst src too m / 4294967296 % 1024 = too ∧ wordI c dst src too m % 4294967296 = m := by
  unfold wordI
  refine ⟨by omega, by omega, by omega, by omega, by omega⟩
/-- What is got may be, and is put as the same word. -/
theorem wget_two (x : Int) : (wget x = (⟨0, 0, 0, 0, false, 0, 0⟩, 0, 7) ∧ ¬ wgetOk x) ∨ (wget x = (wgetI x, x / 4294967296 % 1024, 0) ∧ wgetOk x) := by
  by_cases h : wgetOk x
  · exact .inr ⟨if_pos h, h⟩
  · exact .inl ⟨if_neg h, h⟩
/-- A jump's distance counts for nothing but whether there may be one. -/
theorem may_off {op fn dst src : Int} {reg : Bool} {off imm : Int} (h : mayB op fn dst src reg off imm = true) : mayB op fn dst src reg 0 imm = true := by
  obtain ⟨a, b, c, d, e, f, g, i⟩ := of_decide_eq_true h
  exact decide_eq_true ⟨a, b, c, d, ⟨by omega, by split <;> omega⟩, f, g, i⟩
theorem may_imm6 {fn dst src : Int} {reg : Bool} {off imm : Int} (h : mayB 6 fn dst src reg off imm = true) : mayB 6 fn dst src reg off 0 = true := by
  obtain ⟨a, b, c, d, e, f, g, i⟩ := of_decide_eq_true h
  refine decide_eq_true ⟨a, b, c, d, e, f, .inr rfl, ?_⟩
  split
  · rfl
  · rename_i hr; rw [if_neg hr] at i; exact i
/-- What was put is got. -/
theorem wget_wput {op fn dst src : Int} {reg : Bool} {off imm too v : Int} (hi : U32 imm) (h : wput op fn dst src reg off imm too = (v, 0)) :
    wget v = (⟨op, fn, dst, src, reg, 0, if op = 6 then 0 else imm⟩, too, 0) ∧ 0 ≤ v ∧ v < 11258999068426240 := by
  rcases wput_ok2 h with ⟨-, hm, t0, t1, hg, hv⟩ | ⟨h1, _⟩
  · obtain ⟨d, s, _⟩ := may_ranges hm
    obtain ⟨hc, hp⟩ := code_pat hm
    have m0 : 0 ≤ (if op = 6 then 0 else imm) ∧ (if op = 6 then 0 else imm) < 4294967296 := by have := hi.lo; have := hi.hi; split <;> omega
    obtain ⟨z1, z2, z3, z4, z5⟩ := word_parts hc d s t0 t1 m0.1 m0.2
    have z6 := word_range hc d s t0 t1 m0.1 m0.2
    rw [← hv] at z1 z2 z3 z4 z5 z6
    have e1 : wgetI v = ⟨op, fn, dst, src, reg, 0, if op = 6 then 0 else imm⟩ := by
      unfold wgetI
      rw [z1, z2, z3, z5, Int.toNat_natCast, hp]
    have hm2 : mayB op fn dst src reg 0 (if op = 6 then 0 else imm) = true := by
      split
      · rename_i h6
        subst h6
        exact may_imm6 (may_off hm)
      · exact may_off hm
    have e2 : wputD (wgetI v) (v / 4294967296 % 1024) = (v, 0) := by
      rw [e1, z4]
      unfold wputD wput
      rw [if_pos ⟨hm2, t0, t1, hg⟩, hv]
      simp only [Prod.mk.injEq, and_true]
      congr 1
      split <;> rfl
    refine ⟨?_, z6⟩
    unfold wget
    rw [if_pos ⟨by omega, e2⟩, e1, z4]
  · cases h1
end Go.Proofs.Yteopeocgbfdofaa
