/- drydockref12.Code, Put, Get by their contracts: they are what isa's are. -/
import Derived.Test.YtkceojfgpmjhhaaIsaCalls
import Derived.Test.YtkceojfgpmjhhaaRefMay
set_option linter.unusedVariables false
set_option linter.unusedSimpArgs false
namespace Go.Proofs.Ytkceojfgpmjhhaa
open Go.RowKit
theorem wrap_u32 {x : Int} (h1 : 0 ≤ x) (h2 : x < 4294967296) : IntKind.u32.wrap x = x := by simp [IntKind.wrap, IntKind.bits, IntKind.signed]; omega
set_option maxHeartbeats 4000000 in
set_option maxRecDepth 100000 in
theorem rc_00 (fn dst src off imm : Int) (w : World) (d1 : 0 ≤ fn) (d2 : fn ≤ 10) (hm : mayB 0 fn dst src false off imm = true) :
    Calls Try.prog 11 #[.agg #[.int .i64 0, .int .i64 fn, .int .i64 dst, .int .i64 src, .bool false, .int .i64 off, .int .u32 imm]] w fun e w' => e = .returned (.tuple #[.int .i64 (2 * fn), .bool true]) ∧ Bel w w' := by
  have HB := Bel.refl (w.alloc (.cells #[.int .i64 0, .int .i64 fn, .int .i64 dst, .int .i64 src, .bool false, .int .i64 off, .int .u32 imm] 24))
  go_enter Try.func11, Try.ntmps11
  go_wp2_with fail
  refine (refmay_any _ _ _ _ _ _ _ _).mono ?_
  rw [hm]
  rintro e w1 ⟨rfl, hb⟩
  have HB := HB.trans hb
  obtain ⟨p0, p1, p2, p3, p4, p5, p6⟩ := box7 HB
  have ne : w.heap.size < w1.heap.size := World.block_lt_of_cell? _ _ p0
  clear hb
  go_wp2_with fail
  go_ret2
  exact ⟨by simp, HB.un⟩
set_option maxHeartbeats 4000000 in
set_option maxRecDepth 100000 in
theorem rc_01 (fn dst src off imm : Int) (w : World) (d1 : 0 ≤ fn) (d2 : fn ≤ 10) (hm : mayB 0 fn dst src true off imm = true) :
    Calls Try.prog 11 #[.agg #[.int .i64 0, .int .i64 fn, .int .i64 dst, .int .i64 src, .bool true, .int .i64 off, .int .u32 imm]] w fun e w' => e = .returned (.tuple #[.int .i64 (2 * fn + 1), .bool true]) ∧ Bel w w' := by
  have HB := Bel.refl (w.alloc (.cells #[.int .i64 0, .int .i64 fn, .int .i64 dst, .int .i64 src, .bool true, .int .i64 off, .int .u32 imm] 24))
  go_enter Try.func11, Try.ntmps11
  go_wp2_with fail
  refine (refmay_any _ _ _ _ _ _ _ _).mono ?_
  rw [hm]
  rintro e w1 ⟨rfl, hb⟩
  have HB := HB.trans hb
  obtain ⟨p0, p1, p2, p3, p4, p5, p6⟩ := box7 HB
  have ne : w.heap.size < w1.heap.size := World.block_lt_of_cell? _ _ p0
  clear hb
  go_wp2_with fail
  go_ret2
  exact ⟨by simp, HB.un⟩
set_option maxHeartbeats 4000000 in
set_option maxRecDepth 100000 in
theorem rc_10 (fn dst src off imm : Int) (w : World) (d1 : 0 ≤ fn) (d2 : fn ≤ 10) (d3 : (fn == 0) = false) (hm : mayB 1 fn dst src false off imm = true) :
    Calls Try.prog 11 #[.agg #[.int .i64 1, .int .i64 fn, .int .i64 dst, .int .i64 src, .bool false, .int .i64 off, .int .u32 imm]] w fun e w' => e = .returned (.tuple #[.int .i64 (21 + 2 * fn), .bool true]) ∧ Bel w w' := by
  have HB := Bel.refl (w.alloc (.cells #[.int .i64 1, .int .i64 fn, .int .i64 dst, .int .i64 src, .bool false, .int .i64 off, .int .u32 imm] 24))
  go_enter Try.func11, Try.ntmps11
  go_wp2_with fail
  refine (refmay_any _ _ _ _ _ _ _ _).mono ?_
  rw [hm]
  rintro e w1 ⟨rfl, hb⟩
  have HB := HB.trans hb
  obtain ⟨p0, p1, p2, p3, p4, p5, p6⟩ := box7 HB
  have ne : w.heap.size < w1.heap.size := World.block_lt_of_cell? _ _ p0
  clear hb
  go_wp2_with fail
  go_ret2
  exact ⟨by simp, HB.un⟩
set_option maxHeartbeats 4000000 in
set_option maxRecDepth 100000 in
theorem rc_11 (fn dst src off imm : Int) (w : World) (d1 : 0 ≤ fn) (d2 : fn ≤ 10) (d3 : (fn == 0) = false) (hm : mayB 1 fn dst src true off imm = true) :
    Calls Try.prog 11 #[.agg #[.int .i64 1, .int .i64 fn, .int .i64 dst, .int .i64 src, .bool true, .int .i64 off, .int .u32 imm]] w fun e w' => e = .returned (.tuple #[.int .i64 (21 + 2 * fn + 1), .bool true]) ∧ Bel w w' := by
  have HB := Bel.refl (w.alloc (.cells #[.int .i64 1, .int .i64 fn, .int .i64 dst, .int .i64 src, .bool true, .int .i64 off, .int .u32 imm] 24))
  go_enter Try.func11, Try.ntmps11
  go_wp2_with fail
  refine (refmay_any _ _ _ _ _ _ _ _).mono ?_
  rw [hm]
  rintro e w1 ⟨rfl, hb⟩
  have HB := HB.trans hb
  obtain ⟨p0, p1, p2, p3, p4, p5, p6⟩ := box7 HB
  have ne : w.heap.size < w1.heap.size := World.block_lt_of_cell? _ _ p0
  clear hb
  go_wp2_with fail
  go_ret2
  exact ⟨by simp, HB.un⟩
set_option maxHeartbeats 4000000 in
set_option maxRecDepth 100000 in
theorem rc_20 (fn dst src off imm : Int) (w : World) (d1 : 0 ≤ fn) (d2 : fn ≤ 10) (hm : mayB 2 fn dst src false off imm = true) :
    Calls Try.prog 11 #[.agg #[.int .i64 2, .int .i64 fn, .int .i64 dst, .int .i64 src, .bool false, .int .i64 off, .int .u32 imm]] w fun e w' => e = .returned (.tuple #[.int .i64 (31), .bool true]) ∧ Bel w w' := by
  have HB := Bel.refl (w.alloc (.cells #[.int .i64 2, .int .i64 fn, .int .i64 dst, .int .i64 src, .bool false, .int .i64 off, .int .u32 imm] 24))
  go_enter Try.func11, Try.ntmps11
  go_wp2_with fail
  refine (refmay_any _ _ _ _ _ _ _ _).mono ?_
  rw [hm]
  rintro e w1 ⟨rfl, hb⟩
  have HB := HB.trans hb
  obtain ⟨p0, p1, p2, p3, p4, p5, p6⟩ := box7 HB
  have ne : w.heap.size < w1.heap.size := World.block_lt_of_cell? _ _ p0
  clear hb
  go_wp2_with fail
  go_ret2
  exact ⟨by simp, HB.un⟩
set_option maxHeartbeats 4000000 in
set_option maxRecDepth 100000 in
theorem rc_21 (fn dst src off imm : Int) (w : World) (d1 : 0 ≤ fn) (d2 : fn ≤ 10) (hm : mayB 2 fn dst src true off imm = true) :
    Calls Try.prog 11 #[.agg #[.int .i64 2, .int .i64 fn, .int .i64 dst, .int .i64 src, .bool true, .int .i64 off, .int .u32 imm]] w fun e w' => e = .returned (.tuple #[.int .i64 (32), .bool true]) ∧ Bel w w' := by
  have HB := Bel.refl (w.alloc (.cells #[.int .i64 2, .int .i64 fn, .int .i64 dst, .int .i64 src, .bool true, .int .i64 off, .int .u32 imm] 24))
  go_enter Try.func11, Try.ntmps11
  go_wp2_with fail
  refine (refmay_any _ _ _ _ _ _ _ _).mono ?_
  rw [hm]
  rintro e w1 ⟨rfl, hb⟩
  have HB := HB.trans hb
  obtain ⟨p0, p1, p2, p3, p4, p5, p6⟩ := box7 HB
  have ne : w.heap.size < w1.heap.size := World.block_lt_of_cell? _ _ p0
  clear hb
  go_wp2_with fail
  go_ret2
  exact ⟨by simp, HB.un⟩
set_option maxHeartbeats 4000000 in
set_option maxRecDepth 100000 in
theorem rc_30 (fn dst src off imm : Int) (w : World) (d1 : 0 ≤ fn) (d2 : fn ≤ 10) (hm : mayB 3 fn dst src false off imm = true) :
    Calls Try.prog 11 #[.agg #[.int .i64 3, .int .i64 fn, .int .i64 dst, .int .i64 src, .bool false, .int .i64 off, .int .u32 imm]] w fun e w' => e = .returned (.tuple #[.int .i64 (33), .bool true]) ∧ Bel w w' := by
  have HB := Bel.refl (w.alloc (.cells #[.int .i64 3, .int .i64 fn, .int .i64 dst, .int .i64 src, .bool false, .int .i64 off, .int .u32 imm] 24))
  go_enter Try.func11, Try.ntmps11
  go_wp2_with fail
  refine (refmay_any _ _ _ _ _ _ _ _).mono ?_
  rw [hm]
  rintro e w1 ⟨rfl, hb⟩
  have HB := HB.trans hb
  obtain ⟨p0, p1, p2, p3, p4, p5, p6⟩ := box7 HB
  have ne : w.heap.size < w1.heap.size := World.block_lt_of_cell? _ _ p0
  clear hb
  go_wp2_with fail
  go_ret2
  exact ⟨by simp, HB.un⟩
set_option maxHeartbeats 4000000 in
set_option maxRecDepth 100000 in
theorem rc_31 (fn dst src off imm : Int) (w : World) (d1 : 0 ≤ fn) (d2 : fn ≤ 10) (hm : mayB 3 fn dst src true off imm = true) :
    Calls Try.prog 11 #[.agg #[.int .i64 3, .int .i64 fn, .int .i64 dst, .int .i64 src, .bool true, .int .i64 off, .int .u32 imm]] w fun e w' => e = .returned (.tuple #[.int .i64 (34), .bool true]) ∧ Bel w w' := by
  have HB := Bel.refl (w.alloc (.cells #[.int .i64 3, .int .i64 fn, .int .i64 dst, .int .i64 src, .bool true, .int .i64 off, .int .u32 imm] 24))
  go_enter Try.func11, Try.ntmps11
  go_wp2_with fail
  refine (refmay_any _ _ _ _ _ _ _ _).mono ?_
  rw [hm]
  rintro e w1 ⟨rfl, hb⟩
  have HB := HB.trans hb
  obtain ⟨p0, p1, p2, p3, p4, p5, p6⟩ := box7 HB
  have ne : w.heap.size < w1.heap.size := World.block_lt_of_cell? _ _ p0
  clear hb
  go_wp2_with fail
  go_ret2
  exact ⟨by simp, HB.un⟩
set_option maxHeartbeats 4000000 in
set_option maxRecDepth 100000 in
theorem rc_40 (fn dst src off imm : Int) (w : World) (d1 : 0 ≤ fn) (d2 : fn ≤ 10) (hm : mayB 4 fn dst src false off imm = true) :
    Calls Try.prog 11 #[.agg #[.int .i64 4, .int .i64 fn, .int .i64 dst, .int .i64 src, .bool false, .int .i64 off, .int .u32 imm]] w fun e w' => e = .returned (.tuple #[.int .i64 (35), .bool true]) ∧ Bel w w' := by
  have HB := Bel.refl (w.alloc (.cells #[.int .i64 4, .int .i64 fn, .int .i64 dst, .int .i64 src, .bool false, .int .i64 off, .int .u32 imm] 24))
  go_enter Try.func11, Try.ntmps11
  go_wp2_with fail
  refine (refmay_any _ _ _ _ _ _ _ _).mono ?_
  rw [hm]
  rintro e w1 ⟨rfl, hb⟩
  have HB := HB.trans hb
  obtain ⟨p0, p1, p2, p3, p4, p5, p6⟩ := box7 HB
  have ne : w.heap.size < w1.heap.size := World.block_lt_of_cell? _ _ p0
  clear hb
  go_wp2_with fail
  go_ret2
  exact ⟨by simp, HB.un⟩
set_option maxHeartbeats 4000000 in
set_option maxRecDepth 100000 in
theorem rc_41 (fn dst src off imm : Int) (w : World) (d1 : 0 ≤ fn) (d2 : fn ≤ 10) (hm : mayB 4 fn dst src true off imm = true) :
    Calls Try.prog 11 #[.agg #[.int .i64 4, .int .i64 fn, .int .i64 dst, .int .i64 src, .bool true, .int .i64 off, .int .u32 imm]] w fun e w' => e = .returned (.tuple #[.int .i64 (36), .bool true]) ∧ Bel w w' := by
  have HB := Bel.refl (w.alloc (.cells #[.int .i64 4, .int .i64 fn, .int .i64 dst, .int .i64 src, .bool true, .int .i64 off, .int .u32 imm] 24))
  go_enter Try.func11, Try.ntmps11
  go_wp2_with fail
  refine (refmay_any _ _ _ _ _ _ _ _).mono ?_
  rw [hm]
  rintro e w1 ⟨rfl, hb⟩
  have HB := HB.trans hb
  obtain ⟨p0, p1, p2, p3, p4, p5, p6⟩ := box7 HB
  have ne : w.heap.size < w1.heap.size := World.block_lt_of_cell? _ _ p0
  clear hb
  go_wp2_with fail
  go_ret2
  exact ⟨by simp, HB.un⟩
set_option maxHeartbeats 4000000 in
set_option maxRecDepth 100000 in
theorem rc_50 (fn dst src off imm : Int) (w : World) (d1 : 0 ≤ fn) (d2 : fn ≤ 10) (hm : mayB 5 fn dst src false off imm = true) :
    Calls Try.prog 11 #[.agg #[.int .i64 5, .int .i64 fn, .int .i64 dst, .int .i64 src, .bool false, .int .i64 off, .int .u32 imm]] w fun e w' => e = .returned (.tuple #[.int .i64 (37), .bool true]) ∧ Bel w w' := by
  have HB := Bel.refl (w.alloc (.cells #[.int .i64 5, .int .i64 fn, .int .i64 dst, .int .i64 src, .bool false, .int .i64 off, .int .u32 imm] 24))
  go_enter Try.func11, Try.ntmps11
  go_wp2_with fail
  refine (refmay_any _ _ _ _ _ _ _ _).mono ?_
  rw [hm]
  rintro e w1 ⟨rfl, hb⟩
  have HB := HB.trans hb
  obtain ⟨p0, p1, p2, p3, p4, p5, p6⟩ := box7 HB
  have ne : w.heap.size < w1.heap.size := World.block_lt_of_cell? _ _ p0
  clear hb
  go_wp2_with fail
  go_ret2
  exact ⟨by simp, HB.un⟩
set_option maxHeartbeats 4000000 in
set_option maxRecDepth 100000 in
theorem rc_60 (fn dst src off imm : Int) (w : World) (d1 : 0 ≤ fn) (d2 : fn ≤ 10) (hm : mayB 6 fn dst src false off imm = true) :
    Calls Try.prog 11 #[.agg #[.int .i64 6, .int .i64 fn, .int .i64 dst, .int .i64 src, .bool false, .int .i64 off, .int .u32 imm]] w fun e w' => e = .returned (.tuple #[.int .i64 (38), .bool true]) ∧ Bel w w' := by
  have HB := Bel.refl (w.alloc (.cells #[.int .i64 6, .int .i64 fn, .int .i64 dst, .int .i64 src, .bool false, .int .i64 off, .int .u32 imm] 24))
  go_enter Try.func11, Try.ntmps11
  go_wp2_with fail
  refine (refmay_any _ _ _ _ _ _ _ _).mono ?_
  rw [hm]
  rintro e w1 ⟨rfl, hb⟩
  have HB := HB.trans hb
  obtain ⟨p0, p1, p2, p3, p4, p5, p6⟩ := box7 HB
  have ne : w.heap.size < w1.heap.size := World.block_lt_of_cell? _ _ p0
  clear hb
  go_wp2_with fail
  go_ret2
  exact ⟨by simp, HB.un⟩
set_option maxHeartbeats 4000000 in
set_option maxRecDepth 100000 in
theorem rc_70 (fn dst src off imm : Int) (w : World) (d1 : 0 ≤ fn) (d2 : fn ≤ 10) (hm : mayB 7 fn dst src false off imm = true) :
    Calls Try.prog 11 #[.agg #[.int .i64 7, .int .i64 fn, .int .i64 dst, .int .i64 src, .bool false, .int .i64 off, .int .u32 imm]] w fun e w' => e = .returned (.tuple #[.int .i64 (39), .bool true]) ∧ Bel w w' := by
  have HB := Bel.refl (w.alloc (.cells #[.int .i64 7, .int .i64 fn, .int .i64 dst, .int .i64 src, .bool false, .int .i64 off, .int .u32 imm] 24))
  go_enter Try.func11, Try.ntmps11
  go_wp2_with fail
  refine (refmay_any _ _ _ _ _ _ _ _).mono ?_
  rw [hm]
  rintro e w1 ⟨rfl, hb⟩
  have HB := HB.trans hb
  obtain ⟨p0, p1, p2, p3, p4, p5, p6⟩ := box7 HB
  have ne : w.heap.size < w1.heap.size := World.block_lt_of_cell? _ _ p0
  clear hb
  go_wp2_with fail
  go_ret2
  exact ⟨by simp, HB.un⟩
set_option maxHeartbeats 4000000 in
set_option maxRecDepth 100000 in
theorem rc_22 (dst src off imm : Int) (w : World) (hm : mayB 1 0 dst src false off imm = true) :
    Calls Try.prog 11 #[.agg #[.int .i64 1, .int .i64 0, .int .i64 dst, .int .i64 src, .bool false, .int .i64 off, .int .u32 imm]] w fun e w' => e = .returned (.tuple #[.int .i64 22, .bool true]) ∧ Bel w w' := by
  have HB := Bel.refl (w.alloc (.cells #[.int .i64 1, .int .i64 0, .int .i64 dst, .int .i64 src, .bool false, .int .i64 off, .int .u32 imm] 24))
  go_enter Try.func11, Try.ntmps11
  go_wp2_with fail
  refine (refmay_any _ _ _ _ _ _ _ _).mono ?_
  rw [hm]
  rintro e w1 ⟨rfl, hb⟩
  have HB := HB.trans hb
  obtain ⟨p0, p1, p2, p3, p4, p5, p6⟩ := box7 HB
  have ne : w.heap.size < w1.heap.size := World.block_lt_of_cell? _ _ p0
  clear hb
  go_wp2_with fail
  go_ret2
  exact ⟨by simp, HB.un⟩
set_option maxHeartbeats 4000000 in
set_option maxRecDepth 100000 in
theorem refcode_no (op fn dst src : Int) (reg : Bool) (off imm : Int) (w : World) (hm : mayB op fn dst src reg off imm = false) :
    Calls Try.prog 11 #[.agg #[.int .i64 op, .int .i64 fn, .int .i64 dst, .int .i64 src, .bool reg, .int .i64 off, .int .u32 imm]] w fun e w' => e = .returned (.tuple #[.int .i64 0, .bool false]) ∧ Bel w w' := by
  have HB := Bel.refl (w.alloc (.cells #[.int .i64 op, .int .i64 fn, .int .i64 dst, .int .i64 src, .bool reg, .int .i64 off, .int .u32 imm] 24))
  go_enter Try.func11, Try.ntmps11
  go_wp2_with fail
  refine (refmay_any _ _ _ _ _ _ _ _).mono ?_
  rw [hm]
  rintro e w1 ⟨rfl, hb⟩
  have HB := HB.trans hb
  obtain ⟨p0, p1, p2, p3, p4, p5, p6⟩ := box7 HB
  have ne : w.heap.size < w1.heap.size := World.block_lt_of_cell? _ _ p0
  clear hb
  go_wp2_with fail
  go_ret2
  exact ⟨by simp, HB.un⟩
theorem refcode_ok (op fn dst src : Int) (reg : Bool) (off imm : Int) (w : World) (hm : mayB op fn dst src reg off imm = true) :
    Calls Try.prog 11 #[.agg #[.int .i64 op, .int .i64 fn, .int .i64 dst, .int .i64 src, .bool reg, .int .i64 off, .int .u32 imm]] w fun e w' => e = .returned (.tuple #[.int .i64 (codeN op fn reg), .bool true]) ∧ Bel w w' := by
  have h := of_decide_eq_true hm
  obtain ⟨⟨a1, a2⟩, _, _, ⟨d1, d2⟩, _, f, _⟩ := h
  have : op = 0 ∨ op = 1 ∨ op = 2 ∨ op = 3 ∨ op = 4 ∨ op = 5 ∨ op = 6 ∨ op = 7 := by omega
  rcases this with rfl | rfl | rfl | rfl | rfl | rfl | rfl | rfl
  · simp at d2
    cases reg
    · have e : ((codeN 0 fn false : Nat) : Int) = 2 * fn := by simp [codeN]; omega
      rw [e]; exact rc_00 fn dst src off imm w d1 (by omega) hm
    · have e : ((codeN 0 fn true : Nat) : Int) = 2 * fn + 1 := by simp [codeN]; omega
      rw [e]; exact rc_01 fn dst src off imm w d1 (by omega) hm
  · simp at d2
    by_cases h0 : fn = 0
    · subst h0
      have hr : reg = false := by simp at f; exact f.2
      subst hr
      have e : ((codeN 1 0 false : Nat) : Int) = 22 := by decide
      rw [e]; exact rc_22 dst src off imm w hm
    · cases reg
      · have e : ((codeN 1 fn false : Nat) : Int) = 21 + 2 * fn := by simp [codeN, h0]; omega
        rw [e]; exact rc_10 fn dst src off imm w d1 (by omega) (by simpa using h0) hm
      · have e : ((codeN 1 fn true : Nat) : Int) = 21 + 2 * fn + 1 := by simp [codeN, h0]; omega
        rw [e]; exact rc_11 fn dst src off imm w d1 (by omega) (by simpa using h0) hm
  · simp at d2
    cases reg
    · exact rc_20 fn dst src off imm w d1 (by omega) hm
    · exact rc_21 fn dst src off imm w d1 (by omega) hm
  · simp at d2
    cases reg
    · exact rc_30 fn dst src off imm w d1 (by omega) hm
    · exact rc_31 fn dst src off imm w d1 (by omega) hm
  · simp at d2
    cases reg
    · exact rc_40 fn dst src off imm w d1 (by omega) hm
    · exact rc_41 fn dst src off imm w d1 (by omega) hm
  · simp at d2
    have hr : reg = false := by
      rcases f with ⟨f, _⟩ | ⟨_, f⟩
      · omega
      · exact f
    subst hr
    exact rc_50 fn dst src off imm w d1 (by omega) hm
  · simp at d2
    have hr : reg = false := by
      rcases f with ⟨f, _⟩ | ⟨_, f⟩
      · omega
      · exact f
    subst hr
    exact rc_60 fn dst src off imm w d1 (by omega) hm
  · simp at d2
    have hr : reg = false := by
      rcases f with ⟨f, _⟩ | ⟨_, f⟩
      · omega
      · exact f
    subst hr
    exact rc_70 fn dst src off imm w d1 (by omega) hm
set_option maxHeartbeats 4000000 in
set_option maxRecDepth 100000 in
theorem rput_no (op fn dst src : Int) (reg : Bool) (off imm too : Int) (w : World) (hm : mayB op fn dst src reg off imm = false) :
    Calls Try.prog 13 #[.agg #[.int .i64 op, .int .i64 fn, .int .i64 dst, .int .i64 src, .bool reg, .int .i64 off, .int .u32 imm], .int .i64 too] w fun e w' => e = .returned (.tuple #[.int .u64 0, .int .i64 1]) ∧ Bel w w' := by
  have HB := Bel.refl (w.alloc (.cells #[.int .i64 op, .int .i64 fn, .int .i64 dst, .int .i64 src, .bool reg, .int .i64 off, .int .u32 imm] 24))
  go_enter Try.func13, Try.ntmps13
  go_wp2_with fail
  refine (refcode_no _ _ _ _ _ _ _ _ hm).mono ?_
  rintro e w1 ⟨rfl, hb⟩
  have HB := HB.trans hb
  obtain ⟨p0, p1, p2, p3, p4, p5, p6⟩ := box7 HB
  have ne : w.heap.size < w1.heap.size := World.block_lt_of_cell? _ _ p0
  clear hb
  go_wp2_with fail
  all_goals (go_ret2; exact ⟨by simp, HB.un⟩)
set_option maxHeartbeats 4000000 in
set_option maxRecDepth 100000 in
theorem rput_low_6 (op fn dst src : Int) (reg : Bool) (off imm too : Int) (w : World) (hm : mayB op fn dst src reg off imm = true) (c : Nat) (hc : Hid (codeN op fn reg = c)) (hc4 : c < 40) (hd0 : 0 ≤ dst) (hd1 : dst < 8) (hs0 : 0 ≤ src) (hs1 : src < 8) (h6 : op = 6) (h0 : too < 0) :
    Calls Try.prog 13 #[.agg #[.int .i64 op, .int .i64 fn, .int .i64 dst, .int .i64 src, .bool reg, .int .i64 off, .int .u32 imm], .int .i64 too] w fun e w' => e = .returned (.tuple #[.int .u64 0, .int .i64 1]) ∧ Bel w w' := by
  subst h6
  have HB := Bel.refl (w.alloc (.cells #[.int .i64 6, .int .i64 fn, .int .i64 dst, .int .i64 src, .bool reg, .int .i64 off, .int .u32 imm] 24))
  go_enter Try.func13, Try.ntmps13
  go_wp2_with fail
  refine (refcode_ok _ _ _ _ _ _ _ _ hm).mono ?_
  rw [hc.out]
  rintro e w1 ⟨rfl, hb⟩
  have HB := HB.trans hb
  obtain ⟨p0, p1, p2, p3, p4, p5, p6⟩ := box7 HB
  have ne : w.heap.size < w1.heap.size := World.block_lt_of_cell? _ _ p0
  clear hb
  go_wp2_with fail
  go_ret2
  exact ⟨by simp, HB.un⟩
set_option maxHeartbeats 4000000 in
set_option maxRecDepth 100000 in
theorem rput_high_6 (op fn dst src : Int) (reg : Bool) (off imm too : Int) (w : World) (hm : mayB op fn dst src reg off imm = true) (c : Nat) (hc : Hid (codeN op fn reg = c)) (hc4 : c < 40) (hd0 : 0 ≤ dst) (hd1 : dst < 8) (hs0 : 0 ≤ src) (hs1 : src < 8) (h6 : op = 6) (h0 : ¬ too < 0) (h1 : 1023 < too) :
    Calls Try.prog 13 #[.agg #[.int .i64 op, .int .i64 fn, .int .i64 dst, .int .i64 src, .bool reg, .int .i64 off, .int .u32 imm], .int .i64 too] w fun e w' => e = .returned (.tuple #[.int .u64 0, .int .i64 1]) ∧ Bel w w' := by
  subst h6
  have HB := Bel.refl (w.alloc (.cells #[.int .i64 6, .int .i64 fn, .int .i64 dst, .int .i64 src, .bool reg, .int .i64 off, .int .u32 imm] 24))
  go_enter Try.func13, Try.ntmps13
  go_wp2_with fail
  refine (refcode_ok _ _ _ _ _ _ _ _ hm).mono ?_
  rw [hc.out]
  rintro e w1 ⟨rfl, hb⟩
  have HB := HB.trans hb
  obtain ⟨p0, p1, p2, p3, p4, p5, p6⟩ := box7 HB
  have ne : w.heap.size < w1.heap.size := World.block_lt_of_cell? _ _ p0
  clear hb
  go_wp2_with fail
  go_ret2
  exact ⟨by simp, HB.un⟩
set_option maxHeartbeats 4000000 in
set_option maxRecDepth 100000 in
theorem rput_ok_6 (op fn dst src : Int) (reg : Bool) (off imm too : Int) (w : World) (hm : mayB op fn dst src reg off imm = true) (c : Nat) (hc : Hid (codeN op fn reg = c)) (hc4 : c < 40) (hd0 : 0 ≤ dst) (hd1 : dst < 8) (hs0 : 0 ≤ src) (hs1 : src < 8) (hi0 : 0 ≤ imm) (hi1 : imm < 4294967296) (h6 : op = 6) (h0 : ¬ too < 0) (h1 : ¬ 1023 < too)  :
    Calls Try.prog 13 #[.agg #[.int .i64 op, .int .i64 fn, .int .i64 dst, .int .i64 src, .bool reg, .int .i64 off, .int .u32 imm], .int .i64 too] w fun e w' => e = .returned (.tuple #[.int .u64 (wordI c dst src too 0), .int .i64 0]) ∧ Bel w w' := by
  have hw : wordI c dst src too 0 = ((((c : Int) * 8 + dst) * 8 + src) * 1024 + too) * 4294967296 + 0 := by unfold wordI; omega
  rw [hw]
  clear hw
  have e0 : IntKind.i64.wrap imm = imm := wrap_i64 (by omega) (by omega)
  have e1 : IntKind.i64.wrap ((c : Int) * 8) = (c : Int) * 8 := wrap_i64 (by omega) (by omega)
  have e2 : IntKind.i64.wrap ((c : Int) * 8 + dst) = (c : Int) * 8 + dst := wrap_i64 (by omega) (by omega)
  have e3 : IntKind.i64.wrap (((c : Int) * 8 + dst) * 8) = ((c : Int) * 8 + dst) * 8 := wrap_i64 (by omega) (by omega)
  have e4 : IntKind.i64.wrap (((c : Int) * 8 + dst) * 8 + src) = ((c : Int) * 8 + dst) * 8 + src := wrap_i64 (by omega) (by omega)
  have e5 : IntKind.i64.wrap ((((c : Int) * 8 + dst) * 8 + src) * 1024) = (((c : Int) * 8 + dst) * 8 + src) * 1024 := wrap_i64 (by omega) (by omega)
  have e6 : IntKind.i64.wrap ((((c : Int) * 8 + dst) * 8 + src) * 1024 + too) = (((c : Int) * 8 + dst) * 8 + src) * 1024 + too := wrap_i64 (by omega) (by omega)
  have e7 : IntKind.i64.wrap (((((c : Int) * 8 + dst) * 8 + src) * 1024 + too) * 4294967296) = ((((c : Int) * 8 + dst) * 8 + src) * 1024 + too) * 4294967296 := wrap_i64 (by omega) (by omega)
  have e8 : IntKind.i64.wrap (((((c : Int) * 8 + dst) * 8 + src) * 1024 + too) * 4294967296 + 0) = ((((c : Int) * 8 + dst) * 8 + src) * 1024 + too) * 4294967296 + 0 := wrap_i64 (by omega) (by omega)
  have e9 : IntKind.u64.wrap (((((c : Int) * 8 + dst) * 8 + src) * 1024 + too) * 4294967296 + 0) = ((((c : Int) * 8 + dst) * 8 + src) * 1024 + too) * 4294967296 + 0 := wrap_u64 (by omega) (by omega)
  subst h6
  have HB := Bel.refl (w.alloc (.cells #[.int .i64 6, .int .i64 fn, .int .i64 dst, .int .i64 src, .bool reg, .int .i64 off, .int .u32 imm] 24))
  go_enter Try.func13, Try.ntmps13
  go_wp2_with fail
  refine (refcode_ok _ _ _ _ _ _ _ _ hm).mono ?_
  rw [hc.out]
  rintro e w1 ⟨rfl, hb⟩
  have HB := HB.trans hb
  obtain ⟨p0, p1, p2, p3, p4, p5, p6⟩ := box7 HB
  have ne : w.heap.size < w1.heap.size := World.block_lt_of_cell? _ _ p0
  clear hb
  go_wp2_with fail
  go_ret2
  exact ⟨by simp, HB.un⟩
set_option maxHeartbeats 4000000 in
set_option maxRecDepth 100000 in
theorem rput_low_1 (op fn dst src : Int) (reg : Bool) (off imm too : Int) (w : World) (hm : mayB op fn dst src reg off imm = true) (c : Nat) (hc : Hid (codeN op fn reg = c)) (hc4 : c < 40) (hd0 : 0 ≤ dst) (hd1 : dst < 8) (hs0 : 0 ≤ src) (hs1 : src < 8) (h6 : op = 1) (h0 : too < 0) :
    Calls Try.prog 13 #[.agg #[.int .i64 op, .int .i64 fn, .int .i64 dst, .int .i64 src, .bool reg, .int .i64 off, .int .u32 imm], .int .i64 too] w fun e w' => e = .returned (.tuple #[.int .u64 0, .int .i64 1]) ∧ Bel w w' := by
  subst h6
  have HB := Bel.refl (w.alloc (.cells #[.int .i64 1, .int .i64 fn, .int .i64 dst, .int .i64 src, .bool reg, .int .i64 off, .int .u32 imm] 24))
  go_enter Try.func13, Try.ntmps13
  go_wp2_with fail
  refine (refcode_ok _ _ _ _ _ _ _ _ hm).mono ?_
  rw [hc.out]
  rintro e w1 ⟨rfl, hb⟩
  have HB := HB.trans hb
  obtain ⟨p0, p1, p2, p3, p4, p5, p6⟩ := box7 HB
  have ne : w.heap.size < w1.heap.size := World.block_lt_of_cell? _ _ p0
  clear hb
  go_wp2_with fail
  go_ret2
  exact ⟨by simp, HB.un⟩
set_option maxHeartbeats 4000000 in
set_option maxRecDepth 100000 in
theorem rput_high_1 (op fn dst src : Int) (reg : Bool) (off imm too : Int) (w : World) (hm : mayB op fn dst src reg off imm = true) (c : Nat) (hc : Hid (codeN op fn reg = c)) (hc4 : c < 40) (hd0 : 0 ≤ dst) (hd1 : dst < 8) (hs0 : 0 ≤ src) (hs1 : src < 8) (h6 : op = 1) (h0 : ¬ too < 0) (h1 : 1023 < too) :
    Calls Try.prog 13 #[.agg #[.int .i64 op, .int .i64 fn, .int .i64 dst, .int .i64 src, .bool reg, .int .i64 off, .int .u32 imm], .int .i64 too] w fun e w' => e = .returned (.tuple #[.int .u64 0, .int .i64 1]) ∧ Bel w w' := by
  subst h6
  have HB := Bel.refl (w.alloc (.cells #[.int .i64 1, .int .i64 fn, .int .i64 dst, .int .i64 src, .bool reg, .int .i64 off, .int .u32 imm] 24))
  go_enter Try.func13, Try.ntmps13
  go_wp2_with fail
  refine (refcode_ok _ _ _ _ _ _ _ _ hm).mono ?_
  rw [hc.out]
  rintro e w1 ⟨rfl, hb⟩
  have HB := HB.trans hb
  obtain ⟨p0, p1, p2, p3, p4, p5, p6⟩ := box7 HB
  have ne : w.heap.size < w1.heap.size := World.block_lt_of_cell? _ _ p0
  clear hb
  go_wp2_with fail
  go_ret2
  exact ⟨by simp, HB.un⟩
set_option maxHeartbeats 4000000 in
set_option maxRecDepth 100000 in
theorem rput_ok_1 (op fn dst src : Int) (reg : Bool) (off imm too : Int) (w : World) (hm : mayB op fn dst src reg off imm = true) (c : Nat) (hc : Hid (codeN op fn reg = c)) (hc4 : c < 40) (hd0 : 0 ≤ dst) (hd1 : dst < 8) (hs0 : 0 ≤ src) (hs1 : src < 8) (hi0 : 0 ≤ imm) (hi1 : imm < 4294967296) (h6 : op = 1) (h0 : ¬ too < 0) (h1 : ¬ 1023 < too)  :
    Calls Try.prog 13 #[.agg #[.int .i64 op, .int .i64 fn, .int .i64 dst, .int .i64 src, .bool reg, .int .i64 off, .int .u32 imm], .int .i64 too] w fun e w' => e = .returned (.tuple #[.int .u64 (wordI c dst src too imm), .int .i64 0]) ∧ Bel w w' := by
  have hw : wordI c dst src too imm = ((((c : Int) * 8 + dst) * 8 + src) * 1024 + too) * 4294967296 + imm := by unfold wordI; omega
  rw [hw]
  clear hw
  have e0 : IntKind.i64.wrap imm = imm := wrap_i64 (by omega) (by omega)
  have e1 : IntKind.i64.wrap ((c : Int) * 8) = (c : Int) * 8 := wrap_i64 (by omega) (by omega)
  have e2 : IntKind.i64.wrap ((c : Int) * 8 + dst) = (c : Int) * 8 + dst := wrap_i64 (by omega) (by omega)
  have e3 : IntKind.i64.wrap (((c : Int) * 8 + dst) * 8) = ((c : Int) * 8 + dst) * 8 := wrap_i64 (by omega) (by omega)
  have e4 : IntKind.i64.wrap (((c : Int) * 8 + dst) * 8 + src) = ((c : Int) * 8 + dst) * 8 + src := wrap_i64 (by omega) (by omega)
  have e5 : IntKind.i64.wrap ((((c : Int) * 8 + dst) * 8 + src) * 1024) = (((c : Int) * 8 + dst) * 8 + src) * 1024 := wrap_i64 (by omega) (by omega)
  have e6 : IntKind.i64.wrap ((((c : Int) * 8 + dst) * 8 + src) * 1024 + too) = (((c : Int) * 8 + dst) * 8 + src) * 1024 + too := wrap_i64 (by omega) (by omega)
  have e7 : IntKind.i64.wrap (((((c : Int) * 8 + dst) * 8 + src) * 1024 + too) * 4294967296) = ((((c : Int) * 8 + dst) * 8 + src) * 1024 + too) * 4294967296 := wrap_i64 (by omega) (by omega)
  have e8 : IntKind.i64.wrap (((((c : Int) * 8 + dst) * 8 + src) * 1024 + too) * 4294967296 + imm) = ((((c : Int) * 8 + dst) * 8 + src) * 1024 + too) * 4294967296 + imm := wrap_i64 (by omega) (by omega)
  have e9 : IntKind.u64.wrap (((((c : Int) * 8 + dst) * 8 + src) * 1024 + too) * 4294967296 + imm) = ((((c : Int) * 8 + dst) * 8 + src) * 1024 + too) * 4294967296 + imm := wrap_u64 (by omega) (by omega)
  subst h6
  have HB := Bel.refl (w.alloc (.cells #[.int .i64 1, .int .i64 fn, .int .i64 dst, .int .i64 src, .bool reg, .int .i64 off, .int .u32 imm] 24))
  go_enter Try.func13, Try.ntmps13
  go_wp2_with fail
  refine (refcode_ok _ _ _ _ _ _ _ _ hm).mono ?_
  rw [hc.out]
  rintro e w1 ⟨rfl, hb⟩
  have HB := HB.trans hb
  obtain ⟨p0, p1, p2, p3, p4, p5, p6⟩ := box7 HB
  have ne : w.heap.size < w1.heap.size := World.block_lt_of_cell? _ _ p0
  clear hb
  go_wp2_with fail
  go_ret2
  exact ⟨by simp, HB.un⟩
set_option maxHeartbeats 4000000 in
set_option maxRecDepth 100000 in
theorem rput_low_n (op fn dst src : Int) (reg : Bool) (off imm too : Int) (w : World) (hm : mayB op fn dst src reg off imm = true) (c : Nat) (hc : Hid (codeN op fn reg = c)) (hc4 : c < 40) (hd0 : 0 ≤ dst) (hd1 : dst < 8) (hs0 : 0 ≤ src) (hs1 : src < 8) (h1' : (op == 1) = false) (h6' : (op == 6) = false) (h0 : too < 0) :
    Calls Try.prog 13 #[.agg #[.int .i64 op, .int .i64 fn, .int .i64 dst, .int .i64 src, .bool reg, .int .i64 off, .int .u32 imm], .int .i64 too] w fun e w' => e = .returned (.tuple #[.int .u64 0, .int .i64 1]) ∧ Bel w w' := by
  have HB := Bel.refl (w.alloc (.cells #[.int .i64 op, .int .i64 fn, .int .i64 dst, .int .i64 src, .bool reg, .int .i64 off, .int .u32 imm] 24))
  go_enter Try.func13, Try.ntmps13
  go_wp2_with fail
  refine (refcode_ok _ _ _ _ _ _ _ _ hm).mono ?_
  rw [hc.out]
  rintro e w1 ⟨rfl, hb⟩
  have HB := HB.trans hb
  obtain ⟨p0, p1, p2, p3, p4, p5, p6⟩ := box7 HB
  have ne : w.heap.size < w1.heap.size := World.block_lt_of_cell? _ _ p0
  clear hb
  go_wp2_with fail
  go_ret2
  exact ⟨by simp, HB.un⟩
set_option maxHeartbeats 4000000 in
set_option maxRecDepth 100000 in
theorem rput_high_n (op fn dst src : Int) (reg : Bool) (off imm too : Int) (w : World) (hm : mayB op fn dst src reg off imm = true) (c : Nat) (hc : Hid (codeN op fn reg = c)) (hc4 : c < 40) (hd0 : 0 ≤ dst) (hd1 : dst < 8) (hs0 : 0 ≤ src) (hs1 : src < 8) (h1' : (op == 1) = false) (h6' : (op == 6) = false) (h0 : ¬ too < 0) (h1 : 1023 < too) :
    Calls Try.prog 13 #[.agg #[.int .i64 op, .int .i64 fn, .int .i64 dst, .int .i64 src, .bool reg, .int .i64 off, .int .u32 imm], .int .i64 too] w fun e w' => e = .returned (.tuple #[.int .u64 0, .int .i64 1]) ∧ Bel w w' := by
  have HB := Bel.refl (w.alloc (.cells #[.int .i64 op, .int .i64 fn, .int .i64 dst, .int .i64 src, .bool reg, .int .i64 off, .int .u32 imm] 24))
  go_enter Try.func13, Try.ntmps13
  go_wp2_with fail
  refine (refcode_ok _ _ _ _ _ _ _ _ hm).mono ?_
  rw [hc.out]
  rintro e w1 ⟨rfl, hb⟩
  have HB := HB.trans hb
  obtain ⟨p0, p1, p2, p3, p4, p5, p6⟩ := box7 HB
  have ne : w.heap.size < w1.heap.size := World.block_lt_of_cell? _ _ p0
  clear hb
  go_wp2_with fail
  go_ret2
  exact ⟨by simp, HB.un⟩
set_option maxHeartbeats 4000000 in
set_option maxRecDepth 100000 in
theorem rput_else (op fn dst src : Int) (reg : Bool) (off imm too : Int) (w : World) (hm : mayB op fn dst src reg off imm = true) (c : Nat) (hc : Hid (codeN op fn reg = c)) (hc4 : c < 40) (hd0 : 0 ≤ dst) (hd1 : dst < 8) (hs0 : 0 ≤ src) (hs1 : src < 8) (h1' : (op == 1) = false) (h6' : (op == 6) = false) (h0 : ¬ too < 0) (h1 : ¬ 1023 < too) (h2 : (too != 0) = true) :
    Calls Try.prog 13 #[.agg #[.int .i64 op, .int .i64 fn, .int .i64 dst, .int .i64 src, .bool reg, .int .i64 off, .int .u32 imm], .int .i64 too] w fun e w' => e = .returned (.tuple #[.int .u64 0, .int .i64 1]) ∧ Bel w w' := by
  have HB := Bel.refl (w.alloc (.cells #[.int .i64 op, .int .i64 fn, .int .i64 dst, .int .i64 src, .bool reg, .int .i64 off, .int .u32 imm] 24))
  go_enter Try.func13, Try.ntmps13
  go_wp2_with fail
  refine (refcode_ok _ _ _ _ _ _ _ _ hm).mono ?_
  rw [hc.out]
  rintro e w1 ⟨rfl, hb⟩
  have HB := HB.trans hb
  obtain ⟨p0, p1, p2, p3, p4, p5, p6⟩ := box7 HB
  have ne : w.heap.size < w1.heap.size := World.block_lt_of_cell? _ _ p0
  clear hb
  go_wp2_with fail
  go_ret2
  exact ⟨by simp, HB.un⟩
set_option maxHeartbeats 4000000 in
set_option maxRecDepth 100000 in
theorem rput_ok_n (op fn dst src : Int) (reg : Bool) (off imm too : Int) (w : World) (hm : mayB op fn dst src reg off imm = true) (c : Nat) (hc : Hid (codeN op fn reg = c)) (hc4 : c < 40) (hd0 : 0 ≤ dst) (hd1 : dst < 8) (hs0 : 0 ≤ src) (hs1 : src < 8) (hi0 : 0 ≤ imm) (hi1 : imm < 4294967296) (h1' : (op == 1) = false) (h6' : (op == 6) = false) (h0 : ¬ too < 0) (h1 : ¬ 1023 < too) (h2 : too = 0) :
    Calls Try.prog 13 #[.agg #[.int .i64 op, .int .i64 fn, .int .i64 dst, .int .i64 src, .bool reg, .int .i64 off, .int .u32 imm], .int .i64 too] w fun e w' => e = .returned (.tuple #[.int .u64 (wordI c dst src too imm), .int .i64 0]) ∧ Bel w w' := by
  have hw : wordI c dst src too imm = ((((c : Int) * 8 + dst) * 8 + src) * 1024 + too) * 4294967296 + imm := by unfold wordI; omega
  rw [hw]
  clear hw
  have e0 : IntKind.i64.wrap imm = imm := wrap_i64 (by omega) (by omega)
  have e1 : IntKind.i64.wrap ((c : Int) * 8) = (c : Int) * 8 := wrap_i64 (by omega) (by omega)
  have e2 : IntKind.i64.wrap ((c : Int) * 8 + dst) = (c : Int) * 8 + dst := wrap_i64 (by omega) (by omega)
  have e3 : IntKind.i64.wrap (((c : Int) * 8 + dst) * 8) = ((c : Int) * 8 + dst) * 8 := wrap_i64 (by omega) (by omega)
  have e4 : IntKind.i64.wrap (((c : Int) * 8 + dst) * 8 + src) = ((c : Int) * 8 + dst) * 8 + src := wrap_i64 (by omega) (by omega)
  have e5 : IntKind.i64.wrap ((((c : Int) * 8 + dst) * 8 + src) * 1024) = (((c : Int) * 8 + dst) * 8 + src) * 1024 := wrap_i64 (by omega) (by omega)
  have e6 : IntKind.i64.wrap ((((c : Int) * 8 + dst) * 8 + src) * 1024 + too) = (((c : Int) * 8 + dst) * 8 + src) * 1024 + too := wrap_i64 (by omega) (by omega)
  have e7 : IntKind.i64.wrap (((((c : Int) * 8 + dst) * 8 + src) * 1024 + too) * 4294967296) = ((((c : Int) * 8 + dst) * 8 + src) * 1024 + too) * 4294967296 := wrap_i64 (by omega) (by omega)
  have e8 : IntKind.i64.wrap (((((c : Int) * 8 + dst) * 8 + src) * 1024 + too) * 4294967296 + imm) = ((((c : Int) * 8 + dst) * 8 + src) * 1024 + too) * 4294967296 + imm := wrap_i64 (by omega) (by omega)
  have e9 : IntKind.u64.wrap (((((c : Int) * 8 + dst) * 8 + src) * 1024 + too) * 4294967296 + imm) = ((((c : Int) * 8 + dst) * 8 + src) * 1024 + too) * 4294967296 + imm := wrap_u64 (by omega) (by omega)
  subst h2
  have HB := Bel.refl (w.alloc (.cells #[.int .i64 op, .int .i64 fn, .int .i64 dst, .int .i64 src, .bool reg, .int .i64 off, .int .u32 imm] 24))
  go_enter Try.func13, Try.ntmps13
  go_wp2_with fail
  refine (refcode_ok _ _ _ _ _ _ _ _ hm).mono ?_
  rw [hc.out]
  rintro e w1 ⟨rfl, hb⟩
  have HB := HB.trans hb
  obtain ⟨p0, p1, p2, p3, p4, p5, p6⟩ := box7 HB
  have ne : w.heap.size < w1.heap.size := World.block_lt_of_cell? _ _ p0
  clear hb
  go_wp2_with fail
  go_ret2
  exact ⟨by simp, HB.un⟩
theorem refput_any (op fn dst src : Int) (reg : Bool) (off imm too : Int) (w : World) (hi : U32 imm) :
    Calls Try.prog 13 #[.agg #[.int .i64 op, .int .i64 fn, .int .i64 dst, .int .i64 src, .bool reg, .int .i64 off, .int .u32 imm], .int .i64 too] w fun e w' => e = .returned (.tuple #[.int .u64 (wput op fn dst src reg off imm too).1, .int .i64 (wput op fn dst src reg off imm too).2]) ∧ Bel w w' := by
  have i0 := hi.lo
  have i1 := hi.hi
  by_cases hm : mayB op fn dst src reg off imm = true
  · obtain ⟨hc4, -⟩ := code_pat hm
    obtain ⟨_, ⟨d0, d1⟩, ⟨s0, s1⟩, _⟩ := of_decide_eq_true hm
    by_cases h0 : too < 0
    · have hr : wput op fn dst src reg off imm too = (0, 1) := if_neg (by rintro ⟨_, h, _⟩; omega)
      rw [hr]
      by_cases h6 : op = 6
      · exact rput_low_6 op fn dst src reg off imm too w hm _ (Lib.hid rfl) hc4 d0 d1 s0 s1 h6 h0
      · by_cases h7 : op = 1
        · exact rput_low_1 op fn dst src reg off imm too w hm _ (Lib.hid rfl) hc4 d0 d1 s0 s1 h7 h0
        · exact rput_low_n op fn dst src reg off imm too w hm _ (Lib.hid rfl) hc4 d0 d1 s0 s1 (by simpa using h7) (by simpa using h6) h0
    · by_cases h1 : 1023 < too
      · have hr : wput op fn dst src reg off imm too = (0, 1) := if_neg (by rintro ⟨_, _, h, _⟩; omega)
        rw [hr]
        by_cases h6 : op = 6
        · exact rput_high_6 op fn dst src reg off imm too w hm _ (Lib.hid rfl) hc4 d0 d1 s0 s1 h6 h0 h1
        · by_cases h7 : op = 1
          · exact rput_high_1 op fn dst src reg off imm too w hm _ (Lib.hid rfl) hc4 d0 d1 s0 s1 h7 h0 h1
          · exact rput_high_n op fn dst src reg off imm too w hm _ (Lib.hid rfl) hc4 d0 d1 s0 s1 (by simpa using h7) (by simpa using h6) h0 h1
      · by_cases h6 : op = 6
        · have hr : wput op fn dst src reg off imm too = (wordI (codeN op fn reg) dst src too 0, 0) := by unfold wput; rw [if_pos ⟨hm, by omega, by omega, fun _ => .inr h6⟩, if_pos h6]
          rw [hr]
          exact rput_ok_6 op fn dst src reg off imm too w hm _ (Lib.hid rfl) hc4 d0 d1 s0 s1 i0 i1 h6 h0 h1
        · by_cases h7 : op = 1
          · have hr : wput op fn dst src reg off imm too = (wordI (codeN op fn reg) dst src too imm, 0) := by unfold wput; rw [if_pos ⟨hm, by omega, by omega, fun _ => .inl h7⟩, if_neg h6]
            rw [hr]
            exact rput_ok_1 op fn dst src reg off imm too w hm _ (Lib.hid rfl) hc4 d0 d1 s0 s1 i0 i1 h7 h0 h1
          · by_cases h2 : too = 0
            · have hr : wput op fn dst src reg off imm too = (wordI (codeN op fn reg) dst src too imm, 0) := by unfold wput; rw [if_pos ⟨hm, by omega, by omega, fun h => absurd h (by omega)⟩, if_neg h6]
              rw [hr]
              exact rput_ok_n op fn dst src reg off imm too w hm _ (Lib.hid rfl) hc4 d0 d1 s0 s1 i0 i1 (by simpa using h7) (by simpa using h6) h0 h1 h2
            · have hr : wput op fn dst src reg off imm too = (0, 1) := if_neg (by rintro ⟨_, _, _, h⟩; rcases h (by omega) with h | h <;> contradiction)
              rw [hr]
              exact rput_else op fn dst src reg off imm too w hm _ (Lib.hid rfl) hc4 d0 d1 s0 s1 (by simpa using h7) (by simpa using h6) h0 h1 (by simpa using h2)
  · have hm' : mayB op fn dst src reg off imm = false := by simpa using hm
    have hr : wput op fn dst src reg off imm too = (0, 1) := if_neg (by rintro ⟨h, _⟩; exact hm h)
    rw [hr]
    exact rput_no op fn dst src reg off imm too w hm'
theorem box7c {w w1 : World} {a b : Obj} {v0 v1 v2 v3 v4 v5 v6 : Value} {t : TypeId} (h : Bel (((w.alloc a).alloc b).alloc (.cells #[v0, v1, v2, v3, v4, v5, v6] t)) w1) :
    w1.cell? ⟨w.heap.size + 1 + 1, 0, none⟩ = some v0 ∧ w1.cell? ⟨w.heap.size + 1 + 1, 1, none⟩ = some v1 ∧ w1.cell? ⟨w.heap.size + 1 + 1, 2, none⟩ = some v2 ∧ w1.cell? ⟨w.heap.size + 1 + 1, 3, none⟩ = some v3 ∧ w1.cell? ⟨w.heap.size + 1 + 1, 4, none⟩ = some v4 ∧ w1.cell? ⟨w.heap.size + 1 + 1, 5, none⟩ = some v5 ∧ w1.cell? ⟨w.heap.size + 1 + 1, 6, none⟩ = some v6 := by
  have := box7 h
  simpa using this
set_option maxHeartbeats 4000000 in
set_option maxRecDepth 100000 in
theorem rg_a (x : Int) (w : World) (x0 : 0 ≤ x) (x1 : x < 11258999068426240) (c : Nat) (hc : x / 281474976710656 = c) (hr : c < 22) (v e : Int) (he : e = 0 ∨ e = 1)
    (HR : Hid (wput (0) ((c : Int) / 2) (x / 35184372088832 % 8) (x / 4398046511104 % 8) ((c : Int) % 2 == 1) 0 (x % 4294967296) (x / 4294967296 % 1024) = (v, e))) :
    Calls Try.prog 15 #[.int .u64 x] w fun e' w' => e' = .returned (.tuple (if v = x ∧ e = 0 then #[.agg #[.int .i64 (0), .int .i64 ((c : Int) / 2), .int .i64 (x / 35184372088832 % 8), .int .i64 (x / 4398046511104 % 8), .bool ((c : Int) % 2 == 1), .int .i64 0, .int .u32 (x % 4294967296)], .int .i64 (x / 4294967296 % 1024), .int .i64 0] else #[.agg #[.int .i64 0, .int .i64 0, .int .i64 0, .int .i64 0, .bool false, .int .i64 0, .int .u32 0], .int .i64 0, .int .i64 7])) ∧ Bel w w' := by
  have HB := Bel.refl (w.alloc (.cells #[.int .i64 0, .int .i64 0, .int .i64 0, .int .i64 0, .bool false, .int .i64 0, .int .u32 0] 24))
  have r1 : (c : Int) < 22 := by omega
  have y0 : ¬ 11258999068426240 ≤ x := by omega
  have y1 : IntKind.i64.wrap x = x := wrap_i64 (by omega) (by omega)
  have y2 : IntKind.u32.wrap (x % 4294967296) = x % 4294967296 := wrap_u32 (by omega) (by omega)
  have y3 : x / 4294967296 / 1024 / 64 = c := by omega
  have y4 : x / 4294967296 / 1024 % 8 = x / 4398046511104 % 8 := by omega
  have y5 : x / 4294967296 / 1024 / 8 % 8 = x / 35184372088832 % 8 := by omega
  rcases he with rfl | rfl
  · by_cases hv : v = x
    · rw [hv] at HR
      rw [if_pos ⟨hv, rfl⟩]
      clear hv
      go_enter Try.func15, Try.ntmps15
      go_wp2_with fail
      refine (refput_any _ _ _ _ _ _ _ _ _ ⟨by omega, by omega⟩).mono ?_
      rw [HR.out]
      rintro e w1 ⟨rfl, hb⟩
      have HB := ((HB.alloc _).alloc _).trans hb
      obtain ⟨q0, q1, q2, q3, q4, q5, q6⟩ := box7c hb
      obtain ⟨n0, n1, n2, n3, n4, n5, n6⟩ := box7b (((Bel.refl _).alloc _).trans hb)
      obtain ⟨p0, p1, p2, p3, p4, p5, p6⟩ := box7 HB
      have f0 := box7f HB 0 (by decide)
      have f1 := box7f HB 1 (by decide)
      have f2 := box7f HB 2 (by decide)
      have f3 := box7f HB 3 (by decide)
      have f4 := box7f HB 4 (by decide)
      have f5 := box7f HB 5 (by decide)
      have f6 := box7f HB 6 (by decide)
      clear hb
      go_wp2_with fail
      refine bodyPost_ret (v := .tuple #[.agg #[.int .i64 (0), .int .i64 ((c : Int) / 2), .int .i64 (x / 35184372088832 % 8), .int .i64 (x / 4398046511104 % 8), .bool ((c : Int) % 2 == 1), .int .i64 0, .int .u32 (x % 4294967296)], .int .i64 (x / 4294967296 % 1024), .int .i64 0]) ?_ rfl ⟨rfl, by repeat (first | (with_reducible exact HB.un) | (with_reducible refine Bel.setCell ?_ (Nat.le_refl _) _))⟩
      simp [results, Try.results15, go_sem, p0, p1, p2, p3, p4, p5, p6]
    · rw [if_neg (fun h => hv h.1)]
      have hv' : (v != x) = true := by rw [bne_iff_ne]; exact hv
      clear hv
      go_enter Try.func15, Try.ntmps15
      go_wp2_with fail
      refine (refput_any _ _ _ _ _ _ _ _ _ ⟨by omega, by omega⟩).mono ?_
      rw [HR.out]
      rintro e w1 ⟨rfl, hb⟩
      have HB := ((HB.alloc _).alloc _).trans hb
      obtain ⟨q0, q1, q2, q3, q4, q5, q6⟩ := box7c hb
      obtain ⟨n0, n1, n2, n3, n4, n5, n6⟩ := box7b (((Bel.refl _).alloc _).trans hb)
      obtain ⟨p0, p1, p2, p3, p4, p5, p6⟩ := box7 HB
      have f0 := box7f HB 0 (by decide)
      have f1 := box7f HB 1 (by decide)
      have f2 := box7f HB 2 (by decide)
      have f3 := box7f HB 3 (by decide)
      have f4 := box7f HB 4 (by decide)
      have f5 := box7f HB 5 (by decide)
      have f6 := box7f HB 6 (by decide)
      clear hb
      go_wp2_with fail
      refine bodyPost_ret (v := .tuple #[.agg #[.int .i64 0, .int .i64 0, .int .i64 0, .int .i64 0, .bool false, .int .i64 0, .int .u32 0], .int .i64 0, .int .i64 7]) ?_ rfl ⟨rfl, by repeat (first | (with_reducible exact HB.un) | (with_reducible refine Bel.setCell ?_ (Nat.le_refl _) _))⟩
      simp [results, Try.results15, go_sem, p0, p1, p2, p3, p4, p5, p6]
  · rw [if_neg (fun h => absurd h.2 (by decide))]
    go_enter Try.func15, Try.ntmps15
    go_wp2_with fail
    refine (refput_any _ _ _ _ _ _ _ _ _ ⟨by omega, by omega⟩).mono ?_
    rw [HR.out]
    rintro e w1 ⟨rfl, hb⟩
    have HB := ((HB.alloc _).alloc _).trans hb
    obtain ⟨q0, q1, q2, q3, q4, q5, q6⟩ := box7c hb
    obtain ⟨n0, n1, n2, n3, n4, n5, n6⟩ := box7b (((Bel.refl _).alloc _).trans hb)
    obtain ⟨p0, p1, p2, p3, p4, p5, p6⟩ := box7 HB
    have f0 := box7f HB 0 (by decide)
    have f1 := box7f HB 1 (by decide)
    have f2 := box7f HB 2 (by decide)
    have f3 := box7f HB 3 (by decide)
    have f4 := box7f HB 4 (by decide)
    have f5 := box7f HB 5 (by decide)
    have f6 := box7f HB 6 (by decide)
    clear hb
    go_wp2_with fail
    refine bodyPost_ret (v := .tuple #[.agg #[.int .i64 0, .int .i64 0, .int .i64 0, .int .i64 0, .bool false, .int .i64 0, .int .u32 0], .int .i64 0, .int .i64 7]) ?_ rfl ⟨rfl, by repeat (first | (with_reducible exact HB.un) | (with_reducible refine Bel.setCell ?_ (Nat.le_refl _) _))⟩
    simp [results, Try.results15, go_sem, p0, p1, p2, p3, p4, p5, p6]
set_option maxHeartbeats 4000000 in
set_option maxRecDepth 100000 in
theorem rg_b (x : Int) (w : World) (x0 : 0 ≤ x) (x1 : x < 11258999068426240) (c : Nat) (hc : x / 281474976710656 = c) (hr : c = 22) (v e : Int) (he : e = 0 ∨ e = 1)
    (HR : Hid (wput (1) (0) (x / 35184372088832 % 8) (x / 4398046511104 % 8) (false) 0 (x % 4294967296) (x / 4294967296 % 1024) = (v, e))) :
    Calls Try.prog 15 #[.int .u64 x] w fun e' w' => e' = .returned (.tuple (if v = x ∧ e = 0 then #[.agg #[.int .i64 (1), .int .i64 (0), .int .i64 (x / 35184372088832 % 8), .int .i64 (x / 4398046511104 % 8), .bool (false), .int .i64 0, .int .u32 (x % 4294967296)], .int .i64 (x / 4294967296 % 1024), .int .i64 0] else #[.agg #[.int .i64 0, .int .i64 0, .int .i64 0, .int .i64 0, .bool false, .int .i64 0, .int .u32 0], .int .i64 0, .int .i64 7])) ∧ Bel w w' := by
  have HB := Bel.refl (w.alloc (.cells #[.int .i64 0, .int .i64 0, .int .i64 0, .int .i64 0, .bool false, .int .i64 0, .int .u32 0] 24))
  have r1 : ¬ (c : Int) < 22 := by omega
  have r2 : ((c : Int) == 22) = true := by rw [beq_iff_eq]; omega
  clear hr
  have y0 : ¬ 11258999068426240 ≤ x := by omega
  have y1 : IntKind.i64.wrap x = x := wrap_i64 (by omega) (by omega)
  have y2 : IntKind.u32.wrap (x % 4294967296) = x % 4294967296 := wrap_u32 (by omega) (by omega)
  have y3 : x / 4294967296 / 1024 / 64 = c := by omega
  have y4 : x / 4294967296 / 1024 % 8 = x / 4398046511104 % 8 := by omega
  have y5 : x / 4294967296 / 1024 / 8 % 8 = x / 35184372088832 % 8 := by omega
  rcases he with rfl | rfl
  · by_cases hv : v = x
    · rw [hv] at HR
      rw [if_pos ⟨hv, rfl⟩]
      clear hv
      go_enter Try.func15, Try.ntmps15
      go_wp2_with fail
      refine (refput_any _ _ _ _ _ _ _ _ _ ⟨by omega, by omega⟩).mono ?_
      rw [HR.out]
      rintro e w1 ⟨rfl, hb⟩
      have HB := ((HB.alloc _).alloc _).trans hb
      obtain ⟨q0, q1, q2, q3, q4, q5, q6⟩ := box7c hb
      obtain ⟨n0, n1, n2, n3, n4, n5, n6⟩ := box7b (((Bel.refl _).alloc _).trans hb)
      obtain ⟨p0, p1, p2, p3, p4, p5, p6⟩ := box7 HB
      have f0 := box7f HB 0 (by decide)
      have f1 := box7f HB 1 (by decide)
      have f2 := box7f HB 2 (by decide)
      have f3 := box7f HB 3 (by decide)
      have f4 := box7f HB 4 (by decide)
      have f5 := box7f HB 5 (by decide)
      have f6 := box7f HB 6 (by decide)
      clear hb
      go_wp2_with fail
      refine bodyPost_ret (v := .tuple #[.agg #[.int .i64 (1), .int .i64 (0), .int .i64 (x / 35184372088832 % 8), .int .i64 (x / 4398046511104 % 8), .bool (false), .int .i64 0, .int .u32 (x % 4294967296)], .int .i64 (x / 4294967296 % 1024), .int .i64 0]) ?_ rfl ⟨rfl, by repeat (first | (with_reducible exact HB.un) | (with_reducible refine Bel.setCell ?_ (Nat.le_refl _) _))⟩
      simp [results, Try.results15, go_sem, p0, p1, p2, p3, p4, p5, p6]
    · rw [if_neg (fun h => hv h.1)]
      have hv' : (v != x) = true := by rw [bne_iff_ne]; exact hv
      clear hv
      go_enter Try.func15, Try.ntmps15
      go_wp2_with fail
      refine (refput_any _ _ _ _ _ _ _ _ _ ⟨by omega, by omega⟩).mono ?_
      rw [HR.out]
      rintro e w1 ⟨rfl, hb⟩
      have HB := ((HB.alloc _).alloc _).trans hb
      obtain ⟨q0, q1, q2, q3, q4, q5, q6⟩ := box7c hb
      obtain ⟨n0, n1, n2, n3, n4, n5, n6⟩ := box7b (((Bel.refl _).alloc _).trans hb)
      obtain ⟨p0, p1, p2, p3, p4, p5, p6⟩ := box7 HB
      have f0 := box7f HB 0 (by decide)
      have f1 := box7f HB 1 (by decide)
      have f2 := box7f HB 2 (by decide)
      have f3 := box7f HB 3 (by decide)
      have f4 := box7f HB 4 (by decide)
      have f5 := box7f HB 5 (by decide)
      have f6 := box7f HB 6 (by decide)
      clear hb
      go_wp2_with fail
      refine bodyPost_ret (v := .tuple #[.agg #[.int .i64 0, .int .i64 0, .int .i64 0, .int .i64 0, .bool false, .int .i64 0, .int .u32 0], .int .i64 0, .int .i64 7]) ?_ rfl ⟨rfl, by repeat (first | (with_reducible exact HB.un) | (with_reducible refine Bel.setCell ?_ (Nat.le_refl _) _))⟩
      simp [results, Try.results15, go_sem, p0, p1, p2, p3, p4, p5, p6]
  · rw [if_neg (fun h => absurd h.2 (by decide))]
    go_enter Try.func15, Try.ntmps15
    go_wp2_with fail
    refine (refput_any _ _ _ _ _ _ _ _ _ ⟨by omega, by omega⟩).mono ?_
    rw [HR.out]
    rintro e w1 ⟨rfl, hb⟩
    have HB := ((HB.alloc _).alloc _).trans hb
    obtain ⟨q0, q1, q2, q3, q4, q5, q6⟩ := box7c hb
    obtain ⟨n0, n1, n2, n3, n4, n5, n6⟩ := box7b (((Bel.refl _).alloc _).trans hb)
    obtain ⟨p0, p1, p2, p3, p4, p5, p6⟩ := box7 HB
    have f0 := box7f HB 0 (by decide)
    have f1 := box7f HB 1 (by decide)
    have f2 := box7f HB 2 (by decide)
    have f3 := box7f HB 3 (by decide)
    have f4 := box7f HB 4 (by decide)
    have f5 := box7f HB 5 (by decide)
    have f6 := box7f HB 6 (by decide)
    clear hb
    go_wp2_with fail
    refine bodyPost_ret (v := .tuple #[.agg #[.int .i64 0, .int .i64 0, .int .i64 0, .int .i64 0, .bool false, .int .i64 0, .int .u32 0], .int .i64 0, .int .i64 7]) ?_ rfl ⟨rfl, by repeat (first | (with_reducible exact HB.un) | (with_reducible refine Bel.setCell ?_ (Nat.le_refl _) _))⟩
    simp [results, Try.results15, go_sem, p0, p1, p2, p3, p4, p5, p6]
set_option maxHeartbeats 4000000 in
set_option maxRecDepth 100000 in
theorem rg_c (x : Int) (w : World) (x0 : 0 ≤ x) (x1 : x < 11258999068426240) (c : Nat) (hc : x / 281474976710656 = c) (hr : 22 < c ∧ c < 31) (v e : Int) (he : e = 0 ∨ e = 1)
    (HR : Hid (wput (1) (((c : Int) - 21) / 2) (x / 35184372088832 % 8) (x / 4398046511104 % 8) ((c : Int) % 2 == 0) 0 (x % 4294967296) (x / 4294967296 % 1024) = (v, e))) :
    Calls Try.prog 15 #[.int .u64 x] w fun e' w' => e' = .returned (.tuple (if v = x ∧ e = 0 then #[.agg #[.int .i64 (1), .int .i64 (((c : Int) - 21) / 2), .int .i64 (x / 35184372088832 % 8), .int .i64 (x / 4398046511104 % 8), .bool ((c : Int) % 2 == 0), .int .i64 0, .int .u32 (x % 4294967296)], .int .i64 (x / 4294967296 % 1024), .int .i64 0] else #[.agg #[.int .i64 0, .int .i64 0, .int .i64 0, .int .i64 0, .bool false, .int .i64 0, .int .u32 0], .int .i64 0, .int .i64 7])) ∧ Bel w w' := by
  have HB := Bel.refl (w.alloc (.cells #[.int .i64 0, .int .i64 0, .int .i64 0, .int .i64 0, .bool false, .int .i64 0, .int .u32 0] 24))
  have r1 : ¬ (c : Int) < 22 := by omega
  have r2 : ((c : Int) == 22) = false := by rw [beq_eq_false_iff_ne]; omega
  have r3 : (c : Int) < 31 := by omega
  have r4 : IntKind.i64.wrap ((c : Int) - 21) = (c : Int) - 21 := wrap_i64 (by omega) (by omega)
  have r5 : 0 ≤ (c : Int) - 21 := by omega
  have r6 : IntKind.i64.wrap (((c : Int) - 21) / 2) = ((c : Int) - 21) / 2 := wrap_i64 (by omega) (by omega)
  have r7 : ((c : Int) - 21).tdiv 2 = ((c : Int) - 21) / 2 := Int.tdiv_eq_ediv_of_nonneg r5
  have y0 : ¬ 11258999068426240 ≤ x := by omega
  have y1 : IntKind.i64.wrap x = x := wrap_i64 (by omega) (by omega)
  have y2 : IntKind.u32.wrap (x % 4294967296) = x % 4294967296 := wrap_u32 (by omega) (by omega)
  have y3 : x / 4294967296 / 1024 / 64 = c := by omega
  have y4 : x / 4294967296 / 1024 % 8 = x / 4398046511104 % 8 := by omega
  have y5 : x / 4294967296 / 1024 / 8 % 8 = x / 35184372088832 % 8 := by omega
  rcases he with rfl | rfl
  · by_cases hv : v = x
    · rw [hv] at HR
      rw [if_pos ⟨hv, rfl⟩]
      clear hv
      go_enter Try.func15, Try.ntmps15
      go_wp2_with fail
      refine (refput_any _ _ _ _ _ _ _ _ _ ⟨by omega, by omega⟩).mono ?_
      rw [HR.out]
      rintro e w1 ⟨rfl, hb⟩
      have HB := ((HB.alloc _).alloc _).trans hb
      obtain ⟨q0, q1, q2, q3, q4, q5, q6⟩ := box7c hb
      obtain ⟨n0, n1, n2, n3, n4, n5, n6⟩ := box7b (((Bel.refl _).alloc _).trans hb)
      obtain ⟨p0, p1, p2, p3, p4, p5, p6⟩ := box7 HB
      have f0 := box7f HB 0 (by decide)
      have f1 := box7f HB 1 (by decide)
      have f2 := box7f HB 2 (by decide)
      have f3 := box7f HB 3 (by decide)
      have f4 := box7f HB 4 (by decide)
      have f5 := box7f HB 5 (by decide)
      have f6 := box7f HB 6 (by decide)
      clear hb
      go_wp2_with fail
      refine bodyPost_ret (v := .tuple #[.agg #[.int .i64 (1), .int .i64 (((c : Int) - 21) / 2), .int .i64 (x / 35184372088832 % 8), .int .i64 (x / 4398046511104 % 8), .bool ((c : Int) % 2 == 0), .int .i64 0, .int .u32 (x % 4294967296)], .int .i64 (x / 4294967296 % 1024), .int .i64 0]) ?_ rfl ⟨rfl, by repeat (first | (with_reducible exact HB.un) | (with_reducible refine Bel.setCell ?_ (Nat.le_refl _) _))⟩
      simp [results, Try.results15, go_sem, p0, p1, p2, p3, p4, p5, p6]
    · rw [if_neg (fun h => hv h.1)]
      have hv' : (v != x) = true := by rw [bne_iff_ne]; exact hv
      clear hv
      go_enter Try.func15, Try.ntmps15
      go_wp2_with fail
      refine (refput_any _ _ _ _ _ _ _ _ _ ⟨by omega, by omega⟩).mono ?_
      rw [HR.out]
      rintro e w1 ⟨rfl, hb⟩
      have HB := ((HB.alloc _).alloc _).trans hb
      obtain ⟨q0, q1, q2, q3, q4, q5, q6⟩ := box7c hb
      obtain ⟨n0, n1, n2, n3, n4, n5, n6⟩ := box7b (((Bel.refl _).alloc _).trans hb)
      obtain ⟨p0, p1, p2, p3, p4, p5, p6⟩ := box7 HB
      have f0 := box7f HB 0 (by decide)
      have f1 := box7f HB 1 (by decide)
      have f2 := box7f HB 2 (by decide)
      have f3 := box7f HB 3 (by decide)
      have f4 := box7f HB 4 (by decide)
      have f5 := box7f HB 5 (by decide)
      have f6 := box7f HB 6 (by decide)
      clear hb
      go_wp2_with fail
      refine bodyPost_ret (v := .tuple #[.agg #[.int .i64 0, .int .i64 0, .int .i64 0, .int .i64 0, .bool false, .int .i64 0, .int .u32 0], .int .i64 0, .int .i64 7]) ?_ rfl ⟨rfl, by repeat (first | (with_reducible exact HB.un) | (with_reducible refine Bel.setCell ?_ (Nat.le_refl _) _))⟩
      simp [results, Try.results15, go_sem, p0, p1, p2, p3, p4, p5, p6]
  · rw [if_neg (fun h => absurd h.2 (by decide))]
    go_enter Try.func15, Try.ntmps15
    go_wp2_with fail
    refine (refput_any _ _ _ _ _ _ _ _ _ ⟨by omega, by omega⟩).mono ?_
    rw [HR.out]
    rintro e w1 ⟨rfl, hb⟩
    have HB := ((HB.alloc _).alloc _).trans hb
    obtain ⟨q0, q1, q2, q3, q4, q5, q6⟩ := box7c hb
    obtain ⟨n0, n1, n2, n3, n4, n5, n6⟩ := box7b (((Bel.refl _).alloc _).trans hb)
    obtain ⟨p0, p1, p2, p3, p4, p5, p6⟩ := box7 HB
    have f0 := box7f HB 0 (by decide)
    have f1 := box7f HB 1 (by decide)
    have f2 := box7f HB 2 (by decide)
    have f3 := box7f HB 3 (by decide)
    have f4 := box7f HB 4 (by decide)
    have f5 := box7f HB 5 (by decide)
    have f6 := box7f HB 6 (by decide)
    clear hb
    go_wp2_with fail
    refine bodyPost_ret (v := .tuple #[.agg #[.int .i64 0, .int .i64 0, .int .i64 0, .int .i64 0, .bool false, .int .i64 0, .int .u32 0], .int .i64 0, .int .i64 7]) ?_ rfl ⟨rfl, by repeat (first | (with_reducible exact HB.un) | (with_reducible refine Bel.setCell ?_ (Nat.le_refl _) _))⟩
    simp [results, Try.results15, go_sem, p0, p1, p2, p3, p4, p5, p6]
set_option maxHeartbeats 4000000 in
set_option maxRecDepth 100000 in
theorem rg_d (x : Int) (w : World) (x0 : 0 ≤ x) (x1 : x < 11258999068426240) (c : Nat) (hc : x / 281474976710656 = c) (hr : 31 ≤ c ∧ c < 37) (v e : Int) (he : e = 0 ∨ e = 1)
    (HR : Hid (wput (2 + ((c : Int) - 31) / 2) (0) (x / 35184372088832 % 8) (x / 4398046511104 % 8) ((c : Int) % 2 == 0) 0 (x % 4294967296) (x / 4294967296 % 1024) = (v, e))) :
    Calls Try.prog 15 #[.int .u64 x] w fun e' w' => e' = .returned (.tuple (if v = x ∧ e = 0 then #[.agg #[.int .i64 (2 + ((c : Int) - 31) / 2), .int .i64 (0), .int .i64 (x / 35184372088832 % 8), .int .i64 (x / 4398046511104 % 8), .bool ((c : Int) % 2 == 0), .int .i64 0, .int .u32 (x % 4294967296)], .int .i64 (x / 4294967296 % 1024), .int .i64 0] else #[.agg #[.int .i64 0, .int .i64 0, .int .i64 0, .int .i64 0, .bool false, .int .i64 0, .int .u32 0], .int .i64 0, .int .i64 7])) ∧ Bel w w' := by
  have HB := Bel.refl (w.alloc (.cells #[.int .i64 0, .int .i64 0, .int .i64 0, .int .i64 0, .bool false, .int .i64 0, .int .u32 0] 24))
  have r1 : ¬ (c : Int) < 22 := by omega
  have r2 : ((c : Int) == 22) = false := by rw [beq_eq_false_iff_ne]; omega
  have r3 : ¬ (c : Int) < 31 := by omega
  have r3' : (c : Int) < 37 := by omega
  have r4 : IntKind.i64.wrap ((c : Int) - 31) = (c : Int) - 31 := wrap_i64 (by omega) (by omega)
  have r5 : 0 ≤ (c : Int) - 31 := by omega
  have r6 : IntKind.i64.wrap (((c : Int) - 31) / 2) = ((c : Int) - 31) / 2 := wrap_i64 (by omega) (by omega)
  have r7 : ((c : Int) - 31).tdiv 2 = ((c : Int) - 31) / 2 := Int.tdiv_eq_ediv_of_nonneg r5
  have r8 : IntKind.i64.wrap (2 + ((c : Int) - 31) / 2) = 2 + ((c : Int) - 31) / 2 := wrap_i64 (by omega) (by omega)
  have y0 : ¬ 11258999068426240 ≤ x := by omega
  have y1 : IntKind.i64.wrap x = x := wrap_i64 (by omega) (by omega)
  have y2 : IntKind.u32.wrap (x % 4294967296) = x % 4294967296 := wrap_u32 (by omega) (by omega)
  have y3 : x / 4294967296 / 1024 / 64 = c := by omega
  have y4 : x / 4294967296 / 1024 % 8 = x / 4398046511104 % 8 := by omega
  have y5 : x / 4294967296 / 1024 / 8 % 8 = x / 35184372088832 % 8 := by omega
  rcases he with rfl | rfl
  · by_cases hv : v = x
    · rw [hv] at HR
      rw [if_pos ⟨hv, rfl⟩]
      clear hv
      go_enter Try.func15, Try.ntmps15
      go_wp2_with fail
      refine (refput_any _ _ _ _ _ _ _ _ _ ⟨by omega, by omega⟩).mono ?_
      rw [HR.out]
      rintro e w1 ⟨rfl, hb⟩
      have HB := ((HB.alloc _).alloc _).trans hb
      obtain ⟨q0, q1, q2, q3, q4, q5, q6⟩ := box7c hb
      obtain ⟨n0, n1, n2, n3, n4, n5, n6⟩ := box7b (((Bel.refl _).alloc _).trans hb)
      obtain ⟨p0, p1, p2, p3, p4, p5, p6⟩ := box7 HB
      have f0 := box7f HB 0 (by decide)
      have f1 := box7f HB 1 (by decide)
      have f2 := box7f HB 2 (by decide)
      have f3 := box7f HB 3 (by decide)
      have f4 := box7f HB 4 (by decide)
      have f5 := box7f HB 5 (by decide)
      have f6 := box7f HB 6 (by decide)
      clear hb
      go_wp2_with fail
      refine bodyPost_ret (v := .tuple #[.agg #[.int .i64 (2 + ((c : Int) - 31) / 2), .int .i64 (0), .int .i64 (x / 35184372088832 % 8), .int .i64 (x / 4398046511104 % 8), .bool ((c : Int) % 2 == 0), .int .i64 0, .int .u32 (x % 4294967296)], .int .i64 (x / 4294967296 % 1024), .int .i64 0]) ?_ rfl ⟨rfl, by repeat (first | (with_reducible exact HB.un) | (with_reducible refine Bel.setCell ?_ (Nat.le_refl _) _))⟩
      simp [results, Try.results15, go_sem, p0, p1, p2, p3, p4, p5, p6]
    · rw [if_neg (fun h => hv h.1)]
      have hv' : (v != x) = true := by rw [bne_iff_ne]; exact hv
      clear hv
      go_enter Try.func15, Try.ntmps15
      go_wp2_with fail
      refine (refput_any _ _ _ _ _ _ _ _ _ ⟨by omega, by omega⟩).mono ?_
      rw [HR.out]
      rintro e w1 ⟨rfl, hb⟩
      have HB := ((HB.alloc _).alloc _).trans hb
      obtain ⟨q0, q1, q2, q3, q4, q5, q6⟩ := box7c hb
      obtain ⟨n0, n1, n2, n3, n4, n5, n6⟩ := box7b (((Bel.refl _).alloc _).trans hb)
      obtain ⟨p0, p1, p2, p3, p4, p5, p6⟩ := box7 HB
      have f0 := box7f HB 0 (by decide)
      have f1 := box7f HB 1 (by decide)
      have f2 := box7f HB 2 (by decide)
      have f3 := box7f HB 3 (by decide)
      have f4 := box7f HB 4 (by decide)
      have f5 := box7f HB 5 (by decide)
      have f6 := box7f HB 6 (by decide)
      clear hb
      go_wp2_with fail
      refine bodyPost_ret (v := .tuple #[.agg #[.int .i64 0, .int .i64 0, .int .i64 0, .int .i64 0, .bool false, .int .i64 0, .int .u32 0], .int .i64 0, .int .i64 7]) ?_ rfl ⟨rfl, by repeat (first | (with_reducible exact HB.un) | (with_reducible refine Bel.setCell ?_ (Nat.le_refl _) _))⟩
      simp [results, Try.results15, go_sem, p0, p1, p2, p3, p4, p5, p6]
  · rw [if_neg (fun h => absurd h.2 (by decide))]
    go_enter Try.func15, Try.ntmps15
    go_wp2_with fail
    refine (refput_any _ _ _ _ _ _ _ _ _ ⟨by omega, by omega⟩).mono ?_
    rw [HR.out]
    rintro e w1 ⟨rfl, hb⟩
    have HB := ((HB.alloc _).alloc _).trans hb
    obtain ⟨q0, q1, q2, q3, q4, q5, q6⟩ := box7c hb
    obtain ⟨n0, n1, n2, n3, n4, n5, n6⟩ := box7b (((Bel.refl _).alloc _).trans hb)
    obtain ⟨p0, p1, p2, p3, p4, p5, p6⟩ := box7 HB
    have f0 := box7f HB 0 (by decide)
    have f1 := box7f HB 1 (by decide)
    have f2 := box7f HB 2 (by decide)
    have f3 := box7f HB 3 (by decide)
    have f4 := box7f HB 4 (by decide)
    have f5 := box7f HB 5 (by decide)
    have f6 := box7f HB 6 (by decide)
    clear hb
    go_wp2_with fail
    refine bodyPost_ret (v := .tuple #[.agg #[.int .i64 0, .int .i64 0, .int .i64 0, .int .i64 0, .bool false, .int .i64 0, .int .u32 0], .int .i64 0, .int .i64 7]) ?_ rfl ⟨rfl, by repeat (first | (with_reducible exact HB.un) | (with_reducible refine Bel.setCell ?_ (Nat.le_refl _) _))⟩
    simp [results, Try.results15, go_sem, p0, p1, p2, p3, p4, p5, p6]
set_option maxHeartbeats 4000000 in
set_option maxRecDepth 100000 in
theorem rg_e (x : Int) (w : World) (x0 : 0 ≤ x) (x1 : x < 11258999068426240) (c : Nat) (hc : x / 281474976710656 = c) (hr : 37 ≤ c ∧ c < 40) (v e : Int) (he : e = 0 ∨ e = 1)
    (HR : Hid (wput (5 + (c : Int) - 37) (0) (x / 35184372088832 % 8) (x / 4398046511104 % 8) (false) 0 (x % 4294967296) (x / 4294967296 % 1024) = (v, e))) :
    Calls Try.prog 15 #[.int .u64 x] w fun e' w' => e' = .returned (.tuple (if v = x ∧ e = 0 then #[.agg #[.int .i64 (5 + (c : Int) - 37), .int .i64 (0), .int .i64 (x / 35184372088832 % 8), .int .i64 (x / 4398046511104 % 8), .bool (false), .int .i64 0, .int .u32 (x % 4294967296)], .int .i64 (x / 4294967296 % 1024), .int .i64 0] else #[.agg #[.int .i64 0, .int .i64 0, .int .i64 0, .int .i64 0, .bool false, .int .i64 0, .int .u32 0], .int .i64 0, .int .i64 7])) ∧ Bel w w' := by
  have HB := Bel.refl (w.alloc (.cells #[.int .i64 0, .int .i64 0, .int .i64 0, .int .i64 0, .bool false, .int .i64 0, .int .u32 0] 24))
  have r1 : ¬ (c : Int) < 22 := by omega
  have r2 : ((c : Int) == 22) = false := by rw [beq_eq_false_iff_ne]; omega
  have r3 : ¬ (c : Int) < 31 := by omega
  have r3' : ¬ (c : Int) < 37 := by omega
  have r4 : IntKind.i64.wrap (5 + (c : Int)) = 5 + (c : Int) := wrap_i64 (by omega) (by omega)
  have r5 : IntKind.i64.wrap (5 + (c : Int) - 37) = 5 + (c : Int) - 37 := wrap_i64 (by omega) (by omega)
  have y0 : ¬ 11258999068426240 ≤ x := by omega
  have y1 : IntKind.i64.wrap x = x := wrap_i64 (by omega) (by omega)
  have y2 : IntKind.u32.wrap (x % 4294967296) = x % 4294967296 := wrap_u32 (by omega) (by omega)
  have y3 : x / 4294967296 / 1024 / 64 = c := by omega
  have y4 : x / 4294967296 / 1024 % 8 = x / 4398046511104 % 8 := by omega
  have y5 : x / 4294967296 / 1024 / 8 % 8 = x / 35184372088832 % 8 := by omega
  rcases he with rfl | rfl
  · by_cases hv : v = x
    · rw [hv] at HR
      rw [if_pos ⟨hv, rfl⟩]
      clear hv
      go_enter Try.func15, Try.ntmps15
      go_wp2_with fail
      refine (refput_any _ _ _ _ _ _ _ _ _ ⟨by omega, by omega⟩).mono ?_
      rw [HR.out]
      rintro e w1 ⟨rfl, hb⟩
      have HB := ((HB.alloc _).alloc _).trans hb
      obtain ⟨q0, q1, q2, q3, q4, q5, q6⟩ := box7c hb
      obtain ⟨n0, n1, n2, n3, n4, n5, n6⟩ := box7b (((Bel.refl _).alloc _).trans hb)
      obtain ⟨p0, p1, p2, p3, p4, p5, p6⟩ := box7 HB
      have f0 := box7f HB 0 (by decide)
      have f1 := box7f HB 1 (by decide)
      have f2 := box7f HB 2 (by decide)
      have f3 := box7f HB 3 (by decide)
      have f4 := box7f HB 4 (by decide)
      have f5 := box7f HB 5 (by decide)
      have f6 := box7f HB 6 (by decide)
      clear hb
      go_wp2_with fail
      refine bodyPost_ret (v := .tuple #[.agg #[.int .i64 (5 + (c : Int) - 37), .int .i64 (0), .int .i64 (x / 35184372088832 % 8), .int .i64 (x / 4398046511104 % 8), .bool (false), .int .i64 0, .int .u32 (x % 4294967296)], .int .i64 (x / 4294967296 % 1024), .int .i64 0]) ?_ rfl ⟨rfl, by repeat (first | (with_reducible exact HB.un) | (with_reducible refine Bel.setCell ?_ (Nat.le_refl _) _))⟩
      simp [results, Try.results15, go_sem, p0, p1, p2, p3, p4, p5, p6]
    · rw [if_neg (fun h => hv h.1)]
      have hv' : (v != x) = true := by rw [bne_iff_ne]; exact hv
      clear hv
      go_enter Try.func15, Try.ntmps15
      go_wp2_with fail
      refine (refput_any _ _ _ _ _ _ _ _ _ ⟨by omega, by omega⟩).mono ?_
      rw [HR.out]
      rintro e w1 ⟨rfl, hb⟩
      have HB := ((HB.alloc _).alloc _).trans hb
      obtain ⟨q0, q1, q2, q3, q4, q5, q6⟩ := box7c hb
      obtain ⟨n0, n1, n2, n3, n4, n5, n6⟩ := box7b (((Bel.refl _).alloc _).trans hb)
      obtain ⟨p0, p1, p2, p3, p4, p5, p6⟩ := box7 HB
      have f0 := box7f HB 0 (by decide)
      have f1 := box7f HB 1 (by decide)
      have f2 := box7f HB 2 (by decide)
      have f3 := box7f HB 3 (by decide)
      have f4 := box7f HB 4 (by decide)
      have f5 := box7f HB 5 (by decide)
      have f6 := box7f HB 6 (by decide)
      clear hb
      go_wp2_with fail
      refine bodyPost_ret (v := .tuple #[.agg #[.int .i64 0, .int .i64 0, .int .i64 0, .int .i64 0, .bool false, .int .i64 0, .int .u32 0], .int .i64 0, .int .i64 7]) ?_ rfl ⟨rfl, by repeat (first | (with_reducible exact HB.un) | (with_reducible refine Bel.setCell ?_ (Nat.le_refl _) _))⟩
      simp [results, Try.results15, go_sem, p0, p1, p2, p3, p4, p5, p6]
  · rw [if_neg (fun h => absurd h.2 (by decide))]
    go_enter Try.func15, Try.ntmps15
    go_wp2_with fail
    refine (refput_any _ _ _ _ _ _ _ _ _ ⟨by omega, by omega⟩).mono ?_
    rw [HR.out]
    rintro e w1 ⟨rfl, hb⟩
    have HB := ((HB.alloc _).alloc _).trans hb
    obtain ⟨q0, q1, q2, q3, q4, q5, q6⟩ := box7c hb
    obtain ⟨n0, n1, n2, n3, n4, n5, n6⟩ := box7b (((Bel.refl _).alloc _).trans hb)
    obtain ⟨p0, p1, p2, p3, p4, p5, p6⟩ := box7 HB
    have f0 := box7f HB 0 (by decide)
    have f1 := box7f HB 1 (by decide)
    have f2 := box7f HB 2 (by decide)
    have f3 := box7f HB 3 (by decide)
    have f4 := box7f HB 4 (by decide)
    have f5 := box7f HB 5 (by decide)
    have f6 := box7f HB 6 (by decide)
    clear hb
    go_wp2_with fail
    refine bodyPost_ret (v := .tuple #[.agg #[.int .i64 0, .int .i64 0, .int .i64 0, .int .i64 0, .bool false, .int .i64 0, .int .u32 0], .int .i64 0, .int .i64 7]) ?_ rfl ⟨rfl, by repeat (first | (with_reducible exact HB.un) | (with_reducible refine Bel.setCell ?_ (Nat.le_refl _) _))⟩
    simp [results, Try.results15, go_sem, p0, p1, p2, p3, p4, p5, p6]
set_option maxHeartbeats 4000000 in
set_option maxRecDepth 100000 in
theorem rg_high (x : Int) (w : World) (x0 : 0 ≤ x) (x1 : 11258999068426240 ≤ x) :
    Calls Try.prog 15 #[.int .u64 x] w fun e' w' => e' = .returned (.tuple #[.agg #[.int .i64 0, .int .i64 0, .int .i64 0, .int .i64 0, .bool false, .int .i64 0, .int .u32 0], .int .i64 0, .int .i64 7]) ∧ Bel w w' := by
  go_enter Try.func15, Try.ntmps15
  go_wp2_with fail
  refine bodyPost_ret (v := .tuple #[.agg #[.int .i64 0, .int .i64 0, .int .i64 0, .int .i64 0, .bool false, .int .i64 0, .int .u32 0], .int .i64 0, .int .i64 7]) ?_ rfl ⟨rfl, by repeat (first | (with_reducible exact Bel.refl _) | (with_reducible refine Bel.setCell ?_ (by simp) _) | (with_reducible refine Bel.alloc ?_ _))⟩
  simp [results, Try.results15, go_sem]
theorem pat_a : ∀ c : Fin 40, c.val < 22 → patD c.val = (0, (c.val : Int) / 2, (c.val : Int) % 2 == 1) := by decide +kernel
theorem pat_b : patD 22 = (1, 0, false) := by decide +kernel
theorem pat_c : ∀ c : Fin 40, 22 < c.val ∧ c.val < 31 → patD c.val = (1, ((c.val : Int) - 21) / 2, (c.val : Int) % 2 == 0) := by decide +kernel
theorem pat_d : ∀ c : Fin 40, 31 ≤ c.val ∧ c.val < 37 → patD c.val = (2 + ((c.val : Int) - 31) / 2, 0, (c.val : Int) % 2 == 0) := by decide +kernel
theorem pat_e : ∀ c : Fin 40, 37 ≤ c.val ∧ c.val < 40 → patD c.val = (5 + (c.val : Int) - 37, 0, false) := by decide +kernel
theorem refget_any (x : Int) (w : World) (x0 : 0 ≤ x) :
    Calls Try.prog 15 #[.int .u64 x] w fun e w' => e = .returned (.tuple #[(wget x).1.val, .int .i64 (wget x).2.1, .int .i64 (wget x).2.2]) ∧ Bel w w' := by
  by_cases hx : 11258999068426240 ≤ x
  · have hr : wget x = (⟨0, 0, 0, 0, false, 0, 0⟩, 0, 7) := if_neg (by rintro ⟨h, _⟩; omega)
    rw [hr]
    exact rg_high x w x0 hx
  · have x1 : x < 11258999068426240 := by omega
    obtain ⟨c, hc⟩ : ∃ c : Nat, x / 281474976710656 = c := ⟨(x / 281474976710656).toNat, by omega⟩
    have hc4 : c < 40 := by omega
    have hcn : (x / 281474976710656).toNat = c := by omega
    have key : ∀ (p : Int × Int × Bool), patD c = p → ∀ v e : Int, (e = 0 ∨ e = 1) → wput p.1 p.2.1 (x / 35184372088832 % 8) (x / 4398046511104 % 8) p.2.2 0 (x % 4294967296) (x / 4294967296 % 1024) = (v, e) →
        (if v = x ∧ e = 0 then #[Value.agg #[.int .i64 p.1, .int .i64 p.2.1, .int .i64 (x / 35184372088832 % 8), .int .i64 (x / 4398046511104 % 8), .bool p.2.2, .int .i64 0, .int .u32 (x % 4294967296)], .int .i64 (x / 4294967296 % 1024), .int .i64 0] else #[.agg #[.int .i64 0, .int .i64 0, .int .i64 0, .int .i64 0, .bool false, .int .i64 0, .int .u32 0], .int .i64 0, .int .i64 7]) = #[(wget x).1.val, .int .i64 (wget x).2.1, .int .i64 (wget x).2.2] := by
      intro p hp v e he hw
      unfold wget
      have hI : wgetI x = ⟨p.1, p.2.1, x / 35184372088832 % 8, x / 4398046511104 % 8, p.2.2, 0, x % 4294967296⟩ := by unfold wgetI; rw [hcn, hp]
      by_cases h : v = x ∧ e = 0
      · rw [if_pos h, if_pos ⟨by omega, by rw [hI]; unfold wputD; rw [hw, h.1, h.2]⟩, hI]
        rfl
      · rw [if_neg h, if_neg (by
          rintro ⟨_, hk⟩
          rw [hI] at hk
          unfold wputD at hk
          rw [hw] at hk
          exact h (Prod.mk.inj hk))]
        rfl
    have two : ∀ p : Int × Int × Bool, ∃ v e : Int, (e = 0 ∨ e = 1) ∧ wput p.1 p.2.1 (x / 35184372088832 % 8) (x / 4398046511104 % 8) p.2.2 0 (x % 4294967296) (x / 4294967296 % 1024) = (v, e) := by
      intro p
      obtain ⟨v, e, h⟩ : ∃ v e, wput p.1 p.2.1 (x / 35184372088832 % 8) (x / 4398046511104 % 8) p.2.2 0 (x % 4294967296) (x / 4294967296 % 1024) = (v, e) := ⟨_, _, rfl⟩
      refine ⟨v, e, ?_, h⟩
      rcases wput_ok2 h with ⟨h, _⟩ | ⟨h, _⟩
      · exact .inl h
      · exact .inr h
    have hr : c < 22 ∨ c = 22 ∨ (22 < c ∧ c < 31) ∨ (31 ≤ c ∧ c < 37) ∨ (37 ≤ c ∧ c < 40) := by omega
    rcases hr with hr | hr | hr | hr | hr
    · obtain ⟨v, e, he, hw⟩ := two ((0), ((c : Int) / 2), ((c : Int) % 2 == 1))
      have kk := key ((0), ((c : Int) / 2), ((c : Int) % 2 == 1)) (pat_a ⟨c, hc4⟩ hr) v e he hw
      rw [← kk]
      exact rg_a x w x0 x1 c hc hr v e he (Lib.hid hw)
    · subst hr
      obtain ⟨v, e, he, hw⟩ := two ((1), (0), (false))
      have kk := key ((1), (0), (false)) (pat_b) v e he hw
      rw [← kk]
      exact rg_b x w x0 x1 22 hc rfl v e he (Lib.hid hw)
    · obtain ⟨v, e, he, hw⟩ := two ((1), (((c : Int) - 21) / 2), ((c : Int) % 2 == 0))
      have kk := key ((1), (((c : Int) - 21) / 2), ((c : Int) % 2 == 0)) (pat_c ⟨c, hc4⟩ hr) v e he hw
      rw [← kk]
      exact rg_c x w x0 x1 c hc hr v e he (Lib.hid hw)
    · obtain ⟨v, e, he, hw⟩ := two ((2 + ((c : Int) - 31) / 2), (0), ((c : Int) % 2 == 0))
      have kk := key ((2 + ((c : Int) - 31) / 2), (0), ((c : Int) % 2 == 0)) (pat_d ⟨c, hc4⟩ hr) v e he hw
      rw [← kk]
      exact rg_d x w x0 x1 c hc hr v e he (Lib.hid hw)
    · obtain ⟨v, e, he, hw⟩ := two ((5 + (c : Int) - 37), (0), (false))
      have kk := key ((5 + (c : Int) - 37), (0), (false)) (pat_e ⟨c, hc4⟩ hr) v e he hw
      rw [← kk]
      exact rg_e x w x0 x1 c hc hr v e he (Lib.hid hw)
end Go.Proofs.Ytkceojfgpmjhhaa
