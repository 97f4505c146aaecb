/- drydockref12.Code, Put by their contracts (cut from XRefIsa for chapter 14's seats). -/
import Derived.Test.YteopeocgbfdofaaImIsa
import Derived.Test.YteopeocgbfdofaaRefMay
set_option linter.unusedVariables false
set_option linter.unusedSimpArgs false
namespace Go.Proofs.Yteopeocgbfdofaa
open Go.RowKit
theorem wrap_u32 {x : Int} (h1 : 0 ≤ x) (h2 : x < 4294967296) : IntKind.u32.wrap x = x := by simp [IntKind.wrap, IntKind.bits, IntKind.signed]; omega
set_option maxHeartbeats 4000000 in
set_option maxRecDepth 100000 in
theorem rc_00 (fn dst src off imm : Int) (w : World) (d1 : 0 ≤ fn) (d2 : fn ≤ 10) (hm : mayB 0 fn dst src false off imm = true) :
    Calls Try.prog 70 #[.agg #[.int .i64 0, .int .i64 fn, .int .i64 dst, .int .i64 src, .bool false, .int .i64 off, .int .u32 imm]] w fun e w' => e = .returned (.tuple #[.int .i64 (2 * fn), .bool true]) ∧ Bel w w' := by
  have HB := Bel.refl (w.alloc (.cells #[.int .i64 0, .int .i64 fn, .int .i64 dst, .int .i64 src, .bool false, .int .i64 off, .int .u32 imm] 34))
  go_enter Try.func70, Try.ntmps70
  go_wp2_with fail
  refine (refmay_any _ _ _ _ _ _ _ _).mono ?_
  rw [hm]
  rintro e w1 ⟨rfl, hb⟩
  have HB := HB.trans hb
  obtain ⟨p0, p1, p2, p3, p4, p5, p6⟩ := box7 HB
  have ne : w.heap.size < w1.heap.size := World.block_lt_of_cell? _ _ p0
  clear hb
  go_wp2_with fail
  go_ret2
  exact ⟨by simp, HB.un⟩
set_option maxHeartbeats 4000000 in
set_option maxRecDepth 100000 in
theorem rc_01 (fn dst src off imm : Int) (w : World) (d1 : 0 ≤ fn) (d2 : fn ≤ 10) (hm : mayB 0 fn dst src true off imm = true) :
    Calls Try.prog 70 #[.agg #[.int .i64 0, .int .i64 fn, .int .i64 dst, .int .i64 src, .bool true, .int .i64 off, .int .u32 imm]] w fun e w' => e = .returned (.tuple #[.int .i64 (2 * fn + 1), .bool true]) ∧ Bel w w' := by
  have HB := Bel.refl (w.alloc (.cells #[.int .i64 0, .int .i64 fn, .int .i64 dst, .int .i64 src, .bool true, .int .i64 off, .int .u32 imm] 34))
  go_enter Try.func70, Try.ntmps70
  go_wp2_with fail
  refine (refmay_any _ _ _ _ _ _ _ _).mono ?_
  rw [hm]
  rintro e w1 ⟨rfl, hb⟩
  have HB := HB.trans hb
  obtain ⟨p0, p1, p2, p3, p4, p5, p6⟩ := box7 HB
  have ne : w.heap.size < w1.heap.size := World.block_lt_of_cell? _ _ p0
  clear hb
  go_wp2_with fail
  go_ret2
  exact ⟨by simp, HB.un⟩
set_option maxHeartbeats 4000000 in
set_option maxRecDepth 100000 in
theorem rc_10 (fn dst src off imm : Int) (w : World) (d1 : 0 ≤ fn) (d2 : fn ≤ 10) (d3 : (fn == 0) = false) (hm : mayB 1 fn dst src false off imm = true) :
    Calls Try.prog 70 #[.agg #[.int .i64 1, .int .i64 fn, .int .i64 dst, .int .i64 src, .bool false, .int .i64 off, .int .u32 imm]] w fun e w' => e = .returned (.tuple #[.int .i64 (21 + 2 * fn), .bool true]) ∧ Bel w w' := by
  have HB := Bel.refl (w.alloc (.cells #[.int .i64 1, .int .i64 fn, .int .i64 dst, .int .i64 src, .bool false, .int .i64 off, .int .u32 imm] 34))
  go_enter Try.func70, Try.ntmps70
  go_wp2_with fail
  refine (refmay_any _ _ _ _ _ _ _ _).mono ?_
  rw [hm]
  rintro e w1 ⟨rfl, hb⟩
  have HB := HB.trans hb
  obtain ⟨p0, p1, p2, p3, p4, p5, p6⟩ := box7 HB
  have ne : w.heap.size < w1.heap.size := World.block_lt_of_cell? _ _ p0
  clear hb
  go_wp2_with fail
  go_ret2
  exact ⟨by simp, HB.un⟩
set_option maxHeartbeats 4000000 in
set_option maxRecDepth 100000 in
theorem rc_11 (fn dst src off imm : Int) (w : World) (d1 : 0 ≤ fn) (d2 : fn ≤ 10) (d3 : (fn == 0) = false) (hm : mayB 1 fn dst src true off imm = true) :
    Calls Try.prog 70 #[.agg #[.int .i64 1, .int .i64 fn, .int .i64 dst, .int .i64 src, .bool true, .int .i64 off, .int .u32 imm]] w fun e w' => e = .returned (.tuple #[.int .i64 (21 + 2 * fn + 1), .bool true]) ∧ Bel w w' := by
  have HB := Bel.refl (w.alloc (.cells #[.int .i64 1, .int .i64 fn, .int .i64 dst, .int .i64 src, .bool true, .int .i64 off, .int .u32 imm] 34))
  go_enter Try.func70, Try.ntmps70
  go_wp2_with fail
  refine (refmay_any _ _ _ _ _ _ _ _).mono ?_
  rw [hm]
  rintro e w1 ⟨rfl, hb⟩
  have HB := HB.trans hb
  obtain ⟨p0, p1, p2, p3, p4, p5, p6⟩ := box7 HB
  have ne : w.heap.size < w1.heap.size := World.block_lt_of_cell? _ _ p0
  clear hb
  go_wp2_with fail
  go_ret2
  exact ⟨by simp, HB.un⟩
set_option maxHeartbeats 4000000 in
set_option maxRecDepth 100000 in
theorem rc_20 (fn dst src off imm : Int) (w : World) (d1 : 0 ≤ fn) (d2 : fn ≤ 10) (hm : mayB 2 fn dst src false off imm = true) :
    Calls Try.prog 70 #[.agg #[.int .i64 2, .int .i64 fn, .int .i64 dst, .int .i64 src, .bool false, .int .i64 off, .int .u32 imm]] w fun e w' => e = .returned (.tuple #[.int .i64 (31), .bool true]) ∧ Bel w w' := by
  have HB := Bel.refl (w.alloc (.cells #[.int .i64 2, .int .i64 fn, .int .i64 dst, .int .i64 src, .bool false, .int .i64 off, .int .u32 imm] 34))
  go_enter Try.func70, Try.ntmps70
  go_wp2_with fail
  refine (refmay_any _ _ _ _ _ _ _ _).mono ?_
  rw [hm]
  rintro e w1 ⟨rfl, hb⟩
  have HB := HB.trans hb
  obtain ⟨p0, p1, p2, p3, p4, p5, p6⟩ := box7 HB
  have ne : w.heap.size < w1.heap.size := World.block_lt_of_cell? _ _ p0
  clear hb
  go_wp2_with fail
  go_ret2
  exact ⟨by simp, HB.un⟩
set_option maxHeartbeats 4000000 in
set_option maxRecDepth 100000 in
theorem rc_21 (fn dst src off imm : Int) (w : World) (d1 : 0 ≤ fn) (d2 : fn ≤ 10) (hm : mayB 2 fn dst src true off imm = true) :
    Calls Try.prog 70 #[.agg #[.int .i64 2, .int .i64 fn, .int .i64 dst, .int .i64 src, .bool true, .int .i64 off, .int .u32 imm]] w fun e w' => e = .returned (.tuple #[.int .i64 (32), .bool true]) ∧ Bel w w' := by
  have HB := Bel.refl (w.alloc (.cells #[.int .i64 2, .int .i64 fn, .int .i64 dst, .int .i64 src, .bool true, .int .i64 off, .int .u32 imm] 34))
  go_enter Try.func70, Try.ntmps70
  go_wp2_with fail
  refine (refmay_any _ _ _ _ _ _ _ _).mono ?_
  rw [hm]
  rintro e w1 ⟨rfl, hb⟩
  have HB := HB.trans hb
  obtain ⟨p0, p1, p2, p3, p4, p5, p6⟩ := box7 HB
  have ne : w.heap.size < w1.heap.size := World.block_lt_of_cell? _ _ p0
  clear hb
  go_wp2_with fail
  go_ret2
  exact ⟨by simp, HB.un⟩
set_option maxHeartbeats 4000000 in
set_option maxRecDepth 100000 in
theorem rc_30 (fn dst src off imm : Int) (w : World) (d1 : 0 ≤ fn) (d2 : fn ≤ 10) (hm : mayB 3 fn dst src false off imm = true) :
    Calls Try.prog 70 #[.agg #[.int .i64 3, .int .i64 fn, .int .i64 dst, .int .i64 src, .bool false, .int .i64 off, .int .u32 imm]] w fun e w' => e = .returned (.tuple #[.int .i64 (33), .bool true]) ∧ Bel w w' := by
  have HB := Bel.refl (w.alloc (.cells #[.int .i64 3, .int .i64 fn, .int .i64 dst, .int .i64 src, .bool false, .int .i64 off, .int .u32 imm] 34))
  go_enter Try.func70, Try.ntmps70
  go_wp2_with fail
  refine (refmay_any _ _ _ _ _ _ _ _).mono ?_
  rw [hm]
  rintro e w1 ⟨rfl, hb⟩
  have HB := HB.trans hb
  obtain ⟨p0, p1, p2, p3, p4, p5, p6⟩ := box7 HB
  have ne : w.heap.size < w1.heap.size := World.block_lt_of_cell? _ _ p0
  clear hb
  go_wp2_with fail
  go_ret2
  exact ⟨by simp, HB.un⟩
set_option maxHeartbeats 4000000 in
set_option maxRecDepth 100000 in
theorem rc_31 (fn dst src off imm : Int) (w : World) (d1 : 0 ≤ fn) (d2 : fn ≤ 10) (hm : mayB 3 fn dst src true off imm = true) :
    Calls Try.prog 70 #[.agg #[.int .i64 3, .int .i64 fn, .int .i64 dst, .int .i64 src, .bool true, .int .i64 off, .int .u32 imm]] w fun e w' => e = .returned (.tuple #[.int .i64 (34), .bool true]) ∧ Bel w w' := by
  have HB := Bel.refl (w.alloc (.cells #[.int .i64 3, .int .i64 fn, .int .i64 dst, .int .i64 src, .bool true, .int .i64 off, .int .u32 imm] 34))
  go_enter Try.func70, Try.ntmps70
  go_wp2_with fail
  refine (refmay_any _ _ _ _ _ _ _ _).mono ?_
  rw [hm]
  rintro e w1 ⟨rfl, hb⟩
  have HB := HB.trans hb
  obtain ⟨p0, p1, p2, p3, p4, p5, p6⟩ := box7 HB
  have ne : w.heap.size < w1.heap.size := World.block_lt_of_cell? _ _ p0
  clear hb
  go_wp2_with fail
  go_ret2
  exact ⟨by simp, HB.un⟩
set_option maxHeartbeats 4000000 in
set_option maxRecDepth 100000 in
theorem rc_40 (fn dst src off imm : Int) (w : World) (d1 : 0 ≤ fn) (d2 : fn ≤ 10) (hm : mayB 4 fn dst src false off imm = true) :
    Calls Try.prog 70 #[.agg #[.int .i64 4, .int .i64 fn, .int .i64 dst, .int .i64 src, .bool false, .int .i64 off, .int .u32 imm]] w fun e w' => e = .returned (.tuple #[.int .i64 (35), .bool true]) ∧ Bel w w' := by
  have HB := Bel.refl (w.alloc (.cells #[.int .i64 4, .int .i64 fn, .int .i64 dst, .int .i64 src, .bool false, .int .i64 off, .int .u32 imm] 34))
  go_enter Try.func70, Try.ntmps70
  go_wp2_with fail
  refine (refmay_any _ _ _ _ _ _ _ _).mono ?_
  rw [hm]
  rintro e w1 ⟨rfl, hb⟩
  have HB := HB.trans hb
  obtain ⟨p0, p1, p2, p3, p4, p5, p6⟩ := box7 HB
  have ne : w.heap.size < w1.heap.size := World.block_lt_of_cell? _ _ p0
  clear hb
  go_wp2_with fail
  go_ret2
  exact ⟨by simp, HB.un⟩
set_option maxHeartbeats 4000000 in
set_option maxRecDepth 100000 in
theorem rc_41 (fn dst src off imm : Int) (w : World) (d1 : 0 ≤ fn) (d2 : fn ≤ 10) (hm : mayB 4 fn dst src true off imm = true) :
    Calls Try.prog 70 #[.agg #[.int .i64 4, .int .i64 fn, .int .i64 dst, .int .i64 src, .bool true, .int .i64 off, .int .u32 imm]] w fun e w' => e = .returned (.tuple #[.int .i64 (36), .bool true]) ∧ Bel w w' := by
  have HB := Bel.refl (w.alloc (.cells #[.int .i64 4, .int .i64 fn, .int .i64 dst, .int .i64 src, .bool true, .int .i64 off, .int .u32 imm] 34))
  go_enter Try.func70, Try.ntmps70
  go_wp2_with fail
  refine (refmay_any _ _ _ _ _ _ _ _).mono ?_
  rw [hm]
  rintro e w1 ⟨rfl, hb⟩
  have HB := HB.trans hb
  obtain ⟨p0, p1, p2, p3, p4, p5, p6⟩ := box7 HB
  have ne : w.heap.size < w1.heap.size := World.block_lt_of_cell? _ _ p0
  clear hb
  go_wp2_with fail
  go_ret2
  exact ⟨by simp, HB.un⟩
set_option maxHeartbeats 4000000 in
set_option maxRecDepth 100000 in
theorem rc_50 (fn dst src off imm : Int) (w : World) (d1 : 0 ≤ fn) (d2 : fn ≤ 10) (hm : mayB 5 fn dst src false off imm = true) :
    Calls Try.prog 70 #[.agg #[.int .i64 5, .int .i64 fn, .int .i64 dst, .int .i64 src, .bool false, .int .i64 off, .int .u32 imm]] w fun e w' => e = .returned (.tuple #[.int .i64 (37), .bool true]) ∧ Bel w w' := by
  have HB := Bel.refl (w.alloc (.cells #[.int .i64 5, .int .i64 fn, .int .i64 dst, .int .i64 src, .bool false, .int .i64 off, .int .u32 imm] 34))
  go_enter Try.func70, Try.ntmps70
  go_wp2_with fail
  refine (refmay_any _ _ _ _ _ _ _ _).mono ?_
  rw [hm]
  rintro e w1 ⟨rfl, hb⟩
  have HB := HB.trans hb
  obtain ⟨p0, p1, p2, p3, p4, p5, p6⟩ := box7 HB
  have ne : w.heap.size < w1.heap.size := World.block_lt_of_cell? _ _ p0
  clear hb
  go_wp2_with fail
  go_ret2
  exact ⟨by simp, HB.un⟩
set_option maxHeartbeats 4000000 in
set_option maxRecDepth 100000 in
theorem rc_60 (fn dst src off imm : Int) (w : World) (d1 : 0 ≤ fn) (d2 : fn ≤ 10) (hm : mayB 6 fn dst src false off imm = true) :
    Calls Try.prog 70 #[.agg #[.int .i64 6, .int .i64 fn, .int .i64 dst, .int .i64 src, .bool false, .int .i64 off, .int .u32 imm]] w fun e w' => e = .returned (.tuple #[.int .i64 (38), .bool true]) ∧ Bel w w' := by
  have HB := Bel.refl (w.alloc (.cells #[.int .i64 6, .int .i64 fn, .int .i64 dst, .int .i64 src, .bool false, .int .i64 off, .int .u32 imm] 34))
  go_enter Try.func70, Try.ntmps70
  go_wp2_with fail
  refine (refmay_any _ _ _ _ _ _ _ _).mono ?_
  rw [hm]
  rintro e w1 ⟨rfl, hb⟩
  have HB := HB.trans hb
  obtain ⟨p0, p1, p2, p3, p4, p5, p6⟩ := box7 HB
  have ne : w.heap.size < w1.heap.size := World.block_lt_of_cell? _ _ p0
  clear hb
  go_wp2_with fail
  go_ret2
  exact ⟨by simp, HB.un⟩
set_option maxHeartbeats 4000000 in
set_option maxRecDepth 100000 in
theorem rc_70 (fn dst src off imm : Int) (w : World) (d1 : 0 ≤ fn) (d2 : fn ≤ 10) (hm : mayB 7 fn dst src false off imm = true) :
    Calls Try.prog 70 #[.agg #[.int .i64 7, .int .i64 fn, .int .i64 dst, .int .i64 src, .bool false, .int .i64 off, .int .u32 imm]] w fun e w' => e = .returned (.tuple #[.int .i64 (39), .bool true]) ∧ Bel w w' := by
  have HB := Bel.refl (w.alloc (.cells #[.int .i64 7, .int .i64 fn, .int .i64 dst, .int .i64 src, .bool false, .int .i64 off, .int .u32 imm] 34))
  go_enter Try.func70, Try.ntmps70
  go_wp2_with fail
  refine (refmay_any _ _ _ _ _ _ _ _).mono ?_
  rw [hm]
  rintro e w1 ⟨rfl, hb⟩
  have HB := HB.trans hb
  obtain ⟨p0, p1, p2, p3, p4, p5, p6⟩ := box7 HB
  have ne : w.heap.size < w1.heap.size := World.block_lt_of_cell? _ _ p0
  clear hb
  go_wp2_with fail
  go_ret2
  exact ⟨by simp, HB.un⟩
set_option maxHeartbeats 4000000 in
set_option maxRecDepth 100000 in
theorem rc_22 (dst src off imm : Int) (w : World) (hm : mayB 1 0 dst src false off imm = true) :
    Calls Try.prog 70 #[.agg #[.int .i64 1, .int .i64 0, .int .i64 dst, .int .i64 src, .bool false, .int .i64 off, .int .u32 imm]] w fun e w' => e = .returned (.tuple #[.int .i64 22, .bool true]) ∧ Bel w w' := by
  have HB := Bel.refl (w.alloc (.cells #[.int .i64 1, .int .i64 0, .int .i64 dst, .int .i64 src, .bool false, .int .i64 off, .int .u32 imm] 34))
  go_enter Try.func70, Try.ntmps70
  go_wp2_with fail
  refine (refmay_any _ _ _ _ _ _ _ _).mono ?_
  rw [hm]
  rintro e w1 ⟨rfl, hb⟩
  have HB := HB.trans hb
  obtain ⟨p0, p1, p2, p3, p4, p5, p6⟩ := box7 HB
  have ne : w.heap.size < w1.heap.size := World.block_lt_of_cell? _ _ p0
  clear hb
  go_wp2_with fail
  go_ret2
  exact ⟨by simp, HB.un⟩
set_option maxHeartbeats 4000000 in
set_option maxRecDepth 100000 in
theorem refcode_no (op fn dst src : Int) (reg : Bool) (off imm : Int) (w : World) (hm : mayB op fn dst src reg off imm = false) :
    Calls Try.prog 70 #[.agg #[.int .i64 op, .int .i64 fn, .int .i64 dst, .int .i64 src, .bool reg, .int .i64 off, .int .u32 imm]] w fun e w' => e = .returned (.tuple #[.int .i64 0, .bool false]) ∧ Bel w w' := by
  have HB := Bel.refl (w.alloc (.cells #[.int .i64 op, .int .i64 fn, .int .i64 dst, .int .i64 src, .bool reg, .int .i64 off, .int .u32 imm] 34))
  go_enter Try.func70, Try.ntmps70
  go_wp2_with fail
  refine (refmay_any _ _ _ _ _ _ _ _).mono ?_
  rw [hm]
  rintro e w1 ⟨rfl, hb⟩
  have HB := HB.trans hb
  obtain ⟨p0, p1, p2, p3, p4, p5, p6⟩ := box7 HB
  have ne : w.heap.size < w1.heap.size := World.block_lt_of_cell? _ _ p0
  clear hb
  go_wp2_with fail
  go_ret2
  exact ⟨by simp, HB.un⟩
theorem refcode_ok (op fn dst src : Int) (reg : Bool) (off imm : Int) (w : World) (hm : mayB op fn dst src reg off imm = true) :
    Calls Try.prog 70 #[.agg #[.int .i64 op, .int .i64 fn, .int .i64 dst, .int .i64 src, .bool reg, .int .i64 off, .int .u32 imm]] w fun e w' => e = .returned (.tuple #[.int .i64 (codeN op fn reg), .bool true]) ∧ Bel w w' := by
  have h := of_decide_eq_true hm
  obtain ⟨⟨a1, a2⟩, _, _, ⟨d1, d2⟩, _, f, _⟩ := h
  have : op = 0 ∨ op = 1 ∨ op = 2 ∨ op = 3 ∨ op = 4 ∨ op = 5 ∨ op = 6 ∨ op = 7 := by omega
  rcases this with rfl | rfl | rfl | rfl | rfl | rfl | rfl | rfl
  · simp at d2
    cases reg
    · have e : ((codeN 0 fn false : Nat) : Int) = 2 * fn := by simp [codeN]; omega
      rw [e]; exact rc_00 fn dst src off imm w d1 (by omega) hm
    · have e : ((codeN 0 fn true : Nat) : Int) = 2 * fn + 1 := by simp [codeN]; omega
      rw [e]; exact rc_01 fn dst src off imm w d1 (by omega) hm
  · simp at d2
    by_cases h0 : fn = 0
    · subst h0
      have hr : reg = false := by simp at f; exact f.2
      subst hr
      have e : ((codeN 1 0 false : Nat) : Int) = 22 := by decide
      rw [e]; exact rc_22 dst src off imm w hm
    · cases reg
      · have e : ((codeN 1 fn false : Nat) : Int) = 21 + 2 * fn := by simp [codeN, h0]; omega
        rw [e]; exact rc_10 fn dst src off imm w d1 (by omega) (by simpa using h0) hm
      · have e : ((codeN 1 fn true : Nat) : Int) = 21 + 2 * fn + 1 := by simp [codeN, h0]; omega
        rw [e]; exact rc_11 fn dst src off imm w d1 (by omega) (by simpa using h0) hm
  · simp at d2
    cases reg
    · exact rc_20 fn dst src off imm w d1 (by omega) hm
    · exact rc_21 fn dst src off imm w d1 (by omega) hm
  · simp at d2
    cases reg
    · exact rc_30 fn dst src off imm w d1 (by omega) hm
    · exact rc_31 fn dst src off imm w d1 (by omega) hm
  · simp at d2
    cases reg
    · exact rc_40 fn dst src off imm w d1 (by omega) hm
    · exact rc_41 fn dst src off imm w d1 (by omega) hm
  · simp at d2
    have hr : reg = false := by
      rcases f with ⟨f, _⟩ | ⟨_, f⟩
      · omega
      · exact f
    subst hr
    exact rc_50 fn dst src off imm w d1 (by omega) hm
  · simp at d2
    have hr : reg = false := by
      rcases f with ⟨f, _⟩ | ⟨_, f⟩
      · omega
      · exact f
    subst hr
    exact rc_60 fn dst src off imm w d1 (by omega) hm
  · simp at d2
    have hr : reg = false := by
      rcases f with ⟨f, _⟩ | ⟨_, f⟩
      · omega
      · exact f
    subst hr
    exact rc_70 fn dst src off imm w d1 (by omega) hm
set_option maxHeartbeats 4000000 in
set_option maxRecDepth 100000 in
theorem rput_no (op fn dst src : Int) (reg : Bool) (off imm too : Int) (w : World) (hm : mayB op fn dst src reg off imm = false) :
    Calls Try.prog 54 #[.agg #[.int .i64 op, .int .i64 fn, .int .i64 dst, .int .i64 src, .bool reg, .int .i64 off, .int .u32 imm], .int .i64 too] w fun e w' => e = .returned (.tuple #[.int .u64 0, .int .i64 1]) ∧ Bel w w' := by
  have HB := Bel.refl (w.alloc (.cells #[.int .i64 op, .int .i64 fn, .int .i64 dst, .int .i64 src, .bool reg, .int .i64 off, .int .u32 imm] 34))
  go_enter Try.func54, Try.ntmps54
  go_wp2_with fail
  refine (refcode_no _ _ _ _ _ _ _ _ hm).mono ?_
  rintro e w1 ⟨rfl, hb⟩
  have HB := HB.trans hb
  obtain ⟨p0, p1, p2, p3, p4, p5, p6⟩ := box7 HB
  have ne : w.heap.size < w1.heap.size := World.block_lt_of_cell? _ _ p0
  clear hb
  go_wp2_with fail
  all_goals (go_ret2; exact ⟨by simp, HB.un⟩)
set_option maxHeartbeats 4000000 in
set_option maxRecDepth 100000 in
theorem rput_low_6 (op fn dst src : Int) (reg : Bool) (off imm too : Int) (w : World) (hm : mayB op fn dst src reg off imm = true) (c : Nat) (hc : Hid (codeN op fn reg = c)) (hc4 : c < 40) (hd0 : 0 ≤ dst) (hd1 : dst < 8) (hs0 : 0 ≤ src) (hs1 : src < 8) (h6 : op = 6) (h0 : too < 0) :
    Calls Try.prog 54 #[.agg #[.int .i64 op, .int .i64 fn, .int .i64 dst, .int .i64 src, .bool reg, .int .i64 off, .int .u32 imm], .int .i64 too] w fun e w' => e = .returned (.tuple #[.int .u64 0, .int .i64 1]) ∧ Bel w w' := by
  subst h6
  have HB := Bel.refl (w.alloc (.cells #[.int .i64 6, .int .i64 fn, .int .i64 dst, .int .i64 src, .bool reg, .int .i64 off, .int .u32 imm] 34))
  go_enter Try.func54, Try.ntmps54
  go_wp2_with fail
  refine (refcode_ok _ _ _ _ _ _ _ _ hm).mono ?_
  rw [hc.out]
  rintro e w1 ⟨rfl, hb⟩
  have HB := HB.trans hb
  obtain ⟨p0, p1, p2, p3, p4, p5, p6⟩ := box7 HB
  have ne : w.heap.size < w1.heap.size := World.block_lt_of_cell? _ _ p0
  clear hb
  go_wp2_with fail
  go_ret2
  exact ⟨by simp, HB.un⟩
set_option maxHeartbeats 4000000 in
set_option maxRecDepth 100000 in
theorem rput_high_6 (op fn dst src : Int) (reg : Bool) (off imm too : Int) (w : World) (hm : mayB op fn dst src reg off imm = true) (c : Nat) (hc : Hid (codeN op fn reg = c)) (hc4 : c < 40) (hd0 : 0 ≤ dst) (hd1 : dst < 8) (hs0 : 0 ≤ src) (hs1 : src < 8) (h6 : op = 6) (h0 : ¬ too < 0) (h1 : 1023 < too) :
    Calls Try.prog 54 #[.agg #[.int .i64 op, .int .i64 fn, .int .i64 dst, .int .i64 src, .bool reg, .int .i64 off, .int .u32 imm], .int .i64 too] w fun e w' => e = .returned (.tuple #[.int .u64 0, .int .i64 1]) ∧ Bel w w' := by
  subst h6
  have HB := Bel.refl (w.alloc (.cells #[.int .i64 6, .int .i64 fn, .int .i64 dst, .int .i64 src, .bool reg, .int .i64 off, .int .u32 imm] 34))
  go_enter Try.func54, Try.ntmps54
  go_wp2_with fail
  refine (refcode_ok _ _ _ _ _ _ _ _ hm).mono ?_
  rw [hc.out]
  rintro e w1 ⟨rfl, hb⟩
  have HB := HB.trans hb
  obtain ⟨p0, p1, p2, p3, p4, p5, p6⟩ := box7 HB
  have ne : w.heap.size < w1.heap.size := World.block_lt_of_cell? _ _ p0
  clear hb
  go_wp2_with fail
  go_ret2
  exact ⟨by simp, HB.un⟩
set_option maxHeartbeats 4000000 in
set_option maxRecDepth 100000 in
theorem rput_ok_6 (op fn dst src : Int) (reg : Bool) (off imm too : Int) (w : World) (hm : mayB op fn dst src reg off imm = true) (c : Nat) (hc : Hid (codeN op fn reg = c)) (hc4 : c < 40) (hd0 : 0 ≤ dst) (hd1 : dst < 8) (hs0 : 0 ≤ src) (hs1 : src < 8) (hi0 : 0 ≤ imm) (hi1 : imm < 4294967296) (h6 : op = 6) (h0 : ¬ too < 0) (h1 : ¬ 1023 < too)  :
    Calls Try.prog 54 #[.agg #[.int .i64 op, .int .i64 fn, .int .i64 dst, .int .i64 src, .bool reg, .int .i64 off, .int .u32 imm], .int .i64 too] w fun e w' => e = .returned (.tuple #[.int .u64 (wordI c dst src too 0), .int .i64 0]) ∧ Bel w w' := by
  have hw : wordI c dst src too 0 = ((((c : Int) * 8 + dst) * 8 + src) * 1024 + too) * 4294967296 + 0 := by unfold wordI; omega
  rw [hw]
  clear hw
  have e0 : IntKind.i64.wrap imm = imm := wrap_i64 (by omega) (by omega)
  have e1 : IntKind.i64.wrap ((c : Int) * 8) = (c : Int) * 8 := wrap_i64 (by omega) (by omega)
  have e2 : IntKind.i64.wrap ((c : Int) * 8 + dst) = (c : Int) * 8 + dst := wrap_i64 (by omega) (by omega)
  have e3 : IntKind.i64.wrap (((c : Int) * 8 + dst) * 8) = ((c : Int) * 8 + dst) * 8 := wrap_i64 (by omega) (by omega)
  have e4 : IntKind.i64.wrap (((c : Int) * 8 + dst) * 8 + src) = ((c : Int) * 8 + dst) * 8 + src := wrap_i64 (by omega) (by omega)
  have e5 : IntKind.i64.wrap ((((c : Int) * 8 + dst) * 8 + src) * 1024) = (((c : Int) * 8 + dst) * 8 + src) * 1024 := wrap_i64 (by omega) (by omega)
  have e6 : IntKind.i64.wrap ((((c : Int) * 8 + dst) * 8 + src) * 1024 + too) = (((c : Int) * 8 + dst) * 8 + src) * 1024 + too := wrap_i64 (by omega) (by omega)
  have e7 : IntKind.i64.wrap (((((c : Int) * 8 + dst) * 8 + src) * 1024 + too) * 4294967296) = ((((c : Int) * 8 + dst) * 8 + src) * 1024 + too) * 4294967296 := wrap_i64 (by omega) (by omega)
  have e8 : IntKind.i64.wrap (((((c : Int) * 8 + dst) * 8 + src) * 1024 + too) * 4294967296 + 0) = ((((c : Int) * 8 + dst) * 8 + src) * 1024 + too) * 4294967296 + 0 := wrap_i64 (by omega) (by omega)
  have e9 : IntKind.u64.wrap (((((c : Int) * 8 + dst) * 8 + src) * 1024 + too) * 4294967296 + 0) = ((((c : Int) * 8 + dst) * 8 + src) * 1024 + too) * 4294967296 + 0 := wrap_u64 (by omega) (by omega)
  subst h6
  have HB := Bel.refl (w.alloc (.cells #[.int .i64 6, .int .i64 fn, .int .i64 dst, .int .i64 src, .bool reg, .int .i64 off, .int .u32 imm] 34))
  go_enter Try.func54, Try.ntmps54
  go_wp2_with fail
  refine (refcode_ok _ _ _ _ _ _ _ _ hm).mono ?_
  rw [hc.out]
  rintro e w1 ⟨rfl, hb⟩
  have HB := HB.trans hb
  obtain ⟨p0, p1, p2, p3, p4, p5, p6⟩ := box7 HB
  have ne : w.heap.size < w1.heap.size := World.block_lt_of_cell? _ _ p0
  clear hb
  go_wp2_with fail
  go_ret2
  exact ⟨by simp, HB.un⟩
set_option maxHeartbeats 4000000 in
set_option maxRecDepth 100000 in
theorem rput_low_1 (op fn dst src : Int) (reg : Bool) (off imm too : Int) (w : World) (hm : mayB op fn dst src reg off imm = true) (c : Nat) (hc : Hid (codeN op fn reg = c)) (hc4 : c < 40) (hd0 : 0 ≤ dst) (hd1 : dst < 8) (hs0 : 0 ≤ src) (hs1 : src < 8) (h6 : op = 1) (h0 : too < 0) :
    Calls Try.prog 54 #[.agg #[.int .i64 op, .int .i64 fn, .int .i64 dst, .int .i64 src, .bool reg, .int .i64 off, .int .u32 imm], .int .i64 too] w fun e w' => e = .returned (.tuple #[.int .u64 0, .int .i64 1]) ∧ Bel w w' := by
  subst h6
  have HB := Bel.refl (w.alloc (.cells #[.int .i64 1, .int .i64 fn, .int .i64 dst, .int .i64 src, .bool reg, .int .i64 off, .int .u32 imm] 34))
  go_enter Try.func54, Try.ntmps54
  go_wp2_with fail
  refine (refcode_ok _ _ _ _ _ _ _ _ hm).mono ?_
  rw [hc.out]
  rintro e w1 ⟨rfl, hb⟩
  have HB := HB.trans hb
  obtain ⟨p0, p1, p2, p3, p4, p5, p6⟩ := box7 HB
  have ne : w.heap.size < w1.heap.size := World.block_lt_of_cell? _ _ p0
  clear hb
  go_wp2_with fail
  go_ret2
  exact ⟨by simp, HB.un⟩
set_option maxHeartbeats 4000000 in
set_option maxRecDepth 100000 in
theorem rput_high_1 (op fn dst src : Int) (reg : Bool) (off imm too : Int) (w : World) (hm : mayB op fn dst src reg off imm = true) (c : Nat) (hc : Hid (codeN op fn reg = c)) (hc4 : c < 40) (hd0 : 0 ≤ dst) (hd1 : dst < 8) (hs0 : 0 ≤ src) (hs1 : src < 8) (h6 : op = 1) (h0 : ¬ too < 0) (h1 : 1023 < too) :
    Calls Try.prog 54 #[.agg #[.int .i64 op, .int .i64 fn, .int .i64 dst, .int .i64 src, .bool reg, .int .i64 off, .int .u32 imm], .int .i64 too] w fun e w' => e = .returned (.tuple #[.int .u64 0, .int .i64 1]) ∧ Bel w w' := by
  subst h6
  have HB := Bel.refl (w.alloc (.cells #[.int .i64 1, .int .i64 fn, .int .i64 dst, .int .i64 src, .bool reg, .int .i64 off, .int .u32 imm] 34))
  go_enter Try.func54, Try.ntmps54
  go_wp2_with fail
  refine (refcode_ok _ _ _ _ _ _ _ _ hm).mono ?_
  rw [hc.out]
  rintro e w1 ⟨rfl, hb⟩
  have HB := HB.trans hb
  obtain ⟨p0, p1, p2, p3, p4, p5, p6⟩ := box7 HB
  have ne : w.heap.size < w1.heap.size := World.block_lt_of_cell? _ _ p0
  clear hb
  go_wp2_with fail
  go_ret2
  exact ⟨by simp, HB.un⟩
set_option maxHeartbeats 4000000 in
set_option maxRecDepth 100000 in
theorem rput_ok_1 (op fn dst src : Int) (reg : Bool) (off imm too : Int) (w : World) (hm : mayB op fn dst src reg off imm = true) (c : Nat) (hc : Hid (codeN op fn reg = c)) (hc4 : c < 40) (hd0 : 0 ≤ dst) (hd1 : dst < 8) (hs0 : 0 ≤ src) (hs1 : src < 8) (hi0 : 0 ≤ imm) (hi1 : imm < 4294967296) (h6 : op = 1) (h0 : ¬ too < 0) (h1 : ¬ 1023 < too)  :
    Calls Try.prog 54 #[.agg #[.int .i64 op, .int .i64 fn, .int .i64 dst, .int .i64 src, .bool reg, .int .i64 off, .int .u32 imm], .int .i64 too] w fun e w' => e = .returned (.tuple #[.int .u64 (wordI c dst src too imm), .int .i64 0]) ∧ Bel w w' := by
  have hw : wordI c dst src too imm = ((((c : Int) * 8 + dst) * 8 + src) * 1024 + too) * 4294967296 + imm := by unfold wordI; omega
  rw [hw]
  clear hw
  have e0 : IntKind.i64.wrap imm = imm := wrap_i64 (by omega) (by omega)
  have e1 : IntKind.i64.wrap ((c : Int) * 8) = (c : Int) * 8 := wrap_i64 (by omega) (by omega)
  have e2 : IntKind.i64.wrap ((c : Int) * 8 + dst) = (c : Int) * 8 + dst := wrap_i64 (by omega) (by omega)
  have e3 : IntKind.i64.wrap (((c : Int) * 8 + dst) * 8) = ((c : Int) * 8 + dst) * 8 := wrap_i64 (by omega) (by omega)
  have e4 : IntKind.i64.wrap (((c : Int) * 8 + dst) * 8 + src) = ((c : Int) * 8 + dst) * 8 + src := wrap_i64 (by omega) (by omega)
  have e5 : IntKind.i64.wrap ((((c : Int) * 8 + dst) * 8 + src) * 1024) = (((c : Int) * 8 + dst) * 8 + src) * 1024 := wrap_i64 (by omega) (by omega)
  have e6 : IntKind.i64.wrap ((((c : Int) * 8 + dst) * 8 + src) * 1024 + too) = (((c : Int) * 8 + dst) * 8 + src) * 1024 + too := wrap_i64 (by omega) (by omega)
  have e7 : IntKind.i64.wrap (((((c : Int) * 8 + dst) * 8 + src) * 1024 + too) * 4294967296) = ((((c : Int) * 8 + dst) * 8 + src) * 1024 + too) * 4294967296 := wrap_i64 (by omega) (by omega)
  have e8 : IntKind.i64.wrap (((((c : Int) * 8 + dst) * 8 + src) * 1024 + too) * 4294967296 + imm) = ((((c : Int) * 8 + dst) * 8 + src) * 1024 + too) * 4294967296 + imm := wrap_i64 (by omega) (by omega)
  have e9 : IntKind.u64.wrap (((((c : Int) * 8 + dst) * 8 + src) * 1024 + too) * 4294967296 + imm) = ((((c : Int) * 8 + dst) * 8 + src) * 1024 + too) * 4294967296 + imm := wrap_u64 (by omega) (by omega)
  subst h6
  have HB := Bel.refl (w.alloc (.cells #[.int .i64 1, .int .i64 fn, .int .i64 dst, .int .i64 src, .bool reg, .int .i64 off, .int .u32 imm] 34))
  go_enter Try.func54, Try.ntmps54
  go_wp2_with fail
  refine (refcode_ok _ _ _ _ _ _ _ _ hm).mono ?_
  rw [hc.out]
  rintro e w1 ⟨rfl, hb⟩
  have HB := HB.trans hb
  obtain ⟨p0, p1, p2, p3, p4, p5, p6⟩ := box7 HB
  have ne : w.heap.size < w1.heap.size := World.block_lt_of_cell? _ _ p0
  clear hb
  go_wp2_with fail
  go_ret2
  exact ⟨by simp, HB.un⟩
set_option maxHeartbeats 4000000 in
set_option maxRecDepth 100000 in
theorem rput_low_n (op fn dst src : Int) (reg : Bool) (off imm too : Int) (w : World) (hm : mayB op fn dst src reg off imm = true) (c : Nat) (hc : Hid (codeN op fn reg = c)) (hc4 : c < 40) (hd0 : 0 ≤ dst) (hd1 : dst < 8) (hs0 : 0 ≤ src) (hs1 : src < 8) (h1' : (op == 1) = false) (h6' : (op == 6) = false) (h0 : too < 0) :
    Calls Try.prog 54 #[.agg #[.int .i64 op, .int .i64 fn, .int .i64 dst, .int .i64 src, .bool reg, .int .i64 off, .int .u32 imm], .int .i64 too] w fun e w' => e = .returned (.tuple #[.int .u64 0, .int .i64 1]) ∧ Bel w w' := by
  have HB := Bel.refl (w.alloc (.cells #[.int .i64 op, .int .i64 fn, .int .i64 dst, .int .i64 src, .bool reg, .int .i64 off, .int .u32 imm] 34))
  go_enter Try.func54, Try.ntmps54
  go_wp2_with fail
  refine (refcode_ok _ _ _ _ _ _ _ _ hm).mono ?_
  rw [hc.out]
  rintro e w1 ⟨rfl, hb⟩
  have HB := HB.trans hb
  obtain ⟨p0, p1, p2, p3, p4, p5, p6⟩ := box7 HB
  have ne : w.heap.size < w1.heap.size := World.block_lt_of_cell? _ _ p0
  clear hb
  go_wp2_with fail
  go_ret2
  exact ⟨by simp, HB.un⟩
set_option maxHeartbeats 4000000 in
set_option maxRecDepth 100000 in
theorem rput_high_n (op fn dst src : Int) (reg : Bool) (off imm too : Int) (w : World) (hm : mayB op fn dst src reg off imm = true) (c : Nat) (hc : Hid (codeN op fn reg = c)) (hc4 : c < 40) (hd0 : 0 ≤ dst) (hd1 : dst < 8) (hs0 : 0 ≤ src) (hs1 : src < 8) (h1' : (op == 1) = false) (h6' : (op == 6) = false) (h0 : ¬ too < 0) (h1 : 1023 < too) :
    Calls Try.prog 54 #[.agg #[.int .i64 op, .int .i64 fn, .int .i64 dst, .int .i64 src, .bool reg, .int .i64 off, .int .u32 imm], .int .i64 too] w fun e w' => e = .returned (.tuple #[.int .u64 0, .int .i64 1]) ∧ Bel w w' := by
  have HB := Bel.refl (w.alloc (.cells #[.int .i64 op, .int .i64 fn, .int .i64 dst, .int .i64 src, .bool reg, .int .i64 off, .int .u32 imm] 34))
  go_enter Try.func54, Try.ntmps54
  go_wp2_with fail
  refine (refcode_ok _ _ _ _ _ _ _ _ hm).mono ?_
  rw [hc.out]
  rintro e w1 ⟨rfl, hb⟩
  have HB := HB.trans hb
  obtain ⟨p0, p1, p2, p3, p4, p5, p6⟩ := box7 HB
  have ne : w.heap.size < w1.heap.size := World.block_lt_of_cell? _ _ p0
  clear hb
  go_wp2_with fail
  go_ret2
  exact ⟨by simp, HB.un⟩
set_option maxHeartbeats 4000000 in
set_option maxRecDepth 100000 in
theorem rput_else (op fn dst src : Int) (reg : Bool) (off imm too : Int) (w : World) (hm : mayB op fn dst src reg off imm = true) (c : Nat) (hc : Hid (codeN op fn reg = c)) (hc4 : c < 40) (hd0 : 0 ≤ dst) (hd1 : dst < 8) (hs0 : 0 ≤ src) (hs1 : src < 8) (h1' : (op == 1) = false) (h6' : (op == 6) = false) (h0 : ¬ too < 0) (h1 : ¬ 1023 < too) (h2 : (too != 0) = true) :
    Calls Try.prog 54 #[.agg #[.int .i64 op, .int .i64 fn, .int .i64 dst, .int .i64 src, .bool reg, .int .i64 off, .int .u32 imm], .int .i64 too] w fun e w' => e = .returned (.tuple #[.int .u64 0, .int .i64 1]) ∧ Bel w w' := by
  have HB := Bel.refl (w.alloc (.cells #[.int .i64 op, .int .i64 fn, .int .i64 dst, .int .i64 src, .bool reg, .int .i64 off, .int .u32 imm] 34))
  go_enter Try.func54, Try.ntmps54
  go_wp2_with fail
  refine (refcode_ok _ _ _ _ _ _ _ _ hm).mono ?_
  rw [hc.out]
  rintro e w1 ⟨rfl, hb⟩
  have HB := HB.trans hb
  obtain ⟨p0, p1, p2, p3, p4, p5, p6⟩ := box7 HB
  have ne : w.heap.size < w1.heap.size := World.block_lt_of_cell? _ _ p0
  clear hb
  go_wp2_with fail
  go_ret2
  exact ⟨by simp, HB.un⟩
set_option maxHeartbeats 4000000 in
set_option maxRecDepth 100000 in
theorem rput_ok_n (op fn dst src : Int) (reg : Bool) (off imm too : Int) (w : World) (hm : mayB op fn dst src reg off imm = true) (c : Nat) (hc : Hid (codeN op fn reg = c)) (hc4 : c < 40) (hd0 : 0 ≤ dst) (hd1 : dst < 8) (hs0 : 0 ≤ src) (hs1 : src < 8) (hi0 : 0 ≤ imm) (hi1 : imm < 4294967296) (h1' : (op == 1) = false) (h6' : (op == 6) = false) (h0 : ¬ too < 0) (h1 : ¬ 1023 < too) (h2 : too = 0) :
    Calls Try.prog 54 #[.agg #[.int .i64 op, .int .i64 fn, .int .i64 dst, .int .i64 src, .bool reg, .int .i64 off, .int .u32 imm], .int .i64 too] w fun e w' => e = .returned (.tuple #[.int .u64 (wordI c dst src too imm), .int .i64 0]) ∧ Bel w w' := by
  have hw : wordI c dst src too imm = ((((c : Int) * 8 + dst) * 8 + src) * 1024 + too) * 4294967296 + imm := by unfold wordI; omega
  rw [hw]
  clear hw
  have e0 : IntKind.i64.wrap imm = imm := wrap_i64 (by omega) (by omega)
  have e1 : IntKind.i64.wrap ((c : Int) * 8) = (c : Int) * 8 := wrap_i64 (by omega) (by omega)
  have e2 : IntKind.i64.wrap ((c : Int) * 8 + dst) = (c : Int) * 8 + dst := wrap_i64 (by omega) (by omega)
  have e3 : IntKind.i64.wrap (((c : Int) * 8 + dst) * 8) = ((c : Int) * 8 + dst) * 8 := wrap_i64 (by omega) (by omega)
  have e4 : IntKind.i64.wrap (((c : Int) * 8 + dst) * 8 + src) = ((c : Int) * 8 + dst) * 8 + src := wrap_i64 (by omega) (by omega)
  have e5 : IntKind.i64.wrap ((((c : Int) * 8 + dst) * 8 + src) * 1024) = (((c : Int) * 8 + dst) * 8 + src) * 1024 := wrap_i64 (by omega) (by omega)
  have e6 : IntKind.i64.wrap ((((c : Int) * 8 + dst) * 8 + src) * 1024 + too) = (((c : Int) * 8 + dst) * 8 + src) * 1024 + too := wrap_i64 (by omega) (by omega)
  have e7 : IntKind.i64.wrap (((((c : Int) * 8 + dst) * 8 + src) * 1024 + too) * 4294967296) = ((((c : Int) * 8 + dst) * 8 + src) * 1024 + too) * 4294967296 := wrap_i64 (by omega) (by omega)
  have e8 : IntKind.i64.wrap (((((c : Int) * 8 + dst) * 8 + src) * 1024 + too) * 4294967296 + imm) = ((((c : Int) * 8 + dst) * 8 + src) * 1024 + too) * 4294967296 + imm := wrap_i64 (by omega) (by omega)
  have e9 : IntKind.u64.wrap (((((c : Int) * 8 + dst) * 8 + src) * 1024 + too) * 4294967296 + imm) = ((((c : Int) * 8 + dst) * 8 + src) * 1024 + too) * 4294967296 + imm := wrap_u64 (by omega) (by omega)
  subst h2
  have HB := Bel.refl (w.alloc (.cells #[.int .i64 op, .int .i64 fn, .int .i64 dst, .int .i64 src, .bool reg, .int .i64 off, .int .u32 imm] 34))
  go_enter Try.func54, Try.ntmps54
  go_wp2_with fail
  refine (refcode_ok _ _ _ _ _ _ _ _ hm).mono ?_
  rw [hc.out]
  rintro e w1 ⟨rfl, hb⟩
  have HB := HB.trans hb
  obtain ⟨p0, p1, p2, p3, p4, p5, p6⟩ := box7 HB
  have ne : w.heap.size < w1.heap.size := World.block_lt_of_cell? _ _ p0
  clear hb
  go_wp2_with fail
  go_ret2
  exact ⟨by simp, HB.un⟩
theorem refput_any (op fn dst src : Int) (reg : Bool) (off imm too : Int) (w : World) (hi : U32 imm) :
    Calls Try.prog 54 #[.agg #[.int .i64 op, .int .i64 fn, .int .i64 dst, .int .i64 src, .bool reg, .int .i64 off, .int .u32 imm], .int .i64 too] w fun e w' => e = .returned (.tuple #[.int .u64 (wput op fn dst src reg off imm too).1, .int .i64 (wput op fn dst src reg off imm too).2]) ∧ Bel w w' := by
  have i0 := hi.lo
  have i1 := hi.hi
  by_cases hm : mayB op fn dst src reg off imm = true
  · obtain ⟨hc4, -⟩ := code_pat hm
    obtain ⟨_, ⟨d0, d1⟩, ⟨s0, s1⟩, _⟩ := of_decide_eq_true hm
    by_cases h0 : too < 0
    · have hr : wput op fn dst src reg off imm too = (0, 1) := if_neg (by rintro ⟨_, h, _⟩; omega)
      rw [hr]
      by_cases h6 : op = 6
      · exact rput_low_6 op fn dst src reg off imm too w hm _ (Lib.hid rfl) hc4 d0 d1 s0 s1 h6 h0
      · by_cases h7 : op = 1
        · exact rput_low_1 op fn dst src reg off imm too w hm _ (Lib.hid rfl) hc4 d0 d1 s0 s1 h7 h0
        · exact rput_low_n op fn dst src reg off imm too w hm _ (Lib.hid rfl) hc4 d0 d1 s0 s1 (by simpa using h7) (by simpa using h6) h0
    · by_cases h1 : 1023 < too
      · have hr : wput op fn dst src reg off imm too = (0, 1) := if_neg (by rintro ⟨_, _, h, _⟩; omega)
        rw [hr]
        by_cases h6 : op = 6
        · exact rput_high_6 op fn dst src reg off imm too w hm _ (Lib.hid rfl) hc4 d0 d1 s0 s1 h6 h0 h1
        · by_cases h7 : op = 1
          · exact rput_high_1 op fn dst src reg off imm too w hm _ (Lib.hid rfl) hc4 d0 d1 s0 s1 h7 h0 h1
          · exact rput_high_n op fn dst src reg off imm too w hm _ (Lib.hid rfl) hc4 d0 d1 s0 s1 (by simpa using h7) (by simpa using h6) h0 h1
      · by_cases h6 : op = 6
        · have hr : wput op fn dst src reg off imm too = (wordI (codeN op fn reg) dst src too 0, 0) := by unfold wput; rw [if_pos ⟨hm, by omega, by omega, fun _ => .inr h6⟩, if_pos h6]
          rw [hr]
          exact rput_ok_6 op fn dst src reg off imm too w hm _ (Lib.hid rfl) hc4 d0 d1 s0 s1 i0 i1 h6 h0 h1
        · by_cases h7 : op = 1
          · have hr : wput op fn dst src reg off imm too = (wordI (codeN op fn reg) dst src too imm, 0) := by unfold wput; rw [if_pos ⟨hm, by omega, by omega, fun _ => .inl h7⟩, if_neg h6]
            rw [hr]
            exact rput_ok_1 op fn dst src reg off imm too w hm _ (Lib.hid rfl) hc4 d0 d1 s0 s1 i0 i1 h7 h0 h1
          · by_cases h2 : too = 0
            · have hr : wput op fn dst src reg off imm too = (wordI (codeN op fn reg) dst src too imm, 0) := by unfold wput; rw [if_pos ⟨hm, by omega, by omega, fun h => absurd h (by omega)⟩, if_neg h6]
              rw [hr]
              exact rput_ok_n op fn dst src reg off imm too w hm _ (Lib.hid rfl) hc4 d0 d1 s0 s1 i0 i1 (by simpa using h7) (by simpa using h6) h0 h1 h2
            · have hr : wput op fn dst src reg off imm too = (0, 1) := if_neg (by rintro ⟨_, _, _, h⟩; rcases h (by omega) with h | h <;> contradiction)
              rw [hr]
              exact rput_else op fn dst src reg off imm too w hm _ (Lib.hid rfl) hc4 d0 d1 s0 s1 (by simpa using h7) (by simpa using h6) h0 h1 (by simpa using h2)
  · have hm' : mayB op fn dst src reg off imm = false := by simpa using hm
    have hr : wput op fn dst src reg off imm too = (0, 1) := if_neg (by rintro ⟨h, _⟩; exact hm h)
    rw [hr]
    exact rput_no op fn dst src reg off imm too w hm'
end Go.Proofs.Yteopeocgbfdofaa
