/- inst.May by its contract, some kinds. -/
import Derived.Test.YtebdnobgdimdoaaGreatGA
set_option linter.unusedVariables false
set_option linter.unusedSimpArgs false
namespace Go.Proofs.YtebdnobgdimdoaaGreat
open Go.RowKit
set_option maxHeartbeats 4000000 in
set_option maxRecDepth 100000 in
theorem may_6 (fn dst src : Int) (reg : Bool) (off imm : Int) (w : World) (h1 : inB dst 8 = true) (h2 : inB src 8 = true) :
    Calls Tryz.prog 116 #[.agg #[.int .i64 6, .int .i64 fn, .int .i64 dst, .int .i64 src, .bool reg, .int .i64 off, .int .u32 imm]] w fun e w' => e = .returned (.bool (mayB 6 fn dst src reg off imm)) ∧ Bel w w' := by
  have hi := rule_idx6
  have h0 : inB 6 8 = true := by decide
  go_enter Tryz.func116, Tryz.ntmps116
  go_upto_region 3 with (first | (go_at_call 144; refine (in_any _ _ _).mono ?_; rintro e w1 ⟨rfl, rfl⟩))
  go_cut [3] (fun s3 wx => ∃ g : Nat, s3 = .pointer (some ⟨g, 0, none⟩) ∧ w.heap.size < g ∧ Bel w wx ∧ wx.cell? ⟨w.heap.size, 0, none⟩ = some (.int .i64 6) ∧ wx.cell? ⟨w.heap.size, 1, none⟩ = some (.int .i64 fn) ∧ wx.cell? ⟨w.heap.size, 2, none⟩ = some (.int .i64 dst) ∧ wx.cell? ⟨w.heap.size, 3, none⟩ = some (.int .i64 src) ∧ wx.cell? ⟨w.heap.size, 4, none⟩ = some (.bool reg) ∧ wx.cell? ⟨w.heap.size, 5, none⟩ = some (.int .i64 off) ∧ wx.cell? ⟨w.heap.size, 6, none⟩ = some (.int .u32 imm) ∧ wx.cell? ⟨g, 0, none⟩ = some (.int .i64 1) ∧ wx.cell? ⟨g, 1, none⟩ = some (.bool false) ∧ wx.cell? ⟨g, 2, none⟩ = some (.bool false) ∧ wx.cell? ⟨g, 3, none⟩ = some (.int .i64 0) ∧ wx.cell? ⟨g, 4, none⟩ = some (.bool true) ∧ wx.frozen? ⟨g, 0, none⟩ = false ∧ wx.frozen? ⟨g, 1, none⟩ = false ∧ wx.frozen? ⟨g, 2, none⟩ = false ∧ wx.frozen? ⟨g, 3, none⟩ = false ∧ wx.frozen? ⟨g, 4, none⟩ = false)
  case first =>
    go_region_with (first | (go_at_call 145; refine (rules_any _).mono ?_; rintro e w1 ⟨rfl, rfl⟩))
    all_goals (go_wp2_with fail; go_meet)
    all_goals refine ⟨_, rfl, by omega, ?_, ?_, ?_, ?_, ?_, ?_, ?_, ?_, ?_, ?_, ?_, ?_, ?_, ?_, ?_, ?_, ?_, ?_⟩
    all_goals first | (go_simp; done) | (repeat (first | exact Bel.refl _ | apply Bel.drew | apply Bel.drewN | apply Bel.alloc)) | skip
  case rest =>
    obtain ⟨g, rfl, hg, HB, c0, c1, c2, c3, c4, c5, c6, r0, r1, r2, r3, r4, f0, f1, f2, f3, f4⟩ := hcut
    have hne : ¬ w.heap.size = g := by omega
    have hne' : ¬ g = w.heap.size := by omega
    clear hi
    go_wp2_with (first | (go_at_call 144; refine (in_any _ _ _).mono ?_; rintro e w1 ⟨rfl, rfl⟩))
    all_goals go_ret
    all_goals refine ⟨ret_bool (may_close ?_), by repeat (first | exact HB | apply Bel.drewN | refine Bel.setCell ?_ (Nat.le_of_lt hg) _)⟩
    all_goals (clear c0 c1 c2 c3 c4 c5 c6 r0 r1 r2 r3 r4 f0 f1 f2 f3 f4 hne hne' HB hg; simp only [inB_iff, inB_not, beq_eq_false_iff_ne, ne_eq] at *; simp [mayP, *]; try omega)
set_option maxHeartbeats 4000000 in
set_option maxRecDepth 100000 in
theorem may_7 (fn dst src : Int) (reg : Bool) (off imm : Int) (w : World) (h1 : inB dst 8 = true) (h2 : inB src 8 = true) :
    Calls Tryz.prog 116 #[.agg #[.int .i64 7, .int .i64 fn, .int .i64 dst, .int .i64 src, .bool reg, .int .i64 off, .int .u32 imm]] w fun e w' => e = .returned (.bool (mayB 7 fn dst src reg off imm)) ∧ Bel w w' := by
  have hi := rule_idx7
  have h0 : inB 7 8 = true := by decide
  go_enter Tryz.func116, Tryz.ntmps116
  go_upto_region 3 with (first | (go_at_call 144; refine (in_any _ _ _).mono ?_; rintro e w1 ⟨rfl, rfl⟩))
  go_cut [3] (fun s3 wx => ∃ g : Nat, s3 = .pointer (some ⟨g, 0, none⟩) ∧ w.heap.size < g ∧ Bel w wx ∧ wx.cell? ⟨w.heap.size, 0, none⟩ = some (.int .i64 7) ∧ wx.cell? ⟨w.heap.size, 1, none⟩ = some (.int .i64 fn) ∧ wx.cell? ⟨w.heap.size, 2, none⟩ = some (.int .i64 dst) ∧ wx.cell? ⟨w.heap.size, 3, none⟩ = some (.int .i64 src) ∧ wx.cell? ⟨w.heap.size, 4, none⟩ = some (.bool reg) ∧ wx.cell? ⟨w.heap.size, 5, none⟩ = some (.int .i64 off) ∧ wx.cell? ⟨w.heap.size, 6, none⟩ = some (.int .u32 imm) ∧ wx.cell? ⟨g, 0, none⟩ = some (.int .i64 1) ∧ wx.cell? ⟨g, 1, none⟩ = some (.bool false) ∧ wx.cell? ⟨g, 2, none⟩ = some (.bool false) ∧ wx.cell? ⟨g, 3, none⟩ = some (.int .i64 0) ∧ wx.cell? ⟨g, 4, none⟩ = some (.bool false) ∧ wx.frozen? ⟨g, 0, none⟩ = false ∧ wx.frozen? ⟨g, 1, none⟩ = false ∧ wx.frozen? ⟨g, 2, none⟩ = false ∧ wx.frozen? ⟨g, 3, none⟩ = false ∧ wx.frozen? ⟨g, 4, none⟩ = false)
  case first =>
    go_region_with (first | (go_at_call 145; refine (rules_any _).mono ?_; rintro e w1 ⟨rfl, rfl⟩))
    all_goals (go_wp2_with fail; go_meet)
    all_goals refine ⟨_, rfl, by omega, ?_, ?_, ?_, ?_, ?_, ?_, ?_, ?_, ?_, ?_, ?_, ?_, ?_, ?_, ?_, ?_, ?_, ?_⟩
    all_goals first | (go_simp; done) | (repeat (first | exact Bel.refl _ | apply Bel.drew | apply Bel.drewN | apply Bel.alloc)) | skip
  case rest =>
    obtain ⟨g, rfl, hg, HB, c0, c1, c2, c3, c4, c5, c6, r0, r1, r2, r3, r4, f0, f1, f2, f3, f4⟩ := hcut
    have hne : ¬ w.heap.size = g := by omega
    have hne' : ¬ g = w.heap.size := by omega
    clear hi
    go_wp2_with (first | (go_at_call 144; refine (in_any _ _ _).mono ?_; rintro e w1 ⟨rfl, rfl⟩))
    all_goals go_ret
    all_goals refine ⟨ret_bool (may_close ?_), by repeat (first | exact HB | apply Bel.drewN | refine Bel.setCell ?_ (Nat.le_of_lt hg) _)⟩
    all_goals (clear c0 c1 c2 c3 c4 c5 c6 r0 r1 r2 r3 r4 f0 f1 f2 f3 f4 hne hne' HB hg; simp only [inB_iff, inB_not, beq_eq_false_iff_ne, ne_eq] at *; simp [mayP, *]; try omega)
set_option maxHeartbeats 4000000 in
set_option maxRecDepth 100000 in
theorem may_1z (dst src : Int) (reg : Bool) (off imm : Int) (w : World) (h1 : inB dst 8 = true) (h2 : inB src 8 = true) :
    Calls Tryz.prog 116 #[.agg #[.int .i64 1, .int .i64 0, .int .i64 dst, .int .i64 src, .bool reg, .int .i64 off, .int .u32 imm]] w fun e w' => e = .returned (.bool (mayB 1 0 dst src reg off imm)) ∧ Bel w w' := by
  have hi := rule_idx1
  have h0 : inB 1 8 = true := by decide
  go_enter Tryz.func116, Tryz.ntmps116
  go_upto_region 3 with (first | (go_at_call 144; refine (in_any _ _ _).mono ?_; rintro e w1 ⟨rfl, rfl⟩))
  go_cut [3] (fun s3 wx => ∃ g : Nat, s3 = .pointer (some ⟨g, 0, none⟩) ∧ w.heap.size < g ∧ Bel w wx ∧ wx.cell? ⟨w.heap.size, 0, none⟩ = some (.int .i64 1) ∧ wx.cell? ⟨w.heap.size, 1, none⟩ = some (.int .i64 0) ∧ wx.cell? ⟨w.heap.size, 2, none⟩ = some (.int .i64 dst) ∧ wx.cell? ⟨w.heap.size, 3, none⟩ = some (.int .i64 src) ∧ wx.cell? ⟨w.heap.size, 4, none⟩ = some (.bool reg) ∧ wx.cell? ⟨w.heap.size, 5, none⟩ = some (.int .i64 off) ∧ wx.cell? ⟨w.heap.size, 6, none⟩ = some (.int .u32 imm) ∧ wx.cell? ⟨g, 0, none⟩ = some (.int .i64 5) ∧ wx.cell? ⟨g, 1, none⟩ = some (.bool true) ∧ wx.cell? ⟨g, 2, none⟩ = some (.bool true) ∧ wx.cell? ⟨g, 3, none⟩ = some (.int .i64 65535) ∧ wx.cell? ⟨g, 4, none⟩ = some (.bool true) ∧ wx.frozen? ⟨g, 0, none⟩ = false ∧ wx.frozen? ⟨g, 1, none⟩ = false ∧ wx.frozen? ⟨g, 2, none⟩ = false ∧ wx.frozen? ⟨g, 3, none⟩ = false ∧ wx.frozen? ⟨g, 4, none⟩ = false)
  case first =>
    go_region_with (first | (go_at_call 145; refine (rules_any _).mono ?_; rintro e w1 ⟨rfl, rfl⟩))
    all_goals (go_wp2_with fail; go_meet)
    all_goals refine ⟨_, rfl, by omega, ?_, ?_, ?_, ?_, ?_, ?_, ?_, ?_, ?_, ?_, ?_, ?_, ?_, ?_, ?_, ?_, ?_, ?_⟩
    all_goals first | (go_simp; done) | (repeat (first | exact Bel.refl _ | apply Bel.drew | apply Bel.drewN | apply Bel.alloc)) | skip
  case rest =>
    obtain ⟨g, rfl, hg, HB, c0, c1, c2, c3, c4, c5, c6, r0, r1, r2, r3, r4, f0, f1, f2, f3, f4⟩ := hcut
    have hne : ¬ w.heap.size = g := by omega
    have hne' : ¬ g = w.heap.size := by omega
    clear hi
    go_wp2_with (first | (go_at_call 144; refine (in_any _ _ _).mono ?_; rintro e w1 ⟨rfl, rfl⟩))
    all_goals go_ret
    all_goals refine ⟨ret_bool (may_close ?_), by repeat (first | exact HB | apply Bel.drewN | refine Bel.setCell ?_ (Nat.le_of_lt hg) _)⟩
    all_goals (clear c0 c1 c2 c3 c4 c5 c6 r0 r1 r2 r3 r4 f0 f1 f2 f3 f4 hne hne' HB hg; simp only [inB_iff, inB_not, beq_eq_false_iff_ne, ne_eq] at *; simp [mayP, *]; try omega)
end Go.Proofs.YtebdnobgdimdoaaGreat
