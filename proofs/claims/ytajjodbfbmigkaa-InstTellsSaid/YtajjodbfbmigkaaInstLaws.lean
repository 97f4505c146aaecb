/- The walks of chapter 2's laws. -/
import Derived.Test.YtajjodbfbmigkaaInstCalls
import Derived.Lib.Hide
set_option linter.unusedVariables false
set_option linter.unusedSimpArgs false
namespace Go.Proofs.Ytajjodbfbmigkaa
open Go.RowKit

theorem awake_put : putR (⟨0, 1, 2, 0, false, 0, 5⟩ : InstD) = ([1, 16, 0, 0, 0, 0, 0, 5], 0) := by decide
theorem awake_get : getR [1, 16, 0, 0, 0, 0, 0, 5] = (⟨0, 1, 2, 0, false, 0, 5⟩, 0) := by decide
theorem awake_may : mayB 0 1 2 0 false 0 5 = true := by decide
set_option maxHeartbeats 4000000 in
theorem awake_any (w : World) : Calls Try.prog 9 #[] w fun e w' => e = .returned (.bool true) ∧ Bel w w' := by
  have HB := Bel.refl w
  have m1 := awake_may
  go_enter Try.func9, Try.ntmps9
  go_wp2_with fail
  refine (put_at 0 1 2 0 false 0 5 _ (u32_lit 5 (by decide)) _ _ (Lib.hid awake_put)).mono ?_
  rintro e w1 ⟨A, cap, rfl, hs, hb1⟩
  have HB := HB.trans hb1
  clear hb1
  go_wp2_with fail
  refine (get_at A 8 cap _ _ hs (Lib.hid rfl) _ _ (Lib.hid awake_get)).mono ?_
  rintro e w2 ⟨rfl, hb2⟩
  have HS := Lib.hid (hs.mono (IntR.mono _) hb2)
  have HB := HB.trans hb2
  clear hb2 hs
  go_wp2_with fail
  refine (bytes_at A _ 8 8 cap 8 [1, 16, 0, 0, 0, 0, 0, 5] [1, 16, 0, 0, 0, 0, 0, 5] _ (HS.out.mono (IntR.mono _) (((Bel.refl _).alloc _).alloc _)) (sl_lit_at _ (w2.heap.size + 1) (by simp) _ [1, 16, 0, 0, 0, 0, 0, 5] (by decide) (by decide)) (Lib.hid rfl) (Lib.hid rfl) true (Lib.hid (by decide))).mono ?_
  rintro e w3 ⟨rfl, hb3⟩
  obtain ⟨hc3, hf3, hs3⟩ := bcell hb3
  have HB := ((HB.alloc _).alloc _).trans hb3
  clear hb3
  go_wp2_with (go_at_call 15; refine (may_any _ _ _ _ _ _ _ _).mono ?_; rintro e w4 ⟨rfl, hb4⟩; have HB := HB.trans hb4; clear hb4)
  go_ret
  exact ⟨by simp, HB⟩

theorem box7 {w w1 : World} {v0 v1 v2 v3 v4 v5 v6 : Value} {t : TypeId} (h : Bel (w.alloc (.cells #[v0, v1, v2, v3, v4, v5, v6] t)) w1) :
    w1.cell? ⟨w.heap.size, 0, none⟩ = some v0 ∧ w1.cell? ⟨w.heap.size, 1, none⟩ = some v1 ∧ w1.cell? ⟨w.heap.size, 2, none⟩ = some v2 ∧ w1.cell? ⟨w.heap.size, 3, none⟩ = some v3 ∧ w1.cell? ⟨w.heap.size, 4, none⟩ = some v4 ∧ w1.cell? ⟨w.heap.size, 5, none⟩ = some v5 ∧ w1.cell? ⟨w.heap.size, 6, none⟩ = some v6 :=
  ⟨h.cell (by simp), h.cell (by simp), h.cell (by simp), h.cell (by simp), h.cell (by simp), h.cell (by simp), h.cell (by simp)⟩
theorem Bel.un {w w1 : World} {o : Obj} (h : Bel (w.alloc o) w1) : Bel w w1 := ((Bel.refl w).alloc o).trans h
theorem inst_arr {C : Array Value} {op fn dst src : Int} {reg : Bool} {off imm : Int} (h : C.toList = InstD.cells ⟨op, fn, dst, src, reg, off, imm⟩) : C = #[.int .i64 op, .int .i64 fn, .int .i64 dst, .int .i64 src, .bool reg, .int .i64 off, .int .u32 imm] := by
  cases C; simp only [InstD.cells] at h; simp [h]
theorem bool_beq (a b : Bool) : (a == b) = decide (a = b) := by cases a <;> cases b <;> rfl

set_option maxHeartbeats 4000000 in
set_option maxRecDepth 100000 in
theorem InstKinds_walk (C0 : Array Value) (a0 : InstD) (w : World) (r0 : InstR w C0.toList a0) :
    Calls Try.prog 6 #[.agg C0] w fun e w' => e = .returned (.bool true) ∧ Bel w w' := by
  obtain ⟨hcs, hwf⟩ := r0
  obtain ⟨op, fn, dst, src, reg, off, imm⟩ := a0
  obtain rfl : C0 = #[.int .i64 op, .int .i64 fn, .int .i64 dst, .int .i64 src, .bool reg, .int .i64 off, .int .u32 imm] := inst_arr hcs
  clear hcs
  have HB := Bel.refl (w.alloc (.cells #[.int .i64 op, .int .i64 fn, .int .i64 dst, .int .i64 src, .bool reg, .int .i64 off, .int .u32 imm] 24))
  by_cases hm : mayB op fn dst src reg off imm = true
  · obtain ⟨⟨a1, a2⟩, ⟨b1, b2⟩, ⟨c1, c2⟩, ⟨d1, d2⟩, ⟨e1, e2⟩, f1, f2, f3, f4, f5⟩ := may_facts (i := ⟨op, fn, dst, src, reg, off, imm⟩) hm
    simp only at *
    by_cases h7 : op = 7
    · obtain ⟨rfl, rfl, rfl, rfl, rfl, rfl⟩ := f5 h7
      subst h7
      clear f1 f2 f3 f4 f5
      go_enter Try.func6, Try.ntmps6
      go_wp2_with (first | (go_at_call 9; refine (awake_any _).mono ?_; rintro e w1 ⟨rfl, hb1⟩; have HB := HB.trans hb1; obtain ⟨q0, q1, q2, q3, q4, q5, q6⟩ := box7 HB; clear hb1) | (go_at_call 15; refine (may_any _ _ _ _ _ _ _ _).mono ?_; rintro e w1 ⟨rfl, hb1⟩; have HB := HB.trans hb1; obtain ⟨q0, q1, q2, q3, q4, q5, q6⟩ := box7 HB; clear hb1))
      go_ret
      exact ⟨by first | (simp; done) | (simp; omega), HB.un⟩
    · have h7' : (op != 7) = true := by rw [bne_iff_ne]; exact h7
      clear f5
      by_cases h1 : op = 1
      · subst h1
        clear f1 f2
        cases reg
        · obtain rfl := f4 rfl
          clear f3 f4
          go_enter Try.func6, Try.ntmps6
          go_wp2_with (first | (go_at_call 9; refine (awake_any _).mono ?_; rintro e w1 ⟨rfl, hb1⟩; have HB := HB.trans hb1; obtain ⟨q0, q1, q2, q3, q4, q5, q6⟩ := box7 HB; clear hb1) | (go_at_call 15; refine (may_any _ _ _ _ _ _ _ _).mono ?_; rintro e w1 ⟨rfl, hb1⟩; have HB := HB.trans hb1; obtain ⟨q0, q1, q2, q3, q4, q5, q6⟩ := box7 HB; clear hb1))
          go_ret
          exact ⟨by first | (simp; done) | (simp; omega), HB.un⟩
        · obtain rfl := f3 rfl
          clear f3 f4
          go_enter Try.func6, Try.ntmps6
          go_wp2_with (first | (go_at_call 9; refine (awake_any _).mono ?_; rintro e w1 ⟨rfl, hb1⟩; have HB := HB.trans hb1; obtain ⟨q0, q1, q2, q3, q4, q5, q6⟩ := box7 HB; clear hb1) | (go_at_call 15; refine (may_any _ _ _ _ _ _ _ _).mono ?_; rintro e w1 ⟨rfl, hb1⟩; have HB := HB.trans hb1; obtain ⟨q0, q1, q2, q3, q4, q5, q6⟩ := box7 HB; clear hb1))
          go_ret
          exact ⟨by first | (simp; done) | (simp; omega), HB.un⟩
      · obtain rfl := f1 h1
        have h1' : (op == 1) = false := by simpa using h1
        clear f1
        by_cases h0 : op = 0
        · subst h0
          clear f2
          cases reg
          · obtain rfl := f4 rfl
            clear f3 f4
            go_enter Try.func6, Try.ntmps6
            go_wp2_with (first | (go_at_call 9; refine (awake_any _).mono ?_; rintro e w1 ⟨rfl, hb1⟩; have HB := HB.trans hb1; obtain ⟨q0, q1, q2, q3, q4, q5, q6⟩ := box7 HB; clear hb1) | (go_at_call 15; refine (may_any _ _ _ _ _ _ _ _).mono ?_; rintro e w1 ⟨rfl, hb1⟩; have HB := HB.trans hb1; obtain ⟨q0, q1, q2, q3, q4, q5, q6⟩ := box7 HB; clear hb1))
            go_ret
            exact ⟨by first | (simp; done) | (simp; omega), HB.un⟩
          · obtain rfl := f3 rfl
            clear f3 f4
            go_enter Try.func6, Try.ntmps6
            go_wp2_with (first | (go_at_call 9; refine (awake_any _).mono ?_; rintro e w1 ⟨rfl, hb1⟩; have HB := HB.trans hb1; obtain ⟨q0, q1, q2, q3, q4, q5, q6⟩ := box7 HB; clear hb1) | (go_at_call 15; refine (may_any _ _ _ _ _ _ _ _).mono ?_; rintro e w1 ⟨rfl, hb1⟩; have HB := HB.trans hb1; obtain ⟨q0, q1, q2, q3, q4, q5, q6⟩ := box7 HB; clear hb1))
            go_ret
            exact ⟨by first | (simp; done) | (simp; omega), HB.un⟩
        · obtain rfl := f2 (by omega)
          have h2' : ¬ op ≤ 1 := by omega
          clear f2
          cases reg
          · obtain rfl := f4 rfl
            clear f3 f4
            go_enter Try.func6, Try.ntmps6
            go_wp2_with (first | (go_at_call 9; refine (awake_any _).mono ?_; rintro e w1 ⟨rfl, hb1⟩; have HB := HB.trans hb1; obtain ⟨q0, q1, q2, q3, q4, q5, q6⟩ := box7 HB; clear hb1) | (go_at_call 15; refine (may_any _ _ _ _ _ _ _ _).mono ?_; rintro e w1 ⟨rfl, hb1⟩; have HB := HB.trans hb1; obtain ⟨q0, q1, q2, q3, q4, q5, q6⟩ := box7 HB; clear hb1))
            go_ret
            exact ⟨by first | (simp; done) | (simp; omega), HB.un⟩
          · obtain rfl := f3 rfl
            clear f3 f4
            go_enter Try.func6, Try.ntmps6
            go_wp2_with (first | (go_at_call 9; refine (awake_any _).mono ?_; rintro e w1 ⟨rfl, hb1⟩; have HB := HB.trans hb1; obtain ⟨q0, q1, q2, q3, q4, q5, q6⟩ := box7 HB; clear hb1) | (go_at_call 15; refine (may_any _ _ _ _ _ _ _ _).mono ?_; rintro e w1 ⟨rfl, hb1⟩; have HB := HB.trans hb1; obtain ⟨q0, q1, q2, q3, q4, q5, q6⟩ := box7 HB; clear hb1))
            go_ret
            exact ⟨by first | (simp; done) | (simp; omega), HB.un⟩
  · have hm' : mayB op fn dst src reg off imm = false := by simpa using hm
    clear hm
    go_enter Try.func6, Try.ntmps6
    go_wp2_with (first | (go_at_call 9; refine (awake_any _).mono ?_; rintro e w1 ⟨rfl, hb1⟩; have HB := HB.trans hb1; obtain ⟨q0, q1, q2, q3, q4, q5, q6⟩ := box7 HB; clear hb1) | (go_at_call 15; refine (may_any _ _ _ _ _ _ _ _).mono ?_; rintro e w1 ⟨rfl, hb1⟩; have HB := HB.trans hb1; obtain ⟨q0, q1, q2, q3, q4, q5, q6⟩ := box7 HB; clear hb1))
    go_ret
    exact ⟨by first | (simp; done) | (simp; omega), HB.un⟩
end Go.Proofs.Ytajjodbfbmigkaa
