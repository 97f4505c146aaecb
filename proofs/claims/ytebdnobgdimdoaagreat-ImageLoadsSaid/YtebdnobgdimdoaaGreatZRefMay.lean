/- drydockref02.May by its contract: it is what inst.May tells. -/
import Derived.Test.YtebdnobgdimdoaaGreatGB
set_option linter.unusedVariables false
set_option linter.unusedSimpArgs false
namespace Go.Proofs.YtebdnobgdimdoaaGreat
open Go.RowKit
theorem mayQ (op fn dst src : Int) (reg : Bool) (off imm : Int) : mayB op fn dst src reg off imm = true ↔
    ((0 ≤ op ∧ op ≤ 7) ∧ (0 ≤ dst ∧ dst ≤ 7) ∧ (0 ≤ src ∧ src ≤ 7) ∧ 0 ≤ fn ∧ (0 ≤ off ∧ off ≤ 65535) ∧ (op = 0 → fn ≤ 10) ∧ (op = 1 → fn ≤ 4) ∧ (1 < op → fn = 0) ∧ (op ≠ 1 → off = 0)
    ∧ ((op < 5 ∧ ¬ (op = 1 ∧ fn = 0)) ∨ (dst = 0 ∧ reg = false)) ∧ ((op < 7 ∧ ¬ (op = 1 ∧ fn = 0)) ∨ imm = 0) ∧ (reg = true → imm = 0) ∧ (reg = false → src = 0)) := by
  unfold mayB
  rw [decide_eq_true_iff]
  unfold mayP
  constructor
  · rintro ⟨a, b, c, d, e, f, g, i⟩
    refine ⟨by omega, by omega, by omega, by omega, ?_, ?_, ?_, ?_, ?_, f, g, ?_, ?_⟩
    · split at e <;> omega
    · intro h; rw [if_pos h] at d; omega
    · intro h; rw [if_neg (by omega), if_pos h] at d; omega
    · intro h; rw [if_neg (by omega), if_neg (by omega)] at d; omega
    · intro h; rw [if_neg h] at e; omega
    · intro h; rw [if_pos h] at i; exact i
    · intro h; rw [if_neg (by simp [h])] at i; exact i
  · rintro ⟨a, b, c, d, e, x0, x1, x2, x3, f, g, i, j⟩
    refine ⟨by omega, by omega, by omega, ⟨d, ?_⟩, ⟨e.1, ?_⟩, f, g, ?_⟩
    · split
      · rename_i h; have := x0 h; omega
      · split
        · rename_i h; have := x1 h; omega
        · rename_i h1 h2; have := x2 (by omega); omega
    · split
      · omega
      · rename_i h; have := x3 h; omega
    · cases reg
      · simpa using j rfl
      · simpa using i rfl
set_option maxHeartbeats 16000000 in
set_option maxRecDepth 100000 in
theorem refmay_any (op fn dst src : Int) (reg : Bool) (off imm : Int) (w : World) :
    Calls Tryz.prog 143 #[.agg #[.int .i64 op, .int .i64 fn, .int .i64 dst, .int .i64 src, .bool reg, .int .i64 off, .int .u32 imm]] w fun e w' => e = .returned (.bool (mayB op fn dst src reg off imm)) ∧ Bel w w' := by
  by_cases c1 : op < 0
  · skip
    have hb : mayB op fn dst src reg off imm = false := by
      rw [Bool.eq_false_iff]
      intro h
      rw [mayQ] at h
      first | (simp at h; done) | (simp at h; omega)
    rw [hb]
    clear hb
    go_enter Tryz.func143, Tryz.ntmps143
    go_wp2
    go_ret
    exact ⟨by first | (simp; done) | (simp; omega), by repeat (first | exact Bel.refl _ | apply Bel.alloc | apply Bel.drewN)⟩
  · skip
    by_cases c2 : 7 < op
    · skip
      have hb : mayB op fn dst src reg off imm = false := by
        rw [Bool.eq_false_iff]
        intro h
        rw [mayQ] at h
        first | (simp at h; done) | (simp at h; omega)
      rw [hb]
      clear hb
      go_enter Tryz.func143, Tryz.ntmps143
      go_wp2
      go_ret
      exact ⟨by first | (simp; done) | (simp; omega), by repeat (first | exact Bel.refl _ | apply Bel.alloc | apply Bel.drewN)⟩
    · skip
      by_cases c3 : dst < 0
      · skip
        have hb : mayB op fn dst src reg off imm = false := by
          rw [Bool.eq_false_iff]
          intro h
          rw [mayQ] at h
          first | (simp at h; done) | (simp at h; omega)
        rw [hb]
        clear hb
        go_enter Tryz.func143, Tryz.ntmps143
        go_wp2
        go_ret
        exact ⟨by first | (simp; done) | (simp; omega), by repeat (first | exact Bel.refl _ | apply Bel.alloc | apply Bel.drewN)⟩
      · skip
        by_cases c4 : 7 < dst
        · skip
          have hb : mayB op fn dst src reg off imm = false := by
            rw [Bool.eq_false_iff]
            intro h
            rw [mayQ] at h
            first | (simp at h; done) | (simp at h; omega)
          rw [hb]
          clear hb
          go_enter Tryz.func143, Tryz.ntmps143
          go_wp2
          go_ret
          exact ⟨by first | (simp; done) | (simp; omega), by repeat (first | exact Bel.refl _ | apply Bel.alloc | apply Bel.drewN)⟩
        · skip
          by_cases c5 : src < 0
          · skip
            have hb : mayB op fn dst src reg off imm = false := by
              rw [Bool.eq_false_iff]
              intro h
              rw [mayQ] at h
              first | (simp at h; done) | (simp at h; omega)
            rw [hb]
            clear hb
            go_enter Tryz.func143, Tryz.ntmps143
            go_wp2
            go_ret
            exact ⟨by first | (simp; done) | (simp; omega), by repeat (first | exact Bel.refl _ | apply Bel.alloc | apply Bel.drewN)⟩
          · skip
            by_cases c6 : 7 < src
            · skip
              have hb : mayB op fn dst src reg off imm = false := by
                rw [Bool.eq_false_iff]
                intro h
                rw [mayQ] at h
                first | (simp at h; done) | (simp at h; omega)
              rw [hb]
              clear hb
              go_enter Tryz.func143, Tryz.ntmps143
              go_wp2
              go_ret
              exact ⟨by first | (simp; done) | (simp; omega), by repeat (first | exact Bel.refl _ | apply Bel.alloc | apply Bel.drewN)⟩
            · skip
              by_cases c7 : fn < 0
              · skip
                have hb : mayB op fn dst src reg off imm = false := by
                  rw [Bool.eq_false_iff]
                  intro h
                  rw [mayQ] at h
                  first | (simp at h; done) | (simp at h; omega)
                rw [hb]
                clear hb
                go_enter Tryz.func143, Tryz.ntmps143
                go_wp2
                go_ret
                exact ⟨by first | (simp; done) | (simp; omega), by repeat (first | exact Bel.refl _ | apply Bel.alloc | apply Bel.drewN)⟩
              · skip
                by_cases c8 : off < 0
                · skip
                  have hb : mayB op fn dst src reg off imm = false := by
                    rw [Bool.eq_false_iff]
                    intro h
                    rw [mayQ] at h
                    first | (simp at h; done) | (simp at h; omega)
                  rw [hb]
                  clear hb
                  go_enter Tryz.func143, Tryz.ntmps143
                  go_wp2
                  go_ret
                  exact ⟨by first | (simp; done) | (simp; omega), by repeat (first | exact Bel.refl _ | apply Bel.alloc | apply Bel.drewN)⟩
                · skip
                  by_cases c9 : 65535 < off
                  · skip
                    have hb : mayB op fn dst src reg off imm = false := by
                      rw [Bool.eq_false_iff]
                      intro h
                      rw [mayQ] at h
                      first | (simp at h; done) | (simp at h; omega)
                    rw [hb]
                    clear hb
                    go_enter Tryz.func143, Tryz.ntmps143
                    go_wp2
                    go_ret
                    exact ⟨by first | (simp; done) | (simp; omega), by repeat (first | exact Bel.refl _ | apply Bel.alloc | apply Bel.drewN)⟩
                  · skip
                    by_cases g0 : op = 0
                    · subst g0
                      by_cases c11 : 10 < fn
                      · skip
                        have hb : mayB 0 fn dst src reg off imm = false := by
                          rw [Bool.eq_false_iff]
                          intro h
                          rw [mayQ] at h
                          first | (simp at h; done) | (simp at h; omega)
                        rw [hb]
                        clear hb
                        go_enter Tryz.func143, Tryz.ntmps143
                        go_wp2
                        go_ret
                        exact ⟨by first | (simp; done) | (simp; omega), by repeat (first | exact Bel.refl _ | apply Bel.alloc | apply Bel.drewN)⟩
                      · skip
                        cases reg
                        · skip
                          by_cases c13 : src = 0
                          · subst c13
                            by_cases c14 : off = 0
                            · subst c14
                              by_cases c15 : dst = 0
                              · subst c15
                                have hb : mayB 0 fn 0 0 false 0 imm = true := by
                                  rw [mayQ]
                                  refine ⟨by omega, by omega, by omega, by omega, by omega, by omega, by omega, by omega, by omega, ?_, ?_, ?_, ?_⟩ <;> simp <;> omega
                                rw [hb]
                                clear hb
                                go_enter Tryz.func143, Tryz.ntmps143
                                go_wp2
                                go_ret
                                exact ⟨by first | (simp; done) | (simp; omega), by repeat (first | exact Bel.refl _ | apply Bel.alloc | apply Bel.drewN)⟩
                              · have e15 : (dst != 0) = true := by simpa using c15
                                have e15' : (dst == 0) = false := by simpa using c15
                                have hb : mayB 0 fn dst 0 false 0 imm = true := by
                                  rw [mayQ]
                                  refine ⟨by omega, by omega, by omega, by omega, by omega, by omega, by omega, by omega, by omega, ?_, ?_, ?_, ?_⟩ <;> simp <;> omega
                                rw [hb]
                                clear hb
                                go_enter Tryz.func143, Tryz.ntmps143
                                go_wp2
                                go_ret
                                exact ⟨by first | (simp; done) | (simp; omega), by repeat (first | exact Bel.refl _ | apply Bel.alloc | apply Bel.drewN)⟩
                            · have e14 : (off != 0) = true := by simpa using c14
                              have e14' : (off == 0) = false := by simpa using c14
                              have hb : mayB 0 fn dst 0 false off imm = false := by
                                rw [Bool.eq_false_iff]
                                intro h
                                rw [mayQ] at h
                                first | (simp at h; done) | (simp at h; omega)
                              rw [hb]
                              clear hb
                              go_enter Tryz.func143, Tryz.ntmps143
                              go_wp2
                              go_ret
                              exact ⟨by first | (simp; done) | (simp; omega), by repeat (first | exact Bel.refl _ | apply Bel.alloc | apply Bel.drewN)⟩
                          · have e13 : (src != 0) = true := by simpa using c13
                            have e13' : (src == 0) = false := by simpa using c13
                            have hb : mayB 0 fn dst src false off imm = false := by
                              rw [Bool.eq_false_iff]
                              intro h
                              rw [mayQ] at h
                              first | (simp at h; done) | (simp at h; omega)
                            rw [hb]
                            clear hb
                            go_enter Tryz.func143, Tryz.ntmps143
                            go_wp2
                            go_ret
                            exact ⟨by first | (simp; done) | (simp; omega), by repeat (first | exact Bel.refl _ | apply Bel.alloc | apply Bel.drewN)⟩
                        · skip
                          by_cases c13 : imm = 0
                          · subst c13
                            by_cases c14 : off = 0
                            · subst c14
                              by_cases c15 : dst = 0
                              · subst c15
                                by_cases c16 : src = 0
                                · subst c16
                                  have hb : mayB 0 fn 0 0 true 0 0 = true := by
                                    rw [mayQ]
                                    refine ⟨by omega, by omega, by omega, by omega, by omega, by omega, by omega, by omega, by omega, ?_, ?_, ?_, ?_⟩ <;> simp <;> omega
                                  rw [hb]
                                  clear hb
                                  go_enter Tryz.func143, Tryz.ntmps143
                                  go_wp2
                                  go_ret
                                  exact ⟨by first | (simp; done) | (simp; omega), by repeat (first | exact Bel.refl _ | apply Bel.alloc | apply Bel.drewN)⟩
                                · have e16 : (src != 0) = true := by simpa using c16
                                  have e16' : (src == 0) = false := by simpa using c16
                                  have hb : mayB 0 fn 0 src true 0 0 = true := by
                                    rw [mayQ]
                                    refine ⟨by omega, by omega, by omega, by omega, by omega, by omega, by omega, by omega, by omega, ?_, ?_, ?_, ?_⟩ <;> simp <;> omega
                                  rw [hb]
                                  clear hb
                                  go_enter Tryz.func143, Tryz.ntmps143
                                  go_wp2
                                  go_ret
                                  exact ⟨by first | (simp; done) | (simp; omega), by repeat (first | exact Bel.refl _ | apply Bel.alloc | apply Bel.drewN)⟩
                              · have e15 : (dst != 0) = true := by simpa using c15
                                have e15' : (dst == 0) = false := by simpa using c15
                                by_cases c16 : src = 0
                                · subst c16
                                  have hb : mayB 0 fn dst 0 true 0 0 = true := by
                                    rw [mayQ]
                                    refine ⟨by omega, by omega, by omega, by omega, by omega, by omega, by omega, by omega, by omega, ?_, ?_, ?_, ?_⟩ <;> simp <;> omega
                                  rw [hb]
                                  clear hb
                                  go_enter Tryz.func143, Tryz.ntmps143
                                  go_wp2
                                  go_ret
                                  exact ⟨by first | (simp; done) | (simp; omega), by repeat (first | exact Bel.refl _ | apply Bel.alloc | apply Bel.drewN)⟩
                                · have e16 : (src != 0) = true := by simpa using c16
                                  have e16' : (src == 0) = false := by simpa using c16
                                  have hb : mayB 0 fn dst src true 0 0 = true := by
                                    rw [mayQ]
                                    refine ⟨by omega, by omega, by omega, by omega, by omega, by omega, by omega, by omega, by omega, ?_, ?_, ?_, ?_⟩ <;> simp <;> omega
                                  rw [hb]
                                  clear hb
                                  go_enter Tryz.func143, Tryz.ntmps143
                                  go_wp2
                                  go_ret
                                  exact ⟨by first | (simp; done) | (simp; omega), by repeat (first | exact Bel.refl _ | apply Bel.alloc | apply Bel.drewN)⟩
                            · have e14 : (off != 0) = true := by simpa using c14
                              have e14' : (off == 0) = false := by simpa using c14
                              have hb : mayB 0 fn dst src true off 0 = false := by
                                rw [Bool.eq_false_iff]
                                intro h
                                rw [mayQ] at h
                                first | (simp at h; done) | (simp at h; omega)
                              rw [hb]
                              clear hb
                              go_enter Tryz.func143, Tryz.ntmps143
                              go_wp2
                              go_ret
                              exact ⟨by first | (simp; done) | (simp; omega), by repeat (first | exact Bel.refl _ | apply Bel.alloc | apply Bel.drewN)⟩
                          · have e13 : (imm != 0) = true := by simpa using c13
                            have e13' : (imm == 0) = false := by simpa using c13
                            have hb : mayB 0 fn dst src true off imm = false := by
                              rw [Bool.eq_false_iff]
                              intro h
                              rw [mayQ] at h
                              first | (simp at h; done) | (simp at h; omega)
                            rw [hb]
                            clear hb
                            go_enter Tryz.func143, Tryz.ntmps143
                            go_wp2
                            go_ret
                            exact ⟨by first | (simp; done) | (simp; omega), by repeat (first | exact Bel.refl _ | apply Bel.alloc | apply Bel.drewN)⟩
                    · by_cases g1 : op = 1
                      · subst g1
                        by_cases c12 : 4 < fn
                        · skip
                          have hb : mayB 1 fn dst src reg off imm = false := by
                            rw [Bool.eq_false_iff]
                            intro h
                            rw [mayQ] at h
                            first | (simp at h; done) | (simp at h; omega)
                          rw [hb]
                          clear hb
                          go_enter Tryz.func143, Tryz.ntmps143
                          go_wp2
                          go_ret
                          exact ⟨by first | (simp; done) | (simp; omega), by repeat (first | exact Bel.refl _ | apply Bel.alloc | apply Bel.drewN)⟩
                        · skip
                          cases reg
                          · skip
                            by_cases c14 : src = 0
                            · subst c14
                              by_cases c15 : fn = 0
                              · subst c15
                                by_cases c16 : dst = 0
                                · subst c16
                                  by_cases c17 : imm = 0
                                  · subst c17
                                    have hb : mayB 1 0 0 0 false off 0 = true := by
                                      rw [mayQ]
                                      refine ⟨by omega, by omega, by omega, by omega, by omega, by omega, by omega, by omega, by omega, ?_, ?_, ?_, ?_⟩ <;> simp <;> omega
                                    rw [hb]
                                    clear hb
                                    go_enter Tryz.func143, Tryz.ntmps143
                                    go_wp2
                                    go_ret
                                    exact ⟨by first | (simp; done) | (simp; omega), by repeat (first | exact Bel.refl _ | apply Bel.alloc | apply Bel.drewN)⟩
                                  · have e17 : (imm != 0) = true := by simpa using c17
                                    have e17' : (imm == 0) = false := by simpa using c17
                                    have hb : mayB 1 0 0 0 false off imm = false := by
                                      rw [Bool.eq_false_iff]
                                      intro h
                                      rw [mayQ] at h
                                      first | (simp at h; done) | (simp at h; omega)
                                    rw [hb]
                                    clear hb
                                    go_enter Tryz.func143, Tryz.ntmps143
                                    go_wp2
                                    go_ret
                                    exact ⟨by first | (simp; done) | (simp; omega), by repeat (first | exact Bel.refl _ | apply Bel.alloc | apply Bel.drewN)⟩
                                · have e16 : (dst != 0) = true := by simpa using c16
                                  have e16' : (dst == 0) = false := by simpa using c16
                                  have hb : mayB 1 0 dst 0 false off imm = false := by
                                    rw [Bool.eq_false_iff]
                                    intro h
                                    rw [mayQ] at h
                                    first | (simp at h; done) | (simp at h; omega)
                                  rw [hb]
                                  clear hb
                                  go_enter Tryz.func143, Tryz.ntmps143
                                  go_wp2
                                  go_ret
                                  exact ⟨by first | (simp; done) | (simp; omega), by repeat (first | exact Bel.refl _ | apply Bel.alloc | apply Bel.drewN)⟩
                              · have e15 : (fn != 0) = true := by simpa using c15
                                have e15' : (fn == 0) = false := by simpa using c15
                                by_cases c16 : dst = 0
                                · subst c16
                                  have hb : mayB 1 fn 0 0 false off imm = true := by
                                    rw [mayQ]
                                    refine ⟨by omega, by omega, by omega, by omega, by omega, by omega, by omega, by omega, by omega, ?_, ?_, ?_, ?_⟩ <;> simp <;> omega
                                  rw [hb]
                                  clear hb
                                  go_enter Tryz.func143, Tryz.ntmps143
                                  go_wp2
                                  go_ret
                                  exact ⟨by first | (simp; done) | (simp; omega), by repeat (first | exact Bel.refl _ | apply Bel.alloc | apply Bel.drewN)⟩
                                · have e16 : (dst != 0) = true := by simpa using c16
                                  have e16' : (dst == 0) = false := by simpa using c16
                                  have hb : mayB 1 fn dst 0 false off imm = true := by
                                    rw [mayQ]
                                    refine ⟨by omega, by omega, by omega, by omega, by omega, by omega, by omega, by omega, by omega, ?_, ?_, ?_, ?_⟩ <;> simp <;> omega
                                  rw [hb]
                                  clear hb
                                  go_enter Tryz.func143, Tryz.ntmps143
                                  go_wp2
                                  go_ret
                                  exact ⟨by first | (simp; done) | (simp; omega), by repeat (first | exact Bel.refl _ | apply Bel.alloc | apply Bel.drewN)⟩
                            · have e14 : (src != 0) = true := by simpa using c14
                              have e14' : (src == 0) = false := by simpa using c14
                              have hb : mayB 1 fn dst src false off imm = false := by
                                rw [Bool.eq_false_iff]
                                intro h
                                rw [mayQ] at h
                                first | (simp at h; done) | (simp at h; omega)
                              rw [hb]
                              clear hb
                              go_enter Tryz.func143, Tryz.ntmps143
                              go_wp2
                              go_ret
                              exact ⟨by first | (simp; done) | (simp; omega), by repeat (first | exact Bel.refl _ | apply Bel.alloc | apply Bel.drewN)⟩
                          · skip
                            by_cases c14 : imm = 0
                            · subst c14
                              by_cases c15 : fn = 0
                              · subst c15
                                by_cases c16 : dst = 0
                                · subst c16
                                  by_cases c17 : src = 0
                                  · subst c17
                                    have hb : mayB 1 0 0 0 true off 0 = false := by
                                      rw [Bool.eq_false_iff]
                                      intro h
                                      rw [mayQ] at h
                                      first | (simp at h; done) | (simp at h; omega)
                                    rw [hb]
                                    clear hb
                                    go_enter Tryz.func143, Tryz.ntmps143
                                    go_wp2
                                    go_ret
                                    exact ⟨by first | (simp; done) | (simp; omega), by repeat (first | exact Bel.refl _ | apply Bel.alloc | apply Bel.drewN)⟩
                                  · have e17 : (src != 0) = true := by simpa using c17
                                    have e17' : (src == 0) = false := by simpa using c17
                                    have hb : mayB 1 0 0 src true off 0 = false := by
                                      rw [Bool.eq_false_iff]
                                      intro h
                                      rw [mayQ] at h
                                      first | (simp at h; done) | (simp at h; omega)
                                    rw [hb]
                                    clear hb
                                    go_enter Tryz.func143, Tryz.ntmps143
                                    go_wp2
                                    go_ret
                                    exact ⟨by first | (simp; done) | (simp; omega), by repeat (first | exact Bel.refl _ | apply Bel.alloc | apply Bel.drewN)⟩
                                · have e16 : (dst != 0) = true := by simpa using c16
                                  have e16' : (dst == 0) = false := by simpa using c16
                                  by_cases c17 : src = 0
                                  · subst c17
                                    have hb : mayB 1 0 dst 0 true off 0 = false := by
                                      rw [Bool.eq_false_iff]
                                      intro h
                                      rw [mayQ] at h
                                      first | (simp at h; done) | (simp at h; omega)
                                    rw [hb]
                                    clear hb
                                    go_enter Tryz.func143, Tryz.ntmps143
                                    go_wp2
                                    go_ret
                                    exact ⟨by first | (simp; done) | (simp; omega), by repeat (first | exact Bel.refl _ | apply Bel.alloc | apply Bel.drewN)⟩
                                  · have e17 : (src != 0) = true := by simpa using c17
                                    have e17' : (src == 0) = false := by simpa using c17
                                    have hb : mayB 1 0 dst src true off 0 = false := by
                                      rw [Bool.eq_false_iff]
                                      intro h
                                      rw [mayQ] at h
                                      first | (simp at h; done) | (simp at h; omega)
                                    rw [hb]
                                    clear hb
                                    go_enter Tryz.func143, Tryz.ntmps143
                                    go_wp2
                                    go_ret
                                    exact ⟨by first | (simp; done) | (simp; omega), by repeat (first | exact Bel.refl _ | apply Bel.alloc | apply Bel.drewN)⟩
                              · have e15 : (fn != 0) = true := by simpa using c15
                                have e15' : (fn == 0) = false := by simpa using c15
                                by_cases c16 : dst = 0
                                · subst c16
                                  by_cases c17 : src = 0
                                  · subst c17
                                    have hb : mayB 1 fn 0 0 true off 0 = true := by
                                      rw [mayQ]
                                      refine ⟨by omega, by omega, by omega, by omega, by omega, by omega, by omega, by omega, by omega, ?_, ?_, ?_, ?_⟩ <;> simp <;> omega
                                    rw [hb]
                                    clear hb
                                    go_enter Tryz.func143, Tryz.ntmps143
                                    go_wp2
                                    go_ret
                                    exact ⟨by first | (simp; done) | (simp; omega), by repeat (first | exact Bel.refl _ | apply Bel.alloc | apply Bel.drewN)⟩
                                  · have e17 : (src != 0) = true := by simpa using c17
                                    have e17' : (src == 0) = false := by simpa using c17
                                    have hb : mayB 1 fn 0 src true off 0 = true := by
                                      rw [mayQ]
                                      refine ⟨by omega, by omega, by omega, by omega, by omega, by omega, by omega, by omega, by omega, ?_, ?_, ?_, ?_⟩ <;> simp <;> omega
                                    rw [hb]
                                    clear hb
                                    go_enter Tryz.func143, Tryz.ntmps143
                                    go_wp2
                                    go_ret
                                    exact ⟨by first | (simp; done) | (simp; omega), by repeat (first | exact Bel.refl _ | apply Bel.alloc | apply Bel.drewN)⟩
                                · have e16 : (dst != 0) = true := by simpa using c16
                                  have e16' : (dst == 0) = false := by simpa using c16
                                  by_cases c17 : src = 0
                                  · subst c17
                                    have hb : mayB 1 fn dst 0 true off 0 = true := by
                                      rw [mayQ]
                                      refine ⟨by omega, by omega, by omega, by omega, by omega, by omega, by omega, by omega, by omega, ?_, ?_, ?_, ?_⟩ <;> simp <;> omega
                                    rw [hb]
                                    clear hb
                                    go_enter Tryz.func143, Tryz.ntmps143
                                    go_wp2
                                    go_ret
                                    exact ⟨by first | (simp; done) | (simp; omega), by repeat (first | exact Bel.refl _ | apply Bel.alloc | apply Bel.drewN)⟩
                                  · have e17 : (src != 0) = true := by simpa using c17
                                    have e17' : (src == 0) = false := by simpa using c17
                                    have hb : mayB 1 fn dst src true off 0 = true := by
                                      rw [mayQ]
                                      refine ⟨by omega, by omega, by omega, by omega, by omega, by omega, by omega, by omega, by omega, ?_, ?_, ?_, ?_⟩ <;> simp <;> omega
                                    rw [hb]
                                    clear hb
                                    go_enter Tryz.func143, Tryz.ntmps143
                                    go_wp2
                                    go_ret
                                    exact ⟨by first | (simp; done) | (simp; omega), by repeat (first | exact Bel.refl _ | apply Bel.alloc | apply Bel.drewN)⟩
                            · have e14 : (imm != 0) = true := by simpa using c14
                              have e14' : (imm == 0) = false := by simpa using c14
                              have hb : mayB 1 fn dst src true off imm = false := by
                                rw [Bool.eq_false_iff]
                                intro h
                                rw [mayQ] at h
                                first | (simp at h; done) | (simp at h; omega)
                              rw [hb]
                              clear hb
                              go_enter Tryz.func143, Tryz.ntmps143
                              go_wp2
                              go_ret
                              exact ⟨by first | (simp; done) | (simp; omega), by repeat (first | exact Bel.refl _ | apply Bel.alloc | apply Bel.drewN)⟩
                      · have g2 : 1 < op := by omega
                        have o0 : (op == 0) = false := by rw [beq_eq_false_iff_ne]; omega
                        have o1 : (op == 1) = false := by rw [beq_eq_false_iff_ne]; omega
                        have o1' : (op != 1) = true := by rw [bne_iff_ne]; omega
                        by_cases c12 : 0 < fn
                        · skip
                          have hb : mayB op fn dst src reg off imm = false := by
                            rw [Bool.eq_false_iff]
                            intro h
                            rw [mayQ] at h
                            first | (simp at h; done) | (simp at h; omega)
                          rw [hb]
                          clear hb
                          go_enter Tryz.func143, Tryz.ntmps143
                          go_wp2
                          go_ret
                          exact ⟨by first | (simp; done) | (simp; omega), by repeat (first | exact Bel.refl _ | apply Bel.alloc | apply Bel.drewN)⟩
                        · skip
                          obtain rfl : fn = 0 := by omega
                          cases reg
                          · skip
                            by_cases c14 : src = 0
                            · subst c14
                              by_cases c15 : off = 0
                              · subst c15
                                by_cases c16 : dst = 0
                                · subst c16
                                  by_cases s7 : op = 7
                                  · subst s7
                                    by_cases c18 : imm = 0
                                    · subst c18
                                      have hb : mayB 7 0 0 0 false 0 0 = true := by
                                        rw [mayQ]
                                        refine ⟨by omega, by omega, by omega, by omega, by omega, by omega, by omega, by omega, by omega, ?_, ?_, ?_, ?_⟩ <;> simp <;> omega
                                      rw [hb]
                                      clear hb
                                      go_enter Tryz.func143, Tryz.ntmps143
                                      go_wp2
                                      go_ret
                                      exact ⟨by first | (simp; done) | (simp; omega), by repeat (first | exact Bel.refl _ | apply Bel.alloc | apply Bel.drewN)⟩
                                    · have e18 : (imm != 0) = true := by simpa using c18
                                      have e18' : (imm == 0) = false := by simpa using c18
                                      have hb : mayB 7 0 0 0 false 0 imm = false := by
                                        rw [Bool.eq_false_iff]
                                        intro h
                                        rw [mayQ] at h
                                        first | (simp at h; done) | (simp at h; omega)
                                      rw [hb]
                                      clear hb
                                      go_enter Tryz.func143, Tryz.ntmps143
                                      go_wp2
                                      go_ret
                                      exact ⟨by first | (simp; done) | (simp; omega), by repeat (first | exact Bel.refl _ | apply Bel.alloc | apply Bel.drewN)⟩
                                  · have s7' : (op == 7) = false := by simpa using s7
                                    by_cases c18 : op < 5
                                    · skip
                                      have hb : mayB op 0 0 0 false 0 imm = true := by
                                        rw [mayQ]
                                        refine ⟨by omega, by omega, by omega, by omega, by omega, by omega, by omega, by omega, by omega, ?_, ?_, ?_, ?_⟩ <;> simp <;> omega
                                      rw [hb]
                                      clear hb
                                      go_enter Tryz.func143, Tryz.ntmps143
                                      go_wp2
                                      go_ret
                                      exact ⟨by first | (simp; done) | (simp; omega), by repeat (first | exact Bel.refl _ | apply Bel.alloc | apply Bel.drewN)⟩
                                    · skip
                                      have hb : mayB op 0 0 0 false 0 imm = true := by
                                        rw [mayQ]
                                        refine ⟨by omega, by omega, by omega, by omega, by omega, by omega, by omega, by omega, by omega, ?_, ?_, ?_, ?_⟩ <;> simp <;> omega
                                      rw [hb]
                                      clear hb
                                      go_enter Tryz.func143, Tryz.ntmps143
                                      go_wp2
                                      go_ret
                                      exact ⟨by first | (simp; done) | (simp; omega), by repeat (first | exact Bel.refl _ | apply Bel.alloc | apply Bel.drewN)⟩
                                · have e16 : (dst != 0) = true := by simpa using c16
                                  have e16' : (dst == 0) = false := by simpa using c16
                                  by_cases s7 : op = 7
                                  · subst s7
                                    by_cases c18 : imm = 0
                                    · subst c18
                                      have hb : mayB 7 0 dst 0 false 0 0 = false := by
                                        rw [Bool.eq_false_iff]
                                        intro h
                                        rw [mayQ] at h
                                        first | (simp at h; done) | (simp at h; omega)
                                      rw [hb]
                                      clear hb
                                      go_enter Tryz.func143, Tryz.ntmps143
                                      go_wp2
                                      go_ret
                                      exact ⟨by first | (simp; done) | (simp; omega), by repeat (first | exact Bel.refl _ | apply Bel.alloc | apply Bel.drewN)⟩
                                    · have e18 : (imm != 0) = true := by simpa using c18
                                      have e18' : (imm == 0) = false := by simpa using c18
                                      have hb : mayB 7 0 dst 0 false 0 imm = false := by
                                        rw [Bool.eq_false_iff]
                                        intro h
                                        rw [mayQ] at h
                                        first | (simp at h; done) | (simp at h; omega)
                                      rw [hb]
                                      clear hb
                                      go_enter Tryz.func143, Tryz.ntmps143
                                      go_wp2
                                      go_ret
                                      exact ⟨by first | (simp; done) | (simp; omega), by repeat (first | exact Bel.refl _ | apply Bel.alloc | apply Bel.drewN)⟩
                                  · have s7' : (op == 7) = false := by simpa using s7
                                    by_cases c18 : op < 5
                                    · skip
                                      have hb : mayB op 0 dst 0 false 0 imm = true := by
                                        rw [mayQ]
                                        refine ⟨by omega, by omega, by omega, by omega, by omega, by omega, by omega, by omega, by omega, ?_, ?_, ?_, ?_⟩ <;> simp <;> omega
                                      rw [hb]
                                      clear hb
                                      go_enter Tryz.func143, Tryz.ntmps143
                                      go_wp2
                                      go_ret
                                      exact ⟨by first | (simp; done) | (simp; omega), by repeat (first | exact Bel.refl _ | apply Bel.alloc | apply Bel.drewN)⟩
                                    · skip
                                      have hb : mayB op 0 dst 0 false 0 imm = false := by
                                        rw [Bool.eq_false_iff]
                                        intro h
                                        rw [mayQ] at h
                                        first | (simp at h; done) | (simp at h; omega)
                                      rw [hb]
                                      clear hb
                                      go_enter Tryz.func143, Tryz.ntmps143
                                      go_wp2
                                      go_ret
                                      exact ⟨by first | (simp; done) | (simp; omega), by repeat (first | exact Bel.refl _ | apply Bel.alloc | apply Bel.drewN)⟩
                              · have e15 : (off != 0) = true := by simpa using c15
                                have e15' : (off == 0) = false := by simpa using c15
                                have hb : mayB op 0 dst 0 false off imm = false := by
                                  rw [Bool.eq_false_iff]
                                  intro h
                                  rw [mayQ] at h
                                  first | (simp at h; done) | (simp at h; omega)
                                rw [hb]
                                clear hb
                                go_enter Tryz.func143, Tryz.ntmps143
                                go_wp2
                                go_ret
                                exact ⟨by first | (simp; done) | (simp; omega), by repeat (first | exact Bel.refl _ | apply Bel.alloc | apply Bel.drewN)⟩
                            · have e14 : (src != 0) = true := by simpa using c14
                              have e14' : (src == 0) = false := by simpa using c14
                              have hb : mayB op 0 dst src false off imm = false := by
                                rw [Bool.eq_false_iff]
                                intro h
                                rw [mayQ] at h
                                first | (simp at h; done) | (simp at h; omega)
                              rw [hb]
                              clear hb
                              go_enter Tryz.func143, Tryz.ntmps143
                              go_wp2
                              go_ret
                              exact ⟨by first | (simp; done) | (simp; omega), by repeat (first | exact Bel.refl _ | apply Bel.alloc | apply Bel.drewN)⟩
                          · skip
                            by_cases c14 : imm = 0
                            · subst c14
                              by_cases c15 : off = 0
                              · subst c15
                                by_cases c16 : dst = 0
                                · subst c16
                                  by_cases c17 : src = 0
                                  · subst c17
                                    by_cases s7 : op = 7
                                    · subst s7
                                      have hb : mayB 7 0 0 0 true 0 0 = false := by
                                        rw [Bool.eq_false_iff]
                                        intro h
                                        rw [mayQ] at h
                                        first | (simp at h; done) | (simp at h; omega)
                                      rw [hb]
                                      clear hb
                                      go_enter Tryz.func143, Tryz.ntmps143
                                      go_wp2
                                      go_ret
                                      exact ⟨by first | (simp; done) | (simp; omega), by repeat (first | exact Bel.refl _ | apply Bel.alloc | apply Bel.drewN)⟩
                                    · have s7' : (op == 7) = false := by simpa using s7
                                      by_cases c19 : op < 5
                                      · skip
                                        have hb : mayB op 0 0 0 true 0 0 = true := by
                                          rw [mayQ]
                                          refine ⟨by omega, by omega, by omega, by omega, by omega, by omega, by omega, by omega, by omega, ?_, ?_, ?_, ?_⟩ <;> simp <;> omega
                                        rw [hb]
                                        clear hb
                                        go_enter Tryz.func143, Tryz.ntmps143
                                        go_wp2
                                        go_ret
                                        exact ⟨by first | (simp; done) | (simp; omega), by repeat (first | exact Bel.refl _ | apply Bel.alloc | apply Bel.drewN)⟩
                                      · skip
                                        have hb : mayB op 0 0 0 true 0 0 = false := by
                                          rw [Bool.eq_false_iff]
                                          intro h
                                          rw [mayQ] at h
                                          first | (simp at h; done) | (simp at h; omega)
                                        rw [hb]
                                        clear hb
                                        go_enter Tryz.func143, Tryz.ntmps143
                                        go_wp2
                                        go_ret
                                        exact ⟨by first | (simp; done) | (simp; omega), by repeat (first | exact Bel.refl _ | apply Bel.alloc | apply Bel.drewN)⟩
                                  · have e17 : (src != 0) = true := by simpa using c17
                                    have e17' : (src == 0) = false := by simpa using c17
                                    by_cases s7 : op = 7
                                    · subst s7
                                      have hb : mayB 7 0 0 src true 0 0 = false := by
                                        rw [Bool.eq_false_iff]
                                        intro h
                                        rw [mayQ] at h
                                        first | (simp at h; done) | (simp at h; omega)
                                      rw [hb]
                                      clear hb
                                      go_enter Tryz.func143, Tryz.ntmps143
                                      go_wp2
                                      go_ret
                                      exact ⟨by first | (simp; done) | (simp; omega), by repeat (first | exact Bel.refl _ | apply Bel.alloc | apply Bel.drewN)⟩
                                    · have s7' : (op == 7) = false := by simpa using s7
                                      by_cases c19 : op < 5
                                      · skip
                                        have hb : mayB op 0 0 src true 0 0 = true := by
                                          rw [mayQ]
                                          refine ⟨by omega, by omega, by omega, by omega, by omega, by omega, by omega, by omega, by omega, ?_, ?_, ?_, ?_⟩ <;> simp <;> omega
                                        rw [hb]
                                        clear hb
                                        go_enter Tryz.func143, Tryz.ntmps143
                                        go_wp2
                                        go_ret
                                        exact ⟨by first | (simp; done) | (simp; omega), by repeat (first | exact Bel.refl _ | apply Bel.alloc | apply Bel.drewN)⟩
                                      · skip
                                        have hb : mayB op 0 0 src true 0 0 = false := by
                                          rw [Bool.eq_false_iff]
                                          intro h
                                          rw [mayQ] at h
                                          first | (simp at h; done) | (simp at h; omega)
                                        rw [hb]
                                        clear hb
                                        go_enter Tryz.func143, Tryz.ntmps143
                                        go_wp2
                                        go_ret
                                        exact ⟨by first | (simp; done) | (simp; omega), by repeat (first | exact Bel.refl _ | apply Bel.alloc | apply Bel.drewN)⟩
                                · have e16 : (dst != 0) = true := by simpa using c16
                                  have e16' : (dst == 0) = false := by simpa using c16
                                  by_cases c17 : src = 0
                                  · subst c17
                                    by_cases s7 : op = 7
                                    · subst s7
                                      have hb : mayB 7 0 dst 0 true 0 0 = false := by
                                        rw [Bool.eq_false_iff]
                                        intro h
                                        rw [mayQ] at h
                                        first | (simp at h; done) | (simp at h; omega)
                                      rw [hb]
                                      clear hb
                                      go_enter Tryz.func143, Tryz.ntmps143
                                      go_wp2
                                      go_ret
                                      exact ⟨by first | (simp; done) | (simp; omega), by repeat (first | exact Bel.refl _ | apply Bel.alloc | apply Bel.drewN)⟩
                                    · have s7' : (op == 7) = false := by simpa using s7
                                      by_cases c19 : op < 5
                                      · skip
                                        have hb : mayB op 0 dst 0 true 0 0 = true := by
                                          rw [mayQ]
                                          refine ⟨by omega, by omega, by omega, by omega, by omega, by omega, by omega, by omega, by omega, ?_, ?_, ?_, ?_⟩ <;> simp <;> omega
                                        rw [hb]
                                        clear hb
                                        go_enter Tryz.func143, Tryz.ntmps143
                                        go_wp2
                                        go_ret
                                        exact ⟨by first | (simp; done) | (simp; omega), by repeat (first | exact Bel.refl _ | apply Bel.alloc | apply Bel.drewN)⟩
                                      · skip
                                        have hb : mayB op 0 dst 0 true 0 0 = false := by
                                          rw [Bool.eq_false_iff]
                                          intro h
                                          rw [mayQ] at h
                                          first | (simp at h; done) | (simp at h; omega)
                                        rw [hb]
                                        clear hb
                                        go_enter Tryz.func143, Tryz.ntmps143
                                        go_wp2
                                        go_ret
                                        exact ⟨by first | (simp; done) | (simp; omega), by repeat (first | exact Bel.refl _ | apply Bel.alloc | apply Bel.drewN)⟩
                                  · have e17 : (src != 0) = true := by simpa using c17
                                    have e17' : (src == 0) = false := by simpa using c17
                                    by_cases s7 : op = 7
                                    · subst s7
                                      have hb : mayB 7 0 dst src true 0 0 = false := by
                                        rw [Bool.eq_false_iff]
                                        intro h
                                        rw [mayQ] at h
                                        first | (simp at h; done) | (simp at h; omega)
                                      rw [hb]
                                      clear hb
                                      go_enter Tryz.func143, Tryz.ntmps143
                                      go_wp2
                                      go_ret
                                      exact ⟨by first | (simp; done) | (simp; omega), by repeat (first | exact Bel.refl _ | apply Bel.alloc | apply Bel.drewN)⟩
                                    · have s7' : (op == 7) = false := by simpa using s7
                                      by_cases c19 : op < 5
                                      · skip
                                        have hb : mayB op 0 dst src true 0 0 = true := by
                                          rw [mayQ]
                                          refine ⟨by omega, by omega, by omega, by omega, by omega, by omega, by omega, by omega, by omega, ?_, ?_, ?_, ?_⟩ <;> simp <;> omega
                                        rw [hb]
                                        clear hb
                                        go_enter Tryz.func143, Tryz.ntmps143
                                        go_wp2
                                        go_ret
                                        exact ⟨by first | (simp; done) | (simp; omega), by repeat (first | exact Bel.refl _ | apply Bel.alloc | apply Bel.drewN)⟩
                                      · skip
                                        have hb : mayB op 0 dst src true 0 0 = false := by
                                          rw [Bool.eq_false_iff]
                                          intro h
                                          rw [mayQ] at h
                                          first | (simp at h; done) | (simp at h; omega)
                                        rw [hb]
                                        clear hb
                                        go_enter Tryz.func143, Tryz.ntmps143
                                        go_wp2
                                        go_ret
                                        exact ⟨by first | (simp; done) | (simp; omega), by repeat (first | exact Bel.refl _ | apply Bel.alloc | apply Bel.drewN)⟩
                              · have e15 : (off != 0) = true := by simpa using c15
                                have e15' : (off == 0) = false := by simpa using c15
                                have hb : mayB op 0 dst src true off 0 = false := by
                                  rw [Bool.eq_false_iff]
                                  intro h
                                  rw [mayQ] at h
                                  first | (simp at h; done) | (simp at h; omega)
                                rw [hb]
                                clear hb
                                go_enter Tryz.func143, Tryz.ntmps143
                                go_wp2
                                go_ret
                                exact ⟨by first | (simp; done) | (simp; omega), by repeat (first | exact Bel.refl _ | apply Bel.alloc | apply Bel.drewN)⟩
                            · have e14 : (imm != 0) = true := by simpa using c14
                              have e14' : (imm == 0) = false := by simpa using c14
                              have hb : mayB op 0 dst src true off imm = false := by
                                rw [Bool.eq_false_iff]
                                intro h
                                rw [mayQ] at h
                                first | (simp at h; done) | (simp at h; omega)
                              rw [hb]
                              clear hb
                              go_enter Tryz.func143, Tryz.ntmps143
                              go_wp2
                              go_ret
                              exact ⟨by first | (simp; done) | (simp; omega), by repeat (first | exact Bel.refl _ | apply Bel.alloc | apply Bel.drewN)⟩
end Go.Proofs.YtebdnobgdimdoaaGreat
