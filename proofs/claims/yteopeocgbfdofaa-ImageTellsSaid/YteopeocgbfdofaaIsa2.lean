/- isa.Code by its contract. -/
import Derived.Test.YteopeocgbfdofaaIsa1
import Derived.Test.YteopeocgbfdofaaInstMay
import Derived.Test.YteopeocgbfdofaaInstEq
set_option linter.unusedVariables false
set_option linter.unusedSimpArgs false
namespace Go.Proofs.Yteopeocgbfdofaa
open Go.RowKit

/-- The kinds of instructions that have codes, in their codes' order. -/
def patD (n : Nat) : Int × Int × Bool := [(0, 0, false), (0, 0, true), (0, 1, false), (0, 1, true), (0, 2, false), (0, 2, true), (0, 3, false), (0, 3, true), (0, 4, false), (0, 4, true), (0, 5, false), (0, 5, true), (0, 6, false), (0, 6, true), (0, 7, false), (0, 7, true), (0, 8, false), (0, 8, true), (0, 9, false), (0, 9, true), (0, 10, false), (0, 10, true), (1, 0, false), (1, 1, false), (1, 1, true), (1, 2, false), (1, 2, true), (1, 3, false), (1, 3, true), (1, 4, false), (1, 4, true), (2, 0, false), (2, 0, true), (3, 0, false), (3, 0, true), (4, 0, false), (4, 0, true), (5, 0, false), (6, 0, false), (7, 0, false)].getD n (0, 0, false)
def patV (p : Int × Int × Bool) : Value := .agg #[.int .i64 p.1, .int .i64 p.2.1, .bool p.2.2]
theorem pat_ix0 : ∀ w : World, (Instr.index 66 (.agg patC) (.int .i64 (0 : Nat))).run Try.prog w = .ok (patV (patD 0)) w := fun _ => by kernel_rfl
theorem pat_ix1 : ∀ w : World, (Instr.index 66 (.agg patC) (.int .i64 (1 : Nat))).run Try.prog w = .ok (patV (patD 1)) w := fun _ => by kernel_rfl
theorem pat_ix2 : ∀ w : World, (Instr.index 66 (.agg patC) (.int .i64 (2 : Nat))).run Try.prog w = .ok (patV (patD 2)) w := fun _ => by kernel_rfl
theorem pat_ix3 : ∀ w : World, (Instr.index 66 (.agg patC) (.int .i64 (3 : Nat))).run Try.prog w = .ok (patV (patD 3)) w := fun _ => by kernel_rfl
theorem pat_ix4 : ∀ w : World, (Instr.index 66 (.agg patC) (.int .i64 (4 : Nat))).run Try.prog w = .ok (patV (patD 4)) w := fun _ => by kernel_rfl
theorem pat_ix5 : ∀ w : World, (Instr.index 66 (.agg patC) (.int .i64 (5 : Nat))).run Try.prog w = .ok (patV (patD 5)) w := fun _ => by kernel_rfl
theorem pat_ix6 : ∀ w : World, (Instr.index 66 (.agg patC) (.int .i64 (6 : Nat))).run Try.prog w = .ok (patV (patD 6)) w := fun _ => by kernel_rfl
theorem pat_ix7 : ∀ w : World, (Instr.index 66 (.agg patC) (.int .i64 (7 : Nat))).run Try.prog w = .ok (patV (patD 7)) w := fun _ => by kernel_rfl
theorem pat_ix8 : ∀ w : World, (Instr.index 66 (.agg patC) (.int .i64 (8 : Nat))).run Try.prog w = .ok (patV (patD 8)) w := fun _ => by kernel_rfl
theorem pat_ix9 : ∀ w : World, (Instr.index 66 (.agg patC) (.int .i64 (9 : Nat))).run Try.prog w = .ok (patV (patD 9)) w := fun _ => by kernel_rfl
theorem pat_ix10 : ∀ w : World, (Instr.index 66 (.agg patC) (.int .i64 (10 : Nat))).run Try.prog w = .ok (patV (patD 10)) w := fun _ => by kernel_rfl
theorem pat_ix11 : ∀ w : World, (Instr.index 66 (.agg patC) (.int .i64 (11 : Nat))).run Try.prog w = .ok (patV (patD 11)) w := fun _ => by kernel_rfl
theorem pat_ix12 : ∀ w : World, (Instr.index 66 (.agg patC) (.int .i64 (12 : Nat))).run Try.prog w = .ok (patV (patD 12)) w := fun _ => by kernel_rfl
theorem pat_ix13 : ∀ w : World, (Instr.index 66 (.agg patC) (.int .i64 (13 : Nat))).run Try.prog w = .ok (patV (patD 13)) w := fun _ => by kernel_rfl
theorem pat_ix14 : ∀ w : World, (Instr.index 66 (.agg patC) (.int .i64 (14 : Nat))).run Try.prog w = .ok (patV (patD 14)) w := fun _ => by kernel_rfl
theorem pat_ix15 : ∀ w : World, (Instr.index 66 (.agg patC) (.int .i64 (15 : Nat))).run Try.prog w = .ok (patV (patD 15)) w := fun _ => by kernel_rfl
theorem pat_ix16 : ∀ w : World, (Instr.index 66 (.agg patC) (.int .i64 (16 : Nat))).run Try.prog w = .ok (patV (patD 16)) w := fun _ => by kernel_rfl
theorem pat_ix17 : ∀ w : World, (Instr.index 66 (.agg patC) (.int .i64 (17 : Nat))).run Try.prog w = .ok (patV (patD 17)) w := fun _ => by kernel_rfl
theorem pat_ix18 : ∀ w : World, (Instr.index 66 (.agg patC) (.int .i64 (18 : Nat))).run Try.prog w = .ok (patV (patD 18)) w := fun _ => by kernel_rfl
theorem pat_ix19 : ∀ w : World, (Instr.index 66 (.agg patC) (.int .i64 (19 : Nat))).run Try.prog w = .ok (patV (patD 19)) w := fun _ => by kernel_rfl
theorem pat_ix20 : ∀ w : World, (Instr.index 66 (.agg patC) (.int .i64 (20 : Nat))).run Try.prog w = .ok (patV (patD 20)) w := fun _ => by kernel_rfl
theorem pat_ix21 : ∀ w : World, (Instr.index 66 (.agg patC) (.int .i64 (21 : Nat))).run Try.prog w = .ok (patV (patD 21)) w := fun _ => by kernel_rfl
theorem pat_ix22 : ∀ w : World, (Instr.index 66 (.agg patC) (.int .i64 (22 : Nat))).run Try.prog w = .ok (patV (patD 22)) w := fun _ => by kernel_rfl
theorem pat_ix23 : ∀ w : World, (Instr.index 66 (.agg patC) (.int .i64 (23 : Nat))).run Try.prog w = .ok (patV (patD 23)) w := fun _ => by kernel_rfl
theorem pat_ix24 : ∀ w : World, (Instr.index 66 (.agg patC) (.int .i64 (24 : Nat))).run Try.prog w = .ok (patV (patD 24)) w := fun _ => by kernel_rfl
theorem pat_ix25 : ∀ w : World, (Instr.index 66 (.agg patC) (.int .i64 (25 : Nat))).run Try.prog w = .ok (patV (patD 25)) w := fun _ => by kernel_rfl
theorem pat_ix26 : ∀ w : World, (Instr.index 66 (.agg patC) (.int .i64 (26 : Nat))).run Try.prog w = .ok (patV (patD 26)) w := fun _ => by kernel_rfl
theorem pat_ix27 : ∀ w : World, (Instr.index 66 (.agg patC) (.int .i64 (27 : Nat))).run Try.prog w = .ok (patV (patD 27)) w := fun _ => by kernel_rfl
theorem pat_ix28 : ∀ w : World, (Instr.index 66 (.agg patC) (.int .i64 (28 : Nat))).run Try.prog w = .ok (patV (patD 28)) w := fun _ => by kernel_rfl
theorem pat_ix29 : ∀ w : World, (Instr.index 66 (.agg patC) (.int .i64 (29 : Nat))).run Try.prog w = .ok (patV (patD 29)) w := fun _ => by kernel_rfl
theorem pat_ix30 : ∀ w : World, (Instr.index 66 (.agg patC) (.int .i64 (30 : Nat))).run Try.prog w = .ok (patV (patD 30)) w := fun _ => by kernel_rfl
theorem pat_ix31 : ∀ w : World, (Instr.index 66 (.agg patC) (.int .i64 (31 : Nat))).run Try.prog w = .ok (patV (patD 31)) w := fun _ => by kernel_rfl
theorem pat_ix32 : ∀ w : World, (Instr.index 66 (.agg patC) (.int .i64 (32 : Nat))).run Try.prog w = .ok (patV (patD 32)) w := fun _ => by kernel_rfl
theorem pat_ix33 : ∀ w : World, (Instr.index 66 (.agg patC) (.int .i64 (33 : Nat))).run Try.prog w = .ok (patV (patD 33)) w := fun _ => by kernel_rfl
theorem pat_ix34 : ∀ w : World, (Instr.index 66 (.agg patC) (.int .i64 (34 : Nat))).run Try.prog w = .ok (patV (patD 34)) w := fun _ => by kernel_rfl
theorem pat_ix35 : ∀ w : World, (Instr.index 66 (.agg patC) (.int .i64 (35 : Nat))).run Try.prog w = .ok (patV (patD 35)) w := fun _ => by kernel_rfl
theorem pat_ix36 : ∀ w : World, (Instr.index 66 (.agg patC) (.int .i64 (36 : Nat))).run Try.prog w = .ok (patV (patD 36)) w := fun _ => by kernel_rfl
theorem pat_ix37 : ∀ w : World, (Instr.index 66 (.agg patC) (.int .i64 (37 : Nat))).run Try.prog w = .ok (patV (patD 37)) w := fun _ => by kernel_rfl
theorem pat_ix38 : ∀ w : World, (Instr.index 66 (.agg patC) (.int .i64 (38 : Nat))).run Try.prog w = .ok (patV (patD 38)) w := fun _ => by kernel_rfl
theorem pat_ix39 : ∀ w : World, (Instr.index 66 (.agg patC) (.int .i64 (39 : Nat))).run Try.prog w = .ok (patV (patD 39)) w := fun _ => by kernel_rfl
theorem pat_index {n : Nat} (hn : n < 40) : ∀ w : World, (Instr.index 66 (.agg patC) (.int .i64 n)).run Try.prog w = .ok (patV (patD n)) w := by
  match n, hn with
  | 0, _ => exact pat_ix0
  | 1, _ => exact pat_ix1
  | 2, _ => exact pat_ix2
  | 3, _ => exact pat_ix3
  | 4, _ => exact pat_ix4
  | 5, _ => exact pat_ix5
  | 6, _ => exact pat_ix6
  | 7, _ => exact pat_ix7
  | 8, _ => exact pat_ix8
  | 9, _ => exact pat_ix9
  | 10, _ => exact pat_ix10
  | 11, _ => exact pat_ix11
  | 12, _ => exact pat_ix12
  | 13, _ => exact pat_ix13
  | 14, _ => exact pat_ix14
  | 15, _ => exact pat_ix15
  | 16, _ => exact pat_ix16
  | 17, _ => exact pat_ix17
  | 18, _ => exact pat_ix18
  | 19, _ => exact pat_ix19
  | 20, _ => exact pat_ix20
  | 21, _ => exact pat_ix21
  | 22, _ => exact pat_ix22
  | 23, _ => exact pat_ix23
  | 24, _ => exact pat_ix24
  | 25, _ => exact pat_ix25
  | 26, _ => exact pat_ix26
  | 27, _ => exact pat_ix27
  | 28, _ => exact pat_ix28
  | 29, _ => exact pat_ix29
  | 30, _ => exact pat_ix30
  | 31, _ => exact pat_ix31
  | 32, _ => exact pat_ix32
  | 33, _ => exact pat_ix33
  | 34, _ => exact pat_ix34
  | 35, _ => exact pat_ix35
  | 36, _ => exact pat_ix36
  | 37, _ => exact pat_ix37
  | 38, _ => exact pat_ix38
  | 39, _ => exact pat_ix39
  | n + 40, h => exact absurd h (by omega)
theorem patD_inj : ∀ n m : Fin 40, patD n = patD m → n = m := by decide +kernel
def codeN (op fn : Int) (reg : Bool) : Nat :=
  let r := if reg then 1 else 0
  if op = 0 then (2 * fn).toNat + r else if op = 1 then (if fn = 0 then 22 else (21 + 2 * fn).toNat + r) else if op = 2 then 31 + r else if op = 3 then 33 + r else if op = 4 then 35 + r else if op = 5 then 37 else if op = 6 then 38 else 39
theorem code_pat {op fn dst src : Int} {reg : Bool} {off imm : Int} (hm : mayB op fn dst src reg off imm = true) : codeN op fn reg < 40 ∧ patD (codeN op fn reg) = (op, fn, reg) := by
  have h := of_decide_eq_true hm
  obtain ⟨⟨a1, a2⟩, _, _, ⟨d1, d2⟩, _, f, _⟩ := h
  have : op = 0 ∨ op = 1 ∨ op = 2 ∨ op = 3 ∨ op = 4 ∨ op = 5 ∨ op = 6 ∨ op = 7 := by omega
  rcases this with rfl | rfl | rfl | rfl | rfl | rfl | rfl | rfl
  · simp at d2
    have : fn = 0 ∨ fn = 1 ∨ fn = 2 ∨ fn = 3 ∨ fn = 4 ∨ fn = 5 ∨ fn = 6 ∨ fn = 7 ∨ fn = 8 ∨ fn = 9 ∨ fn = 10 := by omega
    rcases this with rfl | rfl | rfl | rfl | rfl | rfl | rfl | rfl | rfl | rfl | rfl <;> cases reg <;> decide
  · simp at d2
    have : fn = 0 ∨ fn = 1 ∨ fn = 2 ∨ fn = 3 ∨ fn = 4 := by omega
    rcases this with rfl | rfl | rfl | rfl | rfl
    · have hr : reg = false := by
        simp at f
        exact f.2
      subst hr
      decide
    all_goals (cases reg <;> decide)
  all_goals
    simp at d2
    obtain rfl : fn = 0 := by omega
    first
    | (cases reg <;> decide)
    | (have hr : reg = false := by
        rcases f with ⟨f, _⟩ | ⟨_, f⟩
        · omega
        · exact f
       subst hr
       decide)
theorem eqA_pat (d : Nat) (w : World) (p q : Int × Int × Bool) : (Op.equalIn (d + 2) 65 (.agg #[.int .i64 p.1, .int .i64 p.2.1, .bool p.2.2]) (.agg #[.int .i64 q.1, .int .i64 q.2.1, .bool q.2.2])).run Try.prog w = .ok (decide (p = q)) w := by
  have e : decide (p = q) = (decide (p.1 = q.1) && (decide (p.2.1 = q.2.1) && ((p.2.2 == q.2.2) && true))) := by
    obtain ⟨a0, a1, a2⟩ := p
    obtain ⟨b0, b1, b2⟩ := q
    rw [Bool.eq_iff_iff]
    simp
  rw [e]
  refine eq_of_fields Try.underlying65 (by kernel_rfl) ?_
  refine eq_more (by decide) (by go_simp <;> rfl) (by go_simp <;> rfl) (by go_simp <;> rfl) ?_
  refine eq_more (by decide) (by go_simp <;> rfl) (by go_simp <;> rfl) (by go_simp <;> rfl) ?_
  refine eq_more (by decide) (by go_simp <;> rfl) (by go_simp <;> rfl) (by go_simp <;> rfl) ?_
  exact eq_none
theorem pat_eql (p q : Int × Int × Bool) (b : Bool) (hb : decide (p = q) = b) : ∀ w, (binOp .eql 65 (.agg #[.int .i64 p.1, .int .i64 p.2.1, .bool p.2.2]) (.agg #[.int .i64 q.1, .int .i64 q.2.1, .bool q.2.2])).run Try.prog w = .ok (.bool b) w := by
  intro w
  rw [run_eql_struct, eqA_pat, hb]; rfl
theorem box7 {w w1 : World} {v0 v1 v2 v3 v4 v5 v6 : Value} {t : TypeId} (h : Bel (w.alloc (.cells #[v0, v1, v2, v3, v4, v5, v6] t)) w1) :
    w1.cell? ⟨w.heap.size, 0, none⟩ = some v0 ∧ w1.cell? ⟨w.heap.size, 1, none⟩ = some v1 ∧ w1.cell? ⟨w.heap.size, 2, none⟩ = some v2 ∧ w1.cell? ⟨w.heap.size, 3, none⟩ = some v3 ∧ w1.cell? ⟨w.heap.size, 4, none⟩ = some v4 ∧ w1.cell? ⟨w.heap.size, 5, none⟩ = some v5 ∧ w1.cell? ⟨w.heap.size, 6, none⟩ = some v6 :=
  ⟨h.cell (by simp), h.cell (by simp), h.cell (by simp), h.cell (by simp), h.cell (by simp), h.cell (by simp), h.cell (by simp)⟩
theorem Bel.un {w w1 : World} {o : Obj} (h : Bel (w.alloc o) w1) : Bel w w1 := ((Bel.refl w).alloc o).trans h
set_option maxHeartbeats 4000000 in
set_option maxRecDepth 100000 in
theorem code_ok (op fn dst src : Int) (reg : Bool) (off imm : Int) (w : World) (hm : mayB op fn dst src reg off imm = true) :
    Calls Try.prog 42 #[.agg #[.int .i64 op, .int .i64 fn, .int .i64 dst, .int .i64 src, .bool reg, .int .i64 off, .int .u32 imm]] w fun e w' => e = .returned (.tuple #[.int .i64 (codeN op fn reg), .bool true]) ∧ Bel w w' := by
  have HB := Bel.refl (w.alloc (.cells #[.int .i64 op, .int .i64 fn, .int .i64 dst, .int .i64 src, .bool reg, .int .i64 off, .int .u32 imm] 34))
  have hidx := fun n hn => @pat_index n hn
  obtain ⟨hc, hp⟩ := code_pat hm
  have heq : ∀ n : Nat, n < codeN op fn reg → decide (patD n = (op, fn, reg)) = false := by
    intro n hn
    rw [decide_eq_false_iff_not, ← hp]
    intro h
    have := patD_inj ⟨n, by omega⟩ ⟨codeN op fn reg, hc⟩ h
    simp at this
    omega
  generalize codeN op fn reg = c at *
  replace hidx := Lib.hid hidx
  replace heq := Lib.hid heq
  replace hp := Lib.hid hp
  go_enter Try.func42, Try.ntmps42
  go_wp2_with fail
  refine (may_any _ _ _ _ _ _ _ _).mono ?_
  rintro e w1 ⟨rfl, hb⟩
  have HB := HB.trans hb
  clear hb
  go_wp2_with fail
  refine (patterns_any _).mono ?_
  rintro e w2 ⟨rfl, hb⟩
  have HB := HB.trans hb
  clear hb
  generalize patC = T at *
  go_wp2
  go_loopw [10] (fun k wr => ∃ (n : Nat), k = .int .i64 n ∧ n ≤ c ∧ Bel (w.alloc (.cells #[.int .i64 op, .int .i64 fn, .int .i64 dst, .int .i64 src, .bool reg, .int .i64 off, .int .u32 imm] 34)) wr) (fun k _ => (40 - intOf k).toNat)
  case atStart => exact ⟨0, rfl, by omega, HB⟩
  case round =>
    clear HB
    obtain ⟨n, rfl, hn, HB⟩ := hrel
    obtain ⟨p0, p1, p2, p3, p4, p5, p6⟩ := box7 HB
    have hsz := HB.size
    simp at hsz
    have ix := hidx.out n (by omega)
    simp only [patV] at ix
    have n40 : (n : Int) < 40 := by omega
    have ne : w.heap.size < wr.heap.size := by omega
    have ne1 : ¬ w.heap.size = wr.heap.size := by omega
    have ne2 : ¬ wr.heap.size = w.heap.size := by omega
    have e1 : IntKind.i64.wrap (n + 1) = (n + 1 : Int) := by simp only [IntKind.wrap]; simp [go_sem]; omega
    by_cases h : n = c
    · subst h
      rw [hp.out] at ix
      have EQ := pat_eql (op, fn, reg) (op, fn, reg) true (by simp)
      simp only at ix EQ
      go_wp2
      go_ret2
      exact ⟨by simp, by repeat (first | exact HB.un | apply Bel.alloc | apply Bel.drewN)⟩
    · have EQ := pat_eql (patD n) (op, fn, reg) false (heq.out n (by omega))
      generalize patD n = p at ix EQ
      obtain ⟨a1, a2, a3⟩ := p
      simp only at ix EQ
      go_wp2
      go_roundw
      case rel => exact ⟨n + 1, by simp, by omega, by repeat (first | exact HB | apply Bel.alloc | apply Bel.drewN)⟩
      case measure => simp [intOf]; omega
theorem code_no (op fn dst src : Int) (reg : Bool) (off imm : Int) (w : World) (hm : mayB op fn dst src reg off imm = false) :
    Calls Try.prog 42 #[.agg #[.int .i64 op, .int .i64 fn, .int .i64 dst, .int .i64 src, .bool reg, .int .i64 off, .int .u32 imm]] w fun e w' => e = .returned (.tuple #[.int .i64 0, .bool false]) ∧ Bel w w' := by
  have HB := Bel.refl (w.alloc (.cells #[.int .i64 op, .int .i64 fn, .int .i64 dst, .int .i64 src, .bool reg, .int .i64 off, .int .u32 imm] 34))
  go_enter Try.func42, Try.ntmps42
  go_wp2_with fail
  refine (may_any _ _ _ _ _ _ _ _).mono ?_
  rintro e w1 ⟨rfl, hb⟩
  have HB := HB.trans hb
  clear hb
  go_wp2
  go_ret2
  exact ⟨by simp, HB.un⟩
end Go.Proofs.Yteopeocgbfdofaa
