/- isa.Get by its contract. -/
import Derived.Test.YteopeocgbfdofaaIsa3
set_option linter.unusedVariables false
set_option linter.unusedSimpArgs false
namespace Go.Proofs.Yteopeocgbfdofaa
open Go.RowKit

theorem pat_ixU0 : ∀ w : World, (Instr.index 66 (.agg patC) (.int .u64 (0 : Nat))).run Try.prog w = .ok (patV (patD 0)) w := fun _ => by kernel_rfl
theorem pat_ixU1 : ∀ w : World, (Instr.index 66 (.agg patC) (.int .u64 (1 : Nat))).run Try.prog w = .ok (patV (patD 1)) w := fun _ => by kernel_rfl
theorem pat_ixU2 : ∀ w : World, (Instr.index 66 (.agg patC) (.int .u64 (2 : Nat))).run Try.prog w = .ok (patV (patD 2)) w := fun _ => by kernel_rfl
theorem pat_ixU3 : ∀ w : World, (Instr.index 66 (.agg patC) (.int .u64 (3 : Nat))).run Try.prog w = .ok (patV (patD 3)) w := fun _ => by kernel_rfl
theorem pat_ixU4 : ∀ w : World, (Instr.index 66 (.agg patC) (.int .u64 (4 : Nat))).run Try.prog w = .ok (patV (patD 4)) w := fun _ => by kernel_rfl
theorem pat_ixU5 : ∀ w : World, (Instr.index 66 (.agg patC) (.int .u64 (5 : Nat))).run Try.prog w = .ok (patV (patD 5)) w := fun _ => by kernel_rfl
theorem pat_ixU6 : ∀ w : World, (Instr.index 66 (.agg patC) (.int .u64 (6 : Nat))).run Try.prog w = .ok (patV (patD 6)) w := fun _ => by kernel_rfl
theorem pat_ixU7 : ∀ w : World, (Instr.index 66 (.agg patC) (.int .u64 (7 : Nat))).run Try.prog w = .ok (patV (patD 7)) w := fun _ => by kernel_rfl
theorem pat_ixU8 : ∀ w : World, (Instr.index 66 (.agg patC) (.int .u64 (8 : Nat))).run Try.prog w = .ok (patV (patD 8)) w := fun _ => by kernel_rfl
theorem pat_ixU9 : ∀ w : World, (Instr.index 66 (.agg patC) (.int .u64 (9 : Nat))).run Try.prog w = .ok (patV (patD 9)) w := fun _ => by kernel_rfl
theorem pat_ixU10 : ∀ w : World, (Instr.index 66 (.agg patC) (.int .u64 (10 : Nat))).run Try.prog w = .ok (patV (patD 10)) w := fun _ => by kernel_rfl
theorem pat_ixU11 : ∀ w : World, (Instr.index 66 (.agg patC) (.int .u64 (11 : Nat))).run Try.prog w = .ok (patV (patD 11)) w := fun _ => by kernel_rfl
theorem pat_ixU12 : ∀ w : World, (Instr.index 66 (.agg patC) (.int .u64 (12 : Nat))).run Try.prog w = .ok (patV (patD 12)) w := fun _ => by kernel_rfl
theorem pat_ixU13 : ∀ w : World, (Instr.index 66 (.agg patC) (.int .u64 (13 : Nat))).run Try.prog w = .ok (patV (patD 13)) w := fun _ => by kernel_rfl
theorem pat_ixU14 : ∀ w : World, (Instr.index 66 (.agg patC) (.int .u64 (14 : Nat))).run Try.prog w = .ok (patV (patD 14)) w := fun _ => by kernel_rfl
theorem pat_ixU15 : ∀ w : World, (Instr.index 66 (.agg patC) (.int .u64 (15 : Nat))).run Try.prog w = .ok (patV (patD 15)) w := fun _ => by kernel_rfl
theorem pat_ixU16 : ∀ w : World, (Instr.index 66 (.agg patC) (.int .u64 (16 : Nat))).run Try.prog w = .ok (patV (patD 16)) w := fun _ => by kernel_rfl
theorem pat_ixU17 : ∀ w : World, (Instr.index 66 (.agg patC) (.int .u64 (17 : Nat))).run Try.prog w = .ok (patV (patD 17)) w := fun _ => by kernel_rfl
theorem pat_ixU18 : ∀ w : World, (Instr.index 66 (.agg patC) (.int .u64 (18 : Nat))).run Try.prog w = .ok (patV (patD 18)) w := fun _ => by kernel_rfl
theorem pat_ixU19 : ∀ w : World, (Instr.index 66 (.agg patC) (.int .u64 (19 : Nat))).run Try.prog w = .ok (patV (patD 19)) w := fun _ => by kernel_rfl
theorem pat_ixU20 : ∀ w : World, (Instr.index 66 (.agg patC) (.int .u64 (20 : Nat))).run Try.prog w = .ok (patV (patD 20)) w := fun _ => by kernel_rfl
theorem pat_ixU21 : ∀ w : World, (Instr.index 66 (.agg patC) (.int .u64 (21 : Nat))).run Try.prog w = .ok (patV (patD 21)) w := fun _ => by kernel_rfl
theorem pat_ixU22 : ∀ w : World, (Instr.index 66 (.agg patC) (.int .u64 (22 : Nat))).run Try.prog w = .ok (patV (patD 22)) w := fun _ => by kernel_rfl
theorem pat_ixU23 : ∀ w : World, (Instr.index 66 (.agg patC) (.int .u64 (23 : Nat))).run Try.prog w = .ok (patV (patD 23)) w := fun _ => by kernel_rfl
theorem pat_ixU24 : ∀ w : World, (Instr.index 66 (.agg patC) (.int .u64 (24 : Nat))).run Try.prog w = .ok (patV (patD 24)) w := fun _ => by kernel_rfl
theorem pat_ixU25 : ∀ w : World, (Instr.index 66 (.agg patC) (.int .u64 (25 : Nat))).run Try.prog w = .ok (patV (patD 25)) w := fun _ => by kernel_rfl
theorem pat_ixU26 : ∀ w : World, (Instr.index 66 (.agg patC) (.int .u64 (26 : Nat))).run Try.prog w = .ok (patV (patD 26)) w := fun _ => by kernel_rfl
theorem pat_ixU27 : ∀ w : World, (Instr.index 66 (.agg patC) (.int .u64 (27 : Nat))).run Try.prog w = .ok (patV (patD 27)) w := fun _ => by kernel_rfl
theorem pat_ixU28 : ∀ w : World, (Instr.index 66 (.agg patC) (.int .u64 (28 : Nat))).run Try.prog w = .ok (patV (patD 28)) w := fun _ => by kernel_rfl
theorem pat_ixU29 : ∀ w : World, (Instr.index 66 (.agg patC) (.int .u64 (29 : Nat))).run Try.prog w = .ok (patV (patD 29)) w := fun _ => by kernel_rfl
theorem pat_ixU30 : ∀ w : World, (Instr.index 66 (.agg patC) (.int .u64 (30 : Nat))).run Try.prog w = .ok (patV (patD 30)) w := fun _ => by kernel_rfl
theorem pat_ixU31 : ∀ w : World, (Instr.index 66 (.agg patC) (.int .u64 (31 : Nat))).run Try.prog w = .ok (patV (patD 31)) w := fun _ => by kernel_rfl
theorem pat_ixU32 : ∀ w : World, (Instr.index 66 (.agg patC) (.int .u64 (32 : Nat))).run Try.prog w = .ok (patV (patD 32)) w := fun _ => by kernel_rfl
theorem pat_ixU33 : ∀ w : World, (Instr.index 66 (.agg patC) (.int .u64 (33 : Nat))).run Try.prog w = .ok (patV (patD 33)) w := fun _ => by kernel_rfl
theorem pat_ixU34 : ∀ w : World, (Instr.index 66 (.agg patC) (.int .u64 (34 : Nat))).run Try.prog w = .ok (patV (patD 34)) w := fun _ => by kernel_rfl
theorem pat_ixU35 : ∀ w : World, (Instr.index 66 (.agg patC) (.int .u64 (35 : Nat))).run Try.prog w = .ok (patV (patD 35)) w := fun _ => by kernel_rfl
theorem pat_ixU36 : ∀ w : World, (Instr.index 66 (.agg patC) (.int .u64 (36 : Nat))).run Try.prog w = .ok (patV (patD 36)) w := fun _ => by kernel_rfl
theorem pat_ixU37 : ∀ w : World, (Instr.index 66 (.agg patC) (.int .u64 (37 : Nat))).run Try.prog w = .ok (patV (patD 37)) w := fun _ => by kernel_rfl
theorem pat_ixU38 : ∀ w : World, (Instr.index 66 (.agg patC) (.int .u64 (38 : Nat))).run Try.prog w = .ok (patV (patD 38)) w := fun _ => by kernel_rfl
theorem pat_ixU39 : ∀ w : World, (Instr.index 66 (.agg patC) (.int .u64 (39 : Nat))).run Try.prog w = .ok (patV (patD 39)) w := fun _ => by kernel_rfl
theorem pat_indexU {n : Nat} (hn : n < 40) : ∀ w : World, (Instr.index 66 (.agg patC) (.int .u64 n)).run Try.prog w = .ok (patV (patD n)) w := by
  match n, hn with
  | 0, _ => exact pat_ixU0
  | 1, _ => exact pat_ixU1
  | 2, _ => exact pat_ixU2
  | 3, _ => exact pat_ixU3
  | 4, _ => exact pat_ixU4
  | 5, _ => exact pat_ixU5
  | 6, _ => exact pat_ixU6
  | 7, _ => exact pat_ixU7
  | 8, _ => exact pat_ixU8
  | 9, _ => exact pat_ixU9
  | 10, _ => exact pat_ixU10
  | 11, _ => exact pat_ixU11
  | 12, _ => exact pat_ixU12
  | 13, _ => exact pat_ixU13
  | 14, _ => exact pat_ixU14
  | 15, _ => exact pat_ixU15
  | 16, _ => exact pat_ixU16
  | 17, _ => exact pat_ixU17
  | 18, _ => exact pat_ixU18
  | 19, _ => exact pat_ixU19
  | 20, _ => exact pat_ixU20
  | 21, _ => exact pat_ixU21
  | 22, _ => exact pat_ixU22
  | 23, _ => exact pat_ixU23
  | 24, _ => exact pat_ixU24
  | 25, _ => exact pat_ixU25
  | 26, _ => exact pat_ixU26
  | 27, _ => exact pat_ixU27
  | 28, _ => exact pat_ixU28
  | 29, _ => exact pat_ixU29
  | 30, _ => exact pat_ixU30
  | 31, _ => exact pat_ixU31
  | 32, _ => exact pat_ixU32
  | 33, _ => exact pat_ixU33
  | 34, _ => exact pat_ixU34
  | 35, _ => exact pat_ixU35
  | 36, _ => exact pat_ixU36
  | 37, _ => exact pat_ixU37
  | 38, _ => exact pat_ixU38
  | 39, _ => exact pat_ixU39
  | n + 40, h => exact absurd h (by omega)
theorem box7b {w w1 : World} {o : Obj} {v0 v1 v2 v3 v4 v5 v6 : Value} {t : TypeId} (h : Bel ((w.alloc o).alloc (.cells #[v0, v1, v2, v3, v4, v5, v6] t)) w1) :
    w1.cell? ⟨w.heap.size + 1, 0, none⟩ = some v0 ∧ w1.cell? ⟨w.heap.size + 1, 1, none⟩ = some v1 ∧ w1.cell? ⟨w.heap.size + 1, 2, none⟩ = some v2 ∧ w1.cell? ⟨w.heap.size + 1, 3, none⟩ = some v3 ∧ w1.cell? ⟨w.heap.size + 1, 4, none⟩ = some v4 ∧ w1.cell? ⟨w.heap.size + 1, 5, none⟩ = some v5 ∧ w1.cell? ⟨w.heap.size + 1, 6, none⟩ = some v6 := by
  have := box7 h
  simpa using this
theorem box7f {w w1 : World} {v0 v1 v2 v3 v4 v5 v6 : Value} {t : TypeId} (h : Bel (w.alloc (.cells #[v0, v1, v2, v3, v4, v5, v6] t)) w1) (i : Nat) (hi : i < 7) : w1.frozen? ⟨w.heap.size, i, none⟩ = false := by
  have hlt : (⟨w.heap.size, i, none⟩ : Addr).block < (w.alloc (.cells #[v0, v1, v2, v3, v4, v5, v6] t)).heap.size := by simp
  rw [h.out.frozen hlt]
  simp
theorem and_mask {a : Int} (k : Nat) (h0 : 0 ≤ a) (h1 : a < 18446744073709551616) (hk : k < 64) : bits .and .u64 a ((2 ^ k - 1 : Nat) : Int) = a % (2 ^ k : Nat) := by
  have h2 : 2 ^ k - 1 < 18446744073709551616 := by
    have h3 : 2 ^ k ≤ 2 ^ 63 := Nat.pow_le_pow_right (by decide) (by omega)
    have h4 : (2 : Nat) ^ 63 = 9223372036854775808 := by decide
    omega
  rw [u64_and a _ h0 h1 (by omega) (by omega), Int.toNat_natCast, Nat.and_two_pow_sub_one_eq_mod]
  obtain ⟨A, rfl⟩ := Int.eq_ofNat_of_zero_le h0
  rfl
/-- What 'Get' tells of a word. -/
def wgetI (x : Int) : InstD := ⟨(patD (x / 281474976710656).toNat).1, (patD (x / 281474976710656).toNat).2.1, x / 35184372088832 % 8, x / 4398046511104 % 8, (patD (x / 281474976710656).toNat).2.2, 0, x % 4294967296⟩
def wputD (i : InstD) (too : Int) : Int × Int := wput i.op i.fn i.dst i.src i.reg i.off i.imm too
def wgetOk (x : Int) : Prop := x / 281474976710656 < 40 ∧ wputD (wgetI x) (x / 4294967296 % 1024) = (x, 0)
instance (x : Int) : Decidable (wgetOk x) := by unfold wgetOk; infer_instance
def wget (x : Int) : InstD × Int × Int := if wgetOk x then (wgetI x, x / 4294967296 % 1024, 0) else (⟨0, 0, 0, 0, false, 0, 0⟩, 0, 7)
theorem wput_two (op fn dst src : Int) (reg : Bool) (off imm too : Int) : (wput op fn dst src reg off imm too).2 = 0 ∨ wput op fn dst src reg off imm too = (0, 1) := by
  unfold wput
  split
  · exact .inl rfl
  · exact .inr rfl
set_option maxHeartbeats 4000000 in
set_option maxRecDepth 100000 in
theorem wget_ok (x : Int) (w : World) (x0 : 0 ≤ x) (x1 : x < 18446744073709551616) (n : Nat) (hn : x / 281474976710656 = n) (hn4 : n < 40) (HR : Hid (wput (patD n).1 (patD n).2.1 (x / 35184372088832 % 8) (x / 4398046511104 % 8) (patD n).2.2 0 (x % 4294967296) (x / 4294967296 % 1024) = (x, 0))) :
    Calls Try.prog 11 #[.int .u64 x] w fun e w' => e = .returned (.tuple #[.agg #[.int .i64 (patD n).1, .int .i64 (patD n).2.1, .int .i64 (x / 35184372088832 % 8), .int .i64 (x / 4398046511104 % 8), .bool (patD n).2.2, .int .i64 0, .int .u32 (x % 4294967296)], .int .i64 (x / 4294967296 % 1024), .int .i64 0]) ∧ Bel w w' := by
  have HB := Bel.refl (w.alloc (.cells #[.int .i64 0, .int .i64 0, .int .i64 0, .int .i64 0, .bool false, .int .i64 0, .int .u32 0] 34))
  have b1 : bits .and .u64 (x / 4294967296) 1023 = x / 4294967296 % 1024 := and_mask 10 (by omega) (by omega) (by decide)
  have b2 : bits .and .u64 (x / 35184372088832) 7 = x / 35184372088832 % 8 := and_mask 3 (by omega) (by omega) (by decide)
  have b3 : bits .and .u64 (x / 4398046511104) 7 = x / 4398046511104 % 8 := and_mask 3 (by omega) (by omega) (by decide)
  have ix := pat_indexU hn4
  generalize patD n = p at ix HR ⊢
  obtain ⟨pop, pfn, preg⟩ := p
  simp only [patV] at ix HR ⊢
  have n40 : ¬ (40 : Int) ≤ n := by omega
  go_enter Try.func11, Try.ntmps11
  go_wp2_with fail
  refine (patterns_any _).mono ?_
  rintro e w1 ⟨rfl, hb⟩
  have HB := HB.trans hb
  clear hb
  obtain ⟨p0, p1, p2, p3, p4, p5, p6⟩ := box7 HB
  have ne : w.heap.size < w1.heap.size := World.block_lt_of_cell? _ _ p0
  generalize patC = T at *
  go_wp2_with fail
  refine (wput_any _ _ _ _ _ _ _ _ _ ⟨by omega, by omega⟩).mono ?_
  rw [HR.out]
  rintro e w2 ⟨rfl, hb⟩
  have HB := HB.trans ((((Bel.refl _).alloc _).alloc _).trans hb)
  obtain ⟨q0, q1, q2, q3, q4, q5, q6⟩ := box7b hb
  obtain ⟨p0, p1, p2, p3, p4, p5, p6⟩ := box7 HB
  have ne : w.heap.size < w2.heap.size := World.block_lt_of_cell? _ _ p0
  have ne1 : w1.heap.size + 1 < w2.heap.size := World.block_lt_of_cell? _ _ q0
  have f0 := box7f HB 0 (by decide)
  have f1 := box7f HB 1 (by decide)
  have f2 := box7f HB 2 (by decide)
  have f3 := box7f HB 3 (by decide)
  have f4 := box7f HB 4 (by decide)
  have f5 := box7f HB 5 (by decide)
  have f6 := box7f HB 6 (by decide)
  clear hb
  go_wp2_with fail
  refine bodyPost_ret (v := .tuple #[.agg #[.int .i64 pop, .int .i64 pfn, .int .i64 (x / 35184372088832 % 8), .int .i64 (x / 4398046511104 % 8), .bool preg, .int .i64 0, .int .u32 (x % 4294967296)], .int .i64 (x / 4294967296 % 1024), .int .i64 0]) ?_ rfl ⟨rfl, by repeat (first | (with_reducible exact HB.un) | (with_reducible refine Bel.setCell ?_ (Nat.le_refl _) _))⟩
  simp [results, Try.results11, go_sem, p0, p1, p2, p3, p4, p5, p6]
set_option maxHeartbeats 4000000 in
set_option maxRecDepth 100000 in
theorem wget_bad1 (x : Int) (w : World) (x0 : 0 ≤ x) (x1 : x < 18446744073709551616) (n : Nat) (hn : x / 281474976710656 = n) (hn4 : n < 40) (HR : Hid (wput (patD n).1 (patD n).2.1 (x / 35184372088832 % 8) (x / 4398046511104 % 8) (patD n).2.2 0 (x % 4294967296) (x / 4294967296 % 1024) = (0, 1))) :
    Calls Try.prog 11 #[.int .u64 x] w fun e w' => e = .returned (.tuple #[.agg #[.int .i64 0, .int .i64 0, .int .i64 0, .int .i64 0, .bool false, .int .i64 0, .int .u32 0], .int .i64 0, .int .i64 7]) ∧ Bel w w' := by
  have HB := Bel.refl (w.alloc (.cells #[.int .i64 0, .int .i64 0, .int .i64 0, .int .i64 0, .bool false, .int .i64 0, .int .u32 0] 34))
  have b1 : bits .and .u64 (x / 4294967296) 1023 = x / 4294967296 % 1024 := and_mask 10 (by omega) (by omega) (by decide)
  have b2 : bits .and .u64 (x / 35184372088832) 7 = x / 35184372088832 % 8 := and_mask 3 (by omega) (by omega) (by decide)
  have b3 : bits .and .u64 (x / 4398046511104) 7 = x / 4398046511104 % 8 := and_mask 3 (by omega) (by omega) (by decide)
  have ix := pat_indexU hn4
  generalize patD n = p at ix HR ⊢
  obtain ⟨pop, pfn, preg⟩ := p
  simp only [patV] at ix HR ⊢
  have n40 : ¬ (40 : Int) ≤ n := by omega
  go_enter Try.func11, Try.ntmps11
  go_wp2_with fail
  refine (patterns_any _).mono ?_
  rintro e w1 ⟨rfl, hb⟩
  have HB := HB.trans hb
  clear hb
  obtain ⟨p0, p1, p2, p3, p4, p5, p6⟩ := box7 HB
  have ne : w.heap.size < w1.heap.size := World.block_lt_of_cell? _ _ p0
  generalize patC = T at *
  go_wp2_with fail
  refine (wput_any _ _ _ _ _ _ _ _ _ ⟨by omega, by omega⟩).mono ?_
  rw [HR.out]
  rintro e w2 ⟨rfl, hb⟩
  have HB := HB.trans ((((Bel.refl _).alloc _).alloc _).trans hb)
  obtain ⟨q0, q1, q2, q3, q4, q5, q6⟩ := box7b hb
  obtain ⟨p0, p1, p2, p3, p4, p5, p6⟩ := box7 HB
  have ne : w.heap.size < w2.heap.size := World.block_lt_of_cell? _ _ p0
  have ne1 : w1.heap.size + 1 < w2.heap.size := World.block_lt_of_cell? _ _ q0
  have f0 := box7f HB 0 (by decide)
  have f1 := box7f HB 1 (by decide)
  have f2 := box7f HB 2 (by decide)
  have f3 := box7f HB 3 (by decide)
  have f4 := box7f HB 4 (by decide)
  have f5 := box7f HB 5 (by decide)
  have f6 := box7f HB 6 (by decide)
  clear hb
  go_wp2_with fail
  refine bodyPost_ret (v := .tuple #[.agg #[.int .i64 0, .int .i64 0, .int .i64 0, .int .i64 0, .bool false, .int .i64 0, .int .u32 0], .int .i64 0, .int .i64 7]) ?_ rfl ⟨rfl, by repeat (first | (with_reducible exact HB.un) | (with_reducible refine Bel.setCell ?_ (Nat.le_refl _) _))⟩
  simp [results, Try.results11, go_sem, p0, p1, p2, p3, p4, p5, p6]
set_option maxHeartbeats 4000000 in
set_option maxRecDepth 100000 in
theorem wget_bad2 (x : Int) (w : World) (x0 : 0 ≤ x) (x1 : x < 18446744073709551616) (n : Nat) (hn : x / 281474976710656 = n) (hn4 : n < 40) (v : Int) (hv : (v != x) = true) (HR : Hid (wput (patD n).1 (patD n).2.1 (x / 35184372088832 % 8) (x / 4398046511104 % 8) (patD n).2.2 0 (x % 4294967296) (x / 4294967296 % 1024) = (v, 0))) :
    Calls Try.prog 11 #[.int .u64 x] w fun e w' => e = .returned (.tuple #[.agg #[.int .i64 0, .int .i64 0, .int .i64 0, .int .i64 0, .bool false, .int .i64 0, .int .u32 0], .int .i64 0, .int .i64 7]) ∧ Bel w w' := by
  have HB := Bel.refl (w.alloc (.cells #[.int .i64 0, .int .i64 0, .int .i64 0, .int .i64 0, .bool false, .int .i64 0, .int .u32 0] 34))
  have b1 : bits .and .u64 (x / 4294967296) 1023 = x / 4294967296 % 1024 := and_mask 10 (by omega) (by omega) (by decide)
  have b2 : bits .and .u64 (x / 35184372088832) 7 = x / 35184372088832 % 8 := and_mask 3 (by omega) (by omega) (by decide)
  have b3 : bits .and .u64 (x / 4398046511104) 7 = x / 4398046511104 % 8 := and_mask 3 (by omega) (by omega) (by decide)
  have ix := pat_indexU hn4
  generalize patD n = p at ix HR ⊢
  obtain ⟨pop, pfn, preg⟩ := p
  simp only [patV] at ix HR ⊢
  have n40 : ¬ (40 : Int) ≤ n := by omega
  go_enter Try.func11, Try.ntmps11
  go_wp2_with fail
  refine (patterns_any _).mono ?_
  rintro e w1 ⟨rfl, hb⟩
  have HB := HB.trans hb
  clear hb
  obtain ⟨p0, p1, p2, p3, p4, p5, p6⟩ := box7 HB
  have ne : w.heap.size < w1.heap.size := World.block_lt_of_cell? _ _ p0
  generalize patC = T at *
  go_wp2_with fail
  refine (wput_any _ _ _ _ _ _ _ _ _ ⟨by omega, by omega⟩).mono ?_
  rw [HR.out]
  rintro e w2 ⟨rfl, hb⟩
  have HB := HB.trans ((((Bel.refl _).alloc _).alloc _).trans hb)
  obtain ⟨q0, q1, q2, q3, q4, q5, q6⟩ := box7b hb
  obtain ⟨p0, p1, p2, p3, p4, p5, p6⟩ := box7 HB
  have ne : w.heap.size < w2.heap.size := World.block_lt_of_cell? _ _ p0
  have ne1 : w1.heap.size + 1 < w2.heap.size := World.block_lt_of_cell? _ _ q0
  have f0 := box7f HB 0 (by decide)
  have f1 := box7f HB 1 (by decide)
  have f2 := box7f HB 2 (by decide)
  have f3 := box7f HB 3 (by decide)
  have f4 := box7f HB 4 (by decide)
  have f5 := box7f HB 5 (by decide)
  have f6 := box7f HB 6 (by decide)
  clear hb
  go_wp2_with fail
  refine bodyPost_ret (v := .tuple #[.agg #[.int .i64 0, .int .i64 0, .int .i64 0, .int .i64 0, .bool false, .int .i64 0, .int .u32 0], .int .i64 0, .int .i64 7]) ?_ rfl ⟨rfl, by repeat (first | (with_reducible exact HB.un) | (with_reducible refine Bel.setCell ?_ (Nat.le_refl _) _))⟩
  simp [results, Try.results11, go_sem, p0, p1, p2, p3, p4, p5, p6]
set_option maxHeartbeats 4000000 in
set_option maxRecDepth 100000 in
theorem wget_high (x : Int) (w : World) (x0 : 0 ≤ x) (x1 : x < 18446744073709551616) (n : Nat) (hn : x / 281474976710656 = n) (hn4 : ¬ n < 40) :
    Calls Try.prog 11 #[.int .u64 x] w fun e w' => e = .returned (.tuple #[.agg #[.int .i64 0, .int .i64 0, .int .i64 0, .int .i64 0, .bool false, .int .i64 0, .int .u32 0], .int .i64 0, .int .i64 7]) ∧ Bel w w' := by
  have n40 : (40 : Int) ≤ n := by omega
  go_enter Try.func11, Try.ntmps11
  go_wp2_with fail
  refine bodyPost_ret (v := .tuple #[.agg #[.int .i64 0, .int .i64 0, .int .i64 0, .int .i64 0, .bool false, .int .i64 0, .int .u32 0], .int .i64 0, .int .i64 7]) ?_ rfl ⟨rfl, by repeat (first | (with_reducible exact (Bel.refl w).alloc _) | (with_reducible refine Bel.setCell ?_ (by simp) _) | (with_reducible exact Bel.refl w) | (with_reducible refine Bel.alloc ?_ _))⟩
  simp [results, Try.results11, go_sem]
def InstD.val (i : InstD) : Value := .agg #[.int .i64 i.op, .int .i64 i.fn, .int .i64 i.dst, .int .i64 i.src, .bool i.reg, .int .i64 i.off, .int .u32 i.imm]
theorem wget_any (x : Int) (w : World) (x0 : 0 ≤ x) (x1 : x < 18446744073709551616) :
    Calls Try.prog 11 #[.int .u64 x] w fun e w' => e = .returned (.tuple #[(wget x).1.val, .int .i64 (wget x).2.1, .int .i64 (wget x).2.2]) ∧ Bel w w' := by
  obtain ⟨n, hn⟩ : ∃ n : Nat, x / 281474976710656 = n := ⟨(x / 281474976710656).toNat, by omega⟩
  have hn' : (x / 281474976710656).toNat = n := by omega
  by_cases h : n < 40
  · by_cases hk : wgetOk x
    · have hr : wget x = (wgetI x, x / 4294967296 % 1024, 0) := if_pos hk
      rw [hr]
      have := hk.2
      unfold wputD wgetI at this
      rw [hn'] at this
      unfold wgetI
      rw [hn']
      exact wget_ok x w x0 x1 n hn h (Lib.hid this)
    · have hr : wget x = (⟨0, 0, 0, 0, false, 0, 0⟩, 0, 7) := if_neg hk
      rw [hr]
      have hne : ¬ wput (patD n).1 (patD n).2.1 (x / 35184372088832 % 8) (x / 4398046511104 % 8) (patD n).2.2 0 (x % 4294967296) (x / 4294967296 % 1024) = (x, 0) := by
        intro he
        exact hk ⟨by omega, by unfold wputD wgetI; rw [hn']; exact he⟩
      rcases wput_two (patD n).1 (patD n).2.1 (x / 35184372088832 % 8) (x / 4398046511104 % 8) (patD n).2.2 0 (x % 4294967296) (x / 4294967296 % 1024) with h2 | h2
      · generalize hg : wput (patD n).1 (patD n).2.1 (x / 35184372088832 % 8) (x / 4398046511104 % 8) (patD n).2.2 0 (x % 4294967296) (x / 4294967296 % 1024) = r at hne h2
        obtain ⟨v, e⟩ := r
        obtain rfl : e = 0 := h2
        exact wget_bad2 x w x0 x1 n hn h v (by rw [bne_iff_ne]; intro h; exact hne (by rw [h])) (Lib.hid hg)
      · exact wget_bad1 x w x0 x1 n hn h (Lib.hid h2)
  · have hr : wget x = (⟨0, 0, 0, 0, false, 0, 0⟩, 0, 7) := if_neg (by rintro ⟨h1, _⟩; omega)
    rw [hr]
    exact wget_high x w x0 x1 n hn h
end Go.Proofs.Yteopeocgbfdofaa
