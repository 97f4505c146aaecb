/- isa.Put by its contract. -/
import Derived.Test.YteopeocgbfdofaaIsa2
import Derived.Laws.BitsAllLaws
import Derived.Sort.AtCall
set_option linter.unusedVariables false
set_option linter.unusedSimpArgs false
namespace Go.Proofs.Yteopeocgbfdofaa
open Go.RowKit

theorem goes_any (op fn dst src : Int) (reg : Bool) (off imm : Int) (w : World) :
    Calls Try.prog 43 #[.agg #[.int .i64 op, .int .i64 fn, .int .i64 dst, .int .i64 src, .bool reg, .int .i64 off, .int .u32 imm]] w fun e w' => e = .returned (.bool (op == 1 || op == 6)) ∧ Bel w w' := by
  by_cases h1 : op = 1
  · subst h1
    go_enter Try.func43, Try.ntmps43
    go_wp2
    go_ret
    exact ⟨by simp, (Bel.refl _).alloc _⟩
  · have h1' : (op == 1) = false := by simpa using h1
    by_cases h6 : op = 6
    · subst h6
      go_enter Try.func43, Try.ntmps43
      go_wp2
      go_ret
      exact ⟨by simp, (Bel.refl _).alloc _⟩
    · have h6' : (op == 6) = false := by simpa using h6
      go_enter Try.func43, Try.ntmps43
      go_wp2
      go_ret
      exact ⟨by simp [h1', h6'], (Bel.refl _).alloc _⟩
/-- A word out of its parts. -/
def wordI (c dst src too imm : Int) : Int := c * 281474976710656 + dst * 35184372088832 + src * 4398046511104 + too * 4294967296 + imm
/-- What 'Put' tells: the word, and the error's number. -/
def wput (op fn dst src : Int) (reg : Bool) (off imm too : Int) : Int × Int :=
  if mayB op fn dst src reg off imm = true ∧ 0 ≤ too ∧ too ≤ 1023 ∧ (0 < too → op = 1 ∨ op = 6) then (wordI (codeN op fn reg) dst src too (if op = 6 then 0 else imm), 0) else (0, 1)
theorem or_add {a b : Int} (k : Nat) (A : Int) (ha : a = 2 ^ k * A) (hA : 0 ≤ A) (hb : 0 ≤ b) (hk : b < 2 ^ k) (h : a + b < 18446744073709551616) : bits .or .u64 a b = a + b := by
  have hp : (0 : Int) < 2 ^ k := Int.pow_pos (by decide)
  have ha0 : 0 ≤ a := by rw [ha]; exact Int.mul_nonneg (Int.le_of_lt hp) hA
  rw [u64_or a b ha0 (by omega) hb (by omega)]
  obtain ⟨A', rfl⟩ := Int.eq_ofNat_of_zero_le hA
  obtain ⟨b', rfl⟩ := Int.eq_ofNat_of_zero_le hb
  have h1 : a = ((2 ^ k * A' : Nat) : Int) := by rw [ha]; simp
  have h2 : b' < 2 ^ k := by exact_mod_cast hk
  subst h1
  rw [Int.toNat_natCast, Int.toNat_natCast, ← Nat.two_pow_add_eq_or_of_lt h2]
  simp
theorem or_sum {c dst src too m : Int} (c0 : 0 ≤ c) (c1 : c < 40) (d0 : 0 ≤ dst) (d1 : dst < 8) (s0 : 0 ≤ src) (s1 : src < 8) (t0 : 0 ≤ too) (t1 : too ≤ 1023) (m0 : 0 ≤ m) (m1 : m < 4294967296) :
    bits .or .u64 (bits .or .u64 (bits .or .u64 (bits .or .u64 (c * 281474976710656) (dst * 35184372088832)) (src * 4398046511104)) (too * 4294967296)) m = wordI c dst src too m := by
  rw [or_add (a := c * 281474976710656) (b := dst * 35184372088832) 48 c (by omega) c0 (by omega) (by omega) (by omega)]
  rw [or_add (b := src * 4398046511104) 45 (8 * c + dst) (by omega) (by omega) (by omega) (by omega) (by omega)]
  rw [or_add (b := too * 4294967296) 42 (64 * c + 8 * dst + src) (by omega) (by omega) (by omega) (by omega) (by omega)]
  rw [or_add (b := m) 32 (65536 * c + 8192 * dst + 1024 * src + too) (by omega) (by omega) (by omega) (by omega) (by omega)]
  rfl
set_option maxHeartbeats 4000000 in
set_option maxRecDepth 100000 in
theorem wput_no (op fn dst src : Int) (reg : Bool) (off imm too : Int) (w : World) (hm : mayB op fn dst src reg off imm = false) :
    Calls Try.prog 24 #[.agg #[.int .i64 op, .int .i64 fn, .int .i64 dst, .int .i64 src, .bool reg, .int .i64 off, .int .u32 imm], .int .i64 too] w fun e w' => e = .returned (.tuple #[.int .u64 0, .int .i64 1]) ∧ Bel w w' := by
  have HB := Bel.refl (w.alloc (.cells #[.int .i64 op, .int .i64 fn, .int .i64 dst, .int .i64 src, .bool reg, .int .i64 off, .int .u32 imm] 34))
  go_enter Try.func24, Try.ntmps24
  go_wp2_with fail
  refine (code_no _ _ _ _ _ _ _ _ hm).mono ?_
  rintro e w1 ⟨rfl, hb⟩
  have HB := HB.trans hb
  obtain ⟨p0, p1, p2, p3, p4, p5, p6⟩ := box7 HB
  have ne : w.heap.size < w1.heap.size := World.block_lt_of_cell? _ _ p0
  have fz : w1.frozen? ⟨w.heap.size, 6, none⟩ = false := by rw [HB.frozen (p := ⟨w.heap.size, 6, none⟩) (by simp; rfl)]; simp
  clear hb
  go_wp2_with fail
  go_ret2
  exact ⟨by simp, HB.un⟩
set_option maxHeartbeats 4000000 in
set_option maxRecDepth 100000 in
theorem wput_low (op fn dst src : Int) (reg : Bool) (off imm too : Int) (w : World) (hm : mayB op fn dst src reg off imm = true) (c : Nat) (hc : Hid (codeN op fn reg = c)) (hc4 : c < 40) (hd0 : 0 ≤ dst) (hd1 : dst < 8) (hs0 : 0 ≤ src) (hs1 : src < 8) (h0 : too < 0) :
    Calls Try.prog 24 #[.agg #[.int .i64 op, .int .i64 fn, .int .i64 dst, .int .i64 src, .bool reg, .int .i64 off, .int .u32 imm], .int .i64 too] w fun e w' => e = .returned (.tuple #[.int .u64 0, .int .i64 1]) ∧ Bel w w' := by
  have HB := Bel.refl (w.alloc (.cells #[.int .i64 op, .int .i64 fn, .int .i64 dst, .int .i64 src, .bool reg, .int .i64 off, .int .u32 imm] 34))
  go_enter Try.func24, Try.ntmps24
  go_wp2_with fail
  refine (code_ok _ _ _ _ _ _ _ _ hm).mono ?_
  rw [hc.out]
  rintro e w1 ⟨rfl, hb⟩
  have HB := HB.trans hb
  obtain ⟨p0, p1, p2, p3, p4, p5, p6⟩ := box7 HB
  have ne : w.heap.size < w1.heap.size := World.block_lt_of_cell? _ _ p0
  have fz : w1.frozen? ⟨w.heap.size, 6, none⟩ = false := by rw [HB.frozen (p := ⟨w.heap.size, 6, none⟩) (by simp; rfl)]; simp
  clear hb
  go_wp2_with fail
  go_ret2
  exact ⟨by simp, HB.un⟩
set_option maxHeartbeats 4000000 in
set_option maxRecDepth 100000 in
theorem wput_high (op fn dst src : Int) (reg : Bool) (off imm too : Int) (w : World) (hm : mayB op fn dst src reg off imm = true) (c : Nat) (hc : Hid (codeN op fn reg = c)) (hc4 : c < 40) (hd0 : 0 ≤ dst) (hd1 : dst < 8) (hs0 : 0 ≤ src) (hs1 : src < 8) (h0 : ¬ too < 0) (h1 : 1023 < too) :
    Calls Try.prog 24 #[.agg #[.int .i64 op, .int .i64 fn, .int .i64 dst, .int .i64 src, .bool reg, .int .i64 off, .int .u32 imm], .int .i64 too] w fun e w' => e = .returned (.tuple #[.int .u64 0, .int .i64 1]) ∧ Bel w w' := by
  have HB := Bel.refl (w.alloc (.cells #[.int .i64 op, .int .i64 fn, .int .i64 dst, .int .i64 src, .bool reg, .int .i64 off, .int .u32 imm] 34))
  go_enter Try.func24, Try.ntmps24
  go_wp2_with fail
  refine (code_ok _ _ _ _ _ _ _ _ hm).mono ?_
  rw [hc.out]
  rintro e w1 ⟨rfl, hb⟩
  have HB := HB.trans hb
  obtain ⟨p0, p1, p2, p3, p4, p5, p6⟩ := box7 HB
  have ne : w.heap.size < w1.heap.size := World.block_lt_of_cell? _ _ p0
  have fz : w1.frozen? ⟨w.heap.size, 6, none⟩ = false := by rw [HB.frozen (p := ⟨w.heap.size, 6, none⟩) (by simp; rfl)]; simp
  clear hb
  go_wp2_with fail
  go_ret2
  exact ⟨by simp, HB.un⟩
set_option maxHeartbeats 4000000 in
set_option maxRecDepth 100000 in
theorem wput_else (op fn dst src : Int) (reg : Bool) (off imm too : Int) (w : World) (hm : mayB op fn dst src reg off imm = true) (c : Nat) (hc : Hid (codeN op fn reg = c)) (hc4 : c < 40) (hd0 : 0 ≤ dst) (hd1 : dst < 8) (hs0 : 0 ≤ src) (hs1 : src < 8) (h0 : 0 < too) (h1 : too ≤ 1023) (hg : (op == 1 || op == 6) = false) :
    Calls Try.prog 24 #[.agg #[.int .i64 op, .int .i64 fn, .int .i64 dst, .int .i64 src, .bool reg, .int .i64 off, .int .u32 imm], .int .i64 too] w fun e w' => e = .returned (.tuple #[.int .u64 0, .int .i64 1]) ∧ Bel w w' := by
  have HB := Bel.refl (w.alloc (.cells #[.int .i64 op, .int .i64 fn, .int .i64 dst, .int .i64 src, .bool reg, .int .i64 off, .int .u32 imm] 34))
  have h00 : ¬ too < 0 := by omega
  have h11 : ¬ 1023 < too := by omega
  go_enter Try.func24, Try.ntmps24
  go_wp2_with fail
  refine (code_ok _ _ _ _ _ _ _ _ hm).mono ?_
  rw [hc.out]
  rintro e w1 ⟨rfl, hb⟩
  have HB := HB.trans hb
  obtain ⟨p0, p1, p2, p3, p4, p5, p6⟩ := box7 HB
  have ne : w.heap.size < w1.heap.size := World.block_lt_of_cell? _ _ p0
  have fz : w1.frozen? ⟨w.heap.size, 6, none⟩ = false := by rw [HB.frozen (p := ⟨w.heap.size, 6, none⟩) (by simp; rfl)]; simp
  clear hb
  go_wp2_with fail
  refine (goes_any _ _ _ _ _ _ _ _).mono ?_
  rw [hg]
  rintro e w2 ⟨rfl, hb⟩
  have HB := HB.trans hb
  obtain ⟨p0, p1, p2, p3, p4, p5, p6⟩ := box7 HB
  have ne : w.heap.size < w2.heap.size := World.block_lt_of_cell? _ _ p0
  have fz : w2.frozen? ⟨w.heap.size, 6, none⟩ = false := by rw [HB.frozen (p := ⟨w.heap.size, 6, none⟩) (by simp; rfl)]; simp
  clear hb
  go_wp2_with fail
  go_ret2
  exact ⟨by simp, HB.un⟩
set_option maxHeartbeats 4000000 in
set_option maxRecDepth 100000 in
theorem wput_z6 (op fn dst src : Int) (reg : Bool) (off imm too : Int) (w : World) (hm : mayB op fn dst src reg off imm = true) (c : Nat) (hc : Hid (codeN op fn reg = c)) (hc4 : c < 40) (hd0 : 0 ≤ dst) (hd1 : dst < 8) (hs0 : 0 ≤ src) (hs1 : src < 8) (hi0 : 0 ≤ imm) (hi1 : imm < 4294967296) (h0 : too = 0) (h6 : op = 6) :
    Calls Try.prog 24 #[.agg #[.int .i64 op, .int .i64 fn, .int .i64 dst, .int .i64 src, .bool reg, .int .i64 off, .int .u32 imm], .int .i64 too] w fun e w' => e = .returned (.tuple #[.int .u64 (wordI c dst src too 0), .int .i64 0]) ∧ Bel w w' := by
  have hw := or_sum (c := (c : Int)) (dst := dst) (src := src) (too := too) (m := 0) (by omega) (by omega) hd0 hd1 hs0 hs1 (by omega) (by omega) (by omega) (by omega)
  rw [← hw]
  clear hw
  subst h0
  subst h6
  have HB := Bel.refl (w.alloc (.cells #[.int .i64 6, .int .i64 fn, .int .i64 dst, .int .i64 src, .bool reg, .int .i64 off, .int .u32 imm] 34))
  go_enter Try.func24, Try.ntmps24
  go_wp2_with fail
  refine (code_ok _ _ _ _ _ _ _ _ hm).mono ?_
  rw [hc.out]
  rintro e w1 ⟨rfl, hb⟩
  have HB := HB.trans hb
  obtain ⟨p0, p1, p2, p3, p4, p5, p6⟩ := box7 HB
  have ne : w.heap.size < w1.heap.size := World.block_lt_of_cell? _ _ p0
  have fz : w1.frozen? ⟨w.heap.size, 6, none⟩ = false := by rw [HB.frozen (p := ⟨w.heap.size, 6, none⟩) (by simp; rfl)]; simp
  clear hb
  go_wp2_with fail
  go_ret2
  exact ⟨by simp, HB.un.setCell (Nat.le_refl _) _⟩
set_option maxHeartbeats 4000000 in
set_option maxRecDepth 100000 in
theorem wput_z (op fn dst src : Int) (reg : Bool) (off imm too : Int) (w : World) (hm : mayB op fn dst src reg off imm = true) (c : Nat) (hc : Hid (codeN op fn reg = c)) (hc4 : c < 40) (hd0 : 0 ≤ dst) (hd1 : dst < 8) (hs0 : 0 ≤ src) (hs1 : src < 8) (hi0 : 0 ≤ imm) (hi1 : imm < 4294967296) (h0 : too = 0) (h6 : op ≠ 6) :
    Calls Try.prog 24 #[.agg #[.int .i64 op, .int .i64 fn, .int .i64 dst, .int .i64 src, .bool reg, .int .i64 off, .int .u32 imm], .int .i64 too] w fun e w' => e = .returned (.tuple #[.int .u64 (wordI c dst src too imm), .int .i64 0]) ∧ Bel w w' := by
  have hw := or_sum (c := (c : Int)) (dst := dst) (src := src) (too := too) (m := imm) (by omega) (by omega) hd0 hd1 hs0 hs1 (by omega) (by omega) (by omega) (by omega)
  rw [← hw]
  clear hw
  subst h0
  have h6' : (op == 6) = false := by simpa using h6
  have HB := Bel.refl (w.alloc (.cells #[.int .i64 op, .int .i64 fn, .int .i64 dst, .int .i64 src, .bool reg, .int .i64 off, .int .u32 imm] 34))
  go_enter Try.func24, Try.ntmps24
  go_wp2_with fail
  refine (code_ok _ _ _ _ _ _ _ _ hm).mono ?_
  rw [hc.out]
  rintro e w1 ⟨rfl, hb⟩
  have HB := HB.trans hb
  obtain ⟨p0, p1, p2, p3, p4, p5, p6⟩ := box7 HB
  have ne : w.heap.size < w1.heap.size := World.block_lt_of_cell? _ _ p0
  have fz : w1.frozen? ⟨w.heap.size, 6, none⟩ = false := by rw [HB.frozen (p := ⟨w.heap.size, 6, none⟩) (by simp; rfl)]; simp
  clear hb
  go_wp2_with fail
  go_ret2
  exact ⟨by simp, HB.un⟩
set_option maxHeartbeats 4000000 in
set_option maxRecDepth 100000 in
theorem wput_p6 (op fn dst src : Int) (reg : Bool) (off imm too : Int) (w : World) (hm : mayB op fn dst src reg off imm = true) (c : Nat) (hc : Hid (codeN op fn reg = c)) (hc4 : c < 40) (hd0 : 0 ≤ dst) (hd1 : dst < 8) (hs0 : 0 ≤ src) (hs1 : src < 8) (hi0 : 0 ≤ imm) (hi1 : imm < 4294967296) (h0 : 0 < too) (h1 : too ≤ 1023) (h6 : op = 6) :
    Calls Try.prog 24 #[.agg #[.int .i64 op, .int .i64 fn, .int .i64 dst, .int .i64 src, .bool reg, .int .i64 off, .int .u32 imm], .int .i64 too] w fun e w' => e = .returned (.tuple #[.int .u64 (wordI c dst src too 0), .int .i64 0]) ∧ Bel w w' := by
  have h00 : ¬ too < 0 := by omega
  have h11 : ¬ 1023 < too := by omega
  have hw := or_sum (c := (c : Int)) (dst := dst) (src := src) (too := too) (m := 0) (by omega) (by omega) hd0 hd1 hs0 hs1 (by omega) (by omega) (by omega) (by omega)
  rw [← hw]
  clear hw
  subst h6
  have HB := Bel.refl (w.alloc (.cells #[.int .i64 6, .int .i64 fn, .int .i64 dst, .int .i64 src, .bool reg, .int .i64 off, .int .u32 imm] 34))
  go_enter Try.func24, Try.ntmps24
  go_wp2_with fail
  refine (code_ok _ _ _ _ _ _ _ _ hm).mono ?_
  rw [hc.out]
  rintro e w1 ⟨rfl, hb⟩
  have HB := HB.trans hb
  obtain ⟨p0, p1, p2, p3, p4, p5, p6⟩ := box7 HB
  have ne : w.heap.size < w1.heap.size := World.block_lt_of_cell? _ _ p0
  have fz : w1.frozen? ⟨w.heap.size, 6, none⟩ = false := by rw [HB.frozen (p := ⟨w.heap.size, 6, none⟩) (by simp; rfl)]; simp
  clear hb
  go_wp2_with fail
  refine (goes_any _ _ _ _ _ _ _ _).mono ?_
  rw [show ((6 : Int) == 1 || (6 : Int) == 6) = true from by decide]
  rintro e w2 ⟨rfl, hb⟩
  have HB := HB.trans hb
  obtain ⟨p0, p1, p2, p3, p4, p5, p6⟩ := box7 HB
  have ne : w.heap.size < w2.heap.size := World.block_lt_of_cell? _ _ p0
  have fz : w2.frozen? ⟨w.heap.size, 6, none⟩ = false := by rw [HB.frozen (p := ⟨w.heap.size, 6, none⟩) (by simp; rfl)]; simp
  clear hb
  go_wp2_with fail
  go_ret2
  exact ⟨by simp, HB.un.setCell (Nat.le_refl _) _⟩
set_option maxHeartbeats 4000000 in
set_option maxRecDepth 100000 in
theorem wput_p1 (op fn dst src : Int) (reg : Bool) (off imm too : Int) (w : World) (hm : mayB op fn dst src reg off imm = true) (c : Nat) (hc : Hid (codeN op fn reg = c)) (hc4 : c < 40) (hd0 : 0 ≤ dst) (hd1 : dst < 8) (hs0 : 0 ≤ src) (hs1 : src < 8) (hi0 : 0 ≤ imm) (hi1 : imm < 4294967296) (h0 : 0 < too) (h1 : too ≤ 1023) (h6 : op = 1) :
    Calls Try.prog 24 #[.agg #[.int .i64 op, .int .i64 fn, .int .i64 dst, .int .i64 src, .bool reg, .int .i64 off, .int .u32 imm], .int .i64 too] w fun e w' => e = .returned (.tuple #[.int .u64 (wordI c dst src too imm), .int .i64 0]) ∧ Bel w w' := by
  have h00 : ¬ too < 0 := by omega
  have h11 : ¬ 1023 < too := by omega
  have hw := or_sum (c := (c : Int)) (dst := dst) (src := src) (too := too) (m := imm) (by omega) (by omega) hd0 hd1 hs0 hs1 (by omega) (by omega) (by omega) (by omega)
  rw [← hw]
  clear hw
  subst h6
  have HB := Bel.refl (w.alloc (.cells #[.int .i64 1, .int .i64 fn, .int .i64 dst, .int .i64 src, .bool reg, .int .i64 off, .int .u32 imm] 34))
  go_enter Try.func24, Try.ntmps24
  go_wp2_with fail
  refine (code_ok _ _ _ _ _ _ _ _ hm).mono ?_
  rw [hc.out]
  rintro e w1 ⟨rfl, hb⟩
  have HB := HB.trans hb
  obtain ⟨p0, p1, p2, p3, p4, p5, p6⟩ := box7 HB
  have ne : w.heap.size < w1.heap.size := World.block_lt_of_cell? _ _ p0
  have fz : w1.frozen? ⟨w.heap.size, 6, none⟩ = false := by rw [HB.frozen (p := ⟨w.heap.size, 6, none⟩) (by simp; rfl)]; simp
  clear hb
  go_wp2_with fail
  refine (goes_any _ _ _ _ _ _ _ _).mono ?_
  rw [show ((1 : Int) == 1 || (1 : Int) == 6) = true from by decide]
  rintro e w2 ⟨rfl, hb⟩
  have HB := HB.trans hb
  obtain ⟨p0, p1, p2, p3, p4, p5, p6⟩ := box7 HB
  have ne : w.heap.size < w2.heap.size := World.block_lt_of_cell? _ _ p0
  have fz : w2.frozen? ⟨w.heap.size, 6, none⟩ = false := by rw [HB.frozen (p := ⟨w.heap.size, 6, none⟩) (by simp; rfl)]; simp
  clear hb
  go_wp2_with fail
  go_ret2
  exact ⟨by simp, HB.un⟩
theorem wput_any (op fn dst src : Int) (reg : Bool) (off imm too : Int) (w : World) (hi : U32 imm) :
    Calls Try.prog 24 #[.agg #[.int .i64 op, .int .i64 fn, .int .i64 dst, .int .i64 src, .bool reg, .int .i64 off, .int .u32 imm], .int .i64 too] w fun e w' => e = .returned (.tuple #[.int .u64 (wput op fn dst src reg off imm too).1, .int .i64 (wput op fn dst src reg off imm too).2]) ∧ Bel w w' := by
  have i0 := hi.lo
  have i1 := hi.hi
  by_cases hm : mayB op fn dst src reg off imm = true
  · obtain ⟨hc4, -⟩ := code_pat hm
    obtain ⟨_, ⟨d0, d1⟩, ⟨s0, s1⟩, _⟩ := of_decide_eq_true hm
    by_cases h0 : too < 0
    · have hr : wput op fn dst src reg off imm too = (0, 1) := if_neg (by rintro ⟨_, h, _⟩; omega)
      rw [hr]
      exact wput_low op fn dst src reg off imm too w hm _ (Lib.hid rfl) hc4 d0 d1 s0 s1 h0
    · by_cases h1 : 1023 < too
      · have hr : wput op fn dst src reg off imm too = (0, 1) := if_neg (by rintro ⟨_, _, h, _⟩; omega)
        rw [hr]
        exact wput_high op fn dst src reg off imm too w hm _ (Lib.hid rfl) hc4 d0 d1 s0 s1 h0 h1
      · by_cases h2 : 0 < too
        · by_cases h6 : op = 6
          · have hr : wput op fn dst src reg off imm too = (wordI (codeN op fn reg) dst src too 0, 0) := by unfold wput; rw [if_pos ⟨hm, by omega, by omega, fun _ => .inr h6⟩, if_pos h6]
            rw [hr]
            exact wput_p6 op fn dst src reg off imm too w hm _ (Lib.hid rfl) hc4 d0 d1 s0 s1 i0 i1 h2 (by omega) h6
          · by_cases h7 : op = 1
            · have hr : wput op fn dst src reg off imm too = (wordI (codeN op fn reg) dst src too imm, 0) := by unfold wput; rw [if_pos ⟨hm, by omega, by omega, fun _ => .inl h7⟩, if_neg h6]
              rw [hr]
              exact wput_p1 op fn dst src reg off imm too w hm _ (Lib.hid rfl) hc4 d0 d1 s0 s1 i0 i1 h2 (by omega) h7
            · have hr : wput op fn dst src reg off imm too = (0, 1) := if_neg (by rintro ⟨_, _, _, h⟩; rcases h h2 with h | h <;> contradiction)
              rw [hr]
              exact wput_else op fn dst src reg off imm too w hm _ (Lib.hid rfl) hc4 d0 d1 s0 s1 h2 (by omega) (by simp [h6, h7])
        · obtain rfl : too = 0 := by omega
          by_cases h6 : op = 6
          · have hr : wput op fn dst src reg off imm 0 = (wordI (codeN op fn reg) dst src 0 0, 0) := by unfold wput; rw [if_pos ⟨hm, by omega, by omega, fun h => absurd h (by omega)⟩, if_pos h6]
            rw [hr]
            exact wput_z6 op fn dst src reg off imm 0 w hm _ (Lib.hid rfl) hc4 d0 d1 s0 s1 i0 i1 rfl h6
          · have hr : wput op fn dst src reg off imm 0 = (wordI (codeN op fn reg) dst src 0 imm, 0) := by unfold wput; rw [if_pos ⟨hm, by omega, by omega, fun h => absurd h (by omega)⟩, if_neg h6]
            rw [hr]
            exact wput_z op fn dst src reg off imm 0 w hm _ (Lib.hid rfl) hc4 d0 d1 s0 s1 i0 i1 rfl h6
  · have hm' : mayB op fn dst src reg off imm = false := by simpa using hm
    have hr : wput op fn dst src reg off imm too = (0, 1) := if_neg (by rintro ⟨h, _⟩; exact hm h)
    rw [hr]
    exact wput_no op fn dst src reg off imm too w hm'
end Go.Proofs.Yteopeocgbfdofaa
