/- inst.Get by its contract. -/
import Derived.Test.YtcllifcafgiopaaInstPut
import Derived.Test.YtcllifcafgiopaaReadInst
import Derived.Laws.BitsLemmas
import Derived.LoopTactic
import Derived.Lib.Hide
set_option linter.unusedVariables false
set_option linter.unusedSimpArgs false
namespace Go.Proofs.Ytcllifcafgiopaa
open Go.RowKit

/-- Bytes from place F on as one number, the first one the highest. -/
def beN (xs : List Int) (F : Nat) : Nat → Int
  | 0 => 0
  | k + 1 => beN xs F k * 256 + xs.getD (F + k) 0
theorem beN_range (xs : List Int) (F m : Nat) (h : ∀ i, i < 8 → 0 ≤ xs.getD i 0 ∧ xs.getD i 0 < 256) (hF : F + m ≤ 8) : ∀ k, k ≤ m → 0 ≤ beN xs F k ∧ beN xs F k < 256 ^ k := by
  intro k
  induction k with
  | zero => intro _; simp [beN]
  | succ k ih =>
    intro hk
    obtain ⟨h1, h2⟩ := ih (by omega)
    have h3 := h (F + k) (by omega)
    simp only [beN, Int.pow_succ]
    omega
theorem beN_small (xs : List Int) (F m : Nat) (h : ∀ i, i < 8 → 0 ≤ xs.getD i 0 ∧ xs.getD i 0 < 256) (hF : F + m ≤ 8) (hm : m ≤ 4) (k : Nat) (hk : k ≤ m) : 0 ≤ beN xs F k ∧ beN xs F k < 4294967296 := by
  obtain ⟨h1, h2⟩ := beN_range xs F m h hF k hk
  refine ⟨h1, ?_⟩
  obtain rfl | rfl | rfl | rfl | rfl : k = 0 ∨ k = 1 ∨ k = 2 ∨ k = 3 ∨ k = 4 := by omega
  all_goals (simp at h2; omega)
theorem or_shift (n c : Int) (h0 : 0 ≤ n) (h1 : n < 36028797018963968) (h2 : 0 ≤ c) (h3 : c < 256) : bits .or .i64 (n * 256) c = n * 256 + c := by
  refine bits_join .i64 63 (by decide) (fun n h0 h1 => ?_) 8 (n * 256) c (by omega) (by omega) (by omega) h2 (by omega) (by omega)
  rw [IntKind.wrap_i64]; omega
set_option maxHeartbeats 1000000 in
theorem part_any (F m : Nat) (w : World) (pb b off cap : Nat) (xs : List Int) (hm : m ≤ 4) (hm' : 1 ≤ m) (hF : F + m ≤ 8) (hcap : 8 ≤ cap) (hcap' : cap ≤ 9223372036854775807)
    (hbox : w.cell? ⟨pb, 0, none⟩ = some (.slice (some ⟨b, off, none⟩) 8 cap))
    (hxs : Hid (∀ i, i < 8 → w.cell? ⟨b, off + i, none⟩ = some (.int .u8 (xs.getD i 0)) ∧ 0 ≤ xs.getD i 0 ∧ xs.getD i 0 < 256)) (hl : Hid (xs.length = 8)) :
    Calls Try.prog 44 #[.int .i64 F, .int .i64 ((F + m : Nat) : Int), .pointer (some ⟨pb, 0, none⟩)] w fun e w' => e = .returned (.int .i64 (beN xs F m)) ∧ w = w' := by
  have hcF : ¬ cap = F := by omega
  go_enter Try.func44, Try.ntmps44
  go_wp2
  go_loop [6, 14] (fun n i => ∃ k : Nat, k ≤ m ∧ i = .int .i64 k ∧ n = .int .i64 (beN xs F k)) (fun _ i => m - (intOf i).toNat)
  case atStart => exact ⟨0, by omega, rfl, rfl⟩
  case round =>
    obtain ⟨k, hk, rfl, rfl⟩ := hrel
    by_cases hlt : k < m
    · obtain ⟨c1, c2, c3⟩ := hxs.out (F + k) (by omega)
      obtain ⟨b1, b2⟩ := beN_small xs F m (fun i hi => (hxs.out i hi).2) hF hm k hk
      have hs : Hid (beN xs F (k + 1) = beN xs F k * 256 + xs.getD (F + k) 0) := rfl
      have hor := or_shift (beN xs F k) (xs.getD (F + k) 0) b1 (by omega) c2 c3
      rw [← Nat.add_assoc] at c1
      generalize beN xs F k = N at *
      generalize xs.getD (F + k) 0 = C at *
      go_wp2
      go_round
      case rel => exact ⟨k + 1, by omega, by go_num, by rw [hs.out]⟩
      case measure => simp [intOf]; omega
    · have e : k = m := by omega
      subst e
      go_wp2
      go_ret
      exact ⟨rfl, rfl⟩

theorem and128 : ∀ b : Fin 256, (bits .and .i64 (b.val : Int) 128 != 0) = decide (128 ≤ b.val) := by decide +kernel
theorem andNot128 : ∀ b : Fin 256, bits .andNot .i64 (b.val : Int) 128 = ((b.val % 128 : Nat) : Int) := by decide +kernel
theorem and7 : ∀ b : Fin 256, bits .and .i64 (b.val : Int) 7 = ((b.val % 8 : Nat) : Int) := by decide +kernel
theorem bits_byte (b : Int) (h0 : 0 ≤ b) (h1 : b < 256) : (bits .and .i64 b 128 != 0) = decide (128 ≤ b) ∧ bits .andNot .i64 b 128 = b % 128 ∧ bits .and .i64 b 7 = b % 8 := by
  obtain ⟨n, rfl⟩ := Int.eq_ofNat_of_zero_le h0
  have hn : n < 256 := by omega
  have e1 := and128 ⟨n, hn⟩
  have e2 := andNot128 ⟨n, hn⟩
  have e3 := and7 ⟨n, hn⟩
  simp only at e1 e2 e3
  refine ⟨?_, ?_, ?_⟩
  · rw [e1]; apply decide_eq_decide.2; omega
  · rw [e2]; omega
  · rw [e3]; omega
/-- The instruction of eight bytes, whether it may be or not. -/
def getI (l : List Int) : InstD :=
  ⟨l.getD 0 0 / 16, l.getD 0 0 % 16, l.getD 1 0 % 128 / 8, l.getD 1 0 % 8, decide (128 ≤ l.getD 1 0), beN l 2 2, beN l 4 4⟩
def InstD.may (i : InstD) : Bool := mayB i.op i.fn i.dst i.src i.reg i.off i.imm
def InstD.v (i : InstD) : Value := .agg #[.int .i64 i.op, .int .i64 i.fn, .int .i64 i.dst, .int .i64 i.src, .bool i.reg, .int .i64 i.off, .int .u32 i.imm]
def InstD.zero : InstD := ⟨0, 0, 0, 0, false, 0, 0⟩
/-- What 'Get' tells. -/
def getR (l : List Int) : InstD × Int := if l.length = 8 then (if (getI l).may = true then (getI l, 0) else (InstD.zero, 7)) else (InstD.zero, 7)

set_option maxHeartbeats 1000000 in
theorem get_short (A : Option Addr) (n cap : Nat) (w : World) (h : n ≠ 8) (hn : n ≤ 9223372036854775807) :
    Calls Try.prog 37 #[.slice A n cap] w fun e w' => e = .returned (.tuple #[InstD.zero.v, .int .i64 7]) ∧ Bel w w' := by
  have hb : ((n : Int) != 8) = true := by rw [bne_iff_ne]; omega
  clear h
  go_enter Try.func37, Try.ntmps37
  go_wp2
  refine bodyPost_ret (v := .tuple #[InstD.zero.v, .int .i64 7]) ?_ rfl ⟨rfl, ((Bel.refl _).alloc _).alloc _⟩
  simp [results, Try.results37, go_sem, InstD.zero, InstD.v]

theorem part_at (F m : Nat) (f t v : Int) (hf : f = F) (ht : t = ((F + m : Nat) : Int)) (w : World) (pb b off cap : Nat) (xs : List Int) (hm : m ≤ 4) (hm' : 1 ≤ m) (hF : F + m ≤ 8) (hcap : 8 ≤ cap) (hcap' : cap ≤ 9223372036854775807)
    (hbox : w.cell? ⟨pb, 0, none⟩ = some (.slice (some ⟨b, off, none⟩) 8 cap))
    (hxs : Hid (∀ i, i < 8 → w.cell? ⟨b, off + i, none⟩ = some (.int .u8 (xs.getD i 0)) ∧ 0 ≤ xs.getD i 0 ∧ xs.getD i 0 < 256)) (hl : Hid (xs.length = 8)) (hv : Hid (beN xs F m = v)) :
    Calls Try.prog 44 #[.int .i64 f, .int .i64 t, .pointer (some ⟨pb, 0, none⟩)] w fun e w' => e = .returned (.int .i64 v) ∧ w = w' := by
  subst hf; subst ht; rw [← hv.out]
  exact part_any F m w pb b off cap xs hm hm' hF hcap hcap' hbox hxs hl
theorem bytes_mono {w w' : World} {b off : Nat} {xs : List Int} (h : Hid (∀ i, i < 8 → w.cell? ⟨b, off + i, none⟩ = some (.int .u8 (xs.getD i 0)) ∧ 0 ≤ xs.getD i 0 ∧ xs.getD i 0 < 256)) (hb : Bel w w') :
    Hid (∀ i, i < 8 → w'.cell? ⟨b, off + i, none⟩ = some (.int .u8 (xs.getD i 0)) ∧ 0 ≤ xs.getD i 0 ∧ xs.getD i 0 < 256) :=
  Lib.hid fun i hi => ⟨hb.cell (h.out i hi).1, (h.out i hi).2⟩
set_option maxHeartbeats 4000000 in
theorem get_long (b off cap : Nat) (l : List Int) (w : World) (hcap : 8 ≤ cap) (hcap' : cap ≤ 9223372036854775807) (hl : Hid (l.length = 8))
    (hxs : Hid (∀ i, i < 8 → w.cell? ⟨b, off + i, none⟩ = some (.int .u8 (l.getD i 0)) ∧ 0 ≤ l.getD i 0 ∧ l.getD i 0 < 256)) :
    Calls Try.prog 37 #[.slice (some ⟨b, off, none⟩) 8 cap] w fun e w' => e = .returned (.tuple #[(getR l).1.v, .int .i64 (getR l).2]) ∧ Bel w w' := by
  obtain ⟨_, q0, q1⟩ := hxs.out 0 (by decide)
  obtain ⟨_, q2, q3⟩ := hxs.out 1 (by decide)
  obtain ⟨p0, p1⟩ := beN_small l 2 2 (fun i hi => (hxs.out i hi).2) (by decide) (by decide) 2 (by decide)
  obtain ⟨p2, p3⟩ := beN_small l 4 4 (fun i hi => (hxs.out i hi).2) (by decide) (by decide) 4 (by decide)
  have R : getR l = if mayB (l.getD 0 0 / 16) (l.getD 0 0 % 16) (l.getD 1 0 % 128 / 8) (l.getD 1 0 % 8) (decide (128 ≤ l.getD 1 0)) (beN l 2 2) (beN l 4 4) = true then (⟨l.getD 0 0 / 16, l.getD 0 0 % 16, l.getD 1 0 % 128 / 8, l.getD 1 0 % 8, decide (128 ≤ l.getD 1 0), beN l 2 2, beN l 4 4⟩, 0) else (InstD.zero, 7) := by
    unfold getR; rw [if_pos hl.out]; rfl
  rw [R]
  clear R
  have v0 : Hid (beN l 0 1 = l.getD 0 0) := Lib.hid (by simp [beN])
  have v1 : Hid (beN l 1 1 = l.getD 1 0) := Lib.hid (by simp [beN])
  obtain ⟨e1, e2, e3⟩ := bits_byte (l.getD 1 0) q2 q3
  have hb : ((8 : Int) != 8) = false := by decide
  generalize l.getD 0 0 = B0 at *
  generalize l.getD 1 0 = B1 at *
  obtain ⟨N2, hN2⟩ : ∃ N, beN l 2 2 = N := ⟨_, rfl⟩
  obtain ⟨N4, hN4⟩ : ∃ N, beN l 4 4 = N := ⟨_, rfl⟩
  rw [hN2] at p0 p1 ⊢
  rw [hN4] at p2 p3 ⊢
  have v2 := Lib.hid hN2
  have v4 := Lib.hid hN4
  clear hN2 hN4
  by_cases hm : mayB (B0 / 16) (B0 % 16) (B1 % 128 / 8) (B1 % 8) (decide (128 ≤ B1)) N2 N4 = true
  · rw [if_pos hm]
    have HB := Bel.refl w
    go_enter Try.func37, Try.ntmps37
    go_wp2_with (first | (go_at_call_of 44 (Value.int .i64 0); refine (part_at 0 1 0 1 B0 (by rfl) (by rfl) _ w.heap.size b off cap l (by decide) (by decide) (by decide) hcap hcap' (by go_simp) (bytes_mono hxs (((Bel.refl _).alloc _).alloc _)) hl v0).mono ?_; rintro e w1 ⟨rfl, rfl⟩) | (go_at_call_of 44 (Value.int .i64 1); refine (part_at 1 1 1 2 B1 (by rfl) (by rfl) _ w.heap.size b off cap l (by decide) (by decide) (by decide) hcap hcap' (by go_simp) (bytes_mono hxs (((Bel.refl _).alloc _).alloc _)) hl v1).mono ?_; rintro e w1 ⟨rfl, rfl⟩) | (go_at_call_of 44 (Value.int .i64 2); refine (part_at 2 2 2 4 N2 (by rfl) (by rfl) _ w.heap.size b off cap l (by decide) (by decide) (by decide) hcap hcap' (by go_simp) (bytes_mono hxs (((Bel.refl _).alloc _).alloc _)) hl v2).mono ?_; rintro e w1 ⟨rfl, rfl⟩) | (go_at_call_of 44 (Value.int .i64 4); refine (part_at 4 4 4 8 N4 (by rfl) (by rfl) _ w.heap.size b off cap l (by decide) (by decide) (by decide) hcap hcap' (by go_simp) (bytes_mono hxs (((Bel.refl _).alloc _).alloc _)) hl v4).mono ?_; rintro e w1 ⟨rfl, rfl⟩) | (go_at_call 41; refine (may_any _ _ _ _ _ _ _ _).mono ?_; rintro e w1 ⟨rfl, hb1⟩; obtain ⟨hc1, hf1, hs1⟩ := bcell hb1; have HB := (((HB.alloc _).alloc _).alloc _).trans hb1; clear hb1))
    refine bodyPost_ret (v := .tuple #[InstD.v ⟨B0 / 16, B0 % 16, B1 % 128 / 8, B1 % 8, decide (128 ≤ B1), N2, N4⟩, .int .i64 0]) ?_ rfl ⟨rfl, by repeat (first | (with_reducible exact HB) | (with_reducible refine Bel.setCell ?_ (by simp) _))⟩
    simp [results, Try.results37, go_sem, InstD.v, InstD.zero, hc1, hf1]
  · rw [if_neg hm]
    have hm : mayB (B0 / 16) (B0 % 16) (B1 % 128 / 8) (B1 % 8) (decide (128 ≤ B1)) N2 N4 = false := by simpa using hm
    have HB := Bel.refl w
    go_enter Try.func37, Try.ntmps37
    go_wp2_with (first | (go_at_call_of 44 (Value.int .i64 0); refine (part_at 0 1 0 1 B0 (by rfl) (by rfl) _ w.heap.size b off cap l (by decide) (by decide) (by decide) hcap hcap' (by go_simp) (bytes_mono hxs (((Bel.refl _).alloc _).alloc _)) hl v0).mono ?_; rintro e w1 ⟨rfl, rfl⟩) | (go_at_call_of 44 (Value.int .i64 1); refine (part_at 1 1 1 2 B1 (by rfl) (by rfl) _ w.heap.size b off cap l (by decide) (by decide) (by decide) hcap hcap' (by go_simp) (bytes_mono hxs (((Bel.refl _).alloc _).alloc _)) hl v1).mono ?_; rintro e w1 ⟨rfl, rfl⟩) | (go_at_call_of 44 (Value.int .i64 2); refine (part_at 2 2 2 4 N2 (by rfl) (by rfl) _ w.heap.size b off cap l (by decide) (by decide) (by decide) hcap hcap' (by go_simp) (bytes_mono hxs (((Bel.refl _).alloc _).alloc _)) hl v2).mono ?_; rintro e w1 ⟨rfl, rfl⟩) | (go_at_call_of 44 (Value.int .i64 4); refine (part_at 4 4 4 8 N4 (by rfl) (by rfl) _ w.heap.size b off cap l (by decide) (by decide) (by decide) hcap hcap' (by go_simp) (bytes_mono hxs (((Bel.refl _).alloc _).alloc _)) hl v4).mono ?_; rintro e w1 ⟨rfl, rfl⟩) | (go_at_call 41; refine (may_any _ _ _ _ _ _ _ _).mono ?_; rintro e w1 ⟨rfl, hb1⟩; obtain ⟨hc1, hf1, hs1⟩ := bcell hb1; have HB := (((HB.alloc _).alloc _).alloc _).trans hb1; clear hb1))
    refine bodyPost_ret (v := .tuple #[InstD.v InstD.zero, .int .i64 7]) ?_ rfl ⟨rfl, by repeat (first | (with_reducible exact HB) | (with_reducible refine Bel.setCell ?_ (by simp) _))⟩
    simp [results, Try.results37, go_sem, InstD.v, InstD.zero, hc1, hf1]
end Go.Proofs.Ytcllifcafgiopaa
