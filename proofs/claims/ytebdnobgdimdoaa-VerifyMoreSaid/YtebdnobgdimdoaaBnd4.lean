/- bounds: what is done with bounds, by each operation. -/
import Derived.Test.YtebdnobgdimdoaaBnd3
import Derived.Test.YtebdnobgdimdoaaAluPure
import Derived.Laws.EntriesVeiled
import Derived.Deep.RegionHeld3
import Derived.Deep.DeepCutAuto
import Derived.StillTailTactics
set_option linter.unusedVariables false
set_option linter.unusedSimpArgs false
namespace Go.Proofs.Ytebdnobgdimdoaa
open Go.RowKit
attribute [local go_sem] max2_nat min2_nat bmax_two bmin_two

/-- What bounds come to. -/
def aluS (op : Nat) (l1 h1 l2 h2 : Nat) : Nat × Nat :=
  match op with
  | 0 => (l2, h2)
  | 1 => fitS (l1 + l2) (h1 + h2)
  | 2 => if l1 < h2 then (0, 4294967295) else (l1 - h2, h1 - l2)
  | 3 => fitS (l1 * l2) (h1 * h2)
  | 4 => if l2 = 0 then (0, h1) else (l1 / h2, h1 / l2)
  | 5 => if h1 < l2 then (l1, h1) else if l2 = 0 then (0, h1) else (0, nmin h1 (h2 - 1))
  | 6 => (0, nmin h1 h2)
  | 7 => (nmax l1 l2, powS h1 h2 - 1)
  | 8 => (0, powS h1 h2 - 1)
  | 9 => if l2 = h2 then fitS (l1 * 2 ^ (l2 % 32)) (h1 * 2 ^ (l2 % 32)) else (0, 4294967295)
  | 10 => if l2 = h2 then (l1 / 2 ^ (l2 % 32), h1 / 2 ^ (l2 % 32)) else (0, h1)
  | _ => (0, 4294967295)

def brulesV : Array Value := #[Value.func (Fn.func 113) #[] #[], Value.func (Fn.func 114) #[] #[], Value.func (Fn.func 115) #[] #[], Value.func (Fn.func 116) #[] #[], Value.func (Fn.func 117) #[] #[], Value.func (Fn.func 118) #[] #[], Value.func (Fn.func 119) #[] #[], Value.func (Fn.func 120) #[] #[], Value.func (Fn.func 122) #[] #[], Value.func (Fn.func 123) #[] #[], Value.func (Fn.func 124) #[] #[]]
set_option maxHeartbeats 400000 in
theorem brules_any (w : World) :
    Calls Try.prog 97 #[] w fun e w' => e = .returned (.agg brulesV) ∧ w.alloc (.cells brulesV 160) = w' := by
  go_enter Try.func97, Try.ntmps97
  go_wp2
  refine bodyPost_ret (v := .agg brulesV) ?_ rfl ⟨rfl, rfl⟩
  simp [results, Try.results97, go_sem, brulesV]

set_option maxHeartbeats 1000000 in
theorem rule0 (l1 h1 l2 h2 : Nat) (w : World) (hl1 : l1 ≤ h1) (hh1 : h1 < 4294967296) (hl2 : l2 ≤ h2) (hh2 : h2 < 4294967296) :
    Calls Try.prog 113 #[.agg #[.int .u64 l1, .int .u64 h1], .agg #[.int .u64 l2, .int .u64 h2]] w fun e w' => e = .returned (.agg #[.int .u64 (aluS 0 l1 h1 l2 h2).1, .int .u64 (aluS 0 l1 h1 l2 h2).2]) ∧ Bel w w' := by
  have HB := Bel.refl w
  have E : aluS 0 l1 h1 l2 h2 = (l2, h2) := rfl
  rw [E]
  clear E
  go_enter Try.func113, Try.ntmps113
  go_wp2
  refine bodyPost_ret (v := .agg #[.int .u64 ((l2 : Nat) : Int), .int .u64 ((h2 : Nat) : Int)]) ?_ rfl ⟨rfl, by repeat (first | (with_reducible exact HB) | apply Bel.alloc | apply Bel.drewN)⟩
  simp [results, Try.results113, go_sem]

set_option maxHeartbeats 1000000 in
theorem rule6 (l1 h1 l2 h2 : Nat) (w : World) (hl1 : l1 ≤ h1) (hh1 : h1 < 4294967296) (hl2 : l2 ≤ h2) (hh2 : h2 < 4294967296) :
    Calls Try.prog 119 #[.agg #[.int .u64 l1, .int .u64 h1], .agg #[.int .u64 l2, .int .u64 h2]] w fun e w' => e = .returned (.agg #[.int .u64 (aluS 6 l1 h1 l2 h2).1, .int .u64 (aluS 6 l1 h1 l2 h2).2]) ∧ Bel w w' := by
  have HB := Bel.refl w
  have E : aluS 6 l1 h1 l2 h2 = (0, nmin h1 h2) := rfl
  rw [E]
  clear E
  go_enter Try.func119, Try.ntmps119
  go_wp2
  refine bodyPost_ret (v := .agg #[.int .u64 ((0 : Nat) : Int), .int .u64 ((nmin h1 h2 : Nat) : Int)]) ?_ rfl ⟨rfl, by repeat (first | (with_reducible exact HB) | apply Bel.alloc | apply Bel.drewN)⟩
  simp [results, Try.results119, go_sem]

theorem fit_at (lo hi : Nat) (x y : Int) (w : World) (hx : x = lo) (hy : y = hi) (h1 : lo ≤ 18446744073709551615) (h2 : hi ≤ 18446744073709551615) :
    Calls Try.prog 96 #[.int .u64 x, .int .u64 y] w fun e w' => e = .returned (.agg #[.int .u64 (fitS lo hi).1, .int .u64 (fitS lo hi).2]) ∧ Bel w w' := by
  subst hx; subst hy
  exact fit_any lo hi w h1 h2
theorem power_still (a b : Nat) (w : World) (ha : a < 4294967296) (hb : b < 4294967296) :
    Calls Try.prog 121 #[.int .u64 a, .int .u64 b] w fun e w' => e = .returned (.int .u64 (powS a b : Nat)) ∧ w' = w :=
  (power_loop a b w ha hb).mono fun _ _ ⟨h, k⟩ => ⟨h, k.symm⟩
theorem nsub {a b : Nat} (h : b ≤ a) : (a : Int) - (b : Int) = ((a - b : Nat) : Int) := by omega
theorem wrap_div {a b : Nat} (h : a < 4294967296) : IntKind.u64.wrap ((a : Int) / (b : Int)) = (a : Int) / (b : Int) := by
  have : a / b ≤ a := Nat.div_le_self a b
  have e : (a : Int) / (b : Int) = ((a / b : Nat) : Int) := by simp
  rw [e]
  simp only [IntKind.wrap]; simp only [go_sem]; generalize a / b = q at *; simp; omega
theorem ndiv (a b : Nat) : (a : Int) / (b : Int) = ((a / b : Nat) : Int) := by simp
theorem nmul_le {a b c d : Nat} (h1 : a ≤ c) (h2 : b ≤ d) (hc : c < 4294967296) (hd : d < 4294967296) : a * b ≤ 18446744065119617025 := by
  calc a * b ≤ 4294967295 * 4294967295 := Nat.mul_le_mul (by omega) (by omega)
    _ = 18446744065119617025 := by decide
theorem shl_le {a n : Nat} (h : a < 4294967296) : a * 2 ^ (n % 32) ≤ 9223372036854775807 := by
  have : 2 ^ (n % 32) ≤ 2 ^ 31 := Nat.pow_le_pow_right (by decide) (by omega)
  have := Nat.mul_le_mul (show a ≤ 4294967295 by omega) this
  omega
theorem shl_eq {a n : Nat} (h : a < 4294967296) : (a : Int) * 2 ^ ((n : Int) % 32).toNat % 18446744073709551616 = ((a * 2 ^ (n % 32) : Nat) : Int) := by
  have e : ((n : Int) % 32).toNat = n % 32 := by omega
  have h2 := shl_le (n := n) h
  rw [e]
  have e2 : (a : Int) * 2 ^ (n % 32) = ((a * 2 ^ (n % 32) : Nat) : Int) := by simp
  rw [e2]
  omega
theorem shr_eq (a n : Nat) : (a : Int) / 2 ^ ((n : Int) % 32).toNat = ((a / 2 ^ (n % 32) : Nat) : Int) := by
  have e : ((n : Int) % 32).toNat = n % 32 := by omega
  rw [e]; simp

set_option maxHeartbeats 1000000 in
theorem rule1 (l1 h1 l2 h2 : Nat) (w : World) (hl1 : l1 ≤ h1) (hh1 : h1 < 4294967296) (hl2 : l2 ≤ h2) (hh2 : h2 < 4294967296) :
    Calls Try.prog 114 #[.agg #[.int .u64 l1, .int .u64 h1], .agg #[.int .u64 l2, .int .u64 h2]] w fun e w' => e = .returned (.agg #[.int .u64 (aluS 1 l1 h1 l2 h2).1, .int .u64 (aluS 1 l1 h1 l2 h2).2]) ∧ Bel w w' := by
  have HB := Bel.refl w
  have E : aluS 1 l1 h1 l2 h2 = fitS (l1 + l2) (h1 + h2) := rfl
  rw [E]
  clear E
  have HB := ((HB.alloc (.cells #[.int .u64 l1, .int .u64 h1] 153)).alloc (.cells #[.int .u64 l2, .int .u64 h2] 153))
  go_enter Try.func114, Try.ntmps114
  go_wp2_with (first | (go_at_call 96; refine (fit_at (l1 + l2) (h1 + h2) _ _ _ (by omega) (by omega) (by omega) (by omega)).mono ?_; rintro e w1 ⟨rfl, hb1⟩; have HB := (HB.alloc _).trans hb1; obtain ⟨hc1, hf1, hs1⟩ := bcell hb1))
  refine bodyPost_ret (v := .agg #[.int .u64 (((fitS (l1 + l2) (h1 + h2)).1 : Nat) : Int), .int .u64 (((fitS (l1 + l2) (h1 + h2)).2 : Nat) : Int)]) ?_ rfl ⟨rfl, by repeat (first | (with_reducible exact HB) | (with_reducible refine Bel.setCell ?_ (by first | (simp; done) | (simp; omega)) _) | apply Bel.alloc | apply Bel.drewN)⟩
  simp [results, Try.results114, go_sem, hc1, hf1]
end Go.Proofs.Ytebdnobgdimdoaa
