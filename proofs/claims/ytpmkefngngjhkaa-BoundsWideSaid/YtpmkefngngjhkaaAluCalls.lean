/- What the machine's 'alu.Do' and 'alu.Holds' come to: the plain functions 'aluI', 'holdsI'. -/
import Derived.Test.YtpmkefngngjhkaaProg
import Derived.Test.YtpmkefngngjhkaaAluPure
import Derived.KernelRfl
import Derived.WalkLawsBesides
import Derived.WalkSpells
import Derived.Laws.EntriesVeiled
set_option linter.unusedVariables false
set_option linter.unusedSimpArgs false
namespace Go.Proofs.Ytpmkefngngjhkaa
open Go.RowKit

def deedsV : Value := .agg #[Value.func (Fn.func 37) #[] #[], Value.func (Fn.func 38) #[] #[], Value.func (Fn.func 39) #[] #[], Value.func (Fn.func 40) #[] #[], Value.func (Fn.func 41) #[] #[], Value.func (Fn.func 42) #[] #[], Value.func (Fn.func 43) #[] #[], Value.func (Fn.func 44) #[] #[], Value.func (Fn.func 45) #[] #[], Value.func (Fn.func 46) #[] #[], Value.func (Fn.func 47) #[] #[]]
set_option maxHeartbeats 400000 in
theorem deeds_any (w : World) :
    Calls Try.prog 23 #[] w fun e w' => e = .returned deedsV ∧ Bel w w' := by
  go_enter Try.func23, Try.ntmps23
  go_wp2
  refine bodyPost_ret (v := deedsV) ?_ rfl ⟨rfl, (Bel.refl _).alloc _⟩
  simp [results, Try.results23, go_sem, deedsV]

theorem deeds_idx0 : ∀ w, (Instr.index 55 deedsV (.int .i64 0)).run Try.prog w = .ok (.agg #[Value.func (Fn.func 37) #[] #[]]) w := fun _ => by kernel_rfl
theorem deeds_fld0 : ∀ w, (Instr.field 54 (.agg #[Value.func (Fn.func 37) #[] #[]]) 0).run Try.prog w = .ok (Value.func (Fn.func 37) #[] #[]) w := fun _ => by kernel_rfl
set_option maxHeartbeats 400000 in
theorem do_0 (a b : Int) (w : World) (ha : 0 ≤ a) (ha' : a < 4294967296) (hb : 0 ≤ b) :
    Calls Try.prog 17 #[.int .i64 0, .int .u32 a, .int .u32 b] w fun e w' => e = .returned (.tuple #[.int .u32 (aluI 0 a b), .bool true]) ∧ Bel w w' := by
  have i1 := deeds_idx0
  have i2 := deeds_fld0
  go_enter Try.func17, Try.ntmps17
  go_wp2_with (first | (go_at_call 23; refine (deeds_any _).mono ?_; rintro e w' ⟨rfl, hb'⟩) | go_in)
  go_ret2
  exact ⟨by simp [aluI_0], hb'⟩

theorem deeds_idx1 : ∀ w, (Instr.index 55 deedsV (.int .i64 1)).run Try.prog w = .ok (.agg #[Value.func (Fn.func 38) #[] #[]]) w := fun _ => by kernel_rfl
theorem deeds_fld1 : ∀ w, (Instr.field 54 (.agg #[Value.func (Fn.func 38) #[] #[]]) 0).run Try.prog w = .ok (Value.func (Fn.func 38) #[] #[]) w := fun _ => by kernel_rfl
set_option maxHeartbeats 400000 in
theorem do_1 (a b : Int) (w : World) (ha : 0 ≤ a) (ha' : a < 4294967296) (hb : 0 ≤ b) :
    Calls Try.prog 17 #[.int .i64 1, .int .u32 a, .int .u32 b] w fun e w' => e = .returned (.tuple #[.int .u32 (aluI 1 a b), .bool true]) ∧ Bel w w' := by
  have i1 := deeds_idx1
  have i2 := deeds_fld1
  go_enter Try.func17, Try.ntmps17
  go_wp2_with (first | (go_at_call 23; refine (deeds_any _).mono ?_; rintro e w' ⟨rfl, hb'⟩) | go_in)
  go_ret2
  exact ⟨by simp [aluI_1], hb'⟩

theorem deeds_idx2 : ∀ w, (Instr.index 55 deedsV (.int .i64 2)).run Try.prog w = .ok (.agg #[Value.func (Fn.func 39) #[] #[]]) w := fun _ => by kernel_rfl
theorem deeds_fld2 : ∀ w, (Instr.field 54 (.agg #[Value.func (Fn.func 39) #[] #[]]) 0).run Try.prog w = .ok (Value.func (Fn.func 39) #[] #[]) w := fun _ => by kernel_rfl
set_option maxHeartbeats 400000 in
theorem do_2 (a b : Int) (w : World) (ha : 0 ≤ a) (ha' : a < 4294967296) (hb : 0 ≤ b) :
    Calls Try.prog 17 #[.int .i64 2, .int .u32 a, .int .u32 b] w fun e w' => e = .returned (.tuple #[.int .u32 (aluI 2 a b), .bool true]) ∧ Bel w w' := by
  have i1 := deeds_idx2
  have i2 := deeds_fld2
  go_enter Try.func17, Try.ntmps17
  go_wp2_with (first | (go_at_call 23; refine (deeds_any _).mono ?_; rintro e w' ⟨rfl, hb'⟩) | go_in)
  go_ret2
  exact ⟨by simp [aluI_2], hb'⟩

theorem deeds_idx3 : ∀ w, (Instr.index 55 deedsV (.int .i64 3)).run Try.prog w = .ok (.agg #[Value.func (Fn.func 40) #[] #[]]) w := fun _ => by kernel_rfl
theorem deeds_fld3 : ∀ w, (Instr.field 54 (.agg #[Value.func (Fn.func 40) #[] #[]]) 0).run Try.prog w = .ok (Value.func (Fn.func 40) #[] #[]) w := fun _ => by kernel_rfl
set_option maxHeartbeats 400000 in
theorem do_3 (a b : Int) (w : World) (ha : 0 ≤ a) (ha' : a < 4294967296) (hb : 0 ≤ b) :
    Calls Try.prog 17 #[.int .i64 3, .int .u32 a, .int .u32 b] w fun e w' => e = .returned (.tuple #[.int .u32 (aluI 3 a b), .bool true]) ∧ Bel w w' := by
  have i1 := deeds_idx3
  have i2 := deeds_fld3
  go_enter Try.func17, Try.ntmps17
  go_wp2_with (first | (go_at_call 23; refine (deeds_any _).mono ?_; rintro e w' ⟨rfl, hb'⟩) | go_in)
  go_ret2
  exact ⟨by simp [aluI_3], hb'⟩

theorem deeds_idx4 : ∀ w, (Instr.index 55 deedsV (.int .i64 4)).run Try.prog w = .ok (.agg #[Value.func (Fn.func 41) #[] #[]]) w := fun _ => by kernel_rfl
theorem deeds_fld4 : ∀ w, (Instr.field 54 (.agg #[Value.func (Fn.func 41) #[] #[]]) 0).run Try.prog w = .ok (Value.func (Fn.func 41) #[] #[]) w := fun _ => by kernel_rfl
set_option maxHeartbeats 400000 in
theorem do_4 (a b : Int) (w : World) (ha : 0 ≤ a) (ha' : a < 4294967296) (hb : 0 ≤ b) :
    Calls Try.prog 17 #[.int .i64 4, .int .u32 a, .int .u32 b] w fun e w' => e = .returned (.tuple #[.int .u32 (aluI 4 a b), .bool true]) ∧ Bel w w' := by
  by_cases h0 : b = 0
  · subst h0
    have i1 := deeds_idx4
    have i2 := deeds_fld4
    go_enter Try.func17, Try.ntmps17
    go_wp2_with (first | (go_at_call 23; refine (deeds_any _).mono ?_; rintro e w' ⟨rfl, hb'⟩) | go_in)
    go_ret2
    exact ⟨by simp [aluI_4], hb'⟩
  · have h0' : (b == 0) = false := by simp [h0]
    have h1 : 0 < b := by omega
    have i1 := deeds_idx4
    have i2 := deeds_fld4
    go_enter Try.func17, Try.ntmps17
    go_wp2_with (first | (go_at_call 23; refine (deeds_any _).mono ?_; rintro e w' ⟨rfl, hb'⟩) | go_in)
    go_ret2
    exact ⟨by simp [aluI_4, h0], hb'⟩

theorem deeds_idx5 : ∀ w, (Instr.index 55 deedsV (.int .i64 5)).run Try.prog w = .ok (.agg #[Value.func (Fn.func 42) #[] #[]]) w := fun _ => by kernel_rfl
theorem deeds_fld5 : ∀ w, (Instr.field 54 (.agg #[Value.func (Fn.func 42) #[] #[]]) 0).run Try.prog w = .ok (Value.func (Fn.func 42) #[] #[]) w := fun _ => by kernel_rfl
set_option maxHeartbeats 400000 in
theorem do_5 (a b : Int) (w : World) (ha : 0 ≤ a) (ha' : a < 4294967296) (hb : 0 ≤ b) :
    Calls Try.prog 17 #[.int .i64 5, .int .u32 a, .int .u32 b] w fun e w' => e = .returned (.tuple #[.int .u32 (aluI 5 a b), .bool true]) ∧ Bel w w' := by
  by_cases h0 : b = 0
  · subst h0
    have i1 := deeds_idx5
    have i2 := deeds_fld5
    go_enter Try.func17, Try.ntmps17
    go_wp2_with (first | (go_at_call 23; refine (deeds_any _).mono ?_; rintro e w' ⟨rfl, hb'⟩) | go_in)
    go_ret2
    exact ⟨by simp [aluI_5], hb'⟩
  · have h0' : (b == 0) = false := by simp [h0]
    have h1 : 0 < b := by omega
    have i1 := deeds_idx5
    have i2 := deeds_fld5
    go_enter Try.func17, Try.ntmps17
    go_wp2_with (first | (go_at_call 23; refine (deeds_any _).mono ?_; rintro e w' ⟨rfl, hb'⟩) | go_in)
    go_ret2
    exact ⟨by simp [aluI_5, h0], hb'⟩

theorem deeds_idx6 : ∀ w, (Instr.index 55 deedsV (.int .i64 6)).run Try.prog w = .ok (.agg #[Value.func (Fn.func 43) #[] #[]]) w := fun _ => by kernel_rfl
theorem deeds_fld6 : ∀ w, (Instr.field 54 (.agg #[Value.func (Fn.func 43) #[] #[]]) 0).run Try.prog w = .ok (Value.func (Fn.func 43) #[] #[]) w := fun _ => by kernel_rfl
set_option maxHeartbeats 400000 in
theorem do_6 (a b : Int) (w : World) (ha : 0 ≤ a) (ha' : a < 4294967296) (hb : 0 ≤ b) :
    Calls Try.prog 17 #[.int .i64 6, .int .u32 a, .int .u32 b] w fun e w' => e = .returned (.tuple #[.int .u32 (aluI 6 a b), .bool true]) ∧ Bel w w' := by
  have i1 := deeds_idx6
  have i2 := deeds_fld6
  go_enter Try.func17, Try.ntmps17
  go_wp2_with (first | (go_at_call 23; refine (deeds_any _).mono ?_; rintro e w' ⟨rfl, hb'⟩) | go_in)
  go_ret2
  exact ⟨by simp [aluI_6], hb'⟩

theorem deeds_idx7 : ∀ w, (Instr.index 55 deedsV (.int .i64 7)).run Try.prog w = .ok (.agg #[Value.func (Fn.func 44) #[] #[]]) w := fun _ => by kernel_rfl
theorem deeds_fld7 : ∀ w, (Instr.field 54 (.agg #[Value.func (Fn.func 44) #[] #[]]) 0).run Try.prog w = .ok (Value.func (Fn.func 44) #[] #[]) w := fun _ => by kernel_rfl
set_option maxHeartbeats 400000 in
theorem do_7 (a b : Int) (w : World) (ha : 0 ≤ a) (ha' : a < 4294967296) (hb : 0 ≤ b) :
    Calls Try.prog 17 #[.int .i64 7, .int .u32 a, .int .u32 b] w fun e w' => e = .returned (.tuple #[.int .u32 (aluI 7 a b), .bool true]) ∧ Bel w w' := by
  have i1 := deeds_idx7
  have i2 := deeds_fld7
  go_enter Try.func17, Try.ntmps17
  go_wp2_with (first | (go_at_call 23; refine (deeds_any _).mono ?_; rintro e w' ⟨rfl, hb'⟩) | go_in)
  go_ret2
  exact ⟨by simp [aluI_7], hb'⟩

theorem deeds_idx8 : ∀ w, (Instr.index 55 deedsV (.int .i64 8)).run Try.prog w = .ok (.agg #[Value.func (Fn.func 45) #[] #[]]) w := fun _ => by kernel_rfl
theorem deeds_fld8 : ∀ w, (Instr.field 54 (.agg #[Value.func (Fn.func 45) #[] #[]]) 0).run Try.prog w = .ok (Value.func (Fn.func 45) #[] #[]) w := fun _ => by kernel_rfl
set_option maxHeartbeats 400000 in
theorem do_8 (a b : Int) (w : World) (ha : 0 ≤ a) (ha' : a < 4294967296) (hb : 0 ≤ b) :
    Calls Try.prog 17 #[.int .i64 8, .int .u32 a, .int .u32 b] w fun e w' => e = .returned (.tuple #[.int .u32 (aluI 8 a b), .bool true]) ∧ Bel w w' := by
  have i1 := deeds_idx8
  have i2 := deeds_fld8
  go_enter Try.func17, Try.ntmps17
  go_wp2_with (first | (go_at_call 23; refine (deeds_any _).mono ?_; rintro e w' ⟨rfl, hb'⟩) | go_in)
  go_ret2
  exact ⟨by simp [aluI_8], hb'⟩

theorem deeds_idx9 : ∀ w, (Instr.index 55 deedsV (.int .i64 9)).run Try.prog w = .ok (.agg #[Value.func (Fn.func 46) #[] #[]]) w := fun _ => by kernel_rfl
theorem deeds_fld9 : ∀ w, (Instr.field 54 (.agg #[Value.func (Fn.func 46) #[] #[]]) 0).run Try.prog w = .ok (Value.func (Fn.func 46) #[] #[]) w := fun _ => by kernel_rfl
set_option maxHeartbeats 400000 in
theorem do_9 (a b : Int) (w : World) (ha : 0 ≤ a) (ha' : a < 4294967296) (hb : 0 ≤ b) :
    Calls Try.prog 17 #[.int .i64 9, .int .u32 a, .int .u32 b] w fun e w' => e = .returned (.tuple #[.int .u32 (aluI 9 a b), .bool true]) ∧ Bel w w' := by
  have i1 := deeds_idx9
  have i2 := deeds_fld9
  go_enter Try.func17, Try.ntmps17
  go_wp2_with (first | (go_at_call 23; refine (deeds_any _).mono ?_; rintro e w' ⟨rfl, hb'⟩) | go_in)
  go_ret2
  exact ⟨by simp [aluI_9], hb'⟩

theorem deeds_idx10 : ∀ w, (Instr.index 55 deedsV (.int .i64 10)).run Try.prog w = .ok (.agg #[Value.func (Fn.func 47) #[] #[]]) w := fun _ => by kernel_rfl
theorem deeds_fld10 : ∀ w, (Instr.field 54 (.agg #[Value.func (Fn.func 47) #[] #[]]) 0).run Try.prog w = .ok (Value.func (Fn.func 47) #[] #[]) w := fun _ => by kernel_rfl
set_option maxHeartbeats 400000 in
theorem do_10 (a b : Int) (w : World) (ha : 0 ≤ a) (ha' : a < 4294967296) (hb : 0 ≤ b) :
    Calls Try.prog 17 #[.int .i64 10, .int .u32 a, .int .u32 b] w fun e w' => e = .returned (.tuple #[.int .u32 (aluI 10 a b), .bool true]) ∧ Bel w w' := by
  have i1 := deeds_idx10
  have i2 := deeds_fld10
  go_enter Try.func17, Try.ntmps17
  go_wp2_with (first | (go_at_call 23; refine (deeds_any _).mono ?_; rintro e w' ⟨rfl, hb'⟩) | go_in)
  go_ret2
  exact ⟨by simp [aluI_10], hb'⟩

set_option maxHeartbeats 400000 in
theorem do_none (op a b : Int) (w : World) (h : op < 0 ∨ 11 ≤ op) :
    Calls Try.prog 17 #[.int .i64 op, .int .u32 a, .int .u32 b] w fun e w' => e = .returned (.tuple #[.int .u32 0, .bool false]) ∧ Bel w w' := by
  rcases h with h | h
  · go_enter Try.func17, Try.ntmps17
    go_wp2
    go_ret2
    exact ⟨by simp, Bel.refl _⟩
  · have h' : ¬ op < 0 := by omega
    go_enter Try.func17, Try.ntmps17
    go_wp2
    go_ret2
    exact ⟨by simp, Bel.refl _⟩

theorem do_any (op a b : Int) (w : World) (ha : U32 a) (hb : U32 b) :
    Calls Try.prog 17 #[.int .i64 op, .int .u32 a, .int .u32 b] w fun e w' => e = .returned (.tuple #[.int .u32 (aluI op a b), .bool (aluOk op)]) ∧ Bel w w' := by
  by_cases hop : 0 ≤ op ∧ op < 11
  · have hk : aluOk op = true := decide_eq_true hop
    rw [hk]
    obtain rfl | rfl | rfl | rfl | rfl | rfl | rfl | rfl | rfl | rfl | rfl : op = 0 ∨ op = 1 ∨ op = 2 ∨ op = 3 ∨ op = 4 ∨ op = 5 ∨ op = 6 ∨ op = 7 ∨ op = 8 ∨ op = 9 ∨ op = 10 := by omega
    · exact do_0 a b w ha.lo ha.hi hb.lo
    · exact do_1 a b w ha.lo ha.hi hb.lo
    · exact do_2 a b w ha.lo ha.hi hb.lo
    · exact do_3 a b w ha.lo ha.hi hb.lo
    · exact do_4 a b w ha.lo ha.hi hb.lo
    · exact do_5 a b w ha.lo ha.hi hb.lo
    · exact do_6 a b w ha.lo ha.hi hb.lo
    · exact do_7 a b w ha.lo ha.hi hb.lo
    · exact do_8 a b w ha.lo ha.hi hb.lo
    · exact do_9 a b w ha.lo ha.hi hb.lo
    · exact do_10 a b w ha.lo ha.hi hb.lo
  · have hk : aluOk op = false := decide_eq_false hop
    have hz : aluI op a b = 0 := by unfold aluI; repeat (first | rw [if_neg (by omega)] | rfl)
    rw [hk, hz]
    exact do_none op a b w (by omega)

set_option maxHeartbeats 1000000 in
theorem holds_any (c a b : Int) (w : World) :
    Calls Try.prog 15 #[.int .i64 c, .int .u32 a, .int .u32 b] w fun e w' => e = .returned (.tuple #[.bool (holdsI c a b), .bool (holdsOk c)]) ∧ Bel w w' := by
  by_cases hc : 0 ≤ c ∧ c < 5
  · have hk : holdsOk c = true := decide_eq_true hc
    rw [hk]
    obtain rfl | rfl | rfl | rfl | rfl : c = 0 ∨ c = 1 ∨ c = 2 ∨ c = 3 ∨ c = 4 := by omega
    all_goals
      go_enter Try.func15, Try.ntmps15
      go_wp2
      go_ret2
      exact ⟨by simp [holdsI, ← Int.not_lt] <;> rfl, Bel.refl _⟩
  · have hk : holdsOk c = false := decide_eq_false hc
    have hz : holdsI c a b = false := by unfold holdsI; repeat (first | rw [if_neg (by omega)] | rfl)
    rw [hk, hz]
    have h0 : (c == 0) = false := by simp; omega
    have h1 : (c == 1) = false := by simp; omega
    have h2 : (c == 2) = false := by simp; omega
    have h3 : (c == 3) = false := by simp; omega
    have h4 : (c == 4) = false := by simp; omega
    clear hc hk hz
    go_enter Try.func15, Try.ntmps15
    go_wp2
    go_ret2
    exact ⟨by simp, Bel.refl _⟩
end Go.Proofs.Ytpmkefngngjhkaa
