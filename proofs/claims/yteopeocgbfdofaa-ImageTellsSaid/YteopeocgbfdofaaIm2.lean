/- image.code: its closures, and what it computes. -/
import Derived.Test.YteopeocgbfdofaaIm1
import Derived.Test.YteopeocgbfdofaaImIsa
import Derived.Test.YteopeocgbfdofaaPg1
set_option linter.unusedVariables false
set_option linter.unusedSimpArgs false
namespace Go.Proofs.Yteopeocgbfdofaa
open Go.RowKit

/-- Where an instruction goes, and whether it may. -/
def goTo (n m : Nat) (base at' : Int) (k : Nat) (i : InstD) : Int × Bool :=
  if i.op = 1 then (at' + k + i.off + 1, decide ((k : Int) + i.off + 1 < m)) else if i.op = 6 then (base + i.imm, decide (i.imm < n)) else (0, true)
def imgCode (n : Nat) (l : List InstD) (base at' : Int) : Nat → Option (List Int)
  | 0 => some []
  | k + 1 => (imgCode n l base at' k).bind fun ws => if (goTo n l.length base at' k l[k]!).2 = true then some (ws ++ [(wputD l[k]! (goTo n l.length base at' k l[k]!).1).1]) else none
theorem imgCode_none {n : Nat} {l : List InstD} {base at' : Int} {k : Nat} (h : imgCode n l base at' k = none) : ∀ m, k ≤ m → imgCode n l base at' m = none := by
  intro m hm
  induction m with
  | zero => obtain rfl : k = 0 := by omega
            exact h
  | succ m ih =>
    by_cases e : k = m + 1
    · subst e; exact h
    · rw [imgCode, ih (by omega)]
      rfl
theorem wput_rng (i : InstD) (t : Int) (hi : U32 i.imm) : 0 ≤ (wputD i t).1 ∧ (wputD i t).1 < 18446744073709551616 := by
  unfold wputD
  rcases wput_two i.op i.fn i.dst i.src i.reg i.off i.imm t with h | h
  · obtain ⟨v, e⟩ : ∃ v, wput i.op i.fn i.dst i.src i.reg i.off i.imm t = (v, 0) := ⟨(wput i.op i.fn i.dst i.src i.reg i.off i.imm t).1, by rw [← h]⟩
    have := (wget_wput hi e).2
    rw [e]
    simp only
    omega
  · rw [h]
    exact ⟨by decide, by decide⟩
theorem wf_u64R {x : Int} (h : 0 ≤ x ∧ x < 18446744073709551616) : (Lit.int .u64 x).wf = true := by
  simp [Lit.wf, IntKind.min, IntKind.max, IntKind.bits, IntKind.signed]
  omega
theorem imgCode_rng {n : Nat} {l : List InstD} {base at' : Int} (hl : ∀ i ∈ l, U32 i.imm) : ∀ (k : Nat) (ws : List Int), k ≤ l.length → imgCode n l base at' k = some ws → ws.length = k ∧ ∀ x ∈ ws, 0 ≤ x ∧ x < 18446744073709551616
  | 0, ws, _, h => by simp only [imgCode, Option.some.injEq] at h; subst h; exact ⟨rfl, fun x hx => (by cases hx)⟩
  | k + 1, ws, hk, h => by
    rw [imgCode, Option.bind_eq_some_iff] at h
    obtain ⟨ws', h1, h2⟩ := h
    obtain ⟨e1, e2⟩ := imgCode_rng hl k ws' (by omega) h1
    split at h2
    · simp only [Option.some.injEq] at h2
      subst h2
      refine ⟨by rw [List.length_append, e1]; rfl, fun x hx => ?_⟩
      rcases List.mem_append.1 hx with hx | hx
      · exact e2 x hx
      · obtain rfl := List.mem_singleton.1 hx
        exact wput_rng _ _ (by rw [getElem!_pos l k (by omega)]; exact hl _ (List.getElem_mem (by omega)))
    · cases h2
theorem wrap_u64N {x : Int} (h0 : 0 ≤ x) (h1 : x < 18446744073709551616) : IntKind.u64.wrap x = x := wrap_u64 h0 h1
set_option maxHeartbeats 2000000 in
theorem clo1 (k : Nat) (op fn dst src : Int) (reg : Bool) (off imm : Int) (ga gl : Nat) (at' : Int) (Al : Option Addr) (m c : Nat) (w : World) (h1 : w.cell? ⟨ga, 0, none⟩ = some (.int .i64 at')) (h2 : w.cell? ⟨gl, 0, none⟩ = some (.slice Al m c)) (hk : k ≤ 100000) (ho : 0 ≤ off ∧ off ≤ 65535) (ha : 0 ≤ at' ∧ at' ≤ 100000) :
    Calls Try.prog 47 #[.int .i64 k, .agg #[.int .i64 op, .int .i64 fn, .int .i64 dst, .int .i64 src, .bool reg, .int .i64 off, .int .u32 imm], .pointer (some ⟨ga, 0, none⟩), .pointer (some ⟨gl, 0, none⟩)] w fun e w' => e = .returned (.tuple #[.int .i64 (at' + k + off + 1), .bool (decide ((k : Int) + off + 1 < m))]) ∧ Bel w w' := by
  have HB := Lib.hid ((Bel.refl w).alloc (.cells #[.int .i64 op, .int .i64 fn, .int .i64 dst, .int .i64 src, .bool reg, .int .i64 off, .int .u32 imm] 34))
  have b1 := World.block_lt_of_cell? _ _ h1
  have b2 := World.block_lt_of_cell? _ _ h2
  simp only at b1 b2
  have e1 : IntKind.i64.wrap (at' + (k : Int)) = at' + k := wrap_i64 (by omega) (by omega)
  have e2 : IntKind.i64.wrap (at' + (k : Int) + off) = at' + k + off := wrap_i64 (by omega) (by omega)
  have e3 : IntKind.i64.wrap (at' + (k : Int) + off + 1) = at' + k + off + 1 := wrap_i64 (by omega) (by omega)
  have e4 : IntKind.i64.wrap ((k : Int) + off) = k + off := wrap_i64 (by omega) (by omega)
  have e5 : IntKind.i64.wrap ((k : Int) + off + 1) = k + off + 1 := wrap_i64 (by omega) (by omega)
  go_enter Try.func47, Try.ntmps47
  go_wp2_with fail
  go_quiet (fail)
  go_wp2_with fail
  go_ret2
  exact ⟨by first | rfl | simp, by repeat (first | exact HB.out | apply Bel.drew | apply Bel.drewN)⟩
set_option maxHeartbeats 2000000 in
theorem clo2 (k : Nat) (op fn dst src : Int) (reg : Bool) (off imm : Int) (gb gp : Nat) (base : Int) (A : Option Addr) (n c : Nat) (w : World) (h1 : w.cell? ⟨gb, 0, none⟩ = some (.int .i64 base)) (h2 : w.cell? ⟨gp, 0, none⟩ = some (.slice A n c)) (hi : U32 imm) (ha : 0 ≤ base ∧ base ≤ 100000) (hn : n ≤ 100000) :
    Calls Try.prog 48 #[.int .i64 k, .agg #[.int .i64 op, .int .i64 fn, .int .i64 dst, .int .i64 src, .bool reg, .int .i64 off, .int .u32 imm], .pointer (some ⟨gb, 0, none⟩), .pointer (some ⟨gp, 0, none⟩)] w fun e w' => e = .returned (.tuple #[.int .i64 (base + imm), .bool (decide (imm < n))]) ∧ Bel w w' := by
  have HB := Lib.hid ((Bel.refl w).alloc (.cells #[.int .i64 op, .int .i64 fn, .int .i64 dst, .int .i64 src, .bool reg, .int .i64 off, .int .u32 imm] 34))
  have b1 := World.block_lt_of_cell? _ _ h1
  have b2 := World.block_lt_of_cell? _ _ h2
  simp only at b1 b2
  have i0 := hi.lo
  have i1 := hi.hi
  have e1 : IntKind.i64.wrap imm = imm := wrap_i64 (by omega) (by omega)
  have e2 : IntKind.i64.wrap (base + imm) = base + imm := wrap_i64 (by omega) (by omega)
  have e3 : IntKind.u64.wrap imm = imm := wrap_u64N (by omega) (by omega)
  have e4 : IntKind.u64.wrap (n : Int) = n := wrap_u64N (by omega) (by omega)
  clear hi
  go_enter Try.func48, Try.ntmps48
  go_wp2_with fail
  go_quiet (fail)
  go_wp2_with fail
  go_ret2
  exact ⟨by first | rfl | simp, by repeat (first | exact HB.out | apply Bel.drew | apply Bel.drewN)⟩
end Go.Proofs.Yteopeocgbfdofaa
