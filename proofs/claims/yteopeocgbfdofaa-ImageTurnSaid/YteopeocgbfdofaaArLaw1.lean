/- Words that are made; the chapter's example. -/
import Derived.Test.YteopeocgbfdofaaArC10
import Derived.Test.YteopeocgbfdofaaArC13
import Derived.Test.YteopeocgbfdofaaArRef1
import Derived.Test.YteopeocgbfdofaaHeldU
set_option linter.unusedVariables false
set_option linter.unusedSimpArgs false
namespace Go.Proofs.Yteopeocgbfdofaa
open Go.RowKit

def zeros (n : Nat) : List Int := List.replicate n 0
theorem zeros_length (n : Nat) : (zeros n).length = n := List.length_replicate
/-- make([]uint64, n). -/
theorem make_words (n : Nat) (hn : n ≤ 4096) (w : World) : (Instr.makeSlice 27 (.int .i64 n) (.int .i64 n)).run Try.prog w = .ok (.slice (some ⟨w.heap.size, 0, none⟩) n n) (w.alloc (.cells (u64s (zeros n)).toArray 37)) := by
  obtain ⟨i, hi, hz⟩ := Option.map_eq_some_iff.1 info_word
  simp only [Prod.mk.injEq] at hz
  obtain ⟨hz0, hz1, hz2⟩ := hz
  have := run_make (P := Try.prog) w 27 37 i (.int .u64 0) Try.underlying27 hi hz0 .i64 .i64 (n : Int) (n : Int) (by omega) (Int.le_refl _) (by rw [hz2]; omega) (by omega)
  rw [this, hz1, Int.toNat_natCast, Nat.mul_one, show (Value.int .u64 0).cells = #[Value.int .u64 0] from rfl]
  have e : madeCells #[Value.int .u64 0] n = (u64s (zeros n)).toArray := by
    apply Array.toList_inj.1
    rw [toList_madeCells_one]
    simp [u64s, zeros]
  rw [e]
theorem zeros_getD (n i : Nat) : (zeros n).getD i 0 = 0 := by
  rw [List.getD_eq_getElem?_getD]
  unfold zeros
  rw [List.getElem?_replicate]
  split <;> rfl
theorem made_own (n : Nat) (hn : n ≤ 4096) (w : World) : OwnW (w.alloc (.cells (u64s (zeros n)).toArray 37)) w.heap.size n (zeros n) := by
  have hb : Blk (w.alloc (.cells (u64s (zeros n)).toArray 37)) w.heap.size 37 (u64s (zeros n)).toArray := Blk.new _ _ _
  refine ⟨by rw [zeros_length]; exact Nat.le_refl _, by simp only [maxLen]; omega, fun i hi => hb.cell i ?_, fun i => hb.frozen i, fun i hi => by rw [zeros_getD]; rfl⟩
  rw [zeros_getD]
  rw [zeros_length] at hi
  simp [u64s, zeros, hi]
theorem made_sl {n : Nat} (hn : n ≤ 4096) (w : World) : Sl (IntR .u64) 1 (w.alloc (.cells (u64s (zeros n)).toArray 37)) (some ⟨w.heap.size, 0, none⟩) n (zeros n) := (made_own n hn w).sl
end Go.Proofs.Yteopeocgbfdofaa
