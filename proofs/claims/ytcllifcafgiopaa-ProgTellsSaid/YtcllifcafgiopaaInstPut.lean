/- inst.Put by its contract. -/
import Derived.Test.YtcllifcafgiopaaInstMay
import Derived.Laws.Bits128
set_option linter.unusedVariables false
set_option linter.unusedSimpArgs false
namespace Go.Proofs.Ytcllifcafgiopaa
open Go.RowKit

/-- The eight bytes of an instruction. -/
def putL (op fn dst src : Int) (reg : Bool) (off imm : Int) : List Int :=
  [16 * op + fn, (if reg = true then 8 * dst + src + 128 else 8 * dst + src), off / 256, off % 256, imm / 16777216, imm / 65536 % 256, imm / 256 % 256, imm % 256]
def u8s (l : List Int) : List Value := l.map (Value.int .u8)
/-- Bytes in new memory, and no error. -/
def PutOk (l : List Int) (w : World) (e : Ending) (w' : World) : Prop :=
  ∃ v, e = .returned (.tuple #[v, .int .i64 0]) ∧ w'.ownsRow w.heap.size 5 1 v l.length (u8s l) ∧ Bel w w'
theorem info_u8 : (Try.prog.info? 5).map (fun i => (i.zero, i.size, i.bytes)) = some (some (.int .u8 0), 1, 1) := by kernel_rfl
theorem may_bounds {op fn dst src : Int} {reg : Bool} {off imm : Int} (h : mayB op fn dst src reg off imm = true) :
    (0 ≤ op ∧ op < 8) ∧ (0 ≤ dst ∧ dst < 8) ∧ (0 ≤ src ∧ src < 8) ∧ (0 ≤ fn ∧ fn < 11) ∧ (0 ≤ off ∧ off < 65536) := by
  have h := of_decide_eq_true h
  obtain ⟨a, b, c, d, e, _⟩ := h
  refine ⟨a, b, c, ?_, ?_⟩
  · obtain ⟨d1, d2⟩ := d; refine ⟨d1, ?_⟩; split at d2 <;> (try split at d2) <;> omega
  · obtain ⟨d1, d2⟩ := e; refine ⟨d1, ?_⟩; split at d2 <;> omega

set_option maxHeartbeats 400000 in
theorem put_no (op fn dst src : Int) (reg : Bool) (off imm : Int) (w : World) (hm : mayB op fn dst src reg off imm = false) :
    Calls Try.prog 36 #[.agg #[.int .i64 op, .int .i64 fn, .int .i64 dst, .int .i64 src, .bool reg, .int .i64 off, .int .u32 imm]] w fun e w' => e = .returned (.tuple #[.slice none 0 0, .int .i64 1]) ∧ Bel w w' := by
  have HB := Bel.refl w
  go_enter Try.func36, Try.ntmps36
  go_wp2_with (first | (go_at_call 41; refine (may_any _ _ _ _ _ _ _ _).mono ?_; rintro e w1 ⟨rfl, hb1⟩; have HB := (HB.alloc _).trans hb1; clear hb1))
  go_ret2
  exact ⟨by simp, HB⟩

theorem or128 (y : Int) (h0 : 0 ≤ y) (h1 : y < 128) : bits .or .u8 y 128 = y + 128 := u8_or128_right y h0 h1

set_option maxHeartbeats 4000000 in
theorem put_true (op fn dst src : Int) (off imm : Int) (w : World) (hm : mayB op fn dst src true off imm = true) (hi : U32 imm) :
    Calls Try.prog 36 #[.agg #[.int .i64 op, .int .i64 fn, .int .i64 dst, .int .i64 src, .bool true, .int .i64 off, .int .u32 imm]] w (PutOk (putL op fn dst src true off imm) w) := by
  have HB := Bel.refl w
  obtain ⟨⟨o0, o1⟩, ⟨d0, d1⟩, ⟨s0, s1⟩, ⟨f0, f1⟩, ⟨g0, g1⟩⟩ := may_bounds hm
  have i0 := hi.lo
  have i1 := hi.hi
  have hor := or128 (8 * dst + src) (by omega) (by omega)
  go_enter Try.func36, Try.ntmps36
  go_wp2_with (first | (go_at_call 41; refine (may_any _ _ _ _ _ _ _ _).mono ?_; rintro e w1 ⟨rfl, hb1⟩; obtain ⟨hc1, hf1, hs1⟩ := bcell hb1; have HB := (HB.alloc _).trans hb1; clear hb1))
  have hown0 : (w1.alloc (.cells #[.int .u8 (16 * op + fn), .int .u8 (8 * dst + src + 128), .int .u8 (off / 256), .int .u8 (off % 256)] 5)).ownsRow (w.heap.size + 1) 5 1 (.slice (some ⟨w1.heap.size, 0, none⟩) 4 4) 4 (u8s ((putL op fn dst src true off imm).take 4)) :=
    World.ownsRow_lit (base := w.heap.size + 1) (e := 5) (size := 1) w1 #[.int .u8 (16 * op + fn), .int .u8 (8 * dst + src + 128), .int .u8 (off / 256), .int .u8 (off % 256)] 4 (by simpa using hs1) (by decide) rfl
  have hbox : w1.cell? ⟨w.heap.size, 6, none⟩ = some (.int .u32 imm) := by rw [hc1 _ _ (by simp)]; simp
  have hsz : w.heap.size + 1 ≤ w1.heap.size := by simpa using hs1
  clear hc1 hf1 hs1 hm
  go_loopw [5, 6] (fun v k wr => ∃ (n : Nat) (kk : Int), k = .int .i64 kk ∧ ((n = 0 ∧ kk = 24) ∨ (n = 1 ∧ kk = 16) ∨ (n = 2 ∧ kk = 8) ∨ (n = 3 ∧ kk = 0) ∨ (n = 4 ∧ kk = -8)) ∧ wr.ownsRow (w.heap.size + 1) 5 1 v (4 + n) (u8s ((putL op fn dst src true off imm).take (4 + n))) ∧ Bel w wr ∧ w.heap.size + 1 ≤ wr.heap.size ∧ wr.cell? ⟨w.heap.size, 6, none⟩ = some (.int .u32 imm)) (fun _ k _ => (intOf k + 8).toNat)
  case atStart => exact ⟨0, 24, rfl, by omega, hown0, HB.alloc _, by simp; omega, by rw [World.cell?_alloc_old _ _ _ (by simp; omega)]; exact hbox⟩
  case round =>
    clear hown0 HB hbox hsz
    obtain ⟨n, kk, rfl, hn, hown, HB, hsz, hbox⟩ := hrel
    obtain ⟨wo, rfl⟩ : ∃ wo : World, wo = wr := ⟨_, rfl⟩
    rcases hn with ⟨rfl, rfl⟩ | ⟨rfl, rfl⟩ | ⟨rfl, rfl⟩ | ⟨rfl, rfl⟩ | ⟨rfl, rfl⟩
    · go_wp2_with (refine at_append1 (w.heap.size + 1) (.int .u8 0) 1 Try.underlying25 info_u8 rfl _ 4 _ (by rfl) hown (by rfl) (by rfl) (by decide) (by decide) (by omega) w (by omega) HB rfl ?_; intro v1 w1' hown1 hgr1 HB1)
      have hbox1 : w1'.cell? ⟨w.heap.size, 6, none⟩ = some (.int .u32 imm) := hgr1.cell hbox (fun hk => by have : w.heap.size + 1 ≤ w.heap.size := (hown.lt _ hk.symm).1; omega)
      have hsz1 := hgr1.size
      clear hown hbox HB hgr1
      go_wp2
      go_roundw
      case rel => exact ⟨1, 16, rfl, by omega, hown1, HB1, by omega, hbox1⟩
      case measure => decide
    · go_wp2_with (refine at_append1 (w.heap.size + 1) (.int .u8 0) 1 Try.underlying25 info_u8 rfl _ 5 _ (by rfl) hown (by rfl) (by rfl) (by decide) (by decide) (by omega) w (by omega) HB rfl ?_; intro v1 w1' hown1 hgr1 HB1)
      have hbox1 : w1'.cell? ⟨w.heap.size, 6, none⟩ = some (.int .u32 imm) := hgr1.cell hbox (fun hk => by have : w.heap.size + 1 ≤ w.heap.size := (hown.lt _ hk.symm).1; omega)
      have hsz1 := hgr1.size
      clear hown hbox HB hgr1
      go_wp2
      go_roundw
      case rel => exact ⟨2, 8, rfl, by omega, hown1, HB1, by omega, hbox1⟩
      case measure => decide
    · go_wp2_with (refine at_append1 (w.heap.size + 1) (.int .u8 0) 1 Try.underlying25 info_u8 rfl _ 6 _ (by rfl) hown (by rfl) (by rfl) (by decide) (by decide) (by omega) w (by omega) HB rfl ?_; intro v1 w1' hown1 hgr1 HB1)
      have hbox1 : w1'.cell? ⟨w.heap.size, 6, none⟩ = some (.int .u32 imm) := hgr1.cell hbox (fun hk => by have : w.heap.size + 1 ≤ w.heap.size := (hown.lt _ hk.symm).1; omega)
      have hsz1 := hgr1.size
      clear hown hbox HB hgr1
      go_wp2
      go_roundw
      case rel => exact ⟨3, 0, rfl, by omega, hown1, HB1, by omega, hbox1⟩
      case measure => decide
    · go_wp2_with (refine at_append1 (w.heap.size + 1) (.int .u8 0) 1 Try.underlying25 info_u8 rfl _ 7 _ (by rfl) hown (by rfl) (by rfl) (by decide) (by decide) (by omega) w (by omega) HB rfl ?_; intro v1 w1' hown1 hgr1 HB1)
      have hbox1 : w1'.cell? ⟨w.heap.size, 6, none⟩ = some (.int .u32 imm) := hgr1.cell hbox (fun hk => by have : w.heap.size + 1 ≤ w.heap.size := (hown.lt _ hk.symm).1; omega)
      have hsz1 := hgr1.size
      clear hown hbox HB hgr1
      go_wp2
      go_roundw
      case rel => exact ⟨4, -8, rfl, by omega, hown1, HB1, by omega, hbox1⟩
      case measure => decide
    · go_wp2
      go_ret2
      exact ⟨_, rfl, own_mono hown (by omega), HB⟩
set_option maxHeartbeats 4000000 in
theorem put_false (op fn dst src : Int) (off imm : Int) (w : World) (hm : mayB op fn dst src false off imm = true) (hi : U32 imm) :
    Calls Try.prog 36 #[.agg #[.int .i64 op, .int .i64 fn, .int .i64 dst, .int .i64 src, .bool false, .int .i64 off, .int .u32 imm]] w (PutOk (putL op fn dst src false off imm) w) := by
  have HB := Bel.refl w
  obtain ⟨⟨o0, o1⟩, ⟨d0, d1⟩, ⟨s0, s1⟩, ⟨f0, f1⟩, ⟨g0, g1⟩⟩ := may_bounds hm
  have i0 := hi.lo
  have i1 := hi.hi
  go_enter Try.func36, Try.ntmps36
  go_wp2_with (first | (go_at_call 41; refine (may_any _ _ _ _ _ _ _ _).mono ?_; rintro e w1 ⟨rfl, hb1⟩; obtain ⟨hc1, hf1, hs1⟩ := bcell hb1; have HB := (HB.alloc _).trans hb1; clear hb1))
  have hown0 : (w1.alloc (.cells #[.int .u8 (16 * op + fn), .int .u8 (8 * dst + src), .int .u8 (off / 256), .int .u8 (off % 256)] 5)).ownsRow (w.heap.size + 1) 5 1 (.slice (some ⟨w1.heap.size, 0, none⟩) 4 4) 4 (u8s ((putL op fn dst src false off imm).take 4)) :=
    World.ownsRow_lit (base := w.heap.size + 1) (e := 5) (size := 1) w1 #[.int .u8 (16 * op + fn), .int .u8 (8 * dst + src), .int .u8 (off / 256), .int .u8 (off % 256)] 4 (by simpa using hs1) (by decide) rfl
  have hbox : w1.cell? ⟨w.heap.size, 6, none⟩ = some (.int .u32 imm) := by rw [hc1 _ _ (by simp)]; simp
  have hsz : w.heap.size + 1 ≤ w1.heap.size := by simpa using hs1
  clear hc1 hf1 hs1 hm
  go_loopw [5, 6] (fun v k wr => ∃ (n : Nat) (kk : Int), k = .int .i64 kk ∧ ((n = 0 ∧ kk = 24) ∨ (n = 1 ∧ kk = 16) ∨ (n = 2 ∧ kk = 8) ∨ (n = 3 ∧ kk = 0) ∨ (n = 4 ∧ kk = -8)) ∧ wr.ownsRow (w.heap.size + 1) 5 1 v (4 + n) (u8s ((putL op fn dst src false off imm).take (4 + n))) ∧ Bel w wr ∧ w.heap.size + 1 ≤ wr.heap.size ∧ wr.cell? ⟨w.heap.size, 6, none⟩ = some (.int .u32 imm)) (fun _ k _ => (intOf k + 8).toNat)
  case atStart => exact ⟨0, 24, rfl, by omega, hown0, HB.alloc _, by simp; omega, by rw [World.cell?_alloc_old _ _ _ (by simp; omega)]; exact hbox⟩
  case round =>
    clear hown0 HB hbox hsz
    obtain ⟨n, kk, rfl, hn, hown, HB, hsz, hbox⟩ := hrel
    obtain ⟨wo, rfl⟩ : ∃ wo : World, wo = wr := ⟨_, rfl⟩
    rcases hn with ⟨rfl, rfl⟩ | ⟨rfl, rfl⟩ | ⟨rfl, rfl⟩ | ⟨rfl, rfl⟩ | ⟨rfl, rfl⟩
    · go_wp2_with (refine at_append1 (w.heap.size + 1) (.int .u8 0) 1 Try.underlying25 info_u8 rfl _ 4 _ (by rfl) hown (by rfl) (by rfl) (by decide) (by decide) (by omega) w (by omega) HB rfl ?_; intro v1 w1' hown1 hgr1 HB1)
      have hbox1 : w1'.cell? ⟨w.heap.size, 6, none⟩ = some (.int .u32 imm) := hgr1.cell hbox (fun hk => by have : w.heap.size + 1 ≤ w.heap.size := (hown.lt _ hk.symm).1; omega)
      have hsz1 := hgr1.size
      clear hown hbox HB hgr1
      go_wp2
      go_roundw
      case rel => exact ⟨1, 16, rfl, by omega, hown1, HB1, by omega, hbox1⟩
      case measure => decide
    · go_wp2_with (refine at_append1 (w.heap.size + 1) (.int .u8 0) 1 Try.underlying25 info_u8 rfl _ 5 _ (by rfl) hown (by rfl) (by rfl) (by decide) (by decide) (by omega) w (by omega) HB rfl ?_; intro v1 w1' hown1 hgr1 HB1)
      have hbox1 : w1'.cell? ⟨w.heap.size, 6, none⟩ = some (.int .u32 imm) := hgr1.cell hbox (fun hk => by have : w.heap.size + 1 ≤ w.heap.size := (hown.lt _ hk.symm).1; omega)
      have hsz1 := hgr1.size
      clear hown hbox HB hgr1
      go_wp2
      go_roundw
      case rel => exact ⟨2, 8, rfl, by omega, hown1, HB1, by omega, hbox1⟩
      case measure => decide
    · go_wp2_with (refine at_append1 (w.heap.size + 1) (.int .u8 0) 1 Try.underlying25 info_u8 rfl _ 6 _ (by rfl) hown (by rfl) (by rfl) (by decide) (by decide) (by omega) w (by omega) HB rfl ?_; intro v1 w1' hown1 hgr1 HB1)
      have hbox1 : w1'.cell? ⟨w.heap.size, 6, none⟩ = some (.int .u32 imm) := hgr1.cell hbox (fun hk => by have : w.heap.size + 1 ≤ w.heap.size := (hown.lt _ hk.symm).1; omega)
      have hsz1 := hgr1.size
      clear hown hbox HB hgr1
      go_wp2
      go_roundw
      case rel => exact ⟨3, 0, rfl, by omega, hown1, HB1, by omega, hbox1⟩
      case measure => decide
    · go_wp2_with (refine at_append1 (w.heap.size + 1) (.int .u8 0) 1 Try.underlying25 info_u8 rfl _ 7 _ (by rfl) hown (by rfl) (by rfl) (by decide) (by decide) (by omega) w (by omega) HB rfl ?_; intro v1 w1' hown1 hgr1 HB1)
      have hbox1 : w1'.cell? ⟨w.heap.size, 6, none⟩ = some (.int .u32 imm) := hgr1.cell hbox (fun hk => by have : w.heap.size + 1 ≤ w.heap.size := (hown.lt _ hk.symm).1; omega)
      have hsz1 := hgr1.size
      clear hown hbox HB hgr1
      go_wp2
      go_roundw
      case rel => exact ⟨4, -8, rfl, by omega, hown1, HB1, by omega, hbox1⟩
      case measure => decide
    · go_wp2
      go_ret2
      exact ⟨_, rfl, own_mono hown (by omega), HB⟩
end Go.Proofs.Ytcllifcafgiopaa
