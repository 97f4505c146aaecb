/- drydockref02.Put and Get by their contracts, among the texts of chapter 3. -/
import Derived.Test.YtcllifcafgiopaaPgSwP
set_option linter.unusedVariables false
set_option linter.unusedSimpArgs false
namespace Go.Proofs.Ytcllifcafgiopaa
open Go.RowKit
theorem box7 {w w1 : World} {v0 v1 v2 v3 v4 v5 v6 : Value} {t : TypeId} (h : Bel (w.alloc (.cells #[v0, v1, v2, v3, v4, v5, v6] t)) w1) :
    w1.cell? ⟨w.heap.size, 0, none⟩ = some v0 ∧ w1.cell? ⟨w.heap.size, 1, none⟩ = some v1 ∧ w1.cell? ⟨w.heap.size, 2, none⟩ = some v2 ∧ w1.cell? ⟨w.heap.size, 3, none⟩ = some v3 ∧ w1.cell? ⟨w.heap.size, 4, none⟩ = some v4 ∧ w1.cell? ⟨w.heap.size, 5, none⟩ = some v5 ∧ w1.cell? ⟨w.heap.size, 6, none⟩ = some v6 :=
  ⟨h.cell (by simp), h.cell (by simp), h.cell (by simp), h.cell (by simp), h.cell (by simp), h.cell (by simp), h.cell (by simp)⟩
theorem Bel.un {w w1 : World} {o : Obj} (h : Bel (w.alloc o) w1) : Bel w w1 := ((Bel.refl w).alloc o).trans h
theorem box7b {w w1 : World} {o : Obj} {v0 v1 v2 v3 v4 v5 v6 : Value} {t : TypeId} (h : Bel ((w.alloc o).alloc (.cells #[v0, v1, v2, v3, v4, v5, v6] t)) w1) :
    w1.cell? ⟨w.heap.size + 1, 0, none⟩ = some v0 ∧ w1.cell? ⟨w.heap.size + 1, 1, none⟩ = some v1 ∧ w1.cell? ⟨w.heap.size + 1, 2, none⟩ = some v2 ∧ w1.cell? ⟨w.heap.size + 1, 3, none⟩ = some v3 ∧ w1.cell? ⟨w.heap.size + 1, 4, none⟩ = some v4 ∧ w1.cell? ⟨w.heap.size + 1, 5, none⟩ = some v5 ∧ w1.cell? ⟨w.heap.size + 1, 6, none⟩ = some v6 := by
  have := box7 h
  simpa using this

theorem wrap_u32 {x : Int} (h1 : 0 ≤ x) (h2 : x < 4294967296) : IntKind.u32.wrap x = x := by simp [IntKind.wrap, IntKind.bits, IntKind.signed]; omega
theorem box7f {w w1 : World} {v0 v1 v2 v3 v4 v5 v6 : Value} {t : TypeId} (h : Bel (w.alloc (.cells #[v0, v1, v2, v3, v4, v5, v6] t)) w1) (i : Nat) (hi : i < 7) : w1.frozen? ⟨w.heap.size, i, none⟩ = false := by
  have hlt : (⟨w.heap.size, i, none⟩ : Addr).block < (w.alloc (.cells #[v0, v1, v2, v3, v4, v5, v6] t)).heap.size := by simp
  rw [h.out.frozen hlt]
  simp
set_option maxHeartbeats 4000000 in
set_option maxRecDepth 100000 in
theorem refput_t (op fn dst src off imm : Int) (w : World) (hi : U32 imm) (hm : mayB op fn dst src true off imm = true) :
    Calls Try.prog 33 #[.agg #[.int .i64 op, .int .i64 fn, .int .i64 dst, .int .i64 src, .bool true, .int .i64 off, .int .u32 imm]] w (BytesOut (putR ⟨op, fn, dst, src, true, off, imm⟩) w) := by
  have HB := Bel.refl (w.alloc (.cells #[.int .i64 op, .int .i64 fn, .int .i64 dst, .int .i64 src, .bool true, .int .i64 off, .int .u32 imm] 43))
  obtain ⟨⟨a1, a2⟩, ⟨b1, b2⟩, ⟨c1, c2⟩, ⟨d1, d2⟩, ⟨e1, e2⟩⟩ := may_bounds hm
  have i1 := hi.lo
  have i2 := hi.hi
  go_enter Try.func33, Try.ntmps33
  go_wp2_with fail
  refine (refmay_any _ _ _ _ _ _ _ _).mono ?_
  rw [hm]
  rintro e w1 ⟨rfl, hb⟩
  have HB := HB.trans hb
  obtain ⟨p0, p1, p2, p3, p4, p5, p6⟩ := box7 HB
  have ne : w.heap.size < w1.heap.size := World.block_lt_of_cell? _ _ p0
  clear hb
  go_wp2_with fail
  go_ret2
  have hr : putR ⟨op, fn, dst, src, true, off, imm⟩ = ([16 * op + fn, 128 + 8 * dst + src, off / 256, off % 256, imm / 16777216, imm / 65536 % 256, imm / 256 % 256, imm % 256], 0) := by
    unfold putR
    rw [if_pos (show InstD.may ⟨op, fn, dst, src, true, off, imm⟩ = true from hm)]
    simp only [InstD.put, putL, Prod.mk.injEq, and_true, List.cons.injEq, true_and]
    first | (simp; done) | (simp; omega)
  rw [hr]
  refine ⟨_, _, rfl, sl_lit_at w1 _ rfl _ [16 * op + fn, 128 + 8 * dst + src, off / 256, off % 256, imm / 16777216, imm / 65536 % 256, imm / 256 % 256, imm % 256] ?_ (by show (8 : Nat) ≤ maxLen; decide), HB.un.alloc _⟩
  intro x hx
  refine wf_u8 ?_
  simp only [List.mem_cons, List.not_mem_nil, or_false] at hx
  rcases hx with rfl | rfl | rfl | rfl | rfl | rfl | rfl | rfl <;> omega
set_option maxHeartbeats 4000000 in
set_option maxRecDepth 100000 in
theorem refput_f (op fn dst src off imm : Int) (w : World) (hi : U32 imm) (hm : mayB op fn dst src false off imm = true) :
    Calls Try.prog 33 #[.agg #[.int .i64 op, .int .i64 fn, .int .i64 dst, .int .i64 src, .bool false, .int .i64 off, .int .u32 imm]] w (BytesOut (putR ⟨op, fn, dst, src, false, off, imm⟩) w) := by
  have HB := Bel.refl (w.alloc (.cells #[.int .i64 op, .int .i64 fn, .int .i64 dst, .int .i64 src, .bool false, .int .i64 off, .int .u32 imm] 43))
  obtain ⟨⟨a1, a2⟩, ⟨b1, b2⟩, ⟨c1, c2⟩, ⟨d1, d2⟩, ⟨e1, e2⟩⟩ := may_bounds hm
  have i1 := hi.lo
  have i2 := hi.hi
  go_enter Try.func33, Try.ntmps33
  go_wp2_with fail
  refine (refmay_any _ _ _ _ _ _ _ _).mono ?_
  rw [hm]
  rintro e w1 ⟨rfl, hb⟩
  have HB := HB.trans hb
  obtain ⟨p0, p1, p2, p3, p4, p5, p6⟩ := box7 HB
  have ne : w.heap.size < w1.heap.size := World.block_lt_of_cell? _ _ p0
  clear hb
  go_wp2_with fail
  go_ret2
  have hr : putR ⟨op, fn, dst, src, false, off, imm⟩ = ([16 * op + fn, 8 * dst + src, off / 256, off % 256, imm / 16777216, imm / 65536 % 256, imm / 256 % 256, imm % 256], 0) := by
    unfold putR
    rw [if_pos (show InstD.may ⟨op, fn, dst, src, false, off, imm⟩ = true from hm)]
    simp only [InstD.put, putL, Prod.mk.injEq, and_true, List.cons.injEq, true_and]
    first | (simp; done) | (simp; omega)
  rw [hr]
  refine ⟨_, _, rfl, sl_lit_at w1 _ rfl _ [16 * op + fn, 8 * dst + src, off / 256, off % 256, imm / 16777216, imm / 65536 % 256, imm / 256 % 256, imm % 256] ?_ (by show (8 : Nat) ≤ maxLen; decide), HB.un.alloc _⟩
  intro x hx
  refine wf_u8 ?_
  simp only [List.mem_cons, List.not_mem_nil, or_false] at hx
  rcases hx with rfl | rfl | rfl | rfl | rfl | rfl | rfl | rfl <;> omega
set_option maxHeartbeats 4000000 in
set_option maxRecDepth 100000 in
theorem refput_no (op fn dst src : Int) (reg : Bool) (off imm : Int) (w : World) (hm : mayB op fn dst src reg off imm = false) :
    Calls Try.prog 33 #[.agg #[.int .i64 op, .int .i64 fn, .int .i64 dst, .int .i64 src, .bool reg, .int .i64 off, .int .u32 imm]] w (BytesOut ([], 1) w) := by
  have HB := Bel.refl (w.alloc (.cells #[.int .i64 op, .int .i64 fn, .int .i64 dst, .int .i64 src, .bool reg, .int .i64 off, .int .u32 imm] 43))
  go_enter Try.func33, Try.ntmps33
  go_wp2_with fail
  refine (refmay_any _ _ _ _ _ _ _ _).mono ?_
  rw [hm]
  rintro e w1 ⟨rfl, hb⟩
  have HB := HB.trans hb
  clear hb
  go_wp2_with fail
  go_ret2
  exact ⟨none, 0, rfl, Sl.nil _ _ _, HB.un⟩
theorem refput_at (op fn dst src : Int) (reg : Bool) (off imm : Int) (w : World) (hi : U32 imm) (l : List Int) (e : Int) (hr : Hid (putR (⟨op, fn, dst, src, reg, off, imm⟩ : InstD) = (l, e))) :
    Calls Try.prog 33 #[.agg #[.int .i64 op, .int .i64 fn, .int .i64 dst, .int .i64 src, .bool reg, .int .i64 off, .int .u32 imm]] w (BytesOut (l, e) w) := by
  rw [← hr.out]
  by_cases hm : mayB op fn dst src reg off imm = true
  · cases reg
    · exact refput_f op fn dst src off imm w hi hm
    · exact refput_t op fn dst src off imm w hi hm
  · have h : putR (⟨op, fn, dst, src, reg, off, imm⟩ : InstD) = ([], 1) := if_neg hm
    rw [h]
    exact refput_no op fn dst src reg off imm w (by simpa using hm)
set_option maxHeartbeats 4000000 in
set_option maxRecDepth 100000 in
theorem refget_t (b off0 c : Nat) (b0 b1 b2 b3 b4 b5 b6 b7 : Int) (w : World) (hcap : 8 ≤ c) (h0 : 0 ≤ b0 ∧ b0 < 256) (h1 : 0 ≤ b1 ∧ b1 < 256) (h2 : 0 ≤ b2 ∧ b2 < 256) (h3 : 0 ≤ b3 ∧ b3 < 256) (h4 : 0 ≤ b4 ∧ b4 < 256) (h5 : 0 ≤ b5 ∧ b5 < 256) (h6 : 0 ≤ b6 ∧ b6 < 256) (h7 : 0 ≤ b7 ∧ b7 < 256)
    (c0 : w.cell? ⟨b, off0, none⟩ = some (.int .u8 b0)) (c1 : w.cell? ⟨b, off0 + 1, none⟩ = some (.int .u8 b1)) (c2 : w.cell? ⟨b, off0 + 2, none⟩ = some (.int .u8 b2)) (c3 : w.cell? ⟨b, off0 + 3, none⟩ = some (.int .u8 b3)) (c4 : w.cell? ⟨b, off0 + 4, none⟩ = some (.int .u8 b4)) (c5 : w.cell? ⟨b, off0 + 5, none⟩ = some (.int .u8 b5)) (c6 : w.cell? ⟨b, off0 + 6, none⟩ = some (.int .u8 b6)) (c7 : w.cell? ⟨b, off0 + 7, none⟩ = some (.int .u8 b7))
    (hm : Hid (mayB (b0 / 16) (b0 % 16) (b1 % 128 / 8) (b1 % 8) (decide (128 ≤ b1)) (256 * b2 + b3) (16777216 * b4 + 65536 * b5 + 256 * b6 + b7) = true)) :
    Calls Try.prog 34 #[.slice (some ⟨b, off0, none⟩) 8 c] w fun e w' => e = .returned (.tuple #[.agg #[.int .i64 (b0 / 16), .int .i64 (b0 % 16), .int .i64 (b1 % 128 / 8), .int .i64 (b1 % 8), .bool (decide (128 ≤ b1)), .int .i64 (256 * b2 + b3), .int .u32 (16777216 * b4 + 65536 * b5 + 256 * b6 + b7)], .int .i64 0]) ∧ Bel w w' := by
  have ne : b < w.heap.size := World.block_lt_of_cell? _ _ c0
  have ne0 : ¬ b = w.heap.size := by omega
  have ne1 : ¬ w.heap.size = b := by omega
  have ne2 : ¬ b = w.heap.size + 1 := by omega
  have ne3 : ¬ w.heap.size + 1 = b := by omega
  obtain ⟨h00, h01⟩ := h0
  obtain ⟨h10, h11⟩ := h1
  obtain ⟨h20, h21⟩ := h2
  obtain ⟨h30, h31⟩ := h3
  obtain ⟨h40, h41⟩ := h4
  obtain ⟨h50, h51⟩ := h5
  obtain ⟨h60, h61⟩ := h6
  obtain ⟨h70, h71⟩ := h7
  have k1 : IntKind.i64.wrap (256 * b2) = 256 * b2 := wrap_i64 (by omega) (by omega)
  have k2 : IntKind.i64.wrap (256 * b2 + b3) = 256 * b2 + b3 := wrap_i64 (by omega) (by omega)
  have k3 : IntKind.i64.wrap (16777216 * b4) = 16777216 * b4 := wrap_i64 (by omega) (by omega)
  have k4 : IntKind.i64.wrap (65536 * b5) = 65536 * b5 := wrap_i64 (by omega) (by omega)
  have k5 : IntKind.i64.wrap (256 * b6) = 256 * b6 := wrap_i64 (by omega) (by omega)
  have k6 : IntKind.i64.wrap (16777216 * b4 + 65536 * b5) = 16777216 * b4 + 65536 * b5 := wrap_i64 (by omega) (by omega)
  have k7 : IntKind.i64.wrap (16777216 * b4 + 65536 * b5 + 256 * b6) = 16777216 * b4 + 65536 * b5 + 256 * b6 := wrap_i64 (by omega) (by omega)
  have k8 : IntKind.i64.wrap (16777216 * b4 + 65536 * b5 + 256 * b6 + b7) = 16777216 * b4 + 65536 * b5 + 256 * b6 + b7 := wrap_i64 (by omega) (by omega)
  have k9 : IntKind.u32.wrap (16777216 * b4 + 65536 * b5 + 256 * b6 + b7) = 16777216 * b4 + 65536 * b5 + 256 * b6 + b7 := wrap_u32 (by omega) (by omega)
  have HB := Bel.refl (w.alloc (.cells #[.int .i64 0, .int .i64 0, .int .i64 0, .int .i64 0, .bool false, .int .i64 0, .int .u32 0] 43))
  go_enter Try.func34, Try.ntmps34
  go_wp2_with fail
  go_region
  go_wp2_with fail
  go_region
  go_wp2_with fail
  go_region
  go_wp2_with fail
  refine (refmay_any _ _ _ _ _ _ _ _).mono ?_
  rw [hm.out]
  rintro e w1 ⟨rfl, hb⟩
  have HB := ((((HB.alloc _).drew).drew).drew).trans hb
  obtain ⟨q0, q1, q2, q3, q4, q5, q6⟩ := box7b (((((Bel.refl _).drew).drew).drew).trans hb)
  obtain ⟨p0, p1, p2, p3, p4, p5, p6⟩ := box7 HB
  have f0 := box7f HB 0 (by decide)
  have f1 := box7f HB 1 (by decide)
  have f2 := box7f HB 2 (by decide)
  have f3 := box7f HB 3 (by decide)
  have f4 := box7f HB 4 (by decide)
  have f5 := box7f HB 5 (by decide)
  have f6 := box7f HB 6 (by decide)
  clear hb
  go_wp2_with fail
  refine bodyPost_ret (v := .tuple #[.agg #[.int .i64 (b0 / 16), .int .i64 (b0 % 16), .int .i64 (b1 % 128 / 8), .int .i64 (b1 % 8), .bool (decide (128 ≤ b1)), .int .i64 (256 * b2 + b3), .int .u32 (16777216 * b4 + 65536 * b5 + 256 * b6 + b7)], .int .i64 0]) ?_ rfl ⟨rfl, by repeat (first | (with_reducible exact HB.un) | (with_reducible refine Bel.setCell ?_ (Nat.le_refl _) _))⟩
  simp [results, Try.results34, go_sem, p0, p1, p2, p3, p4, p5, p6]
set_option maxHeartbeats 4000000 in
set_option maxRecDepth 100000 in
theorem refget_f (b off0 c : Nat) (b0 b1 b2 b3 b4 b5 b6 b7 : Int) (w : World) (hcap : 8 ≤ c) (h0 : 0 ≤ b0 ∧ b0 < 256) (h1 : 0 ≤ b1 ∧ b1 < 256) (h2 : 0 ≤ b2 ∧ b2 < 256) (h3 : 0 ≤ b3 ∧ b3 < 256) (h4 : 0 ≤ b4 ∧ b4 < 256) (h5 : 0 ≤ b5 ∧ b5 < 256) (h6 : 0 ≤ b6 ∧ b6 < 256) (h7 : 0 ≤ b7 ∧ b7 < 256)
    (c0 : w.cell? ⟨b, off0, none⟩ = some (.int .u8 b0)) (c1 : w.cell? ⟨b, off0 + 1, none⟩ = some (.int .u8 b1)) (c2 : w.cell? ⟨b, off0 + 2, none⟩ = some (.int .u8 b2)) (c3 : w.cell? ⟨b, off0 + 3, none⟩ = some (.int .u8 b3)) (c4 : w.cell? ⟨b, off0 + 4, none⟩ = some (.int .u8 b4)) (c5 : w.cell? ⟨b, off0 + 5, none⟩ = some (.int .u8 b5)) (c6 : w.cell? ⟨b, off0 + 6, none⟩ = some (.int .u8 b6)) (c7 : w.cell? ⟨b, off0 + 7, none⟩ = some (.int .u8 b7))
    (hm : Hid (mayB (b0 / 16) (b0 % 16) (b1 % 128 / 8) (b1 % 8) (decide (128 ≤ b1)) (256 * b2 + b3) (16777216 * b4 + 65536 * b5 + 256 * b6 + b7) = false)) :
    Calls Try.prog 34 #[.slice (some ⟨b, off0, none⟩) 8 c] w fun e w' => e = .returned (.tuple #[.agg #[.int .i64 0, .int .i64 0, .int .i64 0, .int .i64 0, .bool false, .int .i64 0, .int .u32 0], .int .i64 7]) ∧ Bel w w' := by
  have ne : b < w.heap.size := World.block_lt_of_cell? _ _ c0
  have ne0 : ¬ b = w.heap.size := by omega
  have ne1 : ¬ w.heap.size = b := by omega
  have ne2 : ¬ b = w.heap.size + 1 := by omega
  have ne3 : ¬ w.heap.size + 1 = b := by omega
  obtain ⟨h00, h01⟩ := h0
  obtain ⟨h10, h11⟩ := h1
  obtain ⟨h20, h21⟩ := h2
  obtain ⟨h30, h31⟩ := h3
  obtain ⟨h40, h41⟩ := h4
  obtain ⟨h50, h51⟩ := h5
  obtain ⟨h60, h61⟩ := h6
  obtain ⟨h70, h71⟩ := h7
  have k1 : IntKind.i64.wrap (256 * b2) = 256 * b2 := wrap_i64 (by omega) (by omega)
  have k2 : IntKind.i64.wrap (256 * b2 + b3) = 256 * b2 + b3 := wrap_i64 (by omega) (by omega)
  have k3 : IntKind.i64.wrap (16777216 * b4) = 16777216 * b4 := wrap_i64 (by omega) (by omega)
  have k4 : IntKind.i64.wrap (65536 * b5) = 65536 * b5 := wrap_i64 (by omega) (by omega)
  have k5 : IntKind.i64.wrap (256 * b6) = 256 * b6 := wrap_i64 (by omega) (by omega)
  have k6 : IntKind.i64.wrap (16777216 * b4 + 65536 * b5) = 16777216 * b4 + 65536 * b5 := wrap_i64 (by omega) (by omega)
  have k7 : IntKind.i64.wrap (16777216 * b4 + 65536 * b5 + 256 * b6) = 16777216 * b4 + 65536 * b5 + 256 * b6 := wrap_i64 (by omega) (by omega)
  have k8 : IntKind.i64.wrap (16777216 * b4 + 65536 * b5 + 256 * b6 + b7) = 16777216 * b4 + 65536 * b5 + 256 * b6 + b7 := wrap_i64 (by omega) (by omega)
  have k9 : IntKind.u32.wrap (16777216 * b4 + 65536 * b5 + 256 * b6 + b7) = 16777216 * b4 + 65536 * b5 + 256 * b6 + b7 := wrap_u32 (by omega) (by omega)
  have HB := Bel.refl (w.alloc (.cells #[.int .i64 0, .int .i64 0, .int .i64 0, .int .i64 0, .bool false, .int .i64 0, .int .u32 0] 43))
  go_enter Try.func34, Try.ntmps34
  go_wp2_with fail
  go_region
  go_wp2_with fail
  go_region
  go_wp2_with fail
  go_region
  go_wp2_with fail
  refine (refmay_any _ _ _ _ _ _ _ _).mono ?_
  rw [hm.out]
  rintro e w1 ⟨rfl, hb⟩
  have HB := ((((HB.alloc _).drew).drew).drew).trans hb
  obtain ⟨q0, q1, q2, q3, q4, q5, q6⟩ := box7b (((((Bel.refl _).drew).drew).drew).trans hb)
  obtain ⟨p0, p1, p2, p3, p4, p5, p6⟩ := box7 HB
  have f0 := box7f HB 0 (by decide)
  have f1 := box7f HB 1 (by decide)
  have f2 := box7f HB 2 (by decide)
  have f3 := box7f HB 3 (by decide)
  have f4 := box7f HB 4 (by decide)
  have f5 := box7f HB 5 (by decide)
  have f6 := box7f HB 6 (by decide)
  clear hb
  go_wp2_with fail
  refine bodyPost_ret (v := .tuple #[.agg #[.int .i64 0, .int .i64 0, .int .i64 0, .int .i64 0, .bool false, .int .i64 0, .int .u32 0], .int .i64 7]) ?_ rfl ⟨rfl, by repeat (first | (with_reducible exact HB.un) | (with_reducible refine Bel.setCell ?_ (Nat.le_refl _) _))⟩
  simp [results, Try.results34, go_sem, p0, p1, p2, p3, p4, p5, p6]
theorem refget_at (A : Option Addr) (n cap : Nat) (l : List Int) (w : World) (h : Sl (IntR .u8) 1 w A cap l) (hn : Hid (l.length = n)) (i : InstD) (e : Int) (hr : Hid (getR l = (i, e))) :
    Calls Try.prog 34 #[.slice A n cap] w fun e' w' => e' = .returned (.tuple #[.agg #[.int .i64 i.op, .int .i64 i.fn, .int .i64 i.dst, .int .i64 i.src, .bool i.reg, .int .i64 i.off, .int .u32 i.imm], .int .i64 e]) ∧ Bel w w' := by
  have hle := h.le
  have hbig := h.big
  simp only [maxLen] at hbig
  by_cases hl : l.length = 8
  · obtain ⟨b, off, rfl, hc⟩ := h.int_cell (by omega)
    obtain rfl : n = 8 := by rw [← hn.out]; exact hl
    match l, hl, hc, hr with
    | [b0, b1, b2, b3, b4, b5, b6, b7], hl8, hc, hr =>
      have g0 := hc 0 (by simp)
      have g1 := hc 1 (by simp)
      have g2 := hc 2 (by simp)
      have g3 := hc 3 (by simp)
      have g4 := hc 4 (by simp)
      have g5 := hc 5 (by simp)
      have g6 := hc 6 (by simp)
      have g7 := hc 7 (by simp)
      simp only [List.getD_cons_zero, List.getD_cons_succ] at g0 g1 g2 g3 g4 g5 g6 g7
      have r0 := u8_of_wf g0.2
      have r1 := u8_of_wf g1.2
      have r2 := u8_of_wf g2.2
      have r3 := u8_of_wf g3.2
      have r4 := u8_of_wf g4.2
      have r5 := u8_of_wf g5.2
      have r6 := u8_of_wf g6.2
      have r7 := u8_of_wf g7.2
      have hI : getI [b0, b1, b2, b3, b4, b5, b6, b7] = ⟨b0 / 16, b0 % 16, b1 % 128 / 8, b1 % 8, decide (128 ≤ b1), 256 * b2 + b3, 16777216 * b4 + 65536 * b5 + 256 * b6 + b7⟩ := by
        simp only [getI, beN, List.getD_cons_zero, List.getD_cons_succ, Nat.add_zero, Nat.zero_add, Nat.reduceAdd, InstD.mk.injEq, true_and]
        omega
      rw [Nat.add_zero] at g0
      have hh := hr.out
      unfold getR at hh
      rw [if_pos hl8, hI] at hh
      by_cases hm : InstD.may ⟨b0 / 16, b0 % 16, b1 % 128 / 8, b1 % 8, decide (128 ≤ b1), 256 * b2 + b3, 16777216 * b4 + 65536 * b5 + 256 * b6 + b7⟩ = true
      · rw [if_pos hm] at hh
        obtain ⟨rfl, rfl⟩ := Prod.mk.inj hh
        exact refget_t b off cap b0 b1 b2 b3 b4 b5 b6 b7 w hle r0 r1 r2 r3 r4 r5 r6 r7 g0.1 g1.1 g2.1 g3.1 g4.1 g5.1 g6.1 g7.1 (Lib.hid hm)
      · rw [if_neg hm] at hh
        obtain ⟨rfl, rfl⟩ := Prod.mk.inj hh
        exact refget_f b off cap b0 b1 b2 b3 b4 b5 b6 b7 w hle r0 r1 r2 r3 r4 r5 r6 r7 g0.1 g1.1 g2.1 g3.1 g4.1 g5.1 g6.1 g7.1 (Lib.hid (by simpa [InstD.may] using hm))
  · have hb : ((n : Int) != 8) = true := by rw [bne_iff_ne, ← hn.out]; omega
    have h2 : getR l = (InstD.zero, 7) := by unfold getR; rw [if_neg hl]
    rw [h2] at hr
    obtain ⟨rfl, rfl⟩ := Prod.mk.inj hr.out
    have h3 : n ≤ 9223372036854775807 := by rw [← hn.out]; omega
    clear hl h2 hr hle
    go_enter Try.func34, Try.ntmps34
    go_wp2_with fail
    refine bodyPost_ret (v := .tuple #[.agg #[.int .i64 0, .int .i64 0, .int .i64 0, .int .i64 0, .bool false, .int .i64 0, .int .u32 0], .int .i64 7]) ?_ rfl ⟨rfl, by repeat (first | (with_reducible exact Bel.refl _) | (with_reducible refine Bel.setCell ?_ (Nat.le_refl _) _) | (with_reducible refine Bel.alloc ?_ _))⟩
    simp [results, Try.results34, go_sem]
end Go.Proofs.Ytcllifcafgiopaa
