/- prog's reader: part, of a number and of an instruction. -/
import Derived.Test.YtcllifcafgiopaaPg6
set_option linter.unusedVariables false
set_option linter.unusedSimpArgs false
namespace Go.Proofs.Ytcllifcafgiopaa
open Go.RowKit

theorem tk_range {w : World} {A : Option Addr} {c : Nat} {l : List Int} (h : Sl (IntR .u8) 1 w A c l) (bad : Bool) (n : Nat) : ∀ x ∈ tkL l bad n, 0 ≤ x ∧ x < 256 := by
  intro x hx
  unfold tkL at hx
  split at hx
  · rw [List.eq_of_mem_replicate hx]
    exact ⟨by decide, by decide⟩
  · exact h.u8 x (List.mem_of_mem_take hx)
theorem RdS.range {w0 W : World} {G : Nat} {l : List Int} {bad : Bool} (h : RdS w0 W G l bad) : ∀ x ∈ l, 0 ≤ x ∧ x < 256 := by
  obtain ⟨A, c, -, hs, -, -⟩ := h
  exact hs.u8
/-- The number that is read. -/
def rdX (l : List Int) (bad : Bool) : Int := (tkL l bad 1).getD 0 0
theorem rdX_range {w0 W : World} {G : Nat} {l : List Int} {bad : Bool} (h : RdS w0 W G l bad) : 0 ≤ rdX l bad ∧ rdX l bad < 256 := by
  obtain ⟨A, c, -, hs, -, -⟩ := h
  refine tk_range hs bad 1 _ ?_
  unfold rdX
  have hl := tkL_len l bad 1
  rw [List.getD_eq_getElem?_getD, List.getElem?_eq_getElem (by omega)]
  exact List.getElem_mem _
set_option maxHeartbeats 8000000 in
set_option maxRecDepth 100000 in
theorem part_int (G : Nat) (l : List Int) (bad : Bool) (w0 W : World) (hr : RdS w0 W G l bad) (x : Int) (hx : Hid (rdX l bad = x)) :
    Calls Try.prog 24 #[.pointer (some ⟨G, 0, none⟩), .iface 3 (.int .i64 0)] W fun e W' => e = .returned (.iface 3 (.int .i64 x)) ∧ RdS w0 W' G (tkR l bad 1) (tkB l bad 1) ∧ But G W W' := by
  have HR := Lib.hid hr
  have y1 := asInt_Inst (.int .i64 0)
  have y2 := asInt_Fn (.int .i64 0)
  clear hr
  go_enter Try.func24, Try.ntmps24
  go_wp2_with fail
  refine (take_any G 1 l bad w0 W HR.out (Lib.hid ⟨by decide, by decide⟩)).mono ?_
  rintro e w1 ⟨A, c, rfl, hs, hr1, hb⟩
  have hX := rdX_range HR.out
  rw [hx.out] at hX
  have ex : IntKind.i64.wrap x = x := wrap_i64 (by omega) (by omega)
  obtain ⟨b, o, rfl, hc⟩ := hs.int_cell (by rw [tkL_len]; decide)
  have d0 := (hc 0 (by rw [tkL_len]; decide)).1
  rw [show (tkL l bad 1).getD 0 0 = x from hx.out, Nat.add_zero] at d0
  have HR1 := Lib.hid hr1
  have HBT := Lib.hid hb
  clear hs hc hr1 hb
  go_wp2_with fail
  go_ret
  exact ⟨rfl, HR1.out, HBT.out⟩
def rdB (l : List Int) (bad : Bool) (e : Int) : Bool := tkB l bad 8 || decide (e ≠ 0)
set_option maxHeartbeats 8000000 in
set_option maxRecDepth 100000 in
theorem part_inst (G : Nat) (l : List Int) (bad : Bool) (w0 W : World) (hr : RdS w0 W G l bad) (op fn dst src : Int) (reg : Bool) (off imm : Int) (e : Int) (bad' : Bool) (hg : Hid (getR (tkL l bad 8) = (⟨op, fn, dst, src, reg, off, imm⟩, e))) (hb' : Hid (rdB l bad e = bad')) :
    Calls Try.prog 24 #[.pointer (some ⟨G, 0, none⟩), .iface 43 (.agg #[.int .i64 0, .int .i64 0, .int .i64 0, .int .i64 0, .bool false, .int .i64 0, .int .u32 0])] W fun en W' => en = .returned (.iface 43 (.agg #[.int .i64 op, .int .i64 fn, .int .i64 dst, .int .i64 src, .bool reg, .int .i64 off, .int .u32 imm])) ∧ RdS w0 W' G (tkR l bad 8) bad' ∧ But G W W' := by
  have HR := Lib.hid hr
  have y1 := asInst_Inst (.agg #[.int .i64 0, .int .i64 0, .int .i64 0, .int .i64 0, .bool false, .int .i64 0, .int .u32 0])
  clear hr
  go_enter Try.func24, Try.ntmps24
  go_wp2_with fail
  refine (take_any G 8 l bad w0 W HR.out (Lib.hid ⟨by decide, by decide⟩)).mono ?_
  rintro en w1 ⟨A, c, rfl, hs, hr1, hb⟩
  have HR1 := Lib.hid hr1
  have HBT := Lib.hid hb
  clear hr1 hb
  go_wp2_with fail
  refine (get_at A 8 c (tkL l bad 8) w1 hs (Lib.hid (tkL_len _ _ _)) _ e hg).mono ?_
  rintro en w2 ⟨rfl, hb⟩
  have hr2 := HR1.out.bel hb
  have HBT := Lib.hid (HBT.out.bel hb)
  clear hb hs
  obtain ⟨A', c', hblk, hsl, hbel, hG⟩ := hr2
  have hblk2 := hblk.alloc (.cells #[.int .i64 op, .int .i64 fn, .int .i64 dst, .int .i64 src, .bool reg, .int .i64 off, .int .u32 imm] 43)
  have hgl := hblk.lt
  have ng : ¬ G = w2.heap.size := by omega
  have ng' : ¬ w2.heap.size = G := by omega
  have q0 := hblk2.cell 0 (v := .slice A' (tkR l bad 8).length c') rfl
  have q1 := hblk2.cell 1 (v := .bool (tkB l bad 8)) rfl
  have f1 := hblk2.frozen 1
  have HBK := Lib.hid hblk
  have HSL := Lib.hid hsl
  have HBE := Lib.hid hbel
  have FIN : ∀ b : Bool, Hid (b = bad' → RdS w0 ((w2.setCell ⟨G, 1, none⟩ (.bool b)).alloc (.cells #[.int .i64 op, .int .i64 fn, .int .i64 dst, .int .i64 src, .bool reg, .int .i64 off, .int .u32 imm] 43)) G (tkR l bad 8) bad' ∧ But G W ((w2.setCell ⟨G, 1, none⟩ (.bool b)).alloc (.cells #[.int .i64 op, .int .i64 fn, .int .i64 dst, .int .i64 src, .bool reg, .int .i64 off, .int .u32 imm] 43))) := fun b => Lib.hid (by
    rintro rfl
    exact ⟨⟨A', c', (HBK.out.set 1 (.bool b)).alloc _, HSL.out, (HBE.out.setCell (p := ⟨G, 1, none⟩) hG _).alloc _, hG⟩, (HBT.out.set 1 _).bel ((Bel.refl _).alloc _)⟩)
  have HE : Hid (bad' = (tkB l bad 8 || decide (e ≠ 0))) := Lib.hid hb'.out.symm
  clear hblk hblk2 hsl hbel
  generalize tkB l bad 8 = tb at *
  cases tb
  · by_cases he : e = 0
    · subst he
      have t0 : ((0 : Int) != 0) = false := rfl
      have F := Lib.hid ((FIN false).out (by rw [HE.out]; rfl))
      go_wp2_with fail
      go_ret
      exact ⟨rfl, F.out.1, F.out.2⟩
    · have t0 : (e != 0) = true := by simpa using he
      have F := Lib.hid ((FIN true).out (by rw [HE.out, decide_eq_true he]; rfl))
      clear he
      go_wp2_with fail
      go_ret
      exact ⟨rfl, F.out.1, F.out.2⟩
  · have F := Lib.hid ((FIN true).out (by rw [HE.out]; rfl))
    go_wp2_with fail
    go_ret
    exact ⟨rfl, F.out.1, F.out.2⟩
end Go.Proofs.Ytcllifcafgiopaa
