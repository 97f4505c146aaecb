/- A program, read; CourseTells's walk. -/
import Derived.Test.YtpfnjbebfihkeaaCrsRef5
import Derived.Deep.RegionHeld3
set_option linter.unusedVariables false
set_option linter.unusedSimpArgs false
namespace Go.Proofs.Ytpfnjbebfihkeaa
open Go.RowKit

def ProgR (w : World) (cs : List Value) (L : List FnD) : Prop := ∃ A c, cs = [.slice A L.length c] ∧ Sl FnR 2 w A c L
theorem cells_Fn : Try.prog.cellsOf 46 = 2 := by kernel_rfl
theorem cells_Prog : Try.prog.cellsOf 26 = 1 := by kernel_rfl
theorem cells_insts : Try.prog.cellsOf 22 = 1 := by kernel_rfl
theorem cells_fns : Try.prog.cellsOf 24 = 1 := by kernel_rfl
section
variable {H : Type} {enc : TypeId × Value → H} {w : World} {base : Nat} {spare : Nat → Bool} {held : Bool}
theorem open_Fn {n : Nat} {cs : List Value} {y : DataW H × List MemPlace} (h : DataW.trod enc Try.prog w base spare held n 46 cs = some y) : ∃ x : FnD, FnR w cs x := by
  obtain ⟨m, hl, hf⟩ := trod_field Try.underlying46 h
  rw [cells_Fn] at hl
  match cs, hl with
  | [v0, v1], _ =>
  obtain ⟨y0, h0⟩ := hf 0 3 0 1 rfl cells_int
  obtain ⟨y1, h1⟩ := hf 1 22 1 1 rfl cells_insts
  obtain ⟨a0, e0, _, w0⟩ := DataW.trod_int Try.underlying3 h0
  obtain ⟨A, c, l, e1, hs⟩ := open_sl (R := InstR) (sz := 7) Try.underlying22 cells_Inst (by decide) (fun n cs y hl hy => open_Inst hy) h1
  simp at e0 e1
  subst e0 e1
  exact ⟨⟨a0, l⟩, A, c, rfl, hs, w0⟩
theorem open_Prog {n : Nat} {cs : List Value} {y : DataW H × List MemPlace} (h : DataW.trod enc Try.prog w base spare held n 26 cs = some y) : ∃ L : List FnD, ProgR w cs L := by
  obtain ⟨m, hl, hf⟩ := trod_field Try.underlying26 h
  rw [cells_Prog] at hl
  match cs, hl with
  | [v0], _ =>
  obtain ⟨y0, h0⟩ := hf 0 24 0 1 rfl cells_fns
  obtain ⟨A, c, L, e0, hs⟩ := open_sl (R := FnR) (sz := 2) Try.underlying24 cells_Fn (by decide) (fun n cs y hl hy => open_Fn hy) h0
  simp at e0
  subst e0
  exact ⟨L, A, c, rfl, hs⟩
end
theorem ints_length (ts : List Nat) : (ints ts).length = ts.length := by simp [ints]
theorem intsEq_same (A B : Option Addr) (ca cb : Nat) (ts : List Nat) (w : World) (h1 : Sl (IntR .i64) 1 w A ca (ints ts)) (h2 : Sl (IntR .i64) 1 w B cb (ints ts)) :
    Calls Try.prog 11 #[.slice A ts.length ca, .slice B ts.length cb] w fun e w' => e = .returned (.bool true) ∧ Bel w w' := by
  have h := intsEq_any A B ca cb (ints ts) (ints ts) w h1 h2
  rw [ints_length, decide_eq_true rfl] at h
  exact h.mono fun e w' ⟨h1, z, h2⟩ => ⟨h1, h2 ▸ (Bel.refl w).drewN z⟩
theorem reachR_64 (l : List InstD) : (reachR l).length ≤ 64 := by
  unfold reachR
  split
  · rename_i h
    rw [reach_length]
    exact (crsMay_facts h).2.1
  · simp
set_option maxHeartbeats 8000000 in
set_option maxRecDepth 100000 in
theorem CourseTells_walk (A : Option Addr) (cap : Nat) (l : List InstD) (p : Int) (A1 : Option Addr) (cap1 : Nat) (cs : List Int) (C : Array Value) (L : List FnD) (W : World) (hl : Sl InstR 7 W A cap l) (hpw : (Lit.int .i64 p).wf = true) (hl1 : Sl (IntR .i64) 1 W A1 cap1 cs) (hp : ProgR W C.toList L) :
    Calls Try.prog 3 #[.slice A l.length cap, .int .i64 p, .slice A1 cs.length cap1, .agg C] W fun e w' => e = .returned (.bool true) ∧ Bel W w' := by
  obtain ⟨A3, c3, hC, hsl⟩ := hp
  obtain rfl : C = #[.slice A3 L.length c3] := by cases C; simpa using hC
  have HS := Lib.hid hl
  have HC := Lib.hid hl1
  have HP := Lib.hid hsl
  obtain ⟨n, hn0⟩ : ∃ n, l.length = n := ⟨_, rfl⟩
  have hn := Lib.hid hn0
  obtain ⟨m, hm0⟩ : ∃ m, cs.length = m := ⟨_, rfl⟩
  have hm := Lib.hid hm0
  obtain ⟨q, hq0⟩ : ∃ q, L.length = q := ⟨_, rfl⟩
  have hq := Lib.hid hq0
  rw [hn0, hm0, hq0]
  obtain ⟨fv, hfv⟩ : ∃ fv, Hid (fewB L = fv) := ⟨_, Lib.hid rfl⟩
  have hcell : (W.alloc (.cells #[.slice A3 q c3] 26)).cell? ⟨W.heap.size, 0, none⟩ = some (.slice A3 q c3) := cell_fresh W _ _ 0 _ rfl
  have HQ := Lib.hid hcell
  have HBa := Lib.hid ((Bel.refl W).alloc (.cells #[.slice A3 q c3] 26))
  clear hl hl1 hn0 hm0 hq0 hpw hsl hC hcell
  go_enter Try.func3, Try.ntmps3
  go_wp2_with fail
  generalize W.alloc (.cells #[.slice A3 q c3] 26) = W1 at *
  generalize W.heap.size = g at *
  refine (awake_any _).mono ?_
  rintro e w2 ⟨rfl, hb⟩
  have HB := HBa.out.trans hb
  have q0 := hb.cell HQ.out
  have HQ2 := Lib.hid q0
  clear hb
  go_wp2_with fail
  refine (refFew_any A3 c3 q L fv _ (HP.out.mono FnR.mono HB) hq hfv).mono ?_
  rintro e w3 ⟨rfl, hb⟩
  have HB := HB.trans hb
  have HQ3 := Lib.hid (hb.cell HQ2.out)
  clear hb q0
  cases fv
  · go_wp2_with fail
    go_ret
    exact ⟨rfl, HB⟩
  by_cases c1 : (80 : Int) < n
  · go_wp2_with fail
    go_ret
    exact ⟨rfl, HB⟩
  by_cases c2 : (20 : Int) < m
  · go_wp2_with fail
    go_ret
    exact ⟨rfl, HB⟩
  obtain ⟨ts, hts⟩ : ∃ ts, Hid (nextR l p = ts) := ⟨_, Lib.hid rfl⟩
  obtain ⟨R, hR⟩ : ∃ R, Hid (reachR l = R) := ⟨_, Lib.hid rfl⟩
  have hR64 : R.length ≤ 64 := by rw [← hR.out]; exact reachR_64 l
  obtain ⟨r, hr⟩ : ∃ r, Hid (longR l cs = r) := ⟨_, Lib.hid rfl⟩
  obtain ⟨f, hf⟩ : ∃ f, Hid (fineB l = f) := ⟨_, Lib.hid rfl⟩
  obtain ⟨bv, hbv⟩ : ∃ bv, Hid (budget L = bv) := ⟨_, Lib.hid rfl⟩
  have tr : (r == r) = true := by simp
  have tbv : (bv == bv) = true := by simp
  have HS := Lib.hid (HS.out.mono InstR.mono HB)
  have HC := Lib.hid (HC.out.mono (IntR.mono _) HB)
  have HP := Lib.hid (HP.out.mono FnR.mono HB)
  go_wp2_with fail
  refine (Next_any _ _ _ l p ts _ HS.out hn hts).mono ?_
  rintro e w4 ⟨A4, c4, rfl, s4, -, hb⟩
  have B4 := hb
  have S4 := Lib.hid s4
  clear hb s4
  go_wp2_with fail
  refine (refNext_any _ _ _ l p ts _ (HS.out.mono InstR.mono B4) hn hts).mono ?_
  rintro e w5 ⟨A5, c5, rfl, s5, -, hb⟩
  have B5 := B4.trans hb
  have S5 := Lib.hid s5
  have S4 := Lib.hid (S4.out.mono (IntR.mono _) hb)
  clear hb s5 B4
  go_wp2_with fail
  refine (intsEq_same _ _ _ _ ts _ S4.out S5.out).mono ?_
  rintro e w6 ⟨rfl, hb⟩
  have B6 := B5.trans hb
  clear hb B5 S4 S5
  go_wp2_with fail
  refine (Reach_any _ _ _ _ R _ (HS.out.mono InstR.mono B6) hn hR).mono ?_
  rintro e w7 ⟨A7, c7, rfl, s7, hb⟩
  have B7 := B6.trans hb
  have S7 := Lib.hid s7
  clear hb s7 B6
  go_wp2_with fail
  refine (refReach_any _ _ _ _ R _ (HS.out.mono InstR.mono B7) hn hR).mono ?_
  rintro e w8 ⟨A8, c8, rfl, s8, -, hb⟩
  have B8 := B7.trans hb
  have S8 := Lib.hid s8
  have S7 := Lib.hid (S7.out.mono BoolR.mono hb)
  clear hb s8 B7
  go_wp2_with fail
  refine (boolsEq_any _ _ _ _ _ R _ S7.out S8.out (Lib.hid rfl) hR64).mono ?_
  rintro e w9 ⟨rfl, hb⟩
  have B9 := B8.trans hb
  clear hb B8 S7 S8
  go_wp2_with fail
  refine (Longest_any _ _ _ _ _ _ l cs r _ (HS.out.mono InstR.mono B9) hn (HC.out.mono (IntR.mono _) B9) hm hr).mono ?_
  rintro e w10 ⟨rfl, hb⟩
  have B10 := B9.trans hb
  clear hb B9
  go_wp2_with fail
  refine (refLongest_any _ _ _ _ _ _ l cs r _ (HS.out.mono InstR.mono B10) hn (HC.out.mono (IntR.mono _) B10) hm hr).mono ?_
  rintro e W0 ⟨rfl, hb⟩
  have B0 := B10.trans hb
  have HS0 := Lib.hid (HS.out.mono InstR.mono B0)
  have HP0 := Lib.hid (HP.out.mono FnR.mono B0)
  have HW := HB.trans B0
  have HQ0 := Lib.hid (B0.cell HQ3.out)
  clear hb B10 B0 HS HC HP HB
  cases f
  · go_wp2_with fail
    have P0 := fun (w' : World) (h : Bel W0 w') => h.cell HQ0.out
    have HR := Bel.refl W0
    go_region_held3 (fun w' => Bel W0 w') (first | (with_reducible assumption) | (with_reducible refine Bel.trans ?_ hb1; with_reducible assumption) | (with_reducible refine Bel.drew ?_; first | (with_reducible assumption) | (with_reducible refine Bel.trans ?_ hb1; with_reducible assumption))) (first | (go_at_call 19; refine (Fine_any _ _ _ l false _ (HS0.out.mono InstR.mono (by with_reducible assumption)) hn hf).mono ?_; rintro e w1 ⟨rfl, hb1⟩) | (go_at_call 20; refine (refFine_any _ _ _ l false _ (HS0.out.mono InstR.mono (by with_reducible assumption)) hn hf).mono ?_; rintro e w1 ⟨rfl, hb1⟩) | (go_at_call 21; refine (Budget_any _ _ _ L bv _ (HP0.out.mono FnR.mono (by with_reducible assumption)) hq hbv).mono ?_; rintro e w1 ⟨rfl, hb1⟩) | (go_at_call 22; refine (refBudget_any _ _ _ L bv _ (HP0.out.mono FnR.mono (by with_reducible assumption)) hq hbv).mono ?_; rintro e w1 ⟨rfl, hb1⟩))
    go_wp2
    go_ret
    exact ⟨by first | rfl | (simp; done), by refine HW.trans ?_; assumption⟩
  · go_wp2_with fail
    have P0 := fun (w' : World) (h : Bel W0 w') => h.cell HQ0.out
    have HR := Bel.refl W0
    go_region_held3 (fun w' => Bel W0 w') (first | (with_reducible assumption) | (with_reducible refine Bel.trans ?_ hb1; with_reducible assumption) | (with_reducible refine Bel.drew ?_; first | (with_reducible assumption) | (with_reducible refine Bel.trans ?_ hb1; with_reducible assumption))) (first | (go_at_call 19; refine (Fine_any _ _ _ l true _ (HS0.out.mono InstR.mono (by with_reducible assumption)) hn hf).mono ?_; rintro e w1 ⟨rfl, hb1⟩) | (go_at_call 20; refine (refFine_any _ _ _ l true _ (HS0.out.mono InstR.mono (by with_reducible assumption)) hn hf).mono ?_; rintro e w1 ⟨rfl, hb1⟩) | (go_at_call 21; refine (Budget_any _ _ _ L bv _ (HP0.out.mono FnR.mono (by with_reducible assumption)) hq hbv).mono ?_; rintro e w1 ⟨rfl, hb1⟩) | (go_at_call 22; refine (refBudget_any _ _ _ L bv _ (HP0.out.mono FnR.mono (by with_reducible assumption)) hq hbv).mono ?_; rintro e w1 ⟨rfl, hb1⟩))
    go_wp2
    go_ret
    exact ⟨by first | rfl | (simp; done), by refine HW.trans ?_; assumption⟩
end Go.Proofs.Ytpfnjbebfihkeaa
