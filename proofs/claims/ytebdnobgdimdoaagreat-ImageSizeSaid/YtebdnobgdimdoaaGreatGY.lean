/- A program, and schemas, read, among the texts of chapter 11. ImageSize: its walk. -/
import Derived.Test.YtebdnobgdimdoaaGreatGM
import Derived.Test.YtebdnobgdimdoaaGreatGX
import Derived.Test.YtebdnobgdimdoaaGreatGQ
import Derived.Test.YtebdnobgdimdoaaGreatGS
set_option linter.unusedVariables false
set_option linter.unusedSimpArgs false
namespace Go.Proofs.YtebdnobgdimdoaaGreat
open Go.RowKit

def ProgR (w : World) (cs : List Value) (L : List FnD) : Prop := ∃ A c, cs = [.slice A L.length c] ∧ Sl FnR 2 w A c L
theorem cells_Fn : Tryz.prog.cellsOf 73 = 2 := by kernel_rfl
theorem cells_Prog : Tryz.prog.cellsOf 24 = 1 := by kernel_rfl
theorem cells_insts : Tryz.prog.cellsOf 71 = 1 := by kernel_rfl
theorem cells_fns : Tryz.prog.cellsOf 22 = 1 := by kernel_rfl
theorem cells_Schema : Tryz.prog.cellsOf 44 = 4 := by kernel_rfl
section
variable {H : Type} {enc : TypeId × Value → H} {w : World} {base : Nat} {spare : Nat → Bool} {held : Bool}
theorem open_Fn {n : Nat} {cs : List Value} {y : DataW H × List MemPlace} (h : DataW.trod enc Tryz.prog w base spare held n 73 cs = some y) : ∃ x : FnD, FnR w cs x := by
  obtain ⟨m, hl, hf⟩ := trod_field Tryz.underlying73 h
  rw [cells_Fn] at hl
  match cs, hl with
  | [v0, v1], _ =>
  obtain ⟨y0, h0⟩ := hf 0 3 0 1 rfl cells_int
  obtain ⟨y1, h1⟩ := hf 1 71 1 1 rfl cells_insts
  obtain ⟨a0, e0, _, w0⟩ := DataW.trod_int Tryz.underlying3 h0
  obtain ⟨A, c, l, e1, hs⟩ := open_sl (R := InstR) (sz := 7) Tryz.underlying71 cells_Inst (by decide) (fun n cs y hl hy => open_Inst hy) h1
  simp at e0 e1
  subst e0 e1
  exact ⟨⟨a0, l⟩, A, c, rfl, hs, w0⟩
theorem open_Prog {n : Nat} {cs : List Value} {y : DataW H × List MemPlace} (h : DataW.trod enc Tryz.prog w base spare held n 24 cs = some y) : ∃ L : List FnD, ProgR w cs L := by
  obtain ⟨m, hl, hf⟩ := trod_field Tryz.underlying24 h
  rw [cells_Prog] at hl
  match cs, hl with
  | [v0], _ =>
  obtain ⟨y0, h0⟩ := hf 0 22 0 1 rfl cells_fns
  obtain ⟨A, c, L, e0, hs⟩ := open_sl (R := FnR) (sz := 2) Tryz.underlying22 cells_Fn (by decide) (fun n cs y hl hy => open_Fn hy) h0
  simp at e0
  subst e0
  exact ⟨L, A, c, rfl, hs⟩
theorem open_Schema {n : Nat} {cs : List Value} {y : DataW H × List MemPlace} (h : DataW.trod enc Tryz.prog w base spare held n 44 cs = some y) : ∃ x : SchD, SchR w cs x := by
  obtain ⟨m, hl, hf⟩ := trod_field Tryz.underlying44 h
  rw [cells_Schema] at hl
  match cs, hl with
  | [v0, v1, v2, v3], _ =>
  obtain ⟨y0, h0⟩ := hf 0 3 0 1 rfl cells_int
  obtain ⟨y1, h1⟩ := hf 1 3 1 1 rfl cells_int
  obtain ⟨y2, h2⟩ := hf 2 3 2 1 rfl cells_int
  obtain ⟨y3, h3⟩ := hf 3 3 3 1 rfl cells_int
  obtain ⟨a0, e0, _, w0⟩ := DataW.trod_int Tryz.underlying3 h0
  obtain ⟨a1, e1, _, w1⟩ := DataW.trod_int Tryz.underlying3 h1
  obtain ⟨a2, e2, _, w2⟩ := DataW.trod_int Tryz.underlying3 h2
  obtain ⟨a3, e3, _, w3⟩ := DataW.trod_int Tryz.underlying3 h3
  simp at e0 e1 e2 e3
  subst e0 e1 e2 e3
  exact ⟨⟨a0, a1, a2, a3⟩, rfl, w0, w1, w2, w3⟩
end
end Go.Proofs.YtebdnobgdimdoaaGreat
set_option linter.unusedVariables false
set_option linter.unusedSimpArgs false
namespace Go.Proofs.YtebdnobgdimdoaaGreat
open Go.RowKit

set_option maxHeartbeats 8000000 in
set_option maxRecDepth 100000 in
theorem ImageSize_walk (C : Array Value) (LL : List FnD) (Q : Option Addr) (cQ : Nat) (ls : List SchD) (base : Int) (W : World) (hp : ProgR W C.toList LL) (hls : Sl SchR 4 W Q cQ ls) (hbw : (Lit.int .i64 base).wf = true) :
    Calls Tryz.prog 6 #[.agg C, .slice Q ls.length cQ, .int .i64 base] W fun e w' => e = .returned (.bool true) ∧ Bel W w' := by
  obtain ⟨A, c, hC, hsl⟩ := hp
  obtain rfl : C = #[.slice A LL.length c] := by cases C; simpa using hC
  clear hC hbw
  obtain ⟨n, hn0⟩ : ∃ n, LL.length = n := ⟨_, rfl⟩
  have hn := Lib.hid hn0
  rw [hn0]
  obtain ⟨nl, hnl0⟩ : ∃ n, ls.length = n := ⟨_, rfl⟩
  have hnl := Lib.hid hnl0
  rw [hnl0]
  have HBa := Lib.hid ((Bel.refl W).alloc (.cells #[.slice A n c] 24))
  have HS := Lib.hid (hsl.mono FnR.mono HBa.out)
  have HLQ := Lib.hid (hls.mono SchR.mono HBa.out)
  have K0 := Lib.hid (Bk.new W 24 #[.slice A n c])
  obtain ⟨fv, hfv⟩ : ∃ fv, Hid (fewB LL = fv) := ⟨_, Lib.hid rfl⟩
  clear hsl hn0 hls hnl0
  go_enter Tryz.func6, Tryz.ntmps6
  go_wp2_with fail
  generalize W.alloc (.cells #[.slice A n c] 24) = W1 at *
  generalize W.heap.size = g at *
  refine (awake_any _).mono ?_
  rintro e w1 ⟨rfl, hb⟩
  have HN := Lib.hid hb
  have HB := Lib.hid (HBa.out.trans hb)
  clear hb HBa
  have q1 := (K0.out.bel HN.out).cell 0 (v := .slice A n c) rfl
  go_wp2_with fail
  refine (refFew_any A c n LL fv _ (HS.out.mono FnR.mono HN.out) hn hfv).mono ?_
  rintro e w2 ⟨rfl, hb⟩
  have HB := Lib.hid (HB.out.trans hb)
  have HN := Lib.hid (HN.out.trans hb)
  clear hb
  clear q1
  cases fv
  · go_wp2_with fail
    go_ret
    exact ⟨by first | rfl | simp, HB.out⟩
  by_cases hl4 : 4 < nl
  · have t1 : decide (4 < nl) = true := decide_eq_true hl4
    have t2 : (4 : Int) < nl := by omega
    go_wp2_with fail
    go_ret
    exact ⟨by first | rfl | simp, HB.out⟩
  have t2 : (nl : Int) ≤ 4 := by omega
  have q2 := (K0.out.bel HN.out).cell 0 (v := .slice A n c) rfl
  obtain ⟨m1, e1, hv1⟩ : ∃ m e, Hid (verifyV LL ls = (m, e)) := ⟨_, _, Lib.hid rfl⟩
  go_wp2_with fail
  refine (verify_all A c n LL Q nl cQ ls _ (HS.out.mono FnR.mono HN.out) hn.out (HLQ.out.mono SchR.mono HN.out) hnl.out m1 e1 hv1).mono ?_
  rintro e w3 ⟨rfl, hb⟩
  have HB := Lib.hid (HB.out.trans hb)
  have HN := Lib.hid (HN.out.trans hb)
  clear hb
  clear q2 t2
  have q3 := (K0.out.bel HN.out).cell 0 (v := .slice A n c) rfl
  by_cases he1 : e1 = 0
  rotate_left
  · have z1 : (e1 != 0) = true := by simpa using he1
    clear he1
    go_wp2_with fail
    go_ret
    exact ⟨by first | rfl | simp, HB.out⟩
  subst he1
  have VF := Lib.hid (verify_facts hv1.out)
  have hpm := Lib.hid VF.out.1
  have HIN : Hid (∀ k, k < LL.length → insideB LL k = true) := Lib.hid fun k hk => (VF.out.2.2.2.2.2 k hk).1
  have HI := Lib.hid (sl_imm HS.out)
  have hn8 : n ≤ 8 := by
    have := hpm.out
    unfold progMay at this
    simp only [Bool.and_eq_true, decide_eq_true_iff] at this
    rw [← hn.out]
    exact this.1.1.2
  obtain ⟨b, o, hA⟩ := HS.out.addr VF.out.2.1
  subst hA
  clear HLQ hv1
  go_wp2_with fail
  go_loopw [11, 12] (fun sv iv wr => ∃ i : Nat, iv = .int .i64 i ∧ i ≤ n ∧ sv = .int .i64 ((n + sz LL i : Nat) : Int) ∧ Hid (Bel w3 wr)) (fun _ iv _ => n - (intOf iv).toNat)
  case atStart => exact ⟨0, rfl, Nat.zero_le _, rfl, Lib.hid (Bel.refl _)⟩
  case round =>
    clear q3
    obtain ⟨i, rfl, hin, rfl, HBr⟩ := hrel
    have q3 := (K0.out.bel (HN.out.trans HBr.out)).cell 0 (v := .slice (some ⟨b, o, none⟩) n c) rfl
    have hszi := sz_both hpm.out i (by rw [hn.out]; exact hin)
    by_cases hie : i = n
    · have hie' := hie.symm
      subst hie'
      clear hie
      have HNX := Lib.hid (HN.out.trans HBr.out)
      have HBX := Lib.hid (HB.out.trans HBr.out)
      clear HBr HN HB
      obtain ⟨N, hN⟩ : ∃ N, n + sz LL n = N := ⟨_, rfl⟩
      have hNs : Hid (imgSize LL = N) := Lib.hid (by rw [size_may hpm.out, hn.out]; exact hN)
      rw [hN]
      clear hN
      obtain ⟨hN2, hN520⟩ := size_facts hpm.out
      rw [hNs.out] at hN2 hN520
      obtain ⟨ws, er, hmk⟩ : ∃ ws er, Hid (imgMake LL base = (ws, er)) := ⟨_, _, Lib.hid rfl⟩
      obtain ⟨m, hm⟩ : ∃ m, Hid (ws.length = m) := ⟨_, Lib.hid rfl⟩
      go_wp2_with fail
      refine (make_any (some ⟨b, o, none⟩) c n LL base _ (HS.out.mono FnR.mono HNX.out) hn ws er m hmk hm).mono ?_
      rintro e w4 ⟨A4, c4, rfl, hs4, hb⟩
      have HN4 := Lib.hid (HNX.out.trans hb)
      have HB4 := Lib.hid (HBX.out.trans hb)
      clear hb hs4 q3 HNX HBX
      have MF : Hid ((0 ≤ base ∧ base ≤ 1024 - (N : Int)) ∧ er = 0 ∧ m = N ∨ ¬ (0 ≤ base ∧ base ≤ 1024 - (N : Int)) ∧ er = 1) := Lib.hid (by
        by_cases hf : 0 ≤ base ∧ base + imgSize LL ≤ 1024
        · left
          obtain ⟨ws', h1, h2⟩ := make_in hpm.out HIN.out HI.out hf.1 hf.2
          have e := hmk.out.symm.trans h1
          simp only [Prod.mk.injEq] at e
          obtain ⟨rfl, rfl⟩ := e
          rw [hNs.out] at hf h2
          exact ⟨⟨hf.1, by omega⟩, rfl, by rw [← hm.out, h2]⟩
        · right
          have e := hmk.out.symm.trans (make_out hf)
          simp only [Prod.mk.injEq] at e
          rw [hNs.out] at hf
          exact ⟨fun h => hf ⟨h.1, by omega⟩, e.2⟩)
      clear hmk hm
      obtain ⟨K, hK0⟩ : ∃ K, 1024 - (N : Int) = K := ⟨_, rfl⟩
      obtain ⟨M1, hM0⟩ : ∃ M1, (N : Int) - 1 = M1 := ⟨_, rfl⟩
      have eN : IntKind.i64.wrap (1024 - (N : Int)) = K := by rw [wrap_i64 (by omega) (by omega)]; exact hK0
      have eN1 : IntKind.i64.wrap ((N : Int) - 1) = M1 := by rw [wrap_i64 (by omega) (by omega)]; exact hM0
      obtain ⟨nc1, ne1⟩ := new_ok (room := (N : Int)) (by omega) (by omega)
      obtain ⟨nc2, ne2⟩ := new_ok (room := M1) (by omega) (by omega)
      have NC1 := Lib.hid nc1
      have NE1 := Lib.hid ne1
      have NC2 := Lib.hid nc2
      have NE2 := Lib.hid ne2
      clear nc1 ne1 nc2 ne2
      obtain ⟨ws1, hld, hlf⟩ := load_whole hpm.out HIN.out HI.out
      rw [hNs.out] at hld hlf
      have hld2 := load_less hpm.out (room := M1) (by omega) (by rw [hNs.out]; omega)
      have HLD := Lib.hid hld
      have HLF := Lib.hid hlf
      have HLD2 := Lib.hid hld2
      clear hld hlf hld2
      rw [hK0] at MF
      have HM0 := Lib.hid hM0
      clear hK0 hM0 hszi
      have q4 := (K0.out.bel HN4.out).cell 0 (v := .slice (some ⟨b, o, none⟩) n c) rfl
      by_cases hb0 : 0 ≤ base
      · by_cases hb1 : base ≤ K
        · obtain ⟨rfl, hmN⟩ : er = 0 ∧ N = m := by
            rcases MF.out with ⟨-, h1, h2⟩ | ⟨h1, -⟩
            · exact ⟨h1, h2.symm⟩
            · exact absurd ⟨hb0, hb1⟩ h1
          subst hmN
          clear MF
          go_wp2_with fail
          refine (New_any (N : Int) _).mono ?_
          rintro e w5 ⟨rfl, hb⟩
          rw [NC1.out, NE1.out]
          have HN5 := Lib.hid (HN4.out.trans (hb.alloc (.cells #[.int .i64 (N : Int), .slice none 0 0] 79)))
          have HB5 := Lib.hid (HB4.out.trans (hb.alloc (.cells #[.int .i64 (N : Int), .slice none 0 0] 79)))
          have q5 := (K0.out.bel HN5.out).cell 0 (v := .slice (some ⟨b, o, none⟩) n c) rfl
          clear hb q4 HN4 HB4
          go_wp2_with fail
          refine (imload_any (N : Int) none 0 0 [] 1 (some ⟨b, o, none⟩) n c LL _ (Sl.nil _ _ _) (Lib.hid rfl) (HS.out.mono FnR.mono HN5.out) hn (Lib.hid (by decide)) (N : Int) [⟨1, 0, ws1⟩] 1 0 0 HLD (Lib.hid rfl)).mono ?_
          rintro e w6 ⟨A6, c6, rfl, hs6, hb⟩
          have BO := Lib.hid (Bk.new w6 79 #[.int .i64 (N : Int), .slice A6 1 c6])
          have HBO := (Bel.refl w6).alloc (.cells #[.int .i64 (N : Int), .slice A6 1 c6] 79)
          have HSO := Lib.hid (hs6.mono BlkR.mono HBO)
          have HN6 := Lib.hid (HN5.out.trans (hb.trans HBO))
          have HB6 := Lib.hid (HB5.out.trans (hb.trans HBO))
          clear hb HBO hs6 q5 HN5 HB5
          go_wp2_with fail
          generalize w6.alloc (.cells #[.int .i64 (N : Int), .slice A6 1 c6] 79) = W6 at *
          generalize w6.heap.size = g6 at *
          refine (New_any M1 _).mono ?_
          rintro e w7 ⟨rfl, hb⟩
          rw [NC2.out, NE2.out]
          have hb2 := hb.alloc (.cells #[.int .i64 M1, .slice none 0 0] 79)
          have HN7 := Lib.hid (HN6.out.trans hb2)
          have HB7 := Lib.hid (HB6.out.trans hb2)
          have HC7 := Lib.hid hb2
          have q7 := (K0.out.bel HN7.out).cell 0 (v := .slice (some ⟨b, o, none⟩) n c) rfl
          clear hb hb2 HN6 HB6
          go_wp2_with fail
          refine (imload_any M1 none 0 0 [] 1 (some ⟨b, o, none⟩) n c LL _ (Sl.nil _ _ _) (Lib.hid rfl) (HS.out.mono FnR.mono HN7.out) hn (Lib.hid (by decide)) 0 [] 0 0 4 HLD2 (Lib.hid rfl)).mono ?_
          rintro e w8 ⟨A8, c8, rfl, -, hb⟩
          have hb2 := hb.alloc (.cells #[.int .i64 0, .slice A8 0 c8] 79)
          have HN8 := Lib.hid (HN7.out.trans hb2)
          have HB8 := Lib.hid (HB7.out.trans hb2)
          have HC8 := Lib.hid (HC7.out.trans hb2)
          have q8 := (K0.out.bel HN8.out).cell 0 (v := .slice (some ⟨b, o, none⟩) n c) rfl
          clear hb hb2 HN7 HB7 HC7 q7
          go_wp2_with fail
          refine (size_any (some ⟨b, o, none⟩) c n LL _ (HS.out.mono FnR.mono HN8.out) hn N hNs).mono ?_
          rintro e w9 ⟨rfl, hb⟩
          have HB9 := Lib.hid (HB8.out.trans hb)
          have HC9 := Lib.hid (HC8.out.trans hb)
          have o0 := (BO.out.bel HC9.out).cell 0 (v := .int .i64 (N : Int)) rfl
          have o1 := (BO.out.bel HC9.out).cell 1 (v := .slice A6 1 c6) rfl
          clear hb HN8 HB8 HC8 q8
          go_wp2_with fail
          refine (Left_any (N : Int) A6 1 c6 [⟨1, 0, ws1⟩] 0 _ (HSO.out.mono BlkR.mono HC9.out) (Lib.hid rfl) HLF).mono ?_
          rintro e w10 ⟨rfl, hb⟩
          have HB10 := Lib.hid (HB9.out.trans hb)
          clear hb o0 o1
          go_wp2_with fail
          go_ret
          exact ⟨by first | rfl | simp, HB10.out⟩
        · obtain rfl : er = 1 := by
            rcases MF.out with ⟨h1, -⟩ | ⟨-, h1⟩
            · exact absurd h1.2 hb1
            · exact h1
          have k1 : decide (base ≤ K) = false := decide_eq_false hb1
          clear MF hb1
          go_wp2_with fail
          refine (New_any (N : Int) _).mono ?_
          rintro e w5 ⟨rfl, hb⟩
          rw [NC1.out, NE1.out]
          have HN5 := Lib.hid (HN4.out.trans (hb.alloc (.cells #[.int .i64 (N : Int), .slice none 0 0] 79)))
          have HB5 := Lib.hid (HB4.out.trans (hb.alloc (.cells #[.int .i64 (N : Int), .slice none 0 0] 79)))
          have q5 := (K0.out.bel HN5.out).cell 0 (v := .slice (some ⟨b, o, none⟩) n c) rfl
          clear hb q4 HN4 HB4
          go_wp2_with fail
          refine (imload_any (N : Int) none 0 0 [] 1 (some ⟨b, o, none⟩) n c LL _ (Sl.nil _ _ _) (Lib.hid rfl) (HS.out.mono FnR.mono HN5.out) hn (Lib.hid (by decide)) (N : Int) [⟨1, 0, ws1⟩] 1 0 0 HLD (Lib.hid rfl)).mono ?_
          rintro e w6 ⟨A6, c6, rfl, hs6, hb⟩
          have BO := Lib.hid (Bk.new w6 79 #[.int .i64 (N : Int), .slice A6 1 c6])
          have HBO := (Bel.refl w6).alloc (.cells #[.int .i64 (N : Int), .slice A6 1 c6] 79)
          have HSO := Lib.hid (hs6.mono BlkR.mono HBO)
          have HN6 := Lib.hid (HN5.out.trans (hb.trans HBO))
          have HB6 := Lib.hid (HB5.out.trans (hb.trans HBO))
          clear hb HBO hs6 q5 HN5 HB5
          go_wp2_with fail
          generalize w6.alloc (.cells #[.int .i64 (N : Int), .slice A6 1 c6] 79) = W6 at *
          generalize w6.heap.size = g6 at *
          refine (New_any M1 _).mono ?_
          rintro e w7 ⟨rfl, hb⟩
          rw [NC2.out, NE2.out]
          have hb2 := hb.alloc (.cells #[.int .i64 M1, .slice none 0 0] 79)
          have HN7 := Lib.hid (HN6.out.trans hb2)
          have HB7 := Lib.hid (HB6.out.trans hb2)
          have HC7 := Lib.hid hb2
          have q7 := (K0.out.bel HN7.out).cell 0 (v := .slice (some ⟨b, o, none⟩) n c) rfl
          clear hb hb2 HN6 HB6
          go_wp2_with fail
          refine (imload_any M1 none 0 0 [] 1 (some ⟨b, o, none⟩) n c LL _ (Sl.nil _ _ _) (Lib.hid rfl) (HS.out.mono FnR.mono HN7.out) hn (Lib.hid (by decide)) 0 [] 0 0 4 HLD2 (Lib.hid rfl)).mono ?_
          rintro e w8 ⟨A8, c8, rfl, -, hb⟩
          have hb2 := hb.alloc (.cells #[.int .i64 0, .slice A8 0 c8] 79)
          have HN8 := Lib.hid (HN7.out.trans hb2)
          have HB8 := Lib.hid (HB7.out.trans hb2)
          have HC8 := Lib.hid (HC7.out.trans hb2)
          have q8 := (K0.out.bel HN8.out).cell 0 (v := .slice (some ⟨b, o, none⟩) n c) rfl
          clear hb hb2 HN7 HB7 HC7 q7
          go_wp2_with fail
          refine (size_any (some ⟨b, o, none⟩) c n LL _ (HS.out.mono FnR.mono HN8.out) hn N hNs).mono ?_
          rintro e w9 ⟨rfl, hb⟩
          have HB9 := Lib.hid (HB8.out.trans hb)
          have HC9 := Lib.hid (HC8.out.trans hb)
          have o0 := (BO.out.bel HC9.out).cell 0 (v := .int .i64 (N : Int)) rfl
          have o1 := (BO.out.bel HC9.out).cell 1 (v := .slice A6 1 c6) rfl
          clear hb HN8 HB8 HC8 q8
          go_wp2_with fail
          refine (Left_any (N : Int) A6 1 c6 [⟨1, 0, ws1⟩] 0 _ (HSO.out.mono BlkR.mono HC9.out) (Lib.hid rfl) HLF).mono ?_
          rintro e w10 ⟨rfl, hb⟩
          have HB10 := Lib.hid (HB9.out.trans hb)
          clear hb o0 o1
          go_wp2_with fail
          go_ret
          exact ⟨by first | rfl | simp, HB10.out⟩
      · obtain rfl : er = 1 := by
          rcases MF.out with ⟨h1, -⟩ | ⟨-, h1⟩
          · exact absurd h1.1 hb0
          · exact h1
        have k1 : decide (0 ≤ base) = false := decide_eq_false hb0
        clear MF hb0
        go_wp2_with fail
        refine (New_any (N : Int) _).mono ?_
        rintro e w5 ⟨rfl, hb⟩
        rw [NC1.out, NE1.out]
        have HN5 := Lib.hid (HN4.out.trans (hb.alloc (.cells #[.int .i64 (N : Int), .slice none 0 0] 79)))
        have HB5 := Lib.hid (HB4.out.trans (hb.alloc (.cells #[.int .i64 (N : Int), .slice none 0 0] 79)))
        have q5 := (K0.out.bel HN5.out).cell 0 (v := .slice (some ⟨b, o, none⟩) n c) rfl
        clear hb q4 HN4 HB4
        go_wp2_with fail
        refine (imload_any (N : Int) none 0 0 [] 1 (some ⟨b, o, none⟩) n c LL _ (Sl.nil _ _ _) (Lib.hid rfl) (HS.out.mono FnR.mono HN5.out) hn (Lib.hid (by decide)) (N : Int) [⟨1, 0, ws1⟩] 1 0 0 HLD (Lib.hid rfl)).mono ?_
        rintro e w6 ⟨A6, c6, rfl, hs6, hb⟩
        have BO := Lib.hid (Bk.new w6 79 #[.int .i64 (N : Int), .slice A6 1 c6])
        have HBO := (Bel.refl w6).alloc (.cells #[.int .i64 (N : Int), .slice A6 1 c6] 79)
        have HSO := Lib.hid (hs6.mono BlkR.mono HBO)
        have HN6 := Lib.hid (HN5.out.trans (hb.trans HBO))
        have HB6 := Lib.hid (HB5.out.trans (hb.trans HBO))
        clear hb HBO hs6 q5 HN5 HB5
        go_wp2_with fail
        generalize w6.alloc (.cells #[.int .i64 (N : Int), .slice A6 1 c6] 79) = W6 at *
        generalize w6.heap.size = g6 at *
        refine (New_any M1 _).mono ?_
        rintro e w7 ⟨rfl, hb⟩
        rw [NC2.out, NE2.out]
        have hb2 := hb.alloc (.cells #[.int .i64 M1, .slice none 0 0] 79)
        have HN7 := Lib.hid (HN6.out.trans hb2)
        have HB7 := Lib.hid (HB6.out.trans hb2)
        have HC7 := Lib.hid hb2
        have q7 := (K0.out.bel HN7.out).cell 0 (v := .slice (some ⟨b, o, none⟩) n c) rfl
        clear hb hb2 HN6 HB6
        go_wp2_with fail
        refine (imload_any M1 none 0 0 [] 1 (some ⟨b, o, none⟩) n c LL _ (Sl.nil _ _ _) (Lib.hid rfl) (HS.out.mono FnR.mono HN7.out) hn (Lib.hid (by decide)) 0 [] 0 0 4 HLD2 (Lib.hid rfl)).mono ?_
        rintro e w8 ⟨A8, c8, rfl, -, hb⟩
        have hb2 := hb.alloc (.cells #[.int .i64 0, .slice A8 0 c8] 79)
        have HN8 := Lib.hid (HN7.out.trans hb2)
        have HB8 := Lib.hid (HB7.out.trans hb2)
        have HC8 := Lib.hid (HC7.out.trans hb2)
        have q8 := (K0.out.bel HN8.out).cell 0 (v := .slice (some ⟨b, o, none⟩) n c) rfl
        clear hb hb2 HN7 HB7 HC7 q7
        go_wp2_with fail
        refine (size_any (some ⟨b, o, none⟩) c n LL _ (HS.out.mono FnR.mono HN8.out) hn N hNs).mono ?_
        rintro e w9 ⟨rfl, hb⟩
        have HB9 := Lib.hid (HB8.out.trans hb)
        have HC9 := Lib.hid (HC8.out.trans hb)
        have o0 := (BO.out.bel HC9.out).cell 0 (v := .int .i64 (N : Int)) rfl
        have o1 := (BO.out.bel HC9.out).cell 1 (v := .slice A6 1 c6) rfl
        clear hb HN8 HB8 HC8 q8
        go_wp2_with fail
        refine (Left_any (N : Int) A6 1 c6 [⟨1, 0, ws1⟩] 0 _ (HSO.out.mono BlkR.mono HC9.out) (Lib.hid rfl) HLF).mono ?_
        rintro e w10 ⟨rfl, hb⟩
        have HB10 := Lib.hid (HB9.out.trans hb)
        clear hb o0 o1
        go_wp2_with fail
        go_ret
        exact ⟨by first | rfl | simp, HB10.out⟩
    · have hi1 : i < n := by omega
      have hi2 : (i : Int) < n := by omega
      have i0 : 0 ≤ (i : Int) := by omega
      have ei : IntKind.i64.wrap ((i : Int) + 1) = (i : Int) + 1 := wrap_i64 (by omega) (by omega)
      have hiL : i < LL.length := by rw [hn.out]; exact hi1
      obtain ⟨Al, cl, -, d1, -⟩ := fn_cells (HS.out.mono FnR.mono (HN.out.trans HBr.out)) i hiL
      obtain ⟨ml, hml⟩ : ∃ ml, (LL[i]).code.length = ml := ⟨_, rfl⟩
      rw [hml] at d1
      have hsz2 := sz_both hpm.out (i + 1) (by rw [hn.out]; omega)
      have hsz3 : sz LL (i + 1) = sz LL i + ml := by rw [sz, code_nth hiL, hml]
      have hnn : IntKind.i64.wrap (((n + sz LL i : Nat) : Int) + ml) = ((n + sz LL (i + 1) : Nat) : Int) := by
        rw [hsz3, wrap_i64 (by omega) (by omega)]
        omega
      clear hml hsz2 hsz3 hszi hie
      obtain ⟨S1, hS1⟩ : ∃ S1, ((n + sz LL i : Nat) : Int) = S1 := ⟨_, rfl⟩
      obtain ⟨S2, hS2⟩ : ∃ S2, ((n + sz LL (i + 1) : Nat) : Int) = S2 := ⟨_, rfl⟩
      rw [hS1, hS2] at hnn
      rw [hS1]
      have HS2 := Lib.hid hS2
      clear hS1 hS2
      go_wp2_with fail
      go_roundw
      case rel => exact ⟨i + 1, by simp, by omega, by rw [HS2.out], HBr⟩
      case measure => simp [intOf]; omega
end Go.Proofs.YtebdnobgdimdoaaGreat
