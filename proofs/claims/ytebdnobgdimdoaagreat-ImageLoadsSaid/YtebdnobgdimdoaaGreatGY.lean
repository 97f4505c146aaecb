/- The document's answer on words: the same rows. A part of a row. A program, and schemas, read, among the texts of chapter 11. ImageLoads: its walk. -/
import Derived.Test.YtebdnobgdimdoaaGreatGQ
import Derived.Test.YtebdnobgdimdoaaGreatGM
import Derived.Test.YtebdnobgdimdoaaGreatGX
import Derived.Test.YtebdnobgdimdoaaGreatGS
import Derived.Test.YtebdnobgdimdoaaGreatZArRef1
set_option linter.unusedVariables false
set_option linter.unusedSimpArgs false
namespace Go.Proofs.YtebdnobgdimdoaaGreat
open Go.RowKit

set_option maxHeartbeats 2000000 in
theorem long_same (A B : Option Addr) (n c d : Nat) (l : List Int) (w : World) (h1 : Sl (IntR .u64) 1 w A c l) (h2 : Sl (IntR .u64) 1 w B d l) (hn : Hid (l.length = n)) :
    Calls Tryz.prog 33 #[.slice A n c, .slice B n d] w fun e w' => e = .returned (.bool true) ∧ Bel w w' := by
  have H1 := Lib.hid h1
  have H2 := Lib.hid h2
  have hnn : n ≤ 9223372036854775807 := by rw [← hn.out]; have := h1.le; have := h1.big; simp only [maxLen] at this; omega
  clear h1 h2
  go_enter Tryz.func33, Tryz.ntmps33
  go_wp2_with fail
  go_loopw [5] (fun kv wr => ∃ k : Nat, kv = .int .i64 k ∧ k ≤ n ∧ Hid (Bel w wr)) (fun kv _ => n - (intOf kv).toNat)
  case atStart => exact ⟨0, rfl, Nat.zero_le _, Lib.hid (Bel.refl _)⟩
  case round =>
    obtain ⟨k, rfl, hkn, hbr⟩ := hrel
    by_cases hke : k = n
    · subst hke
      go_wp2_with fail
      go_ret
      exact ⟨rfl, hbr.out⟩
    · have hk1 : k < n := by omega
      have hk2 : (k : Int) < n := by omega
      have k0 : 0 ≤ (k : Int) := by omega
      have ek : IntKind.i64.wrap ((k : Int) + 1) = (k : Int) + 1 := wrap_i64 (by omega) (by omega)
      have hkL : k < l.length := by rw [hn.out]; exact hk1
      have s1 := H1.out.mono (IntR.mono _) hbr.out
      have s2 := H2.out.mono (IntR.mono _) hbr.out
      obtain ⟨x, hx⟩ : ∃ x, Hid (l.getD k 0 = x) := ⟨_, Lib.hid rfl⟩
      obtain ⟨b1, o1, rfl, d1⟩ := s1.int_cell (by omega)
      obtain ⟨b2, o2, rfl, d2⟩ := s2.int_cell (by omega)
      have c1 := (d1 k hkL).1
      have c2 := (d2 k hkL).1
      rw [hx.out] at c1 c2
      have hxx : (x != x) = false := by simp
      clear s1 s2 hke d1 d2
      go_wp2_with fail
      go_quiet (fail)
      go_wp2_with fail
      go_roundw
      case rel => exact ⟨k + 1, by simp, by omega, Lib.hid (by repeat (first | exact hbr.out | refine Bel.drewN ?_ _ | refine Bel.drew ?_ | refine Bel.alloc ?_ _))⟩
      case measure => simp [intOf]; omega
/-- A part of a slice. -/
theorem sl_part {w : World} {b off c : Nat} {l : List Int} (h : Sl (IntR .u64) 1 w (some ⟨b, off, none⟩) c l) (k m : Nat) (hk : k + m ≤ l.length) : Sl (IntR .u64) 1 w (some ⟨b, off + k, none⟩) (c - k) ((l.drop k).take m) := by
  have hle := h.le
  have hbig := h.big
  have hlen : ((l.drop k).take m).length = m := by rw [List.length_take, List.length_drop]; omega
  refine ⟨by rw [hlen]; omega, by omega, fun i hi => ?_⟩
  rw [hlen] at hi
  obtain ⟨b', off', cs, e, hl, hr, hc⟩ := h.get (k + i) (by omega)
  simp at e
  obtain ⟨rfl, rfl⟩ := e
  refine ⟨b, off + k, cs, rfl, hl, ?_, fun j v hv => ?_⟩
  · have e2 : ((l.drop k).take m)[i]'(by rw [hlen]; exact hi) = l[k + i]'(by omega) := by
      rw [List.getElem_take, List.getElem_drop]
    rw [e2]; exact hr
  · have := hc j v hv
    rwa [show off + (k + i) * 1 + j = off + k + i * 1 + j by omega] at this
end Go.Proofs.YtebdnobgdimdoaaGreat
set_option linter.unusedVariables false
set_option linter.unusedSimpArgs false
namespace Go.Proofs.YtebdnobgdimdoaaGreat
open Go.RowKit

def ProgR (w : World) (cs : List Value) (L : List FnD) : Prop := ∃ A c, cs = [.slice A L.length c] ∧ Sl FnR 2 w A c L
theorem cells_Fn : Tryz.prog.cellsOf 73 = 2 := by kernel_rfl
theorem cells_Prog : Tryz.prog.cellsOf 24 = 1 := by kernel_rfl
theorem cells_insts : Tryz.prog.cellsOf 71 = 1 := by kernel_rfl
theorem cells_fns : Tryz.prog.cellsOf 22 = 1 := by kernel_rfl
theorem cells_Schema : Tryz.prog.cellsOf 44 = 4 := by kernel_rfl
section
variable {H : Type} {enc : TypeId × Value → H} {w : World} {base : Nat} {spare : Nat → Bool} {held : Bool}
theorem open_Fn {n : Nat} {cs : List Value} {y : DataW H × List MemPlace} (h : DataW.trod enc Tryz.prog w base spare held n 73 cs = some y) : ∃ x : FnD, FnR w cs x := by
  obtain ⟨m, hl, hf⟩ := trod_field Tryz.underlying73 h
  rw [cells_Fn] at hl
  match cs, hl with
  | [v0, v1], _ =>
  obtain ⟨y0, h0⟩ := hf 0 3 0 1 rfl cells_int
  obtain ⟨y1, h1⟩ := hf 1 71 1 1 rfl cells_insts
  obtain ⟨a0, e0, _, w0⟩ := DataW.trod_int Tryz.underlying3 h0
  obtain ⟨A, c, l, e1, hs⟩ := open_sl (R := InstR) (sz := 7) Tryz.underlying71 cells_Inst (by decide) (fun n cs y hl hy => open_Inst hy) h1
  simp at e0 e1
  subst e0 e1
  exact ⟨⟨a0, l⟩, A, c, rfl, hs, w0⟩
theorem open_Prog {n : Nat} {cs : List Value} {y : DataW H × List MemPlace} (h : DataW.trod enc Tryz.prog w base spare held n 24 cs = some y) : ∃ L : List FnD, ProgR w cs L := by
  obtain ⟨m, hl, hf⟩ := trod_field Tryz.underlying24 h
  rw [cells_Prog] at hl
  match cs, hl with
  | [v0], _ =>
  obtain ⟨y0, h0⟩ := hf 0 22 0 1 rfl cells_fns
  obtain ⟨A, c, L, e0, hs⟩ := open_sl (R := FnR) (sz := 2) Tryz.underlying22 cells_Fn (by decide) (fun n cs y hl hy => open_Fn hy) h0
  simp at e0
  subst e0
  exact ⟨L, A, c, rfl, hs⟩
theorem open_Schema {n : Nat} {cs : List Value} {y : DataW H × List MemPlace} (h : DataW.trod enc Tryz.prog w base spare held n 44 cs = some y) : ∃ x : SchD, SchR w cs x := by
  obtain ⟨m, hl, hf⟩ := trod_field Tryz.underlying44 h
  rw [cells_Schema] at hl
  match cs, hl with
  | [v0, v1, v2, v3], _ =>
  obtain ⟨y0, h0⟩ := hf 0 3 0 1 rfl cells_int
  obtain ⟨y1, h1⟩ := hf 1 3 1 1 rfl cells_int
  obtain ⟨y2, h2⟩ := hf 2 3 2 1 rfl cells_int
  obtain ⟨y3, h3⟩ := hf 3 3 3 1 rfl cells_int
  obtain ⟨a0, e0, _, w0⟩ := DataW.trod_int Tryz.underlying3 h0
  obtain ⟨a1, e1, _, w1⟩ := DataW.trod_int Tryz.underlying3 h1
  obtain ⟨a2, e2, _, w2⟩ := DataW.trod_int Tryz.underlying3 h2
  obtain ⟨a3, e3, _, w3⟩ := DataW.trod_int Tryz.underlying3 h3
  simp at e0 e1 e2 e3
  subst e0 e1 e2 e3
  exact ⟨⟨a0, a1, a2, a3⟩, rfl, w0, w1, w2, w3⟩
end
end Go.Proofs.YtebdnobgdimdoaaGreat
set_option linter.unusedVariables false
set_option linter.unusedSimpArgs false
namespace Go.Proofs.YtebdnobgdimdoaaGreat
open Go.RowKit

theorem taken_nonneg : ∀ (l : List BlkD), 0 ≤ taken l
  | [] => by simp [taken]
  | b :: l => by
    rw [taken_cons]
    have := taken_nonneg l
    omega
set_option maxHeartbeats 8000000 in
set_option maxRecDepth 100000 in
theorem ImageLoads_walk (C : Array Value) (LL : List FnD) (Q : Option Addr) (cQ : Nat) (ls : List SchD) (CM : Array Value) (mm : MemD) (id : Int) (W : World) (hp : ProgR W C.toList LL) (hls : Sl SchR 4 W Q cQ ls) (hmr : MemR W CM.toList mm) (hidw : (Lit.int .i64 id).wf = true) :
    Calls Tryz.prog 7 #[.agg C, .slice Q ls.length cQ, .agg CM, .int .i64 id] W fun e w' => e = .returned (.bool true) ∧ Bel W w' := by
  obtain ⟨A, c, hC, hsl⟩ := hp
  obtain rfl : C = #[.slice A LL.length c] := by cases C; simpa using hC
  obtain ⟨cap, l⟩ := mm
  obtain ⟨AM, cM, hCM, hslm, hcw⟩ := hmr
  dsimp only at hCM hslm hcw
  obtain rfl : CM = #[.int .i64 cap, .slice AM l.length cM] := by cases CM; simpa using hCM
  have HIDW := Lib.hid hidw
  clear hC hCM hidw hcw
  obtain ⟨n, hn0⟩ : ∃ n, LL.length = n := ⟨_, rfl⟩
  have hn := Lib.hid hn0
  rw [hn0]
  obtain ⟨nl, hnl0⟩ : ∃ n, ls.length = n := ⟨_, rfl⟩
  have hnl := Lib.hid hnl0
  rw [hnl0]
  obtain ⟨nm, hnm0⟩ : ∃ n, l.length = n := ⟨_, rfl⟩
  have hnm := Lib.hid hnm0
  rw [hnm0]
  have HBa := Lib.hid (((Bel.refl W).alloc (.cells #[.slice A n c] 24)).alloc (.cells #[.int .i64 cap, .slice AM nm cM] 79))
  have HS := Lib.hid (hsl.mono FnR.mono HBa.out)
  have HLQ := Lib.hid (hls.mono SchR.mono HBa.out)
  have HM := Lib.hid (hslm.mono BlkR.mono HBa.out)
  have K0 := Lib.hid ((Bk.new W 24 #[.slice A n c]).alloc (.cells #[.int .i64 cap, .slice AM nm cM] 79))
  have K1 := Bk.new (W.alloc (.cells #[.slice A n c] 24)) 79 #[.int .i64 cap, .slice AM nm cM]
  rw [World.size_alloc] at K1
  have K1 := Lib.hid K1
  obtain ⟨fv, hfv⟩ : ∃ fv, Hid (fewB LL = fv) := ⟨_, Lib.hid rfl⟩
  obtain ⟨fm, hfm⟩ : ∃ fv, Hid (fewM ⟨cap, l⟩ = fv) := ⟨_, Lib.hid rfl⟩
  clear hsl hn0 hls hnl0 hslm hnm0
  go_enter Tryz.func7, Tryz.ntmps7
  go_wp2_with fail
  generalize (W.alloc (.cells #[.slice A n c] 24)).alloc (.cells #[.int .i64 cap, .slice AM nm cM] 79) = W1 at *
  generalize W.heap.size = g at *
  refine (awake_any _).mono ?_
  rintro e w1 ⟨rfl, hb⟩
  have HN := Lib.hid hb
  have HB := Lib.hid (HBa.out.trans hb)
  clear hb HBa
  have q1 := (K0.out.bel HN.out).cell 0 (v := .slice A n c) rfl
  go_wp2_with fail
  refine (refFew_any A c n LL fv _ (HS.out.mono FnR.mono HN.out) hn hfv).mono ?_
  rintro e w2 ⟨rfl, hb⟩
  have HB := Lib.hid (HB.out.trans hb)
  have HN := Lib.hid (HN.out.trans hb)
  clear hb
  clear q1
  have q2 := (K1.out.bel HN.out).cell 0 (v := .int .i64 cap) rfl
  have q3 := (K1.out.bel HN.out).cell 1 (v := .slice AM nm cM) rfl
  go_wp2_with fail
  refine (fewM_any cap AM nm cM l fm _ (HM.out.mono BlkR.mono HN.out) hnm hfm).mono ?_
  rintro e w3 ⟨rfl, hb⟩
  have HB := Lib.hid (HB.out.trans hb)
  have HN := Lib.hid (HN.out.trans hb)
  clear hb
  clear q2 q3
  cases fv
  · go_wp2_with fail
    go_ret
    exact ⟨by first | rfl | simp, HB.out⟩
  cases fm
  · go_wp2_with fail
    go_ret
    exact ⟨by first | rfl | simp, HB.out⟩
  by_cases hl4 : 4 < nl
  · have t1 : decide (4 < nl) = true := decide_eq_true hl4
    have t2 : (4 : Int) < nl := by omega
    go_wp2_with fail
    go_ret
    exact ⟨by first | rfl | simp, HB.out⟩
  have t2 : (nl : Int) ≤ 4 := by omega
  have q2 := (K1.out.bel HN.out).cell 0 (v := .int .i64 cap) rfl
  have q3 := (K1.out.bel HN.out).cell 1 (v := .slice AM nm cM) rfl
  obtain ⟨my, hmy⟩ : ∃ v, Hid (mayM ⟨cap, l⟩ = v) := ⟨_, Lib.hid rfl⟩
  go_wp2_with fail
  refine (May_any cap AM nm cM l my _ (HM.out.mono BlkR.mono HN.out) hnm hmy).mono ?_
  rintro e w3' ⟨rfl, hb⟩
  have HB := Lib.hid (HB.out.trans hb)
  have HN := Lib.hid (HN.out.trans hb)
  clear hb
  clear q2 q3
  cases my
  · go_wp2_with fail
    go_ret
    exact ⟨by first | rfl | simp, HB.out⟩
  by_cases hid1 : id < 1
  · have t1 : decide (id < 1) = true := decide_eq_true hid1
    go_wp2_with fail
    go_ret
    exact ⟨by first | rfl | simp, HB.out⟩
  have t3 : decide (id < 1) = false := decide_eq_false hid1
  have HID1 : Hid (1 ≤ id) := Lib.hid (by omega)
  clear hid1
  have q2 := (K0.out.bel HN.out).cell 0 (v := .slice A n c) rfl
  obtain ⟨m1, e1, hv1⟩ : ∃ m e, Hid (verifyV LL ls = (m, e)) := ⟨_, _, Lib.hid rfl⟩
  go_wp2_with fail
  refine (verify_all A c n LL Q nl cQ ls _ (HS.out.mono FnR.mono HN.out) hn.out (HLQ.out.mono SchR.mono HN.out) hnl.out m1 e1 hv1).mono ?_
  rintro e w4 ⟨rfl, hb⟩
  have HB := Lib.hid (HB.out.trans hb)
  have HN := Lib.hid (HN.out.trans hb)
  clear hb
  clear q2 t2 t3
  have HI := Lib.hid (sl_imm HS.out)
  obtain ⟨N, hNs⟩ : ∃ N, Hid (imgSize LL = N) := ⟨_, Lib.hid rfl⟩
  have hNr : N ≤ 100000 := by
    by_cases hp : progMay LL = true
    · have := (size_facts hp).2; have := hNs.out; omega
    · have := hNs.out; unfold imgSize at this; rw [if_neg hp] at this; omega
  obtain ⟨fa, fi, hfnd⟩ : ∃ a b, Hid (findM ⟨cap, l⟩ N = (a, b)) := ⟨_, _, Lib.hid rfl⟩
  go_wp2_with fail
  have SD := (Bel.refl w4).drew
  have P0 := fun (w' : World) (h : Bel w4 w') => h.cell ((K0.out.bel HN.out).cell 0 (v := .slice A n c) rfl)
  have P1 := fun (w' : World) (h : Bel w4 w') => h.cell ((K1.out.bel HN.out).cell 0 (v := .int .i64 cap) rfl)
  have P2 := fun (w' : World) (h : Bel w4 w') => h.cell ((K1.out.bel HN.out).cell 1 (v := .slice AM nm cM) rfl)
  refine wp_region_T (fun w' => Bel w4 w') (fun _ => false) (by kernel_rfl) ?_
  refine wpAnyU_take (i := 0) (v := ?v0a) rfl (by kernel_rfl) (by kernel_rfl) (by kernel_rfl) (by kernel_rfl) (fun _ _ _ h => h) ?hy0a SD ?rest0a
  case hy0a => first | (refine Or.inl ⟨by rfl, ?_⟩; (intro w' hSw; go_simp) <;> with_reducible rfl) | (refine Or.inr ⟨by rfl, ?_⟩; with_reducible rfl)
  try simp only [List.getElem_toArray, List.getElem_cons_zero, List.getElem_cons_succ, Act.put, List.setIfInBounds_toArray, List.set_cons_zero, List.set_cons_succ]
  refine wpAnyU_take (i := 1) (v := ?v1a) rfl (by kernel_rfl) (by kernel_rfl) (by kernel_rfl) (by kernel_rfl) (fun _ _ _ h => h) ?hy1a SD ?rest1a
  case hy1a => first | (refine Or.inl ⟨by rfl, ?_⟩; (intro w' hSw; go_simp) <;> with_reducible rfl) | (refine Or.inr ⟨by rfl, ?_⟩; with_reducible rfl)
  try simp only [List.getElem_toArray, List.getElem_cons_zero, List.getElem_cons_succ, Act.put, List.setIfInBounds_toArray, List.set_cons_zero, List.set_cons_succ]
  refine wpAnyT_one (i := 2) (by kernel_rfl) rfl (fun K hK => ?_)
  go_simp
  go_at_call 25
  refine (size_any A c n LL _ (HS.out.mono FnR.mono (HN.out.trans SD)) hn N hNs).mono ?_
  rintro en w5 ⟨rfl, hb5⟩
  have S5 : Bel w4 w5 := SD.trans hb5
  dsimp only
  refine hK.out _ _ (fun _ => S5) ?_
  clear hK K
  try simp only [List.getElem_toArray, List.getElem_cons_zero, List.getElem_cons_succ, Act.put, List.setIfInBounds_toArray, List.set_cons_zero, List.set_cons_succ]
  refine wpAnyT_one (i := 3) (by kernel_rfl) rfl (fun K hK => ?_)
  go_simp
  go_at_call 29
  refine (Find_any cap AM nm cM l N fa fi _ (HM.out.mono BlkR.mono (HN.out.trans S5)) hnm (by omega) hfnd).mono ?_
  rintro en w6 ⟨rfl, hb6⟩
  have S6 : Bel w4 w6 := S5.trans hb6
  dsimp only
  refine hK.out _ _ (fun _ => S6) ?_
  clear hK K
  try simp only [List.getElem_toArray, List.getElem_cons_zero, List.getElem_cons_succ, Act.put, List.setIfInBounds_toArray, List.set_cons_zero, List.set_cons_succ]
  refine wpAnyU_take (i := 4) (v := ?v4a) rfl (by kernel_rfl) (by kernel_rfl) (by kernel_rfl) (by kernel_rfl) (fun _ _ _ h => h) ?hy4a S6 ?rest4a
  case hy4a => first | (refine Or.inl ⟨by rfl, ?_⟩; (intro w' hSw; go_simp) <;> with_reducible rfl) | (refine Or.inr ⟨by rfl, ?_⟩; with_reducible rfl)
  try simp only [List.getElem_toArray, List.getElem_cons_zero, List.getElem_cons_succ, Act.put, List.setIfInBounds_toArray, List.set_cons_zero, List.set_cons_succ]
  refine wpAnyU_take (i := 5) (v := ?v5a) rfl (by kernel_rfl) (by kernel_rfl) (by kernel_rfl) (by kernel_rfl) (fun _ _ _ h => h) ?hy5a S6 ?rest5a
  case hy5a => first | (refine Or.inl ⟨by rfl, ?_⟩; (intro w' hSw; go_simp) <;> with_reducible rfl) | (refine Or.inr ⟨by rfl, ?_⟩; with_reducible rfl)
  try simp only [List.getElem_toArray, List.getElem_cons_zero, List.getElem_cons_succ, Act.put, List.setIfInBounds_toArray, List.set_cons_zero, List.set_cons_succ]
  refine wpAnyU_take (i := 6) (v := ?v6a) rfl (by kernel_rfl) (by kernel_rfl) (by kernel_rfl) (by kernel_rfl) (fun _ _ _ h => h) ?hy6a S6 ?rest6a
  case hy6a => first | (refine Or.inl ⟨by rfl, ?_⟩; (intro w' hSw; go_simp) <;> with_reducible rfl) | (refine Or.inr ⟨by rfl, ?_⟩; with_reducible rfl)
  try simp only [List.getElem_toArray, List.getElem_cons_zero, List.getElem_cons_succ, Act.put, List.setIfInBounds_toArray, List.set_cons_zero, List.set_cons_succ]
  refine wpAnyU_take (i := 7) (v := ?v7a) rfl (by kernel_rfl) (by kernel_rfl) (by kernel_rfl) (by kernel_rfl) (fun _ _ _ h => h) ?hy7a S6 ?rest7a
  case hy7a => first | (refine Or.inl ⟨by rfl, ?_⟩; (intro w' hSw; go_simp) <;> with_reducible rfl) | (refine Or.inr ⟨by rfl, ?_⟩; with_reducible rfl)
  try simp only [List.getElem_toArray, List.getElem_cons_zero, List.getElem_cons_succ, Act.put, List.setIfInBounds_toArray, List.set_cons_zero, List.set_cons_succ]
  refine wpAnyU_take (i := 8) (v := ?v8a) rfl (by kernel_rfl) (by kernel_rfl) (by kernel_rfl) (by kernel_rfl) (fun _ _ _ h => h) ?hy8a S6 ?rest8a
  case hy8a => first | (refine Or.inl ⟨by rfl, ?_⟩; (intro w' hSw; go_simp) <;> with_reducible rfl) | (refine Or.inr ⟨by rfl, ?_⟩; with_reducible rfl)
  try simp only [List.getElem_toArray, List.getElem_cons_zero, List.getElem_cons_succ, Act.put, List.setIfInBounds_toArray, List.set_cons_zero, List.set_cons_succ]
  refine wpAnyT_done (by kernel_rfl) ?_ _
  refine NoPanic.normal ?_
  have HB := Lib.hid (HB.out.trans S6)
  have HN := Lib.hid (HN.out.trans S6)
  clear SD S5 S6 hb5 hb6 P0 P1 P2
  have q0 := (K0.out.bel HN.out).cell 0 (v := .slice A n c) rfl
  have q2 := (K1.out.bel HN.out).cell 0 (v := .int .i64 cap) rfl
  have q3 := (K1.out.bel HN.out).cell 1 (v := .slice AM nm cM) rfl
  obtain ⟨cap', l', p', e', hld⟩ : ∃ cap' l' p' e', Hid (loadM ⟨cap, l⟩ id LL = (⟨cap', l'⟩, p', e')) := ⟨_, _, _, _, Lib.hid rfl⟩
  obtain ⟨nl', hnl'⟩ : ∃ k, Hid (l'.length = k) := ⟨_, Lib.hid rfl⟩
  go_wp2_with fail
  refine (imload_any cap AM nm cM l id A n c LL _ (HM.out.mono BlkR.mono HN.out) hnm (HS.out.mono FnR.mono HN.out) hn HIDW cap' l' nl' p' e' hld hnl').mono ?_
  rintro e w7 ⟨A7, c7, rfl, hs7, hb⟩
  have hb2 := hb.alloc (.cells #[.int .i64 cap', .slice A7 nl' c7] 79)
  have HB7 := Lib.hid (HB.out.trans hb2)
  have HN7 := Lib.hid (HN.out.trans hb2)
  have BX := Lib.hid (Bk.new w7 79 #[.int .i64 cap', .slice A7 nl' c7])
  have HSX := Lib.hid (hs7.mono BlkR.mono ((Bel.refl w7).alloc (.cells #[.int .i64 cap', .slice A7 nl' c7] 79)))
  clear hb hb2 hs7 q0 q2 q3 HB HN
  by_cases he' : e' = 0
  rotate_left
  · have z1 : (e' != 0) = true := by simpa using he'
    have HOR : Hid ((e1 != 0 || e' == 4) = true) := Lib.hid (by
      by_cases h1 : e1 = 0
      · subst h1
        have VF := verify_facts hv1.out
        have := load_err (m := ⟨cap, l⟩) (id := id) hmy.out HID1.out VF.1 (fun k hk => (VF.2.2.2.2.2 k hk).1) HI.out
        rw [hld.out] at this
        simp only at this
        rcases this with h | h
        · exact absurd h he'
        · simp [h]
      · simp [h1])
    clear he'
    by_cases h1 : e1 = 0
    · subst h1
      obtain rfl : e' = 4 := by simpa using HOR.out
      go_wp2_with fail
      go_ret
      exact ⟨by first | rfl | simp, HB7.out⟩
    · have z2 : (e1 != 0) = true := by simpa using h1
      clear h1
      go_wp2_with fail
      go_ret
      exact ⟨by first | rfl | simp, HB7.out⟩
  subst he'
  obtain ⟨a, ws, m', hl0, hpm0, hmy0, hfd0, hmk0, hwl0, hlf0, hdr0, ha0, ha1⟩ := load_ok (m := ⟨cap, l⟩) (id := id) HI.out (by rw [hld.out])
  have hle := hld.out.symm.trans hl0
  simp only [Prod.mk.injEq, and_true] at hle
  obtain ⟨hle1, hle2⟩ := hle
  subst hle1
  have hle3 := hle2.symm
  subst hle3
  have hfe := hfnd.out
  rw [← hNs.out, hfd0] at hfe
  simp only [Prod.mk.injEq] at hfe
  obtain ⟨hfe1, rfl⟩ := hfe
  subst hfe1
  rw [hNs.out] at hwl0 hlf0 ha1
  have hpm := Lib.hid hpm0
  have HMK := Lib.hid hmk0
  have HWL := Lib.hid hwl0
  have HDR := Lib.hid hdr0
  obtain ⟨lm, hlm⟩ : ∃ v, Hid (leftM ⟨cap, l⟩ = v) := ⟨_, Lib.hid rfl⟩
  obtain ⟨lx, hlx⟩ : ∃ v, Hid (leftM ⟨cap', l'⟩ = v) := ⟨_, Lib.hid rfl⟩
  have hlxm : lx = lm - N := by rw [← hlx.out, ← hlm.out]; exact hlf0
  have hlm0 : 0 ≤ lm ∧ lm ≤ 1024 := by
    have hok := mayM_iff.1 hmy.out
    rw [← hlm.out, left_all hok]
    have h1 := taken_le hok
    have h2 : 0 ≤ taken l := taken_nonneg l
    obtain ⟨-, hc, -⟩ := hok
    dsimp only at *
    omega
  have eL : IntKind.i64.wrap (lm - (N : Int)) = lx := by rw [wrap_i64 (by omega) (by omega)]; exact hlxm.symm
  clear hl0 hpm0 hmy0 hfd0 hmk0 hwl0 hlf0 hdr0 hlxm hlm0 hfnd hld
  obtain ⟨hN2, hN520⟩ := size_facts hpm.out
  rw [hNs.out] at hN2 hN520
  have hn0 : 0 < LL.length := by
    have := hpm.out
    unfold progMay at this
    simp only [Bool.and_eq_true, decide_eq_true_iff] at this
    exact this.1.1.1
  have hn8 : n ≤ 8 := by
    have := hpm.out
    unfold progMay at this
    simp only [Bool.and_eq_true, decide_eq_true_iff] at this
    rw [← hn.out]
    exact this.1.1.2
  go_wp2_with fail
  generalize w7.alloc (.cells #[.int .i64 cap', .slice A7 nl' c7] 79) = W7 at *
  generalize w7.heap.size = g7 at *
  have SD := (Bel.refl W7).drew
  have P0 := fun (w' : World) (h : Bel W7 w') => h.cell ((K0.out.bel HN7.out).cell 0 (v := .slice A n c) rfl)
  have P1 := fun (w' : World) (h : Bel W7 w') => h.cell ((K1.out.bel HN7.out).cell 0 (v := .int .i64 cap) rfl)
  have P2 := fun (w' : World) (h : Bel W7 w') => h.cell ((K1.out.bel HN7.out).cell 1 (v := .slice AM nm cM) rfl)
  have P3 := fun (w' : World) (h : Bel W7 w') => h.cell (BX.out.cell 0 (v := .int .i64 cap') rfl)
  have P4 := fun (w' : World) (h : Bel W7 w') => h.cell (BX.out.cell 1 (v := .slice A7 nl' c7) rfl)
  refine wp_region_T (fun w' => Bel W7 w') (fun _ => false) (by kernel_rfl) ?_
  refine wpAnyU_take (i := 0) (v := ?v0b) rfl (by kernel_rfl) (by kernel_rfl) (by kernel_rfl) (by kernel_rfl) (fun _ _ _ h => h) ?hy0b SD ?rest0b
  case hy0b => first | (refine Or.inl ⟨by rfl, ?_⟩; (intro w' hSw; go_simp) <;> with_reducible rfl) | (refine Or.inr ⟨by rfl, ?_⟩; with_reducible rfl)
  try simp only [List.getElem_toArray, List.getElem_cons_zero, List.getElem_cons_succ, Act.put, List.setIfInBounds_toArray, List.set_cons_zero, List.set_cons_succ]
  refine wpAnyU_take (i := 1) (v := ?v1b) rfl (by kernel_rfl) (by kernel_rfl) (by kernel_rfl) (by kernel_rfl) (fun _ _ _ h => h) ?hy1b SD ?rest1b
  case hy1b => first | (refine Or.inl ⟨by rfl, ?_⟩; (intro w' hSw; go_simp) <;> with_reducible rfl) | (refine Or.inr ⟨by rfl, ?_⟩; with_reducible rfl)
  try simp only [List.getElem_toArray, List.getElem_cons_zero, List.getElem_cons_succ, Act.put, List.setIfInBounds_toArray, List.set_cons_zero, List.set_cons_succ]
  refine wpAnyU_take (i := 2) (v := ?v2b) rfl (by kernel_rfl) (by kernel_rfl) (by kernel_rfl) (by kernel_rfl) (fun _ _ _ h => h) ?hy2b SD ?rest2b
  case hy2b => first | (refine Or.inl ⟨by rfl, ?_⟩; (intro w' hSw; go_simp) <;> with_reducible rfl) | (refine Or.inr ⟨by rfl, ?_⟩; with_reducible rfl)
  try simp only [List.getElem_toArray, List.getElem_cons_zero, List.getElem_cons_succ, Act.put, List.setIfInBounds_toArray, List.set_cons_zero, List.set_cons_succ]
  refine wpAnyU_take (i := 3) (v := ?v3b) rfl (by kernel_rfl) (by kernel_rfl) (by kernel_rfl) (by kernel_rfl) (fun _ _ _ h => h) ?hy3b SD ?rest3b
  case hy3b => first | (refine Or.inl ⟨by rfl, ?_⟩; (intro w' hSw; go_simp) <;> with_reducible rfl) | (refine Or.inr ⟨by rfl, ?_⟩; with_reducible rfl)
  try simp only [List.getElem_toArray, List.getElem_cons_zero, List.getElem_cons_succ, Act.put, List.setIfInBounds_toArray, List.set_cons_zero, List.set_cons_succ]
  refine wpAnyU_take (i := 5) (v := ?v5b) rfl (by kernel_rfl) (by kernel_rfl) (by kernel_rfl) (by kernel_rfl) (fun _ _ _ h => h) ?hy5b SD ?rest5b
  case hy5b => first | (refine Or.inl ⟨by rfl, ?_⟩; (intro w' hSw; go_simp) <;> with_reducible rfl) | (refine Or.inr ⟨by rfl, ?_⟩; with_reducible rfl)
  try simp only [List.getElem_toArray, List.getElem_cons_zero, List.getElem_cons_succ, Act.put, List.setIfInBounds_toArray, List.set_cons_zero, List.set_cons_succ]
  refine wpAnyU_take (i := 7) (v := ?v7b) rfl (by kernel_rfl) (by kernel_rfl) (by kernel_rfl) (by kernel_rfl) (fun _ _ _ h => h) ?hy7b SD ?rest7b
  case hy7b => first | (refine Or.inl ⟨by rfl, ?_⟩; (intro w' hSw; go_simp) <;> with_reducible rfl) | (refine Or.inr ⟨by rfl, ?_⟩; with_reducible rfl)
  try simp only [List.getElem_toArray, List.getElem_cons_zero, List.getElem_cons_succ, Act.put, List.setIfInBounds_toArray, List.set_cons_zero, List.set_cons_succ]
  refine wpAnyT_one (i := 4) (by kernel_rfl) rfl (fun K hK => ?_)
  go_simp
  go_at_call 26
  refine (Left_any cap' A7 nl' c7 l' lx _ (HSX.out.mono BlkR.mono SD) hnl' hlx).mono ?_
  rintro en w8 ⟨rfl, hb8⟩
  have S8 : Bel W7 w8 := SD.trans hb8
  dsimp only
  refine hK.out _ _ (fun _ => S8) ?_
  clear hK K
  try simp only [List.getElem_toArray, List.getElem_cons_zero, List.getElem_cons_succ, Act.put, List.setIfInBounds_toArray, List.set_cons_zero, List.set_cons_succ]
  refine wpAnyT_one (i := 6) (by kernel_rfl) rfl (fun K hK => ?_)
  go_simp
  go_at_call 26
  refine (Left_any cap AM nm cM l lm _ (HM.out.mono BlkR.mono (HN7.out.trans S8)) hnm hlm).mono ?_
  rintro en w9 ⟨rfl, hb9⟩
  have S9 : Bel W7 w9 := S8.trans hb9
  dsimp only
  refine hK.out _ _ (fun _ => S9) ?_
  clear hK K
  try simp only [List.getElem_toArray, List.getElem_cons_zero, List.getElem_cons_succ, Act.put, List.setIfInBounds_toArray, List.set_cons_zero, List.set_cons_succ]
  refine wpAnyT_one (i := 8) (by kernel_rfl) rfl (fun K hK => ?_)
  go_simp
  go_at_call 25
  refine (size_any A c n LL _ (HS.out.mono FnR.mono (HN7.out.trans S9)) hn N hNs).mono ?_
  rintro en w10 ⟨rfl, hb10⟩
  have S10 : Bel W7 w10 := S9.trans hb10
  dsimp only
  refine hK.out _ _ (fun _ => S10) ?_
  clear hK K
  try simp only [List.getElem_toArray, List.getElem_cons_zero, List.getElem_cons_succ, Act.put, List.setIfInBounds_toArray, List.set_cons_zero, List.set_cons_succ]
  refine wpAnyU_take (i := 9) (v := ?v9b) rfl (by kernel_rfl) (by kernel_rfl) (by kernel_rfl) (by kernel_rfl) (fun _ _ _ h => h) ?hy9b S10 ?rest9b
  case hy9b => first | (refine Or.inl ⟨by rfl, ?_⟩; (intro w' hSw; go_simp) <;> with_reducible rfl) | (refine Or.inr ⟨by rfl, ?_⟩; with_reducible rfl)
  try simp only [List.getElem_toArray, List.getElem_cons_zero, List.getElem_cons_succ, Act.put, List.setIfInBounds_toArray, List.set_cons_zero, List.set_cons_succ]
  refine wpAnyU_take (i := 10) (v := ?v10b) rfl (by kernel_rfl) (by kernel_rfl) (by kernel_rfl) (by kernel_rfl) (fun _ _ _ h => h) ?hy10b S10 ?rest10b
  case hy10b => first | (refine Or.inl ⟨by rfl, ?_⟩; (intro w' hSw; go_simp) <;> with_reducible rfl) | (refine Or.inr ⟨by rfl, ?_⟩; with_reducible rfl)
  try simp only [List.getElem_toArray, List.getElem_cons_zero, List.getElem_cons_succ, Act.put, List.setIfInBounds_toArray, List.set_cons_zero, List.set_cons_succ]
  refine wpAnyU_take (i := 11) (v := ?v11b) rfl (by kernel_rfl) (by kernel_rfl) (by kernel_rfl) (by kernel_rfl) (fun _ _ _ h => h) ?hy11b S10 ?rest11b
  case hy11b => first | (refine Or.inl ⟨by rfl, ?_⟩; (intro w' hSw; go_simp) <;> with_reducible rfl) | (refine Or.inr ⟨by rfl, ?_⟩; with_reducible rfl)
  try simp only [List.getElem_toArray, List.getElem_cons_zero, List.getElem_cons_succ, Act.put, List.setIfInBounds_toArray, List.set_cons_zero, List.set_cons_succ]
  refine wpAnyT_done (by kernel_rfl) ?_ _
  refine NoPanic.normal ?_
  have HB := Lib.hid (HB7.out.trans S10)
  have HN := Lib.hid (HN7.out.trans S10)
  have HX := Lib.hid S10
  clear SD S8 S9 S10 hb8 hb9 hb10 P0 P1 P2 P3 P4 HB7 HN7
  have q2 := (BX.out.bel HX.out).cell 0 (v := .int .i64 cap') rfl
  have q3 := (BX.out.bel HX.out).cell 1 (v := .slice A7 nl' c7) rfl
  go_wp2_with fail
  refine (Drop_any cap' A7 nl' c7 l' id _ (HSX.out.mono BlkR.mono HX.out) hnl' cap l nm 0 HDR hnm).mono ?_
  rintro e w11 ⟨A11, c11, rfl, hs11, hb⟩
  have hb2 := hb.alloc (.cells #[.int .i64 cap, .slice A11 nm c11] 79)
  have HB := Lib.hid (HB.out.trans hb2)
  have HN := Lib.hid (HN.out.trans hb2)
  have BD := Lib.hid (Bk.new w11 79 #[.int .i64 cap, .slice A11 nm c11])
  have hba := (Bel.refl w11).alloc (.cells #[.int .i64 cap, .slice A11 nm c11] 79)
  have HSD := Lib.hid (hs11 _ ⟨hba.size, fun k _ hk => hba.out.block k hk⟩)
  clear hb hb2 hs11 hba q2 q3 HX BX HSX
  have k0 := BD.out.cell 0 (v := .int .i64 cap) rfl
  have k1 := BD.out.cell 1 (v := .slice A11 nm c11) rfl
  have q2 := (K1.out.bel HN.out).cell 0 (v := .int .i64 cap) rfl
  have q3 := (K1.out.bel HN.out).cell 1 (v := .slice AM nm cM) rfl
  go_wp2_with fail
  generalize w11.alloc (.cells #[.int .i64 cap, .slice A11 nm c11] 79) = W11 at *
  generalize w11.heap.size = g11 at *
  refine (refSame_any cap cap A11 AM nm nm c11 cM l l true _ HSD.out (HM.out.mono BlkR.mono HN.out) hnm hnm (Lib.hid (decide_eq_true rfl))).mono ?_
  rintro e w12 ⟨rfl, hb⟩
  have HB := Lib.hid (HB.out.trans hb)
  have HN := Lib.hid (HN.out.trans hb)
  clear hb k0 k1 q2 q3 BD HSD
  have q0 := (K0.out.bel HN.out).cell 0 (v := .slice A n c) rfl
  obtain ⟨m, hm⟩ : ∃ m, Hid (ws.length = m) := ⟨_, Lib.hid rfl⟩
  have hmN : m = N := by rw [← hm.out]; exact HWL.out
  go_wp2_with fail
  refine (make_any A c n LL a _ (HS.out.mono FnR.mono HN.out) hn ws 0 m HMK hm).mono ?_
  rintro e w13 ⟨A13, c13, rfl, hs13, hb⟩
  subst hmN
  have HB13 := Lib.hid (HB.out.trans hb)
  have HN13 := Lib.hid (HN.out.trans hb)
  obtain ⟨b13, o13, rfl⟩ := hs13.addr (by rw [hm.out]; omega)
  have HW13 := Lib.hid hs13
  have hc13 : m ≤ c13 := by have := hs13.le; rw [hm.out] at this; exact this
  clear hb hs13 q0 HB HN
  have q0 := (K0.out.bel HN13.out).cell 0 (v := .slice A n c) rfl
  obtain ⟨bp, op_, rfl⟩ := HS.out.addr hn0
  have hszN : Hid (n + sz LL n = m) := Lib.hid (by rw [← hNs.out, size_may hpm.out, hn.out])
  go_wp2_with fail
  go_loopw [23, 24] (fun kv iv wr => ∃ i : Nat, iv = .int .i64 i ∧ i ≤ n ∧ kv = .int .i64 ((n + sz LL i : Nat) : Int) ∧ Hid (Bel w13 wr)) (fun _ iv _ => n - (intOf iv).toNat)
  case atStart => exact ⟨0, rfl, Nat.zero_le _, rfl, Lib.hid (Bel.refl _)⟩
  case round =>
    clear q0
    obtain ⟨i, rfl, hin, rfl, HBr⟩ := hrel
    have HN := Lib.hid (HN13.out.trans HBr.out)
    have HB := Lib.hid (HB13.out.trans HBr.out)
    have q0 := (K0.out.bel HN.out).cell 0 (v := .slice (some ⟨bp, op_, none⟩) n c) rfl
    by_cases hie : i = n
    · have hie' := hie.symm
      subst hie'
      clear hie
      rw [hszN.out]
      go_wp2_with fail
      go_ret
      exact ⟨by first | rfl | simp, HB.out⟩
    · have hi1 : i < n := by omega
      have hi2 : (i : Int) < n := by omega
      have i0 : 0 ≤ (i : Int) := by omega
      have ei : IntKind.i64.wrap ((i : Int) + 1) = (i : Int) + 1 := wrap_i64 (by omega) (by omega)
      have hiL : i < LL.length := by rw [hn.out]; exact hi1
      obtain ⟨pc, hpt, hpl, hpw, hps⟩ := part_word HI.out ha0 (by rw [hNs.out]; exact ha1) hpm.out HMK.out hiL
      rw [hn.out] at hpt hpw hps
      have hmono := sz_mono LL (show i + 1 ≤ n by omega)
      have hpl0 : 0 < pc.length := by
        have h1 := (crsMay_facts (prog_ok' hpm.out hiL)).1
        rw [hpl, code_nth' hiL]
        exact h1
      obtain ⟨ml, hml⟩ : ∃ ml, Hid (pc.length = ml) := ⟨_, Lib.hid rfl⟩
      have HPT := Lib.hid hpt
      obtain ⟨k, hk⟩ : ∃ k, n + sz LL i = k := ⟨_, rfl⟩
      obtain ⟨k2, hk2⟩ : ∃ k2, n + sz LL (i + 1) = k2 := ⟨_, rfl⟩
      rw [hk] at hpt hpw hps HPT
      rw [hk2, hml.out] at hps
      rw [hml.out] at hpl0 hpw
      rw [hk]
      have hk2m : k2 ≤ m := by have := hszN.out; omega
      have HK2 := Lib.hid hk2
      have HPW := Lib.hid hpw
      have HSP := Lib.hid (sl_part (HW13.out.mono (IntR.mono _) HBr.out) k ml (by rw [hm.out]; omega))
      rw [HPW.out] at HSP
      clear hk hk2 hpt hpl hpw hmono hie
      have ek : IntKind.i64.wrap (a + (k : Int)) = a + k := wrap_i64 (by omega) (by omega)
      have ek2 : IntKind.i64.wrap ((k : Int) + ml) = k2 := by rw [wrap_i64 (by omega) (by omega)]; omega
      have z0 : 0 ≤ (k : Int) := by omega
      have z1 : (k : Int) ≤ k2 := by omega
      have z2 : (k2 : Int) ≤ m := by omega
      have z3 : decide ((m : Int) < k2) = false := decide_eq_false (by omega)
      have z4 : (k2 : Int) ≤ c13 := by omega
      have z5 : ¬ c13 = k := by omega
      have z6 : ¬ k = c13 := by omega
      have z7 : (k2 - k : Nat) = ml := by omega
      go_wp2_with fail
      refine (part_any (some ⟨bp, op_, none⟩) c n LL i a (a + (k : Int)) _ (HS.out.mono FnR.mono HN.out) hn pc 0 ml HPT hml).mono ?_
      rintro e w14 ⟨A14, c14, rfl, hs14, hb⟩
      have HSP14 := Lib.hid (HSP.out.mono (IntR.mono _) hb)
      have HS14 := Lib.hid hs14
      have HBs := Lib.hid (HBr.out.trans hb)
      clear hb hs14 q0 HSP
      go_wp2_with fail
      refine (long_same A14 (some ⟨b13, o13 + k, none⟩) ml c14 (c13 - k) pc _ HS14.out HSP14.out hml).mono ?_
      rintro e w15 ⟨rfl, hb⟩
      have HBx := Lib.hid (HBs.out.trans hb)
      clear hb
      go_wp2_with fail
      go_roundw
      case rel => exact ⟨i + 1, by simp, by omega, by rw [HK2.out], HBx⟩
      case measure => simp [intOf]; omega
end Go.Proofs.YtebdnobgdimdoaaGreat
