/- image.Turn by its contract. -/
import Derived.Test.YteopeocgbfdofaaIm7
import Derived.Test.YteopeocgbfdofaaGCc
import Derived.Test.YteopeocgbfdofaaGHe
set_option linter.unusedVariables false
set_option linter.unusedSimpArgs false
namespace Go.Proofs.Yteopeocgbfdofaa
open Go.RowKit

def turnM (m : MemD) (base fn t : Int) : MemD × Int := if fn < 0 ∨ 8 ≤ fn ∨ t < 0 ∨ 1023 < t then (⟨0, []⟩, 1) else patchM m (base + fn) (wput 1 0 0 0 false 0 0 t).1
set_option maxHeartbeats 4000000 in
set_option maxRecDepth 100000 in
theorem turn_bad (cap : Int) (A : Option Addr) (nn c : Nat) (l : List BlkD) (base fn t : Int) (w : World) (hbad : fn < 0 ∨ 8 ≤ fn ∨ t < 0 ∨ 1023 < t) :
    Calls Try.prog 13 #[.agg #[.int .i64 cap, .slice A nn c], .int .i64 base, .int .i64 fn, .int .i64 t] w fun e w' => ∃ A' c', e = .returned (.tuple #[.agg #[.int .i64 0, .slice A' 0 c'], .int .i64 1]) ∧ Sl BlkR 3 w' A' c' [] ∧ Bel w w' := by
  have HB0 := Lib.hid (((Bel.refl w).alloc (.cells #[.int .i64 cap, .slice A nn c] 45)).alloc (.cells #[.int .i64 0, .slice none 0 0] 45))
  by_cases h1 : fn < 0
  · clear hbad
    go_enter Try.func13, Try.ntmps13
    go_wp2_with fail
    refine bodyPost_ret (v := .tuple #[.agg #[.int .i64 0, .slice none 0 0], .int .i64 1]) ?_ rfl ⟨none, 0, rfl, ⟨Nat.le_refl _, by decide, fun i hi => by simp at hi⟩, by repeat (first | exact HB0.out | refine Bel.setCell ?_ (by simp) _)⟩
    simp [results, Try.results13, go_sem]
  by_cases h2 : 8 ≤ fn
  · clear hbad
    go_enter Try.func13, Try.ntmps13
    go_wp2_with fail
    refine bodyPost_ret (v := .tuple #[.agg #[.int .i64 0, .slice none 0 0], .int .i64 1]) ?_ rfl ⟨none, 0, rfl, ⟨Nat.le_refl _, by decide, fun i hi => by simp at hi⟩, by repeat (first | exact HB0.out | refine Bel.setCell ?_ (by simp) _)⟩
    simp [results, Try.results13, go_sem]
  by_cases h3 : t < 0
  · clear hbad
    go_enter Try.func13, Try.ntmps13
    go_wp2_with fail
    refine bodyPost_ret (v := .tuple #[.agg #[.int .i64 0, .slice none 0 0], .int .i64 1]) ?_ rfl ⟨none, 0, rfl, ⟨Nat.le_refl _, by decide, fun i hi => by simp at hi⟩, by repeat (first | exact HB0.out | refine Bel.setCell ?_ (by simp) _)⟩
    simp [results, Try.results13, go_sem]
  have h4 : 1023 < t := by omega
  clear hbad
  go_enter Try.func13, Try.ntmps13
  go_wp2_with fail
  refine bodyPost_ret (v := .tuple #[.agg #[.int .i64 0, .slice none 0 0], .int .i64 1]) ?_ rfl ⟨none, 0, rfl, ⟨Nat.le_refl _, by decide, fun i hi => by simp at hi⟩, by repeat (first | exact HB0.out | refine Bel.setCell ?_ (by simp) _)⟩
  simp [results, Try.results13, go_sem]
set_option maxHeartbeats 4000000 in
set_option maxRecDepth 100000 in
theorem turn_in (cap : Int) (A : Option Addr) (nn c : Nat) (l : List BlkD) (base fn t : Int) (w : World) (h : Sl BlkR 3 w A c l) (hn : Hid (l.length = nn)) (hbs : 0 ≤ base ∧ base ≤ 2000) (h1 : ¬ fn < 0) (h2 : ¬ 8 ≤ fn) (h3 : ¬ t < 0) (h4 : ¬ 1023 < t) (dv ev : Int) (hdv : Hid (wput 1 0 0 0 false 0 0 t = (dv, ev))) (hwf : Hid ((Lit.int .u64 dv).wf = true)) (cap' : Int) (l' : List BlkD) (nl : Nat) (e' : Int) (hr : Hid (patchM ⟨cap, l⟩ (base + fn) dv = (⟨cap', l'⟩, e'))) (hnl : Hid (l'.length = nl)) :
    Calls Try.prog 13 #[.agg #[.int .i64 cap, .slice A nn c], .int .i64 base, .int .i64 fn, .int .i64 t] w fun e w' => ∃ A' c', e = .returned (.tuple #[.agg #[.int .i64 cap', .slice A' nl c'], .int .i64 e']) ∧ Sl BlkR 3 w' A' c' l' ∧ Bel w w' := by
  have HB0 := Lib.hid (((Bel.refl w).alloc (.cells #[.int .i64 cap, .slice A nn c] 45)).alloc (.cells #[.int .i64 0, .slice none 0 0] 45))
  have HS := Lib.hid (h.mono BlkR.mono HB0.out)
  have KM := Lib.hid ((Blk.new w 45 #[.int .i64 cap, .slice A nn c]).bel ((Bel.refl _).alloc (.cells #[.int .i64 0, .slice none 0 0] 45)))
  have KR : Hid (Blk ((w.alloc (.cells #[.int .i64 cap, .slice A nn c] 45)).alloc (.cells #[.int .i64 0, .slice none 0 0] 45)) (w.heap.size + 1) 45 #[.int .i64 0, .slice none 0 0]) := Lib.hid (by
    have := Blk.new (w.alloc (.cells #[.int .i64 cap, .slice A nn c] 45)) 45 #[.int .i64 0, .slice none 0 0]
    rwa [World.size_alloc] at this)
  have hR0 : w.heap.size + 1 < ((w.alloc (.cells #[.int .i64 cap, .slice A nn c] 45)).alloc (.cells #[.int .i64 0, .slice none 0 0] 45)).heap.size := by simp
  have eb : IntKind.i64.wrap (base + fn) = base + fn := wrap_i64 (by omega) (by omega)
  clear h
  go_enter Try.func13, Try.ntmps13
  go_wp2_with fail
  generalize (w.alloc (.cells #[.int .i64 cap, .slice A nn c] 45)).alloc (.cells #[.int .i64 0, .slice none 0 0] 45) = W1 at *
  obtain ⟨g, hg⟩ : ∃ g, w.heap.size = g := ⟨_, rfl⟩
  rw [hg] at KM KR hR0
  simp only [hg]
  have hwg : w.heap.size ≤ g := by omega
  clear hg
  have hR : g + 1 + 1 ≤ W1.heap.size := hR0
  have SD := (Bel.refl W1).drew
  have HRR := Bel.refl W1
  have M0 := fun (w' : World) (h : Bel W1 w') => h.cell (KM.out.cell 0 (v := .int .i64 cap) rfl)
  have M1 := fun (w' : World) (h : Bel W1 w') => h.cell (KM.out.cell 1 (v := .slice A nn c) rfl)
  have R0 := fun (w' : World) (h : Bel W1 w') => h.cell (KR.out.cell 0 (v := .int .i64 0) rfl)
  have R1 := fun (w' : World) (h : Bel W1 w') => h.cell (KR.out.cell 1 (v := .slice none 0 0) rfl)
  have F0 := fun (w' : World) (h : Bel W1 w') => (KR.out.bel h).frozen 0
  have F1 := fun (w' : World) (h : Bel W1 w') => (KR.out.bel h).frozen 1
  refine wp_region_T (fun w' => Bel W1 w') (fun j => j == 9 || j == 10) (by kernel_rfl) ?_
  refine wpAnyU_take (i := 0) (v := ?v0) rfl (by kernel_rfl) (by kernel_rfl) (by kernel_rfl) (by kernel_rfl) (fun _ _ _ h => h) ?hy0 SD ?rest0
  case hy0 => first | (refine Or.inl ⟨by rfl, ?_⟩; (intro w' hSw; go_simp) <;> with_reducible rfl) | (refine Or.inr ⟨by rfl, ?_⟩; with_reducible rfl)
  try simp only [List.getElem_toArray, List.getElem_cons_zero, List.getElem_cons_succ, Act.put, List.setIfInBounds_toArray, List.set_cons_zero, List.set_cons_succ]
  refine wpAnyU_take (i := 1) (v := ?v1) rfl (by kernel_rfl) (by kernel_rfl) (by kernel_rfl) (by kernel_rfl) (fun _ _ _ h => h) ?hy1 SD ?rest1
  case hy1 => first | (refine Or.inl ⟨by rfl, ?_⟩; (intro w' hSw; go_simp) <;> with_reducible rfl) | (refine Or.inr ⟨by rfl, ?_⟩; with_reducible rfl)
  try simp only [List.getElem_toArray, List.getElem_cons_zero, List.getElem_cons_succ, Act.put, List.setIfInBounds_toArray, List.set_cons_zero, List.set_cons_succ]
  refine wpAnyU_take (i := 2) (v := ?v2) rfl (by kernel_rfl) (by kernel_rfl) (by kernel_rfl) (by kernel_rfl) (fun _ _ _ h => h) ?hy2 SD ?rest2
  case hy2 => first | (refine Or.inl ⟨by rfl, ?_⟩; (intro w' hSw; go_simp) <;> with_reducible rfl) | (refine Or.inr ⟨by rfl, ?_⟩; with_reducible rfl)
  try simp only [List.getElem_toArray, List.getElem_cons_zero, List.getElem_cons_succ, Act.put, List.setIfInBounds_toArray, List.set_cons_zero, List.set_cons_succ]
  refine wpAnyU_take (i := 3) (v := ?v3) rfl (by kernel_rfl) (by kernel_rfl) (by kernel_rfl) (by kernel_rfl) (fun _ _ _ h => h) ?hy3 SD ?rest3
  case hy3 => first | (refine Or.inl ⟨by rfl, ?_⟩; (intro w' hSw; go_simp) <;> with_reducible rfl) | (refine Or.inr ⟨by rfl, ?_⟩; with_reducible rfl)
  try simp only [List.getElem_toArray, List.getElem_cons_zero, List.getElem_cons_succ, Act.put, List.setIfInBounds_toArray, List.set_cons_zero, List.set_cons_succ]
  refine wpAnyU_take (i := 4) (v := ?v4) rfl (by kernel_rfl) (by kernel_rfl) (by kernel_rfl) (by kernel_rfl) (fun _ _ _ h => h) ?hy4 SD ?rest4
  case hy4 => first | (refine Or.inl ⟨by rfl, ?_⟩; (intro w' hSw; go_simp) <;> with_reducible rfl) | (refine Or.inr ⟨by rfl, ?_⟩; with_reducible rfl)
  try simp only [List.getElem_toArray, List.getElem_cons_zero, List.getElem_cons_succ, Act.put, List.setIfInBounds_toArray, List.set_cons_zero, List.set_cons_succ]
  refine wpAnyT_one (i := 5) (by kernel_rfl) rfl (fun K hK => ?_)
  go_simp
  go_at_call 27
  refine (door_any t dv ev _ hdv).mono ?_
  rintro en w5 ⟨rfl, hb5⟩
  have S5 : Bel W1 w5 := SD.trans hb5
  dsimp only
  refine hK.out _ _ (fun _ => S5) ?_
  clear hK K
  try simp only [List.getElem_toArray, List.getElem_cons_zero, List.getElem_cons_succ, Act.put, List.setIfInBounds_toArray, List.set_cons_zero, List.set_cons_succ]
  refine wpAnyT_one (i := 6) (by kernel_rfl) rfl (fun K hK => ?_)
  go_simp
  go_at_call 30
  refine (Patch_any cap A nn c l (base + fn) dv _ (HS.out.mono BlkR.mono S5) hn hwf cap' l' nl e' hr hnl).mono ?_
  rintro en w6 ⟨A6, c6, rfl, s6, hb6⟩
  have S6 : Bel W1 w6 := S5.trans hb6
  have SS6 := Lib.hid (s6.down (Nat.le_trans hR S5.size))
  clear s6
  dsimp only
  refine hK.out _ _ (fun _ => S6) ?_
  clear hK K
  try simp only [List.getElem_toArray, List.getElem_cons_zero, List.getElem_cons_succ, Act.put, List.setIfInBounds_toArray, List.set_cons_zero, List.set_cons_succ]
  refine wpAnyU_take (i := 7) (v := ?v7) rfl (by kernel_rfl) (by kernel_rfl) (by kernel_rfl) (by kernel_rfl) (fun _ _ _ h => h) ?hy7 S6 ?rest7
  case hy7 => first | (refine Or.inl ⟨by rfl, ?_⟩; (intro w' hSw; go_simp) <;> with_reducible rfl) | (refine Or.inr ⟨by rfl, ?_⟩; with_reducible rfl)
  try simp only [List.getElem_toArray, List.getElem_cons_zero, List.getElem_cons_succ, Act.put, List.setIfInBounds_toArray, List.set_cons_zero, List.set_cons_succ]
  refine wpAnyU_take (i := 8) (v := ?v8) rfl (by kernel_rfl) (by kernel_rfl) (by kernel_rfl) (by kernel_rfl) (fun _ _ _ h => h) ?hy8 S6 ?rest8
  case hy8 => first | (refine Or.inl ⟨by rfl, ?_⟩; (intro w' hSw; go_simp) <;> with_reducible rfl) | (refine Or.inr ⟨by rfl, ?_⟩; with_reducible rfl)
  try simp only [List.getElem_toArray, List.getElem_cons_zero, List.getElem_cons_succ, Act.put, List.setIfInBounds_toArray, List.set_cons_zero, List.set_cons_succ]
  refine wpAnyT_one (i := 9) (by kernel_rfl) rfl (fun K hK => ?_)
  go_simp
  refine hK.out _ _ (fun h => absurd h (by decide)) ?_
  clear hK K
  try simp only [List.getElem_toArray, List.getElem_cons_zero, List.getElem_cons_succ, Act.put, List.setIfInBounds_toArray, List.set_cons_zero, List.set_cons_succ]
  refine wpAnyT_one (i := 10) (by kernel_rfl) rfl (fun K hK => ?_)
  go_simp
  refine hK.out _ _ (fun h => absurd h (by decide)) ?_
  clear hK K
  try simp only [List.getElem_toArray, List.getElem_cons_zero, List.getElem_cons_succ, Act.put, List.setIfInBounds_toArray, List.set_cons_zero, List.set_cons_succ]
  refine wpAnyT_done (by kernel_rfl) ?_ _
  refine NoPanic.normal ?_
  have KR6 := KR.out.bel S6
  obtain ⟨E0, E1⟩ := res_two KR6 (.int .i64 cap') (.slice A6 nl c6)
  have HSE := Lib.hid (SS6.out.abv (((Abv.refl (g + 1 + 1) w6).set (p := ⟨g + 1, 0, none⟩) (by simp only; omega) (.int .i64 cap')).set (p := ⟨g + 1, 1, none⟩) (by simp only; omega) (.slice A6 nl c6))).sl
  have HFE := Lib.hid (((HB0.out.trans S6).setCell (p := ⟨g + 1, 0, none⟩) (by simp only; omega) (.int .i64 cap')).setCell (p := ⟨g + 1, 1, none⟩) (by simp only; omega) (.slice A6 nl c6))
  have E0 := Lib.hid E0
  have E1 := Lib.hid E1
  clear SD HRR S5 S6 M0 M1 R0 R1 F0 F1 KR6
  go_wp2_with fail
  refine bodyPost_ret (v := .tuple #[.agg #[.int .i64 cap', .slice A6 nl c6], .int .i64 e']) ?_ rfl ⟨A6, c6, rfl, HSE.out, HFE.out⟩
  have k0 := E0.out
  have k1 := E1.out
  simp [results, Try.results13, go_sem, k0, k1]
end Go.Proofs.Yteopeocgbfdofaa
