/- image.Turn at any base, and the document's Turn of chapter 14, by their contracts. -/
import Derived.Test.YteopeocgbfdofaaZImTn
import Derived.Test.YteopeocgbfdofaaGRi
import Derived.Test.YteopeocgbfdofaaZRf6
set_option linter.unusedVariables false
set_option linter.unusedSimpArgs false
namespace Go.Proofs.Yteopeocgbfdofaa
open Go.RowKit

set_option maxHeartbeats 4000000 in
set_option maxRecDepth 100000 in
theorem turn_w (cap : Int) (A : Option Addr) (nn c : Nat) (l : List BlkD) (base fn t : Int) (w : World) (h : Sl BlkR 3 w A c l) (hn : Hid (l.length = nn)) (pl : Int) (eb : IntKind.i64.wrap (base + fn) = pl) (h1 : ¬ fn < 0) (h2 : ¬ 8 ≤ fn) (h3 : ¬ t < 0) (h4 : ¬ 1023 < t) (dv ev : Int) (hdv : Hid (wput 1 0 0 0 false 0 0 t = (dv, ev))) (hwf : Hid ((Lit.int .u64 dv).wf = true)) (cap' : Int) (l' : List BlkD) (nl : Nat) (e' : Int) (hr : Hid (patchM ⟨cap, l⟩ pl dv = (⟨cap', l'⟩, e'))) (hnl : Hid (l'.length = nl)) :
    Calls Try.prog 13 #[.agg #[.int .i64 cap, .slice A nn c], .int .i64 base, .int .i64 fn, .int .i64 t] w fun e w' => ∃ A' c', e = .returned (.tuple #[.agg #[.int .i64 cap', .slice A' nl c'], .int .i64 e']) ∧ Sl BlkR 3 w' A' c' l' ∧ Bel w w' := by
  have HB0 := Lib.hid (((Bel.refl w).alloc (.cells #[.int .i64 cap, .slice A nn c] 45)).alloc (.cells #[.int .i64 0, .slice none 0 0] 45))
  have HS := Lib.hid (h.mono BlkR.mono HB0.out)
  have KM := Lib.hid ((Blk.new w 45 #[.int .i64 cap, .slice A nn c]).bel ((Bel.refl _).alloc (.cells #[.int .i64 0, .slice none 0 0] 45)))
  have KR : Hid (Blk ((w.alloc (.cells #[.int .i64 cap, .slice A nn c] 45)).alloc (.cells #[.int .i64 0, .slice none 0 0] 45)) (w.heap.size + 1) 45 #[.int .i64 0, .slice none 0 0]) := Lib.hid (by
    have := Blk.new (w.alloc (.cells #[.int .i64 cap, .slice A nn c] 45)) 45 #[.int .i64 0, .slice none 0 0]
    rwa [World.size_alloc] at this)
  have hR0 : w.heap.size + 1 < ((w.alloc (.cells #[.int .i64 cap, .slice A nn c] 45)).alloc (.cells #[.int .i64 0, .slice none 0 0] 45)).heap.size := by simp
  clear h
  go_enter Try.func13, Try.ntmps13
  go_wp2_with fail
  generalize (w.alloc (.cells #[.int .i64 cap, .slice A nn c] 45)).alloc (.cells #[.int .i64 0, .slice none 0 0] 45) = W1 at *
  obtain ⟨g, hg⟩ : ∃ g, w.heap.size = g := ⟨_, rfl⟩
  rw [hg] at KM KR hR0
  simp only [hg]
  have hwg : w.heap.size ≤ g := by omega
  clear hg
  have hR : g + 1 + 1 ≤ W1.heap.size := hR0
  have SD := (Bel.refl W1).drew
  have HRR := Bel.refl W1
  have M0 := fun (w' : World) (h : Bel W1 w') => h.cell (KM.out.cell 0 (v := .int .i64 cap) rfl)
  have M1 := fun (w' : World) (h : Bel W1 w') => h.cell (KM.out.cell 1 (v := .slice A nn c) rfl)
  have R0 := fun (w' : World) (h : Bel W1 w') => h.cell (KR.out.cell 0 (v := .int .i64 0) rfl)
  have R1 := fun (w' : World) (h : Bel W1 w') => h.cell (KR.out.cell 1 (v := .slice none 0 0) rfl)
  have F0 := fun (w' : World) (h : Bel W1 w') => (KR.out.bel h).frozen 0
  have F1 := fun (w' : World) (h : Bel W1 w') => (KR.out.bel h).frozen 1
  refine wp_region_T (fun w' => Bel W1 w') (fun j => j == 9 || j == 10) (by kernel_rfl) ?_
  refine wpAnyU_take (i := 0) (v := ?v0) rfl (by kernel_rfl) (by kernel_rfl) (by kernel_rfl) (by kernel_rfl) (fun _ _ _ h => h) ?hy0 SD ?rest0
  case hy0 => first | (refine Or.inl ⟨by rfl, ?_⟩; (intro w' hSw; go_simp) <;> with_reducible rfl) | (refine Or.inr ⟨by rfl, ?_⟩; with_reducible rfl)
  try simp only [List.getElem_toArray, List.getElem_cons_zero, List.getElem_cons_succ, Act.put, List.setIfInBounds_toArray, List.set_cons_zero, List.set_cons_succ]
  refine wpAnyU_take (i := 1) (v := ?v1) rfl (by kernel_rfl) (by kernel_rfl) (by kernel_rfl) (by kernel_rfl) (fun _ _ _ h => h) ?hy1 SD ?rest1
  case hy1 => first | (refine Or.inl ⟨by rfl, ?_⟩; (intro w' hSw; go_simp) <;> with_reducible rfl) | (refine Or.inr ⟨by rfl, ?_⟩; with_reducible rfl)
  try simp only [List.getElem_toArray, List.getElem_cons_zero, List.getElem_cons_succ, Act.put, List.setIfInBounds_toArray, List.set_cons_zero, List.set_cons_succ]
  refine wpAnyU_take (i := 2) (v := ?v2) rfl (by kernel_rfl) (by kernel_rfl) (by kernel_rfl) (by kernel_rfl) (fun _ _ _ h => h) ?hy2 SD ?rest2
  case hy2 => first | (refine Or.inl ⟨by rfl, ?_⟩; (intro w' hSw; go_simp) <;> with_reducible rfl) | (refine Or.inr ⟨by rfl, ?_⟩; with_reducible rfl)
  try simp only [List.getElem_toArray, List.getElem_cons_zero, List.getElem_cons_succ, Act.put, List.setIfInBounds_toArray, List.set_cons_zero, List.set_cons_succ]
  refine wpAnyU_take (i := 3) (v := ?v3) rfl (by kernel_rfl) (by kernel_rfl) (by kernel_rfl) (by kernel_rfl) (fun _ _ _ h => h) ?hy3 SD ?rest3
  case hy3 => first | (refine Or.inl ⟨by rfl, ?_⟩; (intro w' hSw; go_simp) <;> with_reducible rfl) | (refine Or.inr ⟨by rfl, ?_⟩; with_reducible rfl)
  try simp only [List.getElem_toArray, List.getElem_cons_zero, List.getElem_cons_succ, Act.put, List.setIfInBounds_toArray, List.set_cons_zero, List.set_cons_succ]
  refine wpAnyU_take (i := 4) (v := ?v4) rfl (by kernel_rfl) (by kernel_rfl) (by kernel_rfl) (by kernel_rfl) (fun _ _ _ h => h) ?hy4 SD ?rest4
  case hy4 => first | (refine Or.inl ⟨by rfl, ?_⟩; (intro w' hSw; go_simp) <;> with_reducible rfl) | (refine Or.inr ⟨by rfl, ?_⟩; with_reducible rfl)
  try simp only [List.getElem_toArray, List.getElem_cons_zero, List.getElem_cons_succ, Act.put, List.setIfInBounds_toArray, List.set_cons_zero, List.set_cons_succ]
  refine wpAnyT_one (i := 5) (by kernel_rfl) rfl (fun K hK => ?_)
  go_simp
  go_at_call 27
  refine (door_any t dv ev _ hdv).mono ?_
  rintro en w5 ⟨rfl, hb5⟩
  have S5 : Bel W1 w5 := SD.trans hb5
  dsimp only
  refine hK.out _ _ (fun _ => S5) ?_
  clear hK K
  try simp only [List.getElem_toArray, List.getElem_cons_zero, List.getElem_cons_succ, Act.put, List.setIfInBounds_toArray, List.set_cons_zero, List.set_cons_succ]
  refine wpAnyT_one (i := 6) (by kernel_rfl) rfl (fun K hK => ?_)
  go_simp
  go_at_call 30
  refine (Patch_any cap A nn c l pl dv _ (HS.out.mono BlkR.mono S5) hn hwf cap' l' nl e' hr hnl).mono ?_
  rintro en w6 ⟨A6, c6, rfl, s6, hb6⟩
  have S6 : Bel W1 w6 := S5.trans hb6
  have SS6 := Lib.hid (s6.down (Nat.le_trans hR S5.size))
  clear s6
  dsimp only
  refine hK.out _ _ (fun _ => S6) ?_
  clear hK K
  try simp only [List.getElem_toArray, List.getElem_cons_zero, List.getElem_cons_succ, Act.put, List.setIfInBounds_toArray, List.set_cons_zero, List.set_cons_succ]
  refine wpAnyU_take (i := 7) (v := ?v7) rfl (by kernel_rfl) (by kernel_rfl) (by kernel_rfl) (by kernel_rfl) (fun _ _ _ h => h) ?hy7 S6 ?rest7
  case hy7 => first | (refine Or.inl ⟨by rfl, ?_⟩; (intro w' hSw; go_simp) <;> with_reducible rfl) | (refine Or.inr ⟨by rfl, ?_⟩; with_reducible rfl)
  try simp only [List.getElem_toArray, List.getElem_cons_zero, List.getElem_cons_succ, Act.put, List.setIfInBounds_toArray, List.set_cons_zero, List.set_cons_succ]
  refine wpAnyU_take (i := 8) (v := ?v8) rfl (by kernel_rfl) (by kernel_rfl) (by kernel_rfl) (by kernel_rfl) (fun _ _ _ h => h) ?hy8 S6 ?rest8
  case hy8 => first | (refine Or.inl ⟨by rfl, ?_⟩; (intro w' hSw; go_simp) <;> with_reducible rfl) | (refine Or.inr ⟨by rfl, ?_⟩; with_reducible rfl)
  try simp only [List.getElem_toArray, List.getElem_cons_zero, List.getElem_cons_succ, Act.put, List.setIfInBounds_toArray, List.set_cons_zero, List.set_cons_succ]
  refine wpAnyT_one (i := 9) (by kernel_rfl) rfl (fun K hK => ?_)
  go_simp
  refine hK.out _ _ (fun h => absurd h (by decide)) ?_
  clear hK K
  try simp only [List.getElem_toArray, List.getElem_cons_zero, List.getElem_cons_succ, Act.put, List.setIfInBounds_toArray, List.set_cons_zero, List.set_cons_succ]
  refine wpAnyT_one (i := 10) (by kernel_rfl) rfl (fun K hK => ?_)
  go_simp
  refine hK.out _ _ (fun h => absurd h (by decide)) ?_
  clear hK K
  try simp only [List.getElem_toArray, List.getElem_cons_zero, List.getElem_cons_succ, Act.put, List.setIfInBounds_toArray, List.set_cons_zero, List.set_cons_succ]
  refine wpAnyT_done (by kernel_rfl) ?_ _
  refine NoPanic.normal ?_
  have KR6 := KR.out.bel S6
  obtain ⟨E0, E1⟩ := res_two KR6 (.int .i64 cap') (.slice A6 nl c6)
  have HSE := Lib.hid (SS6.out.abv (((Abv.refl (g + 1 + 1) w6).set (p := ⟨g + 1, 0, none⟩) (by simp only; omega) (.int .i64 cap')).set (p := ⟨g + 1, 1, none⟩) (by simp only; omega) (.slice A6 nl c6))).sl
  have HFE := Lib.hid (((HB0.out.trans S6).setCell (p := ⟨g + 1, 0, none⟩) (by simp only; omega) (.int .i64 cap')).setCell (p := ⟨g + 1, 1, none⟩) (by simp only; omega) (.slice A6 nl c6))
  have E0 := Lib.hid E0
  have E1 := Lib.hid E1
  clear SD HRR S5 S6 M0 M1 R0 R1 F0 F1 KR6
  go_wp2_with fail
  refine bodyPost_ret (v := .tuple #[.agg #[.int .i64 cap', .slice A6 nl c6], .int .i64 e']) ?_ rfl ⟨A6, c6, rfl, HSE.out, HFE.out⟩
  have k0 := E0.out
  have k1 := E1.out
  simp [results, Try.results13, go_sem, k0, k1]
set_option maxHeartbeats 4000000 in
set_option maxRecDepth 100000 in
theorem rturn_bad (cap : Int) (A : Option Addr) (nn c : Nat) (l : List BlkD) (base fn t : Int) (w : World) (hbad : fn < 0 ∨ 8 ≤ fn ∨ t < 0 ∨ 1023 < t) :
    Calls Try.prog 22 #[.agg #[.int .i64 cap, .slice A nn c], .int .i64 base, .int .i64 fn, .int .i64 t] w fun e w' => ∃ A' c', e = .returned (.tuple #[.agg #[.int .i64 0, .slice A' 0 c'], .int .i64 1]) ∧ Sl BlkR 3 w' A' c' [] ∧ Bel w w' := by
  have HB0 := Lib.hid (((Bel.refl w).alloc (.cells #[.int .i64 cap, .slice A nn c] 45)).alloc (.cells #[.int .i64 0, .slice none 0 0] 45))
  by_cases h1 : fn < 0
  · clear hbad
    go_enter Try.func22, Try.ntmps22
    go_wp2_with fail
    refine bodyPost_ret (v := .tuple #[.agg #[.int .i64 0, .slice none 0 0], .int .i64 1]) ?_ rfl ⟨none, 0, rfl, Sl.nil _ _ _, by repeat (first | exact HB0.out | refine Bel.setCell ?_ (by simp) _)⟩
    simp [results, Try.results22, go_sem]
  by_cases h2 : 7 < fn
  · clear hbad
    go_enter Try.func22, Try.ntmps22
    go_wp2_with fail
    refine bodyPost_ret (v := .tuple #[.agg #[.int .i64 0, .slice none 0 0], .int .i64 1]) ?_ rfl ⟨none, 0, rfl, Sl.nil _ _ _, by repeat (first | exact HB0.out | refine Bel.setCell ?_ (by simp) _)⟩
    simp [results, Try.results22, go_sem]
  by_cases h3 : t < 0
  · clear hbad
    go_enter Try.func22, Try.ntmps22
    go_wp2_with fail
    refine bodyPost_ret (v := .tuple #[.agg #[.int .i64 0, .slice none 0 0], .int .i64 1]) ?_ rfl ⟨none, 0, rfl, Sl.nil _ _ _, by repeat (first | exact HB0.out | refine Bel.setCell ?_ (by simp) _)⟩
    simp [results, Try.results22, go_sem]
  have h4 : 1023 < t := by omega
  clear hbad
  go_enter Try.func22, Try.ntmps22
  go_wp2_with fail
  refine bodyPost_ret (v := .tuple #[.agg #[.int .i64 0, .slice none 0 0], .int .i64 1]) ?_ rfl ⟨none, 0, rfl, Sl.nil _ _ _, by repeat (first | exact HB0.out | refine Bel.setCell ?_ (by simp) _)⟩
  simp [results, Try.results22, go_sem]
set_option maxHeartbeats 8000000 in
set_option maxRecDepth 100000 in
theorem rturn_w (cap : Int) (A : Option Addr) (nn c : Nat) (l : List BlkD) (base fn t : Int) (w : World) (h : Sl BlkR 3 w A c l) (hn : Hid (l.length = nn)) (hlen : Hid (∀ i, i < l.length → (l[i]!).w.length ≤ 4000)) (pl : Int) (hpl : pl ≤ 9223372036854775807) (eb : IntKind.i64.wrap (base + fn) = pl) (h1 : ¬ fn < 0) (h2 : ¬ 8 ≤ fn) (h3 : ¬ t < 0) (h4 : ¬ 1023 < t) (dv ev : Int) (hdv : Hid (wput 1 0 0 0 false 0 0 t = (dv, ev))) (hwf : Hid ((Lit.int .u64 dv).wf = true)) (cap' : Int) (l' : List BlkD) (nl : Nat) (e' : Int) (hr : Hid (patchM ⟨cap, l⟩ pl dv = (⟨cap', l'⟩, e'))) (hnl : Hid (l'.length = nl)) :
    Calls Try.prog 22 #[.agg #[.int .i64 cap, .slice A nn c], .int .i64 base, .int .i64 fn, .int .i64 t] w fun e w' => ∃ A' c', e = .returned (.tuple #[.agg #[.int .i64 cap', .slice A' nl c'], .int .i64 e']) ∧ Sl BlkR 3 w' A' c' l' ∧ Bel w w' := by
  have HB0 := Lib.hid (((Bel.refl w).alloc (.cells #[.int .i64 cap, .slice A nn c] 45)).alloc (.cells #[.int .i64 0, .slice none 0 0] 45))
  have HS := Lib.hid (h.mono BlkR.mono HB0.out)
  have KM := Lib.hid ((Blk.new w 45 #[.int .i64 cap, .slice A nn c]).bel ((Bel.refl _).alloc (.cells #[.int .i64 0, .slice none 0 0] 45)))
  have KR : Hid (Blk ((w.alloc (.cells #[.int .i64 cap, .slice A nn c] 45)).alloc (.cells #[.int .i64 0, .slice none 0 0] 45)) (w.heap.size + 1) 45 #[.int .i64 0, .slice none 0 0]) := Lib.hid (by
    have := Blk.new (w.alloc (.cells #[.int .i64 cap, .slice A nn c] 45)) 45 #[.int .i64 0, .slice none 0 0]
    rwa [World.size_alloc] at this)
  have hR0 : w.heap.size + 1 < ((w.alloc (.cells #[.int .i64 cap, .slice A nn c] 45)).alloc (.cells #[.int .i64 0, .slice none 0 0] 45)).heap.size := by simp
  have h27 : ¬ 7 < fn := by omega
  clear h h2
  go_enter Try.func22, Try.ntmps22
  go_wp2_with fail
  generalize (w.alloc (.cells #[.int .i64 cap, .slice A nn c] 45)).alloc (.cells #[.int .i64 0, .slice none 0 0] 45) = W0 at *
  obtain ⟨g, hg⟩ : ∃ g, w.heap.size = g := ⟨_, rfl⟩
  rw [hg] at KM KR hR0
  simp only [hg]
  have hwg : w.heap.size ≤ g := by omega
  clear hg
  have hR : g + 2 ≤ W0.heap.size := hR0
  have SD := (Bel.refl W0).drew
  have M0 := fun (w' : World) (h : Bel W0 w') => h.cell (KM.out.cell 0 (v := .int .i64 cap) rfl)
  have M1 := fun (w' : World) (h : Bel W0 w') => h.cell (KM.out.cell 1 (v := .slice A nn c) rfl)
  refine wp_region_T (fun w' => Bel W0 w') (fun _ => false) (by kernel_rfl) ?_
  refine wpAnyU_take (i := 0) (v := ?v0) rfl (by kernel_rfl) (by kernel_rfl) (by kernel_rfl) (by kernel_rfl) (fun _ _ _ h => h) ?hy0 SD ?rest0
  case hy0 => first | (refine Or.inl ⟨by rfl, ?_⟩; (intro w' hSw; go_simp) <;> with_reducible rfl) | (refine Or.inr ⟨by rfl, ?_⟩; with_reducible rfl)
  try simp only [List.getElem_toArray, List.getElem_cons_zero, List.getElem_cons_succ, Act.put, List.setIfInBounds_toArray, List.set_cons_zero, List.set_cons_succ]
  refine wpAnyU_take (i := 1) (v := ?v1) rfl (by kernel_rfl) (by kernel_rfl) (by kernel_rfl) (by kernel_rfl) (fun _ _ _ h => h) ?hy1 SD ?rest1
  case hy1 => first | (refine Or.inl ⟨by rfl, ?_⟩; (intro w' hSw; go_simp) <;> with_reducible rfl) | (refine Or.inr ⟨by rfl, ?_⟩; with_reducible rfl)
  try simp only [List.getElem_toArray, List.getElem_cons_zero, List.getElem_cons_succ, Act.put, List.setIfInBounds_toArray, List.set_cons_zero, List.set_cons_succ]
  refine wpAnyU_take (i := 2) (v := ?v2) rfl (by kernel_rfl) (by kernel_rfl) (by kernel_rfl) (by kernel_rfl) (fun _ _ _ h => h) ?hy2 SD ?rest2
  case hy2 => first | (refine Or.inl ⟨by rfl, ?_⟩; (intro w' hSw; go_simp) <;> with_reducible rfl) | (refine Or.inr ⟨by rfl, ?_⟩; with_reducible rfl)
  try simp only [List.getElem_toArray, List.getElem_cons_zero, List.getElem_cons_succ, Act.put, List.setIfInBounds_toArray, List.set_cons_zero, List.set_cons_succ]
  refine wpAnyU_take (i := 3) (v := ?v3) rfl (by kernel_rfl) (by kernel_rfl) (by kernel_rfl) (by kernel_rfl) (fun _ _ _ h => h) ?hy3 SD ?rest3
  case hy3 => first | (refine Or.inl ⟨by rfl, ?_⟩; (intro w' hSw; go_simp) <;> with_reducible rfl) | (refine Or.inr ⟨by rfl, ?_⟩; with_reducible rfl)
  try simp only [List.getElem_toArray, List.getElem_cons_zero, List.getElem_cons_succ, Act.put, List.setIfInBounds_toArray, List.set_cons_zero, List.set_cons_succ]
  refine wpAnyU_take (i := 4) (v := ?v4) rfl (by kernel_rfl) (by kernel_rfl) (by kernel_rfl) (by kernel_rfl) (fun _ _ _ h => h) ?hy4 SD ?rest4
  case hy4 => first | (refine Or.inl ⟨by rfl, ?_⟩; (intro w' hSw; go_simp) <;> with_reducible rfl) | (refine Or.inr ⟨by rfl, ?_⟩; with_reducible rfl)
  try simp only [List.getElem_toArray, List.getElem_cons_zero, List.getElem_cons_succ, Act.put, List.setIfInBounds_toArray, List.set_cons_zero, List.set_cons_succ]
  refine wpAnyT_two (i := 5) (j := 10) (by kernel_rfl) rfl rfl (fun K hK => ?_) (fun K hK => ?_)
  · go_simp
    go_at_call 34
    refine (rdoor_any t dv ev _ hdv).mono ?_
    rintro en w5 ⟨rfl, hb5⟩
    have S5 : Bel W0 w5 := SD.trans hb5
    dsimp only
    refine hK.out _ _ (fun _ => S5) ?_
    clear hK K
    try simp only [List.getElem_toArray, List.getElem_cons_zero, List.getElem_cons_succ, Act.put, List.setIfInBounds_toArray, List.set_cons_zero, List.set_cons_succ]
    refine wpAnyT_two (i := 6) (j := 10) (by kernel_rfl) rfl rfl (fun K hK => ?_) (fun K hK => ?_)
    · go_simp
      go_at_call 41
      refine (patch13_any cap A nn c l pl dv _ (HS.out.mono BlkR.mono S5) hn hlen (Lib.hid hpl) hwf cap' l' nl e' hr hnl).mono ?_
      rintro en w3 ⟨A3, c3, rfl, s3, hb3⟩
      have hWc : Bel W0 w3 := (S5).trans hb3
      have hsz3 := hb3.size
      dsimp only
      have bG2 := Blk.new w3 45 #[.int .i64 cap', .slice A3 nl c3]
      have hs3 := s3.bel ((Bel.refl w3).alloc (.cells #[.int .i64 cap', .slice A3 nl c3] 45))
      have HWW := hWc.alloc (.cells #[.int .i64 cap', .slice A3 nl c3] 45)
      refine hK.out _ _ (fun _ => hWc) ?_
      clear hK K
      try simp only [List.getElem_toArray, List.getElem_cons_zero, List.getElem_cons_succ, Act.put, List.setIfInBounds_toArray, List.set_cons_zero, List.set_cons_succ]
      refine wpAnyU_take (i := 7) (v := ?v7b) rfl (by kernel_rfl) (by kernel_rfl) (by kernel_rfl) (by kernel_rfl) (fun _ _ _ h => h) ?hy7b hWc ?rest7b
      case hy7b => first | (refine Or.inl ⟨by rfl, ?_⟩; (intro w' hSw; go_simp) <;> with_reducible rfl) | (refine Or.inr ⟨by rfl, ?_⟩; with_reducible rfl)
      try simp only [List.getElem_toArray, List.getElem_cons_zero, List.getElem_cons_succ, Act.put, List.setIfInBounds_toArray, List.set_cons_zero, List.set_cons_succ]
      refine wpAnyU_take (i := 8) (v := ?v8b) rfl (by kernel_rfl) (by kernel_rfl) (by kernel_rfl) (by kernel_rfl) (fun _ _ _ h => h) ?hy8b hWc ?rest8b
      case hy8b => first | (refine Or.inl ⟨by rfl, ?_⟩; (intro w' hSw; go_simp) <;> with_reducible rfl) | (refine Or.inr ⟨by rfl, ?_⟩; with_reducible rfl)
      try simp only [List.getElem_toArray, List.getElem_cons_zero, List.getElem_cons_succ, Act.put, List.setIfInBounds_toArray, List.set_cons_zero, List.set_cons_succ]
      refine wpAnyU_take (i := 9) (v := ?v9b) rfl (by kernel_rfl) (by kernel_rfl) (by kernel_rfl) (by kernel_rfl) (fun _ _ _ h => h) ?hy9b hWc ?rest9b
      case hy9b => first | (refine Or.inl ⟨by rfl, ?_⟩; (intro w' hSw; go_simp) <;> with_reducible rfl) | (refine Or.inr ⟨by rfl, ?_⟩; with_reducible rfl)
      try simp only [List.getElem_toArray, List.getElem_cons_zero, List.getElem_cons_succ, Act.put, List.setIfInBounds_toArray, List.set_cons_zero, List.set_cons_succ]
      refine wpAnyT_one (i := 10) (by kernel_rfl) rfl (fun K hK => ?_)
      go_simp
      refine hK.out _ _ (fun _ => hWc.alloc _) ?_
      clear hK K
      try simp only [List.getElem_toArray, List.getElem_cons_zero, List.getElem_cons_succ, Act.put, List.setIfInBounds_toArray, List.set_cons_zero, List.set_cons_succ]
      refine wpAnyT_one (i := 11) (by kernel_rfl) rfl (fun K hK => ?_)
      go_simp
      refine hK.out _ _ (fun _ => HWW) ?_
      clear hK K
      try simp only [List.getElem_toArray, List.getElem_cons_zero, List.getElem_cons_succ, Act.put, List.setIfInBounds_toArray, List.set_cons_zero, List.set_cons_succ]
      refine wpAnyU_take (i := 12) (v := ?v12b) rfl (by kernel_rfl) (by kernel_rfl) (by kernel_rfl) (by kernel_rfl) (fun _ _ _ h => h) ?hy12b HWW ?rest12b
      case hy12b => first | (refine Or.inl ⟨by rfl, ?_⟩; (intro w' hSw; go_simp) <;> with_reducible rfl) | (refine Or.inr ⟨by rfl, ?_⟩; with_reducible rfl)
      try simp only [List.getElem_toArray, List.getElem_cons_zero, List.getElem_cons_succ, Act.put, List.setIfInBounds_toArray, List.set_cons_zero, List.set_cons_succ]
      refine wpAnyT_done (by kernel_rfl) ?_ _
      refine NoPanic.normal ?_
      have HS3 := Lib.hid (hs3.down (Nat.le_trans hR (S5).size))
      have HBG := Lib.hid bG2
      have HWF := Lib.hid HWW
      clear HWW
      clear hs3 bG2 hWc s3 hb3 hsz3 SD
      generalize w3.alloc (.cells #[.int .i64 cap', .slice A3 nl c3] 45) = Wf at *
      generalize w3.heap.size = G at *
      have KRf := KR.out.bel HWF.out
      have v0 := HBG.out.cell 0 (v := .int .i64 cap') rfl
      have v1 := HBG.out.cell 1 (v := .slice A3 nl c3) rfl
      have r0 := KRf.cell 0 (v := .int .i64 0) rfl
      have r1 := KRf.cell 1 (v := .slice none 0 0) rfl
      have fr0 := KRf.frozen 0
      have fr1 := KRf.frozen 1
      obtain ⟨e0, e1⟩ := res_two KRf (.int .i64 cap') (.slice A3 nl c3)
      have HSE := Lib.hid (HS3.out.abv (((Abv.refl (g + 2) _).set (p := ⟨g + 1, 0, none⟩) (by simp only; omega) (.int .i64 cap')).set (p := ⟨g + 1, 1, none⟩) (by simp only; omega) (.slice A3 nl c3))).sl
      have HFE := Lib.hid (((HB0.out.trans HWF.out).setCell (p := ⟨g + 1, 0, none⟩) (by simp only; omega) (.int .i64 cap')).setCell (p := ⟨g + 1, 1, none⟩) (by simp only; omega) (.slice A3 nl c3))
      have E0 := Lib.hid e0
      have E1 := Lib.hid e1
      clear e0 e1 KRf M0 M1
      go_wp2_with fail
      refine bodyPost_ret (v := .tuple #[.agg #[.int .i64 cap', .slice A3 nl c3], .int .i64 e']) ?_ rfl ⟨A3, c3, rfl, HSE.out, HFE.out⟩
      have k0 := E0.out
      have k1 := E1.out
      simp [results, Try.results22, go_sem, k0, k1]
    · go_simp
      refine hK.out _ _ (fun _ => (S5.alloc (.cells #[.int .i64 0, .slice none 0 0] 45))) ?_
      clear hK K
      try simp only [List.getElem_toArray, List.getElem_cons_zero, List.getElem_cons_succ, Act.put, List.setIfInBounds_toArray, List.set_cons_zero, List.set_cons_succ]
      refine wpAnyT_one (i := 6) (by kernel_rfl) rfl (fun K hK => ?_)
      go_simp
      go_at_call 41
      refine (patch13_any cap A nn c l pl dv _ (HS.out.mono BlkR.mono (S5.alloc (.cells #[.int .i64 0, .slice none 0 0] 45))) hn hlen (Lib.hid hpl) hwf cap' l' nl e' hr hnl).mono ?_
      rintro en w3 ⟨A3, c3, rfl, s3, hb3⟩
      have hWc : Bel W0 w3 := ((S5.alloc (.cells #[.int .i64 0, .slice none 0 0] 45))).trans hb3
      have hsz3 := hb3.size
      dsimp only
      have hs5 := S5.size
      have bG : Blk w3 (w5.heap.size) 45 #[.int .i64 0, .slice none 0 0] := (Blk.new w5 45 #[.int .i64 0, .slice none 0 0]).bel hb3
      have d0 := bG.cell 0 (v := .int .i64 0) rfl
      have d1 := bG.cell 1 (v := .slice none 0 0) rfl
      have z0 := bG.frozen 0
      have z1 := bG.frozen 1
      have bG2 := (bG.set 0 (.int .i64 cap')).set 1 (.slice A3 nl c3)
      have hs3 := s3.abv (((Abv.refl _ w3).set (p := ⟨w5.heap.size, 0, none⟩) (by simp; try omega) (.int .i64 cap')).set (p := ⟨w5.heap.size, 1, none⟩) (by simp; try omega) (.slice A3 nl c3))
      have HWW := (hWc.setCell (p := ⟨w5.heap.size, 0, none⟩) (by simp only; omega) (.int .i64 cap')).setCell (p := ⟨w5.heap.size, 1, none⟩) (by simp only; omega) (.slice A3 nl c3)

      refine hK.out _ _ (fun _ => hWc) ?_
      clear hK K
      try simp only [List.getElem_toArray, List.getElem_cons_zero, List.getElem_cons_succ, Act.put, List.setIfInBounds_toArray, List.set_cons_zero, List.set_cons_succ]
      refine wpAnyU_take (i := 7) (v := ?v7c) rfl (by kernel_rfl) (by kernel_rfl) (by kernel_rfl) (by kernel_rfl) (fun _ _ _ h => h) ?hy7c hWc ?rest7c
      case hy7c => first | (refine Or.inl ⟨by rfl, ?_⟩; (intro w' hSw; go_simp) <;> with_reducible rfl) | (refine Or.inr ⟨by rfl, ?_⟩; with_reducible rfl)
      try simp only [List.getElem_toArray, List.getElem_cons_zero, List.getElem_cons_succ, Act.put, List.setIfInBounds_toArray, List.set_cons_zero, List.set_cons_succ]
      refine wpAnyU_take (i := 8) (v := ?v8c) rfl (by kernel_rfl) (by kernel_rfl) (by kernel_rfl) (by kernel_rfl) (fun _ _ _ h => h) ?hy8c hWc ?rest8c
      case hy8c => first | (refine Or.inl ⟨by rfl, ?_⟩; (intro w' hSw; go_simp) <;> with_reducible rfl) | (refine Or.inr ⟨by rfl, ?_⟩; with_reducible rfl)
      try simp only [List.getElem_toArray, List.getElem_cons_zero, List.getElem_cons_succ, Act.put, List.setIfInBounds_toArray, List.set_cons_zero, List.set_cons_succ]
      refine wpAnyU_take (i := 9) (v := ?v9c) rfl (by kernel_rfl) (by kernel_rfl) (by kernel_rfl) (by kernel_rfl) (fun _ _ _ h => h) ?hy9c hWc ?rest9c
      case hy9c => first | (refine Or.inl ⟨by rfl, ?_⟩; (intro w' hSw; go_simp) <;> with_reducible rfl) | (refine Or.inr ⟨by rfl, ?_⟩; with_reducible rfl)
      try simp only [List.getElem_toArray, List.getElem_cons_zero, List.getElem_cons_succ, Act.put, List.setIfInBounds_toArray, List.set_cons_zero, List.set_cons_succ]
      refine wpAnyT_one (i := 11) (by kernel_rfl) rfl (fun K hK => ?_)
      go_simp
      refine hK.out _ _ (fun _ => HWW) ?_
      clear hK K
      try simp only [List.getElem_toArray, List.getElem_cons_zero, List.getElem_cons_succ, Act.put, List.setIfInBounds_toArray, List.set_cons_zero, List.set_cons_succ]
      refine wpAnyU_take (i := 12) (v := ?v12c) rfl (by kernel_rfl) (by kernel_rfl) (by kernel_rfl) (by kernel_rfl) (fun _ _ _ h => h) ?hy12c HWW ?rest12c
      case hy12c => first | (refine Or.inl ⟨by rfl, ?_⟩; (intro w' hSw; go_simp) <;> with_reducible rfl) | (refine Or.inr ⟨by rfl, ?_⟩; with_reducible rfl)
      try simp only [List.getElem_toArray, List.getElem_cons_zero, List.getElem_cons_succ, Act.put, List.setIfInBounds_toArray, List.set_cons_zero, List.set_cons_succ]
      refine wpAnyT_done (by kernel_rfl) ?_ _
      refine NoPanic.normal ?_
      have HS3 := Lib.hid (hs3.down (Nat.le_trans hR ((S5.alloc (.cells #[.int .i64 0, .slice none 0 0] 45))).size))
      have HBG := Lib.hid bG2
      have HWF := Lib.hid HWW
      clear HWW
      clear d0 d1 z0 z1 bG
      clear hs3 bG2 hWc s3 hb3 hsz3 SD
      generalize (w3.setCell ⟨w5.heap.size, 0, none⟩ (.int .i64 cap')).setCell ⟨w5.heap.size, 1, none⟩ (.slice A3 nl c3) = Wf at *
      generalize w5.heap.size = G at *
      have KRf := KR.out.bel HWF.out
      have v0 := HBG.out.cell 0 (v := .int .i64 cap') rfl
      have v1 := HBG.out.cell 1 (v := .slice A3 nl c3) rfl
      have r0 := KRf.cell 0 (v := .int .i64 0) rfl
      have r1 := KRf.cell 1 (v := .slice none 0 0) rfl
      have fr0 := KRf.frozen 0
      have fr1 := KRf.frozen 1
      obtain ⟨e0, e1⟩ := res_two KRf (.int .i64 cap') (.slice A3 nl c3)
      have HSE := Lib.hid (HS3.out.abv (((Abv.refl (g + 2) _).set (p := ⟨g + 1, 0, none⟩) (by simp only; omega) (.int .i64 cap')).set (p := ⟨g + 1, 1, none⟩) (by simp only; omega) (.slice A3 nl c3))).sl
      have HFE := Lib.hid (((HB0.out.trans HWF.out).setCell (p := ⟨g + 1, 0, none⟩) (by simp only; omega) (.int .i64 cap')).setCell (p := ⟨g + 1, 1, none⟩) (by simp only; omega) (.slice A3 nl c3))
      have E0 := Lib.hid e0
      have E1 := Lib.hid e1
      clear e0 e1 KRf M0 M1
      go_wp2_with fail
      refine bodyPost_ret (v := .tuple #[.agg #[.int .i64 cap', .slice A3 nl c3], .int .i64 e']) ?_ rfl ⟨A3, c3, rfl, HSE.out, HFE.out⟩
      have k0 := E0.out
      have k1 := E1.out
      simp [results, Try.results22, go_sem, k0, k1]
  · go_simp
    refine hK.out _ _ (fun _ => ((Bel.refl W0).drew.alloc (.cells #[.int .i64 0, .slice none 0 0] 45))) ?_
    clear hK K
    try simp only [List.getElem_toArray, List.getElem_cons_zero, List.getElem_cons_succ, Act.put, List.setIfInBounds_toArray, List.set_cons_zero, List.set_cons_succ]
    refine wpAnyT_one (i := 5) (by kernel_rfl) rfl (fun K hK => ?_)
    go_simp
    go_at_call 34
    refine (rdoor_any t dv ev _ hdv).mono ?_
    rintro en w5 ⟨rfl, hb5⟩
    have S5 : Bel W0 w5 := ((Bel.refl W0).drew.alloc (.cells #[.int .i64 0, .slice none 0 0] 45)).trans hb5
    dsimp only

    refine hK.out _ _ (fun _ => S5) ?_
    clear hK K
    try simp only [List.getElem_toArray, List.getElem_cons_zero, List.getElem_cons_succ, Act.put, List.setIfInBounds_toArray, List.set_cons_zero, List.set_cons_succ]
    refine wpAnyT_one (i := 6) (by kernel_rfl) rfl (fun K hK => ?_)
    go_simp
    go_at_call 41
    refine (patch13_any cap A nn c l pl dv _ (HS.out.mono BlkR.mono S5) hn hlen (Lib.hid hpl) hwf cap' l' nl e' hr hnl).mono ?_
    rintro en w3 ⟨A3, c3, rfl, s3, hb3⟩
    have hWc : Bel W0 w3 := (S5).trans hb3
    have hsz3 := hb3.size
    dsimp only
    have hs5 := S5.size
    have hlt5 : W0.heap.size < w5.heap.size := by
      have := hb5.size
      simp at this
      omega
    have bG : Blk w3 (W0.heap.size) 45 #[.int .i64 0, .slice none 0 0] := by have := ((Blk.new W0.drew 45 #[.int .i64 0, .slice none 0 0]).bel hb5).bel hb3; simpa using this
    have d0 := bG.cell 0 (v := .int .i64 0) rfl
    have d1 := bG.cell 1 (v := .slice none 0 0) rfl
    have z0 := bG.frozen 0
    have z1 := bG.frozen 1
    have bG2 := (bG.set 0 (.int .i64 cap')).set 1 (.slice A3 nl c3)
    have hs3 := s3.abv (((Abv.refl _ w3).set (p := ⟨W0.heap.size, 0, none⟩) (by simp; try omega) (.int .i64 cap')).set (p := ⟨W0.heap.size, 1, none⟩) (by simp; try omega) (.slice A3 nl c3))
    have HWW := (hWc.setCell (p := ⟨W0.heap.size, 0, none⟩) (by simp only; omega) (.int .i64 cap')).setCell (p := ⟨W0.heap.size, 1, none⟩) (by simp only; omega) (.slice A3 nl c3)

    refine hK.out _ _ (fun _ => hWc) ?_
    clear hK K
    try simp only [List.getElem_toArray, List.getElem_cons_zero, List.getElem_cons_succ, Act.put, List.setIfInBounds_toArray, List.set_cons_zero, List.set_cons_succ]
    refine wpAnyU_take (i := 7) (v := ?v7a) rfl (by kernel_rfl) (by kernel_rfl) (by kernel_rfl) (by kernel_rfl) (fun _ _ _ h => h) ?hy7a hWc ?rest7a
    case hy7a => first | (refine Or.inl ⟨by rfl, ?_⟩; (intro w' hSw; go_simp) <;> with_reducible rfl) | (refine Or.inr ⟨by rfl, ?_⟩; with_reducible rfl)
    try simp only [List.getElem_toArray, List.getElem_cons_zero, List.getElem_cons_succ, Act.put, List.setIfInBounds_toArray, List.set_cons_zero, List.set_cons_succ]
    refine wpAnyU_take (i := 8) (v := ?v8a) rfl (by kernel_rfl) (by kernel_rfl) (by kernel_rfl) (by kernel_rfl) (fun _ _ _ h => h) ?hy8a hWc ?rest8a
    case hy8a => first | (refine Or.inl ⟨by rfl, ?_⟩; (intro w' hSw; go_simp) <;> with_reducible rfl) | (refine Or.inr ⟨by rfl, ?_⟩; with_reducible rfl)
    try simp only [List.getElem_toArray, List.getElem_cons_zero, List.getElem_cons_succ, Act.put, List.setIfInBounds_toArray, List.set_cons_zero, List.set_cons_succ]
    refine wpAnyU_take (i := 9) (v := ?v9a) rfl (by kernel_rfl) (by kernel_rfl) (by kernel_rfl) (by kernel_rfl) (fun _ _ _ h => h) ?hy9a hWc ?rest9a
    case hy9a => first | (refine Or.inl ⟨by rfl, ?_⟩; (intro w' hSw; go_simp) <;> with_reducible rfl) | (refine Or.inr ⟨by rfl, ?_⟩; with_reducible rfl)
    try simp only [List.getElem_toArray, List.getElem_cons_zero, List.getElem_cons_succ, Act.put, List.setIfInBounds_toArray, List.set_cons_zero, List.set_cons_succ]
    refine wpAnyT_one (i := 11) (by kernel_rfl) rfl (fun K hK => ?_)
    go_simp
    refine hK.out _ _ (fun _ => HWW) ?_
    clear hK K
    try simp only [List.getElem_toArray, List.getElem_cons_zero, List.getElem_cons_succ, Act.put, List.setIfInBounds_toArray, List.set_cons_zero, List.set_cons_succ]
    refine wpAnyU_take (i := 12) (v := ?v12a) rfl (by kernel_rfl) (by kernel_rfl) (by kernel_rfl) (by kernel_rfl) (fun _ _ _ h => h) ?hy12a HWW ?rest12a
    case hy12a => first | (refine Or.inl ⟨by rfl, ?_⟩; (intro w' hSw; go_simp) <;> with_reducible rfl) | (refine Or.inr ⟨by rfl, ?_⟩; with_reducible rfl)
    try simp only [List.getElem_toArray, List.getElem_cons_zero, List.getElem_cons_succ, Act.put, List.setIfInBounds_toArray, List.set_cons_zero, List.set_cons_succ]
    refine wpAnyT_done (by kernel_rfl) ?_ _
    refine NoPanic.normal ?_
    have HS3 := Lib.hid (hs3.down (Nat.le_trans hR (S5).size))
    have HBG := Lib.hid bG2
    have HWF := Lib.hid HWW
    clear HWW
    clear d0 d1 z0 z1 bG
    clear hs3 bG2 hWc s3 hb3 hsz3 SD
    generalize (w3.setCell ⟨W0.heap.size, 0, none⟩ (.int .i64 cap')).setCell ⟨W0.heap.size, 1, none⟩ (.slice A3 nl c3) = Wf at *
    generalize W0.heap.size = G at *
    have KRf := KR.out.bel HWF.out
    have v0 := HBG.out.cell 0 (v := .int .i64 cap') rfl
    have v1 := HBG.out.cell 1 (v := .slice A3 nl c3) rfl
    have r0 := KRf.cell 0 (v := .int .i64 0) rfl
    have r1 := KRf.cell 1 (v := .slice none 0 0) rfl
    have fr0 := KRf.frozen 0
    have fr1 := KRf.frozen 1
    obtain ⟨e0, e1⟩ := res_two KRf (.int .i64 cap') (.slice A3 nl c3)
    have HSE := Lib.hid (HS3.out.abv (((Abv.refl (g + 2) _).set (p := ⟨g + 1, 0, none⟩) (by simp only; omega) (.int .i64 cap')).set (p := ⟨g + 1, 1, none⟩) (by simp only; omega) (.slice A3 nl c3))).sl
    have HFE := Lib.hid (((HB0.out.trans HWF.out).setCell (p := ⟨g + 1, 0, none⟩) (by simp only; omega) (.int .i64 cap')).setCell (p := ⟨g + 1, 1, none⟩) (by simp only; omega) (.slice A3 nl c3))
    have E0 := Lib.hid e0
    have E1 := Lib.hid e1
    clear e0 e1 KRf M0 M1
    go_wp2_with fail
    refine bodyPost_ret (v := .tuple #[.agg #[.int .i64 cap', .slice A3 nl c3], .int .i64 e']) ?_ rfl ⟨A3, c3, rfl, HSE.out, HFE.out⟩
    have k0 := E0.out
    have k1 := E1.out
    simp [results, Try.results22, go_sem, k0, k1]
def turnW (m : MemD) (base fn t : Int) : MemD × Int := if fn < 0 ∨ 8 ≤ fn ∨ t < 0 ∨ 1023 < t then (⟨0, []⟩, 1) else patchM m (IntKind.i64.wrap (base + fn)) (wput 1 0 0 0 false 0 0 t).1
theorem wrap_le (x : Int) : IntKind.i64.wrap x ≤ 9223372036854775807 := by
  simp only [IntKind.wrap, IntKind.bits, IntKind.signed]
  simp
  omega
theorem door_wf {t dv ev : Int} (h : wput 1 0 0 0 false 0 0 t = (dv, ev)) : (Lit.int .u64 dv).wf = true := by
  have := wput_rng ⟨1, 0, 0, 0, false, 0, 0⟩ t (u32_lit 0 (by decide))
  unfold wputD at this
  simp only [h] at this
  exact wf_u64R this
theorem turn_all (cap : Int) (A : Option Addr) (nn c : Nat) (l : List BlkD) (base fn t : Int) (w : World) (h : Sl BlkR 3 w A c l) (hn : Hid (l.length = nn)) (cap' : Int) (l' : List BlkD) (nl : Nat) (e' : Int) (hr : Hid (turnW ⟨cap, l⟩ base fn t = (⟨cap', l'⟩, e'))) (hnl : Hid (l'.length = nl)) :
    Calls Try.prog 13 #[.agg #[.int .i64 cap, .slice A nn c], .int .i64 base, .int .i64 fn, .int .i64 t] w fun e w' => ∃ A' c', e = .returned (.tuple #[.agg #[.int .i64 cap', .slice A' nl c'], .int .i64 e']) ∧ Sl BlkR 3 w' A' c' l' ∧ Bel w w' := by
  by_cases hb : fn < 0 ∨ 8 ≤ fn ∨ t < 0 ∨ 1023 < t
  · have hre := hr.out
    unfold turnW at hre
    rw [if_pos hb] at hre
    simp only [Prod.mk.injEq, MemD.mk.injEq] at hre
    obtain ⟨⟨rfl, rfl⟩, rfl⟩ := hre
    obtain rfl : nl = 0 := by rw [← hnl.out]; rfl
    exact turn_bad cap A nn c l base fn t w hb
  · obtain ⟨dv, ev, hdv⟩ : ∃ dv ev, wput 1 0 0 0 false 0 0 t = (dv, ev) := ⟨_, _, rfl⟩
    have hre := hr.out
    unfold turnW at hre
    rw [if_neg hb, hdv] at hre
    exact turn_w cap A nn c l base fn t w h hn _ rfl (by omega) (by omega) (by omega) (by omega) dv ev (Lib.hid hdv) (Lib.hid (door_wf hdv)) cap' l' nl e' (Lib.hid hre) hnl
theorem rturn_all (cap : Int) (A : Option Addr) (nn c : Nat) (l : List BlkD) (base fn t : Int) (w : World) (h : Sl BlkR 3 w A c l) (hn : Hid (l.length = nn)) (hlen : Hid (∀ i, i < l.length → (l[i]!).w.length ≤ 4000)) (cap' : Int) (l' : List BlkD) (nl : Nat) (e' : Int) (hr : Hid (turnW ⟨cap, l⟩ base fn t = (⟨cap', l'⟩, e'))) (hnl : Hid (l'.length = nl)) :
    Calls Try.prog 22 #[.agg #[.int .i64 cap, .slice A nn c], .int .i64 base, .int .i64 fn, .int .i64 t] w fun e w' => ∃ A' c', e = .returned (.tuple #[.agg #[.int .i64 cap', .slice A' nl c'], .int .i64 e']) ∧ Sl BlkR 3 w' A' c' l' ∧ Bel w w' := by
  by_cases hb : fn < 0 ∨ 8 ≤ fn ∨ t < 0 ∨ 1023 < t
  · have hre := hr.out
    unfold turnW at hre
    rw [if_pos hb] at hre
    simp only [Prod.mk.injEq, MemD.mk.injEq] at hre
    obtain ⟨⟨rfl, rfl⟩, rfl⟩ := hre
    obtain rfl : nl = 0 := by rw [← hnl.out]; rfl
    exact rturn_bad cap A nn c l base fn t w hb
  · obtain ⟨dv, ev, hdv⟩ : ∃ dv ev, wput 1 0 0 0 false 0 0 t = (dv, ev) := ⟨_, _, rfl⟩
    have hre := hr.out
    unfold turnW at hre
    rw [if_neg hb, hdv] at hre
    exact rturn_w cap A nn c l base fn t w h hn hlen _ (wrap_le _) rfl (by omega) (by omega) (by omega) (by omega) dv ev (Lib.hid hdv) (Lib.hid (door_wf hdv)) cap' l' nl e' (Lib.hid hre) hnl
end Go.Proofs.Yteopeocgbfdofaa
