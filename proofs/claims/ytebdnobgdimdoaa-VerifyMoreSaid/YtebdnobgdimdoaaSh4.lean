/- shape.Back, Join at shapes that may be. -/
import Derived.Test.YtebdnobgdimdoaaSh3
set_option linter.unusedVariables false
set_option linter.unusedSimpArgs false
namespace Go.Proofs.Ytebdnobgdimdoaa
open Go.RowKit

theorem shC_congr {s t : ShD} (h : ∀ i, i < 8 → s i = t i) : shC s = shC t := by
  apply Array.ext_getElem?
  intro i
  rw [shC_get, shC_get]
  by_cases h1 : i < 8
  · rw [if_pos h1, if_pos h1, h i h1]
  · by_cases h2 : i < 16
    · rw [if_neg h1, if_neg h1, if_pos h2, if_pos h2, h (i - 8) (by omega)]
    · rw [if_neg h1, if_neg h1, if_neg h2, if_neg h2]
/-- The first registers, from 1 on, are lost. -/
def backU (s : ShD) (k : Nat) : ShD := fun i => if 1 ≤ i ∧ i ≤ k then none else s i
theorem backU_zero (s : ShD) : backU s 0 = s := by
  funext i
  unfold backU
  rw [if_neg (by omega)]
theorem backU_step (s : ShD) (k : Nat) : (fun i => if i = k + 1 then none else backU s k i) = backU s (k + 1) := by
  funext i
  unfold backU
  by_cases h : i = k + 1
  · simp [h]
  · by_cases h2 : 1 ≤ i ∧ i ≤ k
    · simp [h, h2, show i ≤ k + 1 by omega]
    · simp only [h, if_false]
      rw [if_neg h2, if_neg (by omega)]
theorem backU_ok {s : ShD} (h : shOk s) (k : Nat) : shOk (backU s k) := by
  intro i b e
  unfold backU at e
  split at e
  · cases e
  · exact h i b e
theorem backU_end (s : ShD) : shPut (backU s 5) 0 bdAll = shBack s := by
  have := shPut_eq (backU s 5) (k := 0) (by decide) bdAll
  rw [show ((0 : Nat) : Int) = 0 from rfl] at this
  rw [this]
  funext i
  unfold shBack backU
  by_cases h : i = 0
  · simp [h]
  · by_cases h2 : i ≤ 5
    · simp [h, h2, show 1 ≤ i by omega]
    · simp [h, h2]
set_option maxHeartbeats 4000000 in
set_option maxRecDepth 100000 in
theorem shback_any (s : ShD) (hs : shOk s) (w : World) :
    Calls Try.prog 77 #[.agg (shC s)] w fun e w' => e = .returned (.agg (shC (shBack s))) ∧ Bel w w' := by
  have B1 := (Bk.new w 68 (shC s)).alloc (.cells (shC (fun _ => none)) 68)
  have B2 := Bk.new (w.alloc (.cells (shC s) 68)) 68 (shC (fun _ => none))
  rw [World.size_alloc] at B2
  have HB := Lib.hid (((Bel.refl w).alloc (.cells (shC s) 68)).alloc (.cells (shC (fun _ => none)) 68))
  rw [shC_zero] at B1 B2 HB
  have HL := B1.load
  have B1 := Lib.hid B1
  have B2 := Lib.hid B2
  go_enter Try.func77, Try.ntmps77
  go_wp2_with (refine at_loadV (by rfl) HL ?_)
  refine (shmay_any s hs _).mono ?_
  rintro e w1 ⟨rfl, hc⟩
  have HB1 := Lib.hid (HB.out.trans hc)
  have b3 := B1.out.bel hc
  have b4 := B2.out.bel hc
  rw [← shC_zero] at b4
  have B3 := Lib.hid b3
  have B4 := Lib.hid b4
  clear hc HL B1 B2 HB b3 b4
  obtain ⟨g, hg⟩ : ∃ g, w.heap.size = g := ⟨_, rfl⟩
  have hwg : w.heap.size ≤ g := by omega
  rw [hg] at B3 B4
  simp only [hg]
  clear hg
  rw [← backU_zero s] at B3
  go_wp2_with fail
  go_loopw [8] (fun kv wr => ∃ k : Nat, kv = .int .i64 k ∧ k ≤ 5 ∧ Hid (Bel w wr) ∧ Hid (Bk wr g 68 (shC (backU s k))) ∧ Hid (Bk wr (g + 1) 68 (shC (fun _ => none)))) (fun kv _ => 5 - (intOf kv).toNat)
  case atStart => exact ⟨0, rfl, Nat.zero_le _, HB1, B3, B4⟩
  case round =>
    clear B3 B4 HB1
    obtain ⟨k, rfl, hkn, HB, B1, B2⟩ := hrel
    by_cases hke : k = 5
    · subst hke
      go_wp2_with fail
      generalize wr = W0 at *
      have SD : Bel W0 W0.drew := (Bel.refl W0).drew
      have L0 := fun (w' : World) (h : Bel W0 w') => (B1.out.bel h).load
      refine wp_region_T (fun w' => Bel W0 w') (fun j => j == 3) (by kernel_rfl) ?_
      refine wpAnyU_take (i := 0) rfl (by kernel_rfl) (by kernel_rfl) (by kernel_rfl) (by kernel_rfl) (fun _ _ _ h => h) (yields_loadV (by rfl) rfl (by rfl) L0) SD ?rest0
      try simp only [List.getElem_toArray, List.getElem_cons_zero, List.getElem_cons_succ, Act.put, List.setIfInBounds_toArray, List.set_cons_zero, List.set_cons_succ]
      refine wpAnyT_one (i := 1) (by kernel_rfl) rfl (fun K hK => ?_)
      go_simp
      go_at_call 39
      refine (shall_any _).mono ?_
      rintro en w5 ⟨rfl, hb5⟩
      have S5 : Bel W0 w5 := SD.trans hb5
      dsimp only
      refine hK.out _ _ (fun _ => S5) ?_
      clear hK K
      try simp only [List.getElem_toArray, List.getElem_cons_zero, List.getElem_cons_succ, Act.put, List.setIfInBounds_toArray, List.set_cons_zero, List.set_cons_succ]
      refine wpAnyT_one (i := 2) (by kernel_rfl) rfl (fun K hK => ?_)
      go_simp
      go_at_call 62
      refine (shput_any (backU s 5) (shBack s) (backU_ok hs 5) 0 bdAll bdAll_ok (Lib.hid (backU_end s)) _).mono ?_
      rintro en w6 ⟨rfl, hb6⟩
      have S6 : Bel W0 w6 := S5.trans hb6
      have b6 := B2.out.bel S6
      have HST := b6.store (shC_size _) (shBack s)
      have HR := (b6.row (shC (shBack s))).load
      have HFIN := Lib.hid ((HB.out.trans S6).row (g := g + 1) (by omega) (shC (shBack s)))
      dsimp only
      refine hK.out _ _ (fun _ => S6) ?_
      clear hK K
      try simp only [List.getElem_toArray, List.getElem_cons_zero, List.getElem_cons_succ, Act.put, List.setIfInBounds_toArray, List.set_cons_zero, List.set_cons_succ]
      refine wpAnyT_one (i := 3) (by kernel_rfl) rfl (fun K hK => ?_)
      refine wpT_storeV rfl rfl (by rfl) (by rfl) HST ?_
      refine hK.out _ _ (fun h => absurd h (by decide)) ?_
      clear hK K
      try simp only [List.getElem_toArray, List.getElem_cons_zero, List.getElem_cons_succ, Act.put, List.setIfInBounds_toArray, List.set_cons_zero, List.set_cons_succ]
      refine wpAnyT_done (by kernel_rfl) ?_ _
      refine NoPanic.normal ?_
      go_wp2_with fail
      refine bodyPost_ret (v := .agg (shC (shBack s))) ?_ rfl ⟨rfl, HFIN.out⟩
      have hr : (Try.f77).results = #[.cell 2 68] := by rfl
      simp only [results, hr]
      simp [Act.put, asAddr, Result.andThen, HR]
    · have hk1 : k < 5 := by omega
      have hk2 : (k : Int) < 5 := by omega
      have k0 : 0 ≤ (k : Int) := by omega
      have hk8 : k + 1 < 8 := by omega
      have ek : IntKind.i64.wrap ((k : Int) + 1) = (k : Int) + 1 := wrap_i64 (by omega) (by omega)
      have hk9 : (k : Int) + 1 < 8 := by omega
      have hk0 : 0 ≤ (k : Int) + 1 := by omega
      have e1 := B1.out.set (k + 1) (.bool false)
      have c1 := B1.out.cell (k + 1) (shC_set hk8)
      have f1 := B1.out.frozen (k + 1)
      have c3 : (wr.setCell ⟨g, k + 1, none⟩ (.bool false)).cell? ⟨g, 8 + (k + 1), none⟩ = some (cV (rB (backU s k (k + 1)))) := e1.cell (8 + (k + 1)) (by
        rw [Array.getElem?_setIfInBounds, if_neg (by omega)]
        exact shC_reg hk8)
      have f3 := e1.frozen (8 + (k + 1))
      have hs2 : (store ⟨g, 8 + (k + 1), none⟩ (.complex .f64 0 0)).run Try.prog (wr.setCell ⟨g, k + 1, none⟩ (.bool false)) = .ok () ((wr.setCell ⟨g, k + 1, none⟩ (.bool false)).setCell ⟨g, 8 + (k + 1), none⟩ (.complex .f64 0 0)) := by rw [run_store _ _ _ _ _ rfl]; simp [c3, f3]
      have e2 := e1.set (8 + (k + 1)) (cV (0, 0))
      rw [show (shC (backU s k)).setIfInBounds (k + 1) (.bool false) = (shC (backU s k)).setIfInBounds (k + 1) (.bool (none : Option Bd).isSome) from rfl, show cV (0, 0) = cV (rB none) from rfl, shC_upd (backU s k) hk8, backU_step, show cV (rB none) = .complex .f64 0 0 from cV_zero] at e2
      have BE1 := Lib.hid e2
      have BE2 := Lib.hid ((B2.out.other (p := ⟨g, k + 1, none⟩) (by simp only; omega) (.bool false)).other (p := ⟨g, 8 + (k + 1), none⟩) (by simp only; omega) (.complex .f64 0 0))
      have HBE := Lib.hid ((HB.out.setCell (p := ⟨g, k + 1, none⟩) (by simp only; omega) (.bool false)).setCell (p := ⟨g, 8 + (k + 1), none⟩) (by simp only; omega) (.complex .f64 0 0))
      clear e1 e2 hke
      go_wp2
      go_roundw
      case rel => exact ⟨k + 1, by simp, by omega, HBE, BE1, BE2⟩
      case measure => simp [intOf]; omega
/-- The first registers are joined. -/
def joinU (s t : ShD) (k : Nat) : ShD := fun i => if i < k then shJoin s t i else none
theorem joinU_ok {s t : ShD} (hs : shOk s) (ht : shOk t) (k : Nat) : shOk (joinU s t k) := by
  intro i b e
  unfold joinU at e
  split at e
  · exact shJoin_ok hs ht i b e
  · cases e
theorem joinU_put {s t : ShD} {k l1 h1 l2 h2 : Nat} (hk : k < 8) (e1 : s k = some (l1, h1)) (e2 : t k = some (l2, h2)) : shPut (joinU s t k) k (nmin l1 l2, nmax h1 h2) = joinU s t (k + 1) := by
  rw [shPut_eq _ hk]
  funext i
  unfold joinU
  by_cases h : i = k
  · subst h
    simp [shJoin, e1, e2, joinB]
  · by_cases h2 : i < k
    · simp [h, h2, show i < k + 1 by omega]
    · simp [h, h2, show ¬ i < k + 1 by omega]
theorem joinU_skip {s t : ShD} {k : Nat} (e : s k = none ∨ t k = none) : joinU s t (k + 1) = joinU s t k := by
  funext i
  unfold joinU
  by_cases h : i = k
  · subst h
    have : shJoin s t i = none := by
      unfold shJoin
      rcases e with e | e
      · rw [e]
      · rw [e]; cases s i <;> rfl
    simp [this]
  · by_cases h2 : i < k
    · simp [h2, show i < k + 1 by omega]
    · simp [h2, show ¬ i < k + 1 by omega]
theorem joinU_end (s t : ShD) : shC (joinU s t 8) = shC (shJoin s t) := shC_congr (fun i hi => by unfold joinU; rw [if_pos hi])
set_option maxHeartbeats 4000000 in
set_option maxRecDepth 100000 in
theorem shjoin_any (s t : ShD) (hs : shOk s) (ht : shOk t) (w : World) :
    Calls Try.prog 40 #[.agg (shC s), .agg (shC t)] w fun e w' => e = .returned (.agg (shC (shJoin s t))) ∧ Bel w w' := by
  have B1 := (((Bk.new w 68 (shC s)).alloc (.cells (shC t) 68)).alloc (.cells (shC (fun _ => none)) 68)).alloc (.cells (shC (fun _ => none)) 68)
  have B2 := ((Bk.new (w.alloc (.cells (shC s) 68)) 68 (shC t)).alloc (.cells (shC (fun _ => none)) 68)).alloc (.cells (shC (fun _ => none)) 68)
  have B3 := (Bk.new ((w.alloc (.cells (shC s) 68)).alloc (.cells (shC t) 68)) 68 (shC (fun _ => none))).alloc (.cells (shC (fun _ => none)) 68)
  have B4 := Bk.new (((w.alloc (.cells (shC s) 68)).alloc (.cells (shC t) 68)).alloc (.cells (shC (fun _ => none)) 68)) 68 (shC (fun _ => none))
  rw [World.size_alloc] at B2
  rw [World.size_alloc, World.size_alloc] at B3
  rw [World.size_alloc, World.size_alloc, World.size_alloc] at B4
  have HB := (((((Bel.refl w).alloc (.cells (shC s) 68)).alloc (.cells (shC t) 68)).alloc (.cells (shC (fun _ => none)) 68)).alloc (.cells (shC (fun _ => none)) 68))
  have hz := shC_zero
  go_enter Try.func40, Try.ntmps40
  rw [hz] at B1 B2 B3 B4 HB
  have HL := B1.load
  go_wp2_with (refine at_loadV (by rfl) HL ?_)
  obtain ⟨W1, hW1⟩ : ∃ W1, (((w.alloc (.cells (shC s) 68)).alloc (.cells (shC t) 68)).alloc (.cells (shC (fun _ => none)) 68)).alloc (.cells (shC (fun _ => none)) 68) = W1 := ⟨_, rfl⟩
  rw [hz] at hW1
  rw [hW1] at B1 B2 B3 B4 HB ⊢
  clear HL hW1
  rw [← hz] at B3 B4
  clear hz
  refine (shmay_any s hs _).mono ?_
  rintro e w1 ⟨rfl, hc⟩
  obtain ⟨g, hg⟩ : ∃ g, w.heap.size = g := ⟨_, rfl⟩
  have hwg : w.heap.size ≤ g := by omega
  rw [hg] at B1 B2 B3 B4
  simp only [hg]
  clear hg
  have HL2 := (B2.bel hc).load
  go_wp2_with (refine at_loadVg (by rfl) (by rfl) HL2 ?_)
  refine (shmay_any t ht _).mono ?_
  rintro e w2 ⟨rfl, hc2⟩
  have hc3 := hc.trans hc2
  have C1 := Lib.hid (B1.bel hc3)
  have C2 := Lib.hid (B2.bel hc3)
  have C3 := Lib.hid (B3.bel hc3)
  have C4 : Hid (Bk w2 (g + 1 + 1 + 1) 68 (shC (joinU s t 0))) := Lib.hid (by
    have := B4.bel hc3
    rwa [show joinU s t 0 = (fun _ => none) from funext fun i => if_neg (by omega)])
  have HB1 := Lib.hid (HB.trans hc3)
  clear HL2 hc hc2 hc3 B1 B2 B3 B4 HB
  go_wp2_with fail
  go_loopw [16] (fun kv wr => ∃ k : Nat, kv = .int .i64 k ∧ k ≤ 8 ∧ Hid (Bel w wr) ∧ Hid (Bk wr g 68 (shC s)) ∧ Hid (Bk wr (g + 1) 68 (shC t)) ∧ Hid (Bk wr (g + 2) 68 (shC (fun _ => none))) ∧ Hid (Bk wr (g + 3) 68 (shC (joinU s t k)))) (fun kv _ => 8 - (intOf kv).toNat)
  case atStart => exact ⟨0, rfl, Nat.zero_le _, HB1, C1, C2, C3, C4⟩
  case round =>
    clear C1 C2 C3 C4 HB1
    obtain ⟨k, rfl, hkn, HB, B1, B2, B3, B4⟩ := hrel
    by_cases hke : k = 8
    · subst hke
      have b4 := B4.out
      rw [joinU_end] at b4
      have HL := b4.load
      have HST := B3.out.store (shC_size _) (shJoin s t)
      have HR := (B3.out.row (shC (shJoin s t))).load
      have HFIN := Lib.hid (HB.out.row (g := g + 2) (by omega) (shC (shJoin s t)))
      clear b4
      go_wp2_with (first | (refine at_loadV (by rfl) HL ?_) | (refine at_storeV (by rfl) (by rfl) HST ?_))
      refine bodyPost_ret (v := .agg (shC (shJoin s t))) ?_ rfl ⟨rfl, HFIN.out⟩
      have hr : (Try.f40).results = #[.cell 4 68] := by rfl
      simp only [results, hr]
      simp [Act.put, asAddr, Result.andThen, HR]
    · have hk1 : k < 8 := by omega
      have hk2 : (k : Int) < 8 := by omega
      have k0 : 0 ≤ (k : Int) := by omega
      have ek : IntKind.i64.wrap ((k : Int) + 1) = (k : Int) + 1 := wrap_i64 (by omega) (by omega)
      have c1 := B1.out.cell k (shC_set hk1)
      have c2 := B2.out.cell k (shC_set hk1)
      clear hke
      cases e1 : s k with
      | none =>
        rw [e1] at c1
        simp only [Option.isSome_none] at c1
        have B5 : Hid (Bk wr (g + 3) 68 (shC (joinU s t (k + 1)))) := Lib.hid (by rw [joinU_skip (.inl e1)]; exact B4.out)
        go_wp2
        go_roundw
        case rel => exact ⟨k + 1, by simp, by omega, HB, B1, B2, B3, B5⟩
        case measure => simp [intOf]; omega
      | some b1 =>
        rw [e1] at c1
        simp only [Option.isSome_some] at c1
        cases e2 : t k with
        | none =>
          rw [e2] at c2
          simp only [Option.isSome_none] at c2
          have B5 : Hid (Bk wr (g + 3) 68 (shC (joinU s t (k + 1)))) := Lib.hid (by rw [joinU_skip (.inr e2)]; exact B4.out)
          go_wp2
          go_roundw
          case rel => exact ⟨k + 1, by simp, by omega, HB, B1, B2, B3, B5⟩
          case measure => simp [intOf]; omega
        | some b2 =>
          rw [e2] at c2
          simp only [Option.isSome_some] at c2
          obtain ⟨l1, h1⟩ := b1
          obtain ⟨l2, h2⟩ := b2
          have o1 := hs _ _ e1
          have o2 := ht _ _ e2
          have r1 := B1.out.cell (8 + k) (shC_reg hk1)
          have r2 := B2.out.cell (8 + k) (shC_reg hk1)
          rw [e1] at r1
          rw [e2] at r2
          unfold cV rB at r1 r2
          simp only [Option.getD_some] at r1 r2
          go_wp2_with fail
          generalize wr = W0 at *
          have SD : Bel W0 W0.drew := (Bel.refl W0).drew
          have L0 := fun (w' : World) (h : Bel W0 w') => (B4.out.bel h).load
          have R1 := fun (w' : World) (h : Bel W0 w') => h.cell r1
          have R2 := fun (w' : World) (h : Bel W0 w') => h.cell r2
          clear c1 c2 r1 r2
          refine wp_region_T (fun w' => Bel W0 w') (fun j => j == 12) (by kernel_rfl) ?_
          refine wpAnyU_take (i := 0) rfl (by kernel_rfl) (by kernel_rfl) (by kernel_rfl) (by kernel_rfl) (fun _ _ _ h => h) (yields_loadV (by rfl) rfl (by rfl) L0) SD ?rest0
          try simp only [List.getElem_toArray, List.getElem_cons_zero, List.getElem_cons_succ, Act.put, List.setIfInBounds_toArray, List.set_cons_zero, List.set_cons_succ]
          refine wpAnyU_take (i := 1) (v := ?v1) rfl (by kernel_rfl) (by kernel_rfl) (by kernel_rfl) (by kernel_rfl) (fun _ _ _ h => h) ?hy1 SD ?rest1
          case hy1 => first | (refine Or.inl ⟨by rfl, ?_⟩; (intro w' hSw; go_simp) <;> with_reducible rfl) | (refine Or.inr ⟨by rfl, ?_⟩; with_reducible rfl)
          try simp only [List.getElem_toArray, List.getElem_cons_zero, List.getElem_cons_succ, Act.put, List.setIfInBounds_toArray, List.set_cons_zero, List.set_cons_succ]
          refine wpAnyU_take (i := 2) (v := ?v2) rfl (by kernel_rfl) (by kernel_rfl) (by kernel_rfl) (by kernel_rfl) (fun _ _ _ h => h) ?hy2 SD ?rest2
          case hy2 => first | (refine Or.inl ⟨by rfl, ?_⟩; (intro w' hSw; go_simp) <;> with_reducible rfl) | (refine Or.inr ⟨by rfl, ?_⟩; with_reducible rfl)
          try simp only [List.getElem_toArray, List.getElem_cons_zero, List.getElem_cons_succ, Act.put, List.setIfInBounds_toArray, List.set_cons_zero, List.set_cons_succ]
          refine wpAnyU_take (i := 3) (v := ?v3) rfl (by kernel_rfl) (by kernel_rfl) (by kernel_rfl) (by kernel_rfl) (fun _ _ _ h => h) ?hy3 SD ?rest3
          case hy3 => first | (refine Or.inl ⟨by rfl, ?_⟩; (intro w' hSw; go_simp) <;> with_reducible rfl) | (refine Or.inr ⟨by rfl, ?_⟩; with_reducible rfl)
          try simp only [List.getElem_toArray, List.getElem_cons_zero, List.getElem_cons_succ, Act.put, List.setIfInBounds_toArray, List.set_cons_zero, List.set_cons_succ]
          refine wpAnyU_take (i := 4) (v := ?v4) rfl (by kernel_rfl) (by kernel_rfl) (by kernel_rfl) (by kernel_rfl) (fun _ _ _ h => h) ?hy4 SD ?rest4
          case hy4 => first | (refine Or.inl ⟨by rfl, ?_⟩; (intro w' hSw; go_simp) <;> with_reducible rfl) | (refine Or.inr ⟨by rfl, ?_⟩; with_reducible rfl)
          try simp only [List.getElem_toArray, List.getElem_cons_zero, List.getElem_cons_succ, Act.put, List.setIfInBounds_toArray, List.set_cons_zero, List.set_cons_succ]
          refine wpAnyU_take (i := 5) (v := ?v5) rfl (by kernel_rfl) (by kernel_rfl) (by kernel_rfl) (by kernel_rfl) (fun _ _ _ h => h) ?hy5 SD ?rest5
          case hy5 => first | (refine Or.inl ⟨by rfl, ?_⟩; (intro w' hSw; go_simp) <;> with_reducible rfl) | (refine Or.inr ⟨by rfl, ?_⟩; with_reducible rfl)
          try simp only [List.getElem_toArray, List.getElem_cons_zero, List.getElem_cons_succ, Act.put, List.setIfInBounds_toArray, List.set_cons_zero, List.set_cons_succ]
          refine wpAnyU_take (i := 6) (v := ?v6) rfl (by kernel_rfl) (by kernel_rfl) (by kernel_rfl) (by kernel_rfl) (fun _ _ _ h => h) ?hy6 SD ?rest6
          case hy6 => first | (refine Or.inl ⟨by rfl, ?_⟩; (intro w' hSw; go_simp) <;> with_reducible rfl) | (refine Or.inr ⟨by rfl, ?_⟩; with_reducible rfl)
          try simp only [List.getElem_toArray, List.getElem_cons_zero, List.getElem_cons_succ, Act.put, List.setIfInBounds_toArray, List.set_cons_zero, List.set_cons_succ]
          refine wpAnyU_take (i := 7) (v := ?v7) rfl (by kernel_rfl) (by kernel_rfl) (by kernel_rfl) (by kernel_rfl) (fun _ _ _ h => h) ?hy7 SD ?rest7
          case hy7 => first | (refine Or.inl ⟨by rfl, ?_⟩; (intro w' hSw; go_simp) <;> with_reducible rfl) | (refine Or.inr ⟨by rfl, ?_⟩; with_reducible rfl)
          try simp only [List.getElem_toArray, List.getElem_cons_zero, List.getElem_cons_succ, Act.put, List.setIfInBounds_toArray, List.set_cons_zero, List.set_cons_succ]
          refine wpAnyU_take (i := 8) (v := ?v8) rfl (by kernel_rfl) (by kernel_rfl) (by kernel_rfl) (by kernel_rfl) (fun _ _ _ h => h) ?hy8 SD ?rest8
          case hy8 => first | (refine Or.inl ⟨by rfl, ?_⟩; (intro w' hSw; go_simp) <;> with_reducible rfl) | (refine Or.inr ⟨by rfl, ?_⟩; with_reducible rfl)
          try simp only [List.getElem_toArray, List.getElem_cons_zero, List.getElem_cons_succ, Act.put, List.setIfInBounds_toArray, List.set_cons_zero, List.set_cons_succ]
          refine wpAnyU_take (i := 9) (v := ?v9) rfl (by kernel_rfl) (by kernel_rfl) (by kernel_rfl) (by kernel_rfl) (fun _ _ _ h => h) ?hy9 SD ?rest9
          case hy9 => first | (refine Or.inl ⟨by rfl, ?_⟩; (intro w' hSw; go_simp) <;> with_reducible rfl) | (refine Or.inr ⟨by rfl, ?_⟩; with_reducible rfl)
          try simp only [List.getElem_toArray, List.getElem_cons_zero, List.getElem_cons_succ, Act.put, List.setIfInBounds_toArray, List.set_cons_zero, List.set_cons_succ]
          refine wpAnyT_one (i := 10) (by kernel_rfl) rfl (fun K hK => ?_)
          go_simp
          go_at_call 63
          refine (join_any l1 h1 l2 h2 _ o1.1 o1.2 o2.1 o2.2).mono ?_
          rintro en w5 ⟨rfl, hb5⟩
          have S5 : Bel W0 w5 := SD.trans hb5
          dsimp only
          refine hK.out _ _ (fun _ => S5) ?_
          clear hK K
          try simp only [List.getElem_toArray, List.getElem_cons_zero, List.getElem_cons_succ, Act.put, List.setIfInBounds_toArray, List.set_cons_zero, List.set_cons_succ]
          refine wpAnyT_one (i := 11) (by kernel_rfl) rfl (fun K hK => ?_)
          go_simp
          go_at_call 62
          refine (shput_any (joinU s t k) (joinU s t (k + 1)) (joinU_ok hs ht k) k (nmin l1 l2, nmax h1 h2) (joinB_ok o1 o2) (Lib.hid (joinU_put hk1 e1 e2)) _).mono ?_
          rintro en w6 ⟨rfl, hb6⟩
          have S6 : Bel W0 w6 := S5.trans hb6
          have b6 := B4.out.bel S6
          have HST := b6.store (shC_size _) (joinU s t (k + 1))
          have BE4 := Lib.hid (b6.row (shC (joinU s t (k + 1))))
          have BE1 := Lib.hid ((B1.out.bel S6).rowOther (g := g + 3) (by omega) (shC (joinU s t (k + 1))))
          have BE2 := Lib.hid ((B2.out.bel S6).rowOther (g := g + 3) (by omega) (shC (joinU s t (k + 1))))
          have BE3 := Lib.hid ((B3.out.bel S6).rowOther (g := g + 3) (by omega) (shC (joinU s t (k + 1))))
          have HBE := Lib.hid ((HB.out.trans S6).row (g := g + 3) (by omega) (shC (joinU s t (k + 1))))
          dsimp only
          refine hK.out _ _ (fun _ => S6) ?_
          clear hK K
          try simp only [List.getElem_toArray, List.getElem_cons_zero, List.getElem_cons_succ, Act.put, List.setIfInBounds_toArray, List.set_cons_zero, List.set_cons_succ]
          refine wpAnyT_one (i := 12) (by kernel_rfl) rfl (fun K hK => ?_)
          refine wpT_storeV rfl rfl (by rfl) (by rfl) HST ?_
          refine hK.out _ _ (fun h => absurd h (by decide)) ?_
          clear hK K
          try simp only [List.getElem_toArray, List.getElem_cons_zero, List.getElem_cons_succ, Act.put, List.setIfInBounds_toArray, List.set_cons_zero, List.set_cons_succ]
          refine wpAnyT_done (by kernel_rfl) ?_ _
          refine NoPanic.normal ?_
          clear SD S5 S6 L0 R1 R2 HST b6 hb5 hb6
          go_wp2
          go_roundw
          case rel => exact ⟨k + 1, by simp, by omega, HBE, BE1, BE2, BE3, BE4⟩
          case measure => simp [intOf]; omega
end Go.Proofs.Ytebdnobgdimdoaa
