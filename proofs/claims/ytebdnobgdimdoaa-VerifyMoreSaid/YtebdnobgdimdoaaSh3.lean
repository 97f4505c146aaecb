/- shape.New, Back, Join at shapes that may be. -/
import Derived.Test.YtebdnobgdimdoaaSh2
import Derived.Test.YtebdnobgdimdoaaHeldU
set_option linter.unusedVariables false
set_option linter.unusedSimpArgs false
namespace Go.Proofs.Ytebdnobgdimdoaa
open Go.RowKit

theorem yields_loadV {P : Program} {ops : Array Oper} {S : World → Prop} {o : Oper} {a : Act} {ty : TypeId} {x : Operand} {ad : Addr} {v : Value} (hw : Region.wanted o (yielded ops a.tmps) = true) (ho : o.op = .load ty x)
    (hx : a.eval x = .pointer (some ad)) (hl : ∀ w, S w → (loadVar ty ad).run P w = .ok v w) : YieldsIf P ops S o v a :=
  .inl ⟨hw, fun w hw' => by
    unfold execOp
    simp only [ho, hx, Instr.loadAt, Instr.sureAddr, Sem.run_bind, Sem.run_pure, Result.andThen_ok, hl w hw']⟩
theorem wpT_storeV {P : Program} {f : Nat → Option Bool} {o : Oper} {a : Act} {w w' : World} {K : Act → World → Prop} {Q : Exit → Act → World → Prop} {ty : TypeId} {x y : Operand} {ad : Addr} {v : Value} (ho : o.op = .store ty x y) (hg : o.guard = none)
    (hx : a.eval x = .pointer (some ad)) (hy : a.eval y = v) (hl : (storeVar ty ad v).run P w = .ok () w') (h : K (a.put o.dst undef) w') : if Region.wanted o f = true then Oper.wp P o a w K Q else K (a.put o.dst undef) w := by
  rw [if_pos (by simp only [Region.wanted, hg])]
  unfold Oper.wp execOp
  simp only [ho, hx, hy, Instr.storeAt, Instr.sureAddr, Sem.run_bind, Sem.run_pure, Result.andThen_ok, hl]
  exact h
theorem shNew_zero : shNew 0 = fun _ => none := by
  funext i
  unfold shNew
  rw [if_neg (by omega)]
theorem shNew_step (k : Nat) : (fun i => if i = k + 1 then some bdAll else shNew k i) = shNew (k + 1) := by
  funext i
  unfold shNew
  by_cases h : i = k + 1
  · simp [h]
  · by_cases h2 : 1 ≤ i ∧ i ≤ k
    · simp [h, h2, show i ≤ k + 1 by omega]
    · simp only [h, if_false]
      rw [if_neg h2, if_neg (by omega)]
set_option maxHeartbeats 4000000 in
set_option maxRecDepth 100000 in
theorem shnew_any (args : Nat) (ha : args ≤ 4) (w : World) :
    Calls Try.prog 22 #[.int .i64 args] w fun e w' => e = .returned (.tuple #[.agg (shC (shNew args)), .bool true]) ∧ Bel w w' := by
  have B1 := (Bk.new w 68 (shC (fun _ => none))).alloc (.cells (shC (fun _ => none)) 68)
  have B2 := Bk.new (w.alloc (.cells (shC (fun _ => none)) 68)) 68 (shC (fun _ => none))
  rw [World.size_alloc] at B2
  have HB := Lib.hid (((Bel.refl w).alloc (.cells (shC (fun _ => none)) 68)).alloc (.cells (shC (fun _ => none)) 68))
  have ha2 : (args : Int) ≤ 4 := by omega
  have ha0 : 0 ≤ (args : Int) := by omega
  have hz := shC_zero
  have h1 : ¬ (args : Int) < 0 := by omega
  have h2 : ¬ (4 : Int) < args := by omega
  go_enter Try.func22, Try.ntmps22
  go_wp2_with fail
  rw [← hz]
  clear hz
  obtain ⟨W1, hW1⟩ : ∃ W1, (w.alloc (.cells (shC (fun _ => none)) 68)).alloc (.cells (shC (fun _ => none)) 68) = W1 := ⟨_, rfl⟩
  rw [hW1] at B1 B2 HB ⊢
  clear hW1
  obtain ⟨g, hg⟩ : ∃ g, w.heap.size = g := ⟨_, rfl⟩
  have hwg : w.heap.size ≤ g := by omega
  rw [hg] at B1 B2
  simp only [hg]
  clear hg
  have B1 := Lib.hid B1
  have B2 := Lib.hid B2
  rw [← shNew_zero] at B2
  go_loopw [14] (fun kv wr => ∃ k : Nat, kv = .int .i64 k ∧ k ≤ args ∧ Hid (Bel w wr) ∧ Hid (Bk wr g 68 (shC (fun _ => none))) ∧ Hid (Bk wr (g + 1) 68 (shC (shNew k)))) (fun kv _ => args - (intOf kv).toNat)
  case atStart => exact ⟨0, rfl, Nat.zero_le _, HB, B1, B2⟩
  case round =>
    clear B1 B2 HB
    obtain ⟨k, rfl, hkn, HB, B1, B2⟩ := hrel
    by_cases hke : k = args
    · subst hke
      have HL := B2.out.load
      have HST := B1.out.store (shC_size _) (shNew k)
      have HR := (B1.out.row (shC (shNew k))).load
      have HFIN := Lib.hid (HB.out.row (g := g) (by omega) (shC (shNew k)))
      go_wp2_with (first | (refine at_loadV (by rfl) HL ?_) | (refine at_storeV (by rfl) (by rfl) HST ?_))
      refine bodyPost_ret (v := .tuple #[.agg (shC (shNew k)), .bool true]) ?_ rfl ⟨rfl, HFIN.out⟩
      have hr : (Try.f22).results = #[.cell 2 68, .tmp 3] := by rfl
      simp only [results, hr]
      simp [Act.put, asAddr, Result.andThen, HR]
    · have hk1 : k < args := by omega
      have hk2 : (k : Int) < args := by omega
      have k0 : 0 ≤ (k : Int) := by omega
      have hk8 : k + 1 < 8 := by omega
      have ek : IntKind.i64.wrap ((k : Int) + 1) = (k : Int) + 1 := wrap_i64 (by omega) (by omega)
      have hk9 : (k : Int) + 1 < 8 := by omega
      have hk0 : 0 ≤ (k : Int) + 1 := by omega
      clear hke
      go_wp2_with fail
      generalize wr = W0 at *
      have SD : Bel W0 W0.drew := (Bel.refl W0).drew
      refine wp_region_T (fun w' => Bel W0 w') (fun j => j != 4) (by kernel_rfl) ?_
      refine wpAnyW_take (i := 0) (v := ?v0) rfl (by kernel_rfl) (by kernel_rfl) (by kernel_rfl) (by kernel_rfl) (fun _ _ _ h => h) (Or.inl ⟨by rfl, ?hy0⟩) ?rest0
      case hy0 => (intro w' hSw; go_simp) <;> with_reducible rfl
      try simp only [List.getElem_toArray, List.getElem_cons_zero, List.getElem_cons_succ, Act.put, List.setIfInBounds_toArray, List.set_cons_zero, List.set_cons_succ]
      refine wpAnyW_take (i := 1) (v := ?v1) rfl (by kernel_rfl) (by kernel_rfl) (by kernel_rfl) (by kernel_rfl) (fun _ _ _ h => h) (Or.inl ⟨by rfl, ?hy1⟩) ?rest1
      case hy1 => (intro w' hSw; go_simp) <;> with_reducible rfl
      try simp only [List.getElem_toArray, List.getElem_cons_zero, List.getElem_cons_succ, Act.put, List.setIfInBounds_toArray, List.set_cons_zero, List.set_cons_succ]
      refine wpAnyW_take (i := 2) (v := ?v2) rfl (by kernel_rfl) (by kernel_rfl) (by kernel_rfl) (by kernel_rfl) (fun _ _ _ h => h) (Or.inl ⟨by rfl, ?hy2⟩) ?rest2
      case hy2 => (intro w' hSw; go_simp) <;> with_reducible rfl
      try simp only [List.getElem_toArray, List.getElem_cons_zero, List.getElem_cons_succ, Act.put, List.setIfInBounds_toArray, List.set_cons_zero, List.set_cons_succ]
      refine wpAnyW_take (i := 3) (v := ?v3) rfl (by kernel_rfl) (by kernel_rfl) (by kernel_rfl) (by kernel_rfl) (fun _ _ _ h => h) (Or.inl ⟨by rfl, ?hy3⟩) ?rest3
      case hy3 => (intro w' hSw; go_simp) <;> with_reducible rfl
      try simp only [List.getElem_toArray, List.getElem_cons_zero, List.getElem_cons_succ, Act.put, List.setIfInBounds_toArray, List.set_cons_zero, List.set_cons_succ]
      refine wpAnyW_take (i := 5) (v := ?v5) rfl (by kernel_rfl) (by kernel_rfl) (by kernel_rfl) (by kernel_rfl) (fun _ _ _ h => h) (Or.inl ⟨by rfl, ?hy5⟩) ?rest5
      case hy5 => (intro w' hSw; go_simp) <;> with_reducible rfl
      try simp only [List.getElem_toArray, List.getElem_cons_zero, List.getElem_cons_succ, Act.put, List.setIfInBounds_toArray, List.set_cons_zero, List.set_cons_succ]
      refine wpAnyW_take (i := 6) (v := ?v6) rfl (by kernel_rfl) (by kernel_rfl) (by kernel_rfl) (by kernel_rfl) (fun _ _ _ h => h) (Or.inl ⟨by rfl, ?hy6⟩) ?rest6
      case hy6 => (intro w' hSw; go_simp) <;> with_reducible rfl
      try simp only [List.getElem_toArray, List.getElem_cons_zero, List.getElem_cons_succ, Act.put, List.setIfInBounds_toArray, List.set_cons_zero, List.set_cons_succ]
      refine wpAnyW_take (i := 8) (v := ?v8) rfl (by kernel_rfl) (by kernel_rfl) (by kernel_rfl) (by kernel_rfl) (fun _ _ _ h => h) (Or.inl ⟨by rfl, ?hy8⟩) ?rest8
      case hy8 => (intro w' hSw; go_simp) <;> with_reducible rfl
      try simp only [List.getElem_toArray, List.getElem_cons_zero, List.getElem_cons_succ, Act.put, List.setIfInBounds_toArray, List.set_cons_zero, List.set_cons_succ]
      refine wpAnyT_one (i := 4) (by kernel_rfl) rfl (fun K hK => ?_)
      go_simp
      go_at_call 39
      refine (shall_any _).mono ?_
      rintro en w5 ⟨rfl, hb5⟩
      have S5 : Bel W0 w5 := SD.trans hb5
      have b1 := B1.out.bel S5
      have b2 := B2.out.bel S5
      have e1 := b2.set (k + 1) (.bool true)
      have c1 := b2.cell (k + 1) (shC_set hk8)
      have f1 := b2.frozen (k + 1)
      have c3 : (w5.setCell ⟨g + 1, k + 1, none⟩ (.bool true)).cell? ⟨g + 1, 8 + (k + 1), none⟩ = some (cV (rB (shNew k (k + 1)))) := e1.cell (8 + (k + 1)) (by
        rw [Array.getElem?_setIfInBounds, if_neg (by omega)]
        exact shC_reg hk8)
      have f3 := e1.frozen (8 + (k + 1))
      have hs1 : (store ⟨g + 1, k + 1, none⟩ (.bool true)).run Try.prog w5 = .ok () (w5.setCell ⟨g + 1, k + 1, none⟩ (.bool true)) := by rw [run_store _ _ _ _ _ rfl]; simp [c1, f1]
      have hs2 : (store ⟨g + 1, 8 + (k + 1), none⟩ (.complex .f64 (fl bdAll.1) (fl bdAll.2))).run Try.prog (w5.setCell ⟨g + 1, k + 1, none⟩ (.bool true)) = .ok () ((w5.setCell ⟨g + 1, k + 1, none⟩ (.bool true)).setCell ⟨g + 1, 8 + (k + 1), none⟩ (.complex .f64 (fl bdAll.1) (fl bdAll.2))) := by rw [run_store _ _ _ _ _ rfl]; simp [c3, f3]
      have e2 := e1.set (8 + (k + 1)) (cV bdAll)
      rw [show (shC (shNew k)).setIfInBounds (k + 1) (.bool true) = (shC (shNew k)).setIfInBounds (k + 1) (.bool (some bdAll).isSome) from rfl, show cV bdAll = cV (rB (some bdAll)) from rfl, shC_upd (shNew k) hk8, shNew_step] at e2
      have B2E := Lib.hid e2
      have B1E := Lib.hid ((b1.other (p := ⟨g + 1, k + 1, none⟩) (by simp only; omega) (.bool true)).other (p := ⟨g + 1, 8 + (k + 1), none⟩) (by simp only; omega) (cV (rB (some bdAll))))
      have HBE := Lib.hid (((HB.out.trans S5).setCell (p := ⟨g + 1, k + 1, none⟩) (by simp only; omega) (.bool true)).setCell (p := ⟨g + 1, 8 + (k + 1), none⟩) (by simp only; omega) (cV (rB (some bdAll))))
      clear e2 e1 b1 b2
      unfold cV
      dsimp only
      refine hK.out _ _ (fun _ => S5) ?_
      clear hK K
      try simp only [List.getElem_toArray, List.getElem_cons_zero, List.getElem_cons_succ, Act.put, List.setIfInBounds_toArray, List.set_cons_zero, List.set_cons_succ]
      refine wpAnyT_one (i := 7) (by kernel_rfl) rfl (fun K hK => ?_)
      go_simp
      refine hK.out _ _ (fun h => absurd h (by decide)) ?_
      clear hK K
      try simp only [List.getElem_toArray, List.getElem_cons_zero, List.getElem_cons_succ, Act.put, List.setIfInBounds_toArray, List.set_cons_zero, List.set_cons_succ]
      refine wpAnyT_one (i := 9) (by kernel_rfl) rfl (fun K hK => ?_)
      go_simp
      refine hK.out _ _ (fun h => absurd h (by decide)) ?_
      clear hK K
      try simp only [List.getElem_toArray, List.getElem_cons_zero, List.getElem_cons_succ, Act.put, List.setIfInBounds_toArray, List.set_cons_zero, List.set_cons_succ]
      refine wpAnyT_one (i := 10) (by kernel_rfl) rfl (fun K hK => ?_)
      go_simp
      refine hK.out _ _ (fun h => absurd h (by decide)) ?_
      clear hK K
      try simp only [List.getElem_toArray, List.getElem_cons_zero, List.getElem_cons_succ, Act.put, List.setIfInBounds_toArray, List.set_cons_zero, List.set_cons_succ]
      refine wpAnyT_done (by kernel_rfl) ?_ _
      refine NoPanic.normal ?_
      clear SD S5 hs1 hs2 hb5 c1 f1 c3 f3
      go_wp2
      go_roundw
      case rel => exact ⟨k + 1, by simp, by omega, HBE, B1E, B2E⟩
      case measure => simp [intOf]; omega
end Go.Proofs.Ytebdnobgdimdoaa
