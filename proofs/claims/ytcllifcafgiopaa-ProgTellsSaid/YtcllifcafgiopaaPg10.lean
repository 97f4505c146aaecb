/- prog.Get by its contract. -/
import Derived.Test.YtcllifcafgiopaaPg9
set_option linter.unusedVariables false
set_option linter.unusedSimpArgs false
namespace Go.Proofs.Ytcllifcafgiopaa
open Go.RowKit

section
variable {P : Program} {w : World}
theorem step_append_run {ops : Array Oper} {o : Oper} {a : Act} {K : Act → World → Prop} {Q : Exit → Act → World → Prop} {E : Prop} (hgd : o.guard = none) (s x : Operand) (t : TypeId)
    (ho : o.op = .call { callee := .builtin .append, args := #[s, x], argTypes := #[t, t] })
    (vs vx : Value) (hs : a.eval s = vs) (hx : a.eval x = vx) (R : Value → World → Prop) (hr : ∃ v' w', (Builtin.append_ #[t, t] o.type #[vs, vx]).run P w = .ok v' w' ∧ R v' w')
    (h : ∀ v' w', R v' w' → K (a.put o.dst v') w') :
    if Region.wanted o (yielded ops a.tmps) = true then Oper.wp P o a w K Q else E := by
  have hw : Region.wanted o (yielded ops a.tmps) = true := by simp [Region.wanted, hgd]
  rw [if_pos hw]
  obtain ⟨v', w', hrun, hR⟩ := hr
  unfold Oper.wp
  simp [execOp, ho, resolve, invoke, builtin, hs, hx, hrun, Result.andThen]
  exact h v' w' hR
end
theorem wf_i64P {x : Int} (h0 : -9223372036854775808 ≤ x) (h1 : x ≤ 9223372036854775807) : (Lit.int .i64 x).wf = true := by
  simp [Lit.wf, IntKind.min, IntKind.max, IntKind.bits, IntKind.signed]
  omega
/-- A cell that holds a value, and may be written. -/
structure Fz (B : Nat) (v : Value) (w : World) : Prop where
  c : w.cell? ⟨B, 0, none⟩ = some v
  f : w.frozen? ⟨B, 0, none⟩ = false
theorem Fz.bel {B : Nat} {v : Value} {w w' : World} (h : Fz B v w) (hb : Bel w w') : Fz B v w' := ⟨hb.cell h.c, (hb.frozen h.c).trans h.f⟩
theorem fn_one (a : Int) (A : Option Addr) (m c : Nat) : ∀ u ∈ [Value.int .i64 a, .slice A m c], u.oneCell' = true := by
  intro u hu
  simp only [List.mem_cons, List.not_mem_nil, or_false] at hu
  rcases hu with rfl | rfl <;> rfl
/-- 'append' of a function. -/
theorem app_fn (ty : TypeId) {X : World} {base n : Nat} {v : Value} {xs : List Value} (ho : X.ownsRow base 38 2 v n xs) (hn : n ≤ 4096) (g : Nat) {a : Int} {A : Option Addr} {m c : Nat} (hg : g = g) (hnews : ∀ j u, [Value.int .i64 a, .slice A m c][j]? = some u → X.cell? ((⟨g, 0, none⟩ : Addr).add j) = some u) (hb : base ≤ X.heap.size) :
    ∃ v' w', (Builtin.append_ #[22, 22] ty #[v, .slice (some ⟨g, 0, none⟩) 1 1]).run Try.prog X = .ok v' w' ∧ w'.ownsRow base 38 2 v' (n + 1) (xs ++ [Value.int .i64 a, .slice A m c]) ∧ X.grownBy w' v.ownBlock ∧ ∃ g' c', v' = .slice (some ⟨g', 0, none⟩) (n + 1) c' := by
  obtain ⟨i0, hi, hzz⟩ := Option.map_eq_some_iff.1 info_fn
  simp only [Prod.mk.injEq] at hzz
  obtain ⟨hz0, hz1, hz2⟩ := hzz
  obtain ⟨v', w', hr, h2, h3, _, h5⟩ := run_append_own_at (P := Try.prog) X base _ ty 38 i0 _ 2 32 Try.underlying22 hi hz0 hz1 hz2 rfl (by decide) v n xs ho ⟨g, 0, none⟩ 1 1 [Value.int .i64 a, .slice A m c] rfl hnews (fn_one a A m c) (by simp only [maxLen]; omega) (by omega) hb
  exact ⟨v', w', hr, h2, h3, own_form h2⟩
theorem part_fnS (G : Nat) (l : List Int) (bad : Bool) (w0 W : World) (hr : RdS w0 W G l bad) (a : Int) (code : List InstD) (m : Nat) (l' : List Int) (bad' : Bool) (hg : Hid (rdF l bad = (⟨a, code⟩, l', bad'))) (hm : Hid (code.length = m)) :
    Calls Try.prog 24 #[.pointer (some ⟨G, 0, none⟩), .iface 38 (.agg #[.int .i64 0, .slice none 0 0])] W fun en W' => ∃ A c, en = .returned (.iface 38 (.agg #[.int .i64 a, .slice A m c])) ∧ W'.ownsRow W.heap.size 43 7 (.slice A m c) code.length (code.flatMap InstD.cells) ∧ RdS w0 W' G l' bad' ∧ But G W W' := by
  refine (part_fn G l bad w0 W hr a code l' bad' hg).mono ?_
  rintro e w ⟨v, rfl, ho, h1, h2⟩
  obtain ⟨A, c, rfl⟩ := own_slice ho
  rw [hm.out] at ho ⊢
  exact ⟨A, c, rfl, ho, h1, h2⟩
set_option maxHeartbeats 8000000 in
set_option maxRecDepth 100000 in
theorem progGet_no (A : Option Addr) (c n : Nat) (bs : List Int) (w : World) (h : Sl (IntR .u8) 1 w A c bs) (hn : Hid (bs.length = n)) (hh : Hid (¬ (rdX bs false = 88 ∧ rdX (tkR bs false 1) (tkB bs false 1) = 86))) :
    Calls Try.prog 12 #[.slice A n c] w fun e' w' => e' = .returned (.tuple #[.agg #[.slice none 0 0], .int .i64 7]) ∧ Bel w w' := by
  have HS := Lib.hid h
  clear h
  have HB0 := ((Bel.refl w).alloc (.cells #[.slice none 0 0] 24)).alloc (.cells #[.slice A n c, .bool false] 51)
  have hbR := (Blk.new w 24 #[.slice none 0 0]).alloc (.cells #[.slice A n c, .bool false] 51)
  have hbG := Blk.new (w.alloc (.cells #[.slice none 0 0] 24)) 51 #[.slice A n c, .bool false]
  rw [World.size_alloc] at hbG
  have HR0 : Hid (RdS w _ (w.heap.size + 1) bs false) := Lib.hid ⟨A, c, by rw [hn.out]; exact hbG, HS.out, HB0, by omega⟩
  have HRR := Lib.hid hbR
  have hGl : w.heap.size + 1 < ((w.alloc (.cells #[.slice none 0 0] 24)).alloc (.cells #[.slice A n c, .bool false] 51)).heap.size := by simp
  clear hbR hbG HB0
  obtain ⟨x, hx⟩ : ∃ x, Hid (rdX bs false = x) := ⟨_, Lib.hid rfl⟩
  obtain ⟨y, hy⟩ : ∃ y, Hid (rdX (tkR bs false 1) (tkB bs false 1) = y) := ⟨_, Lib.hid rfl⟩
  rw [hx.out, hy.out] at hh
  go_enter Try.func12, Try.ntmps12
  go_wp2_with fail
  obtain ⟨R, hR⟩ : ∃ R, w.heap.size = R := ⟨_, rfl⟩
  obtain ⟨G, hG⟩ : ∃ G, w.heap.size + 1 = G := ⟨_, rfl⟩
  have hRG : R + 1 = G := by omega
  have hwR : w.heap.size ≤ R := by omega
  rw [hG] at HR0 hGl
  rw [hR] at HRR
  simp only [hG]
  simp only [hR]
  clear hG hR
  refine (part_int G bs false w _ HR0.out x hx).mono ?_
  rintro e w1 ⟨rfl, hr1, hb1⟩
  have HR := Lib.hid hr1
  have HRR := Lib.hid (hb1.blk HRR.out (by omega))
  have hGl := Nat.lt_of_lt_of_le hGl hb1.size
  have ax := atInt (.int .i64 x)
  have ay := atInt (.int .i64 y)
  clear hr1 hb1 HR0
  by_cases hx8 : x = 88
  · subst hx8
    have tx : ((88 : Int) == 88) = true := rfl
    have hy8 : y ≠ 86 := fun e => hh.out ⟨rfl, e⟩
    have ty : (y == 86) = false := by simpa using hy8
    clear hy8
    go_wp2_with fail
    refine (part_int G (tkR bs false 1) (tkB bs false 1) w _ HR.out y hy).mono ?_
    rintro e w2 ⟨rfl, hr2, hb2⟩
    have HR := Lib.hid hr2
    have HRR := Lib.hid (hb2.blk HRR.out (by omega))
    have hGl := Nat.lt_of_lt_of_le hGl hb2.size
    clear hr2 hb2
    obtain ⟨n2, hn2⟩ : ∃ n2, Hid (rdX (tkR (tkR bs false 1) (tkB bs false 1) 1) (tkB (tkR bs false 1) (tkB bs false 1) 1) = n2) := ⟨_, Lib.hid rfl⟩
    have HRa := Lib.hid (HR.out.bel ((Bel.refl w2).alloc (.cells #[.slice none 0 0] 24)))
    have HRRa := Lib.hid (HRR.out.alloc (.cells #[.slice none 0 0] 24))
    go_wp2_with fail
    refine (part_int G (tkR (tkR bs false 1) (tkB bs false 1) 1) (tkB (tkR bs false 1) (tkB bs false 1) 1) w _ HRa.out n2 hn2).mono ?_
    rintro e w7 ⟨rfl, hr7, hb7⟩
    have HRR := Lib.hid (hb7.blk HRRa.out (by omega))
    have an := atInt (.int .i64 n2)
    obtain ⟨A7, c7, -, -, HB7, -⟩ := hr7
    have HBw := Lib.hid HB7
    clear hb7 HB7
    go_wp2_with fail
    go_loopw [7] (fun kv wr => kv = .int .i64 n2 ∧ wr = w7) (fun kv _ => 0)
    case atStart => exact ⟨rfl, rfl⟩
    case round =>
      obtain ⟨rfl, rfl⟩ := hrel
      have r0 : wr.cell? ⟨R, 0, none⟩ = some (.slice none 0 0) := HRR.out.cell 0 rfl
      have f0 := HRR.out.frozen 0
      have E0 : Hid ((wr.setCell ⟨R, 0, none⟩ (.slice none 0 0)).cell? ⟨R, 0, none⟩ = some (.slice none 0 0)) := Lib.hid ((Blk.set (cs := #[.slice none 0 0]) HRR.out 0 (.slice none 0 0)).cell 0 rfl)
      have HF := Lib.hid (HBw.out.setCell (p := ⟨R, 0, none⟩) (by simp only; omega) (.slice none 0 0))
      by_cases hn0 : 0 < n2
      · go_wp2_with fail
        refine bodyPost_ret (v := .tuple #[.agg #[.slice none 0 0], .int .i64 7]) ?_ rfl ⟨rfl, HF.out⟩
        have h1 := E0.out
        simp [results, Try.results12, go_sem, h1]
      · go_wp2_with fail
        refine bodyPost_ret (v := .tuple #[.agg #[.slice none 0 0], .int .i64 7]) ?_ rfl ⟨rfl, HF.out⟩
        have h1 := E0.out
        simp [results, Try.results12, go_sem, h1]
  · have tx : (x == 88) = false := by simpa using hx8
    clear hx8
    obtain ⟨n2, hn2⟩ : ∃ n2, Hid (rdX (tkR bs false 1) (tkB bs false 1) = n2) := ⟨_, Lib.hid rfl⟩
    have HRa := Lib.hid (HR.out.bel ((Bel.refl w1).alloc (.cells #[.slice none 0 0] 24)))
    have HRRa := Lib.hid (HRR.out.alloc (.cells #[.slice none 0 0] 24))
    go_wp2_with fail
    refine (part_int G (tkR bs false 1) (tkB bs false 1) w _ HRa.out n2 hn2).mono ?_
    rintro e w7 ⟨rfl, hr7, hb7⟩
    have HRR := Lib.hid (hb7.blk HRRa.out (by omega))
    have an := atInt (.int .i64 n2)
    obtain ⟨A7, c7, -, -, HB7, -⟩ := hr7
    have HBw := Lib.hid HB7
    clear hb7 HB7
    go_wp2_with fail
    go_loopw [7] (fun kv wr => kv = .int .i64 n2 ∧ wr = w7) (fun kv _ => 0)
    case atStart => exact ⟨rfl, rfl⟩
    case round =>
      obtain ⟨rfl, rfl⟩ := hrel
      have r0 : wr.cell? ⟨R, 0, none⟩ = some (.slice none 0 0) := HRR.out.cell 0 rfl
      have f0 := HRR.out.frozen 0
      have E0 : Hid ((wr.setCell ⟨R, 0, none⟩ (.slice none 0 0)).cell? ⟨R, 0, none⟩ = some (.slice none 0 0)) := Lib.hid ((Blk.set (cs := #[.slice none 0 0]) HRR.out 0 (.slice none 0 0)).cell 0 rfl)
      have HF := Lib.hid (HBw.out.setCell (p := ⟨R, 0, none⟩) (by simp only; omega) (.slice none 0 0))
      by_cases hn0 : 0 < n2
      · go_wp2_with fail
        refine bodyPost_ret (v := .tuple #[.agg #[.slice none 0 0], .int .i64 7]) ?_ rfl ⟨rfl, HF.out⟩
        have h1 := E0.out
        simp [results, Try.results12, go_sem, h1]
      · go_wp2_with fail
        refine bodyPost_ret (v := .tuple #[.agg #[.slice none 0 0], .int .i64 7]) ?_ rfl ⟨rfl, HF.out⟩
        have h1 := E0.out
        simp [results, Try.results12, go_sem, h1]
set_option maxHeartbeats 8000000 in
set_option maxRecDepth 100000 in
theorem progGet_yes (A : Option Addr) (c n : Nat) (bs : List Int) (w : World) (h : Sl (IntR .u8) 1 w A c bs) (hn : Hid (bs.length = n)) (hh : Hid (rdX bs false = 88 ∧ rdX (tkR bs false 1) (tkB bs false 1) = 86)) (L : List FnD) (lE : List Int) (bE : Bool) (hr2 : Hid (getP2 (tkR (tkR bs false 1) (tkB bs false 1) 1) (tkB (tkR bs false 1) (tkB bs false 1) 1) = (L, lE, bE))) (Lr : List FnD) (er2 : Int) (hfin : Hid ((Lr, er2) = if bE = false ∧ lE = [] ∧ progMay L = true then (L, 0) else ([], 7))) :
    Calls Try.prog 12 #[.slice A n c] w fun e' w' => ∃ A' c', e' = .returned (.tuple #[.agg #[.slice A' Lr.length c'], .int .i64 er2]) ∧ Sl FnR 2 w' A' c' Lr ∧ Bel w w' := by
  have HS := Lib.hid h
  clear h
  have HB0 := ((Bel.refl w).alloc (.cells #[.slice none 0 0] 24)).alloc (.cells #[.slice A n c, .bool false] 51)
  have hbR := (Blk.new w 24 #[.slice none 0 0]).alloc (.cells #[.slice A n c, .bool false] 51)
  have hbG := Blk.new (w.alloc (.cells #[.slice none 0 0] 24)) 51 #[.slice A n c, .bool false]
  rw [World.size_alloc] at hbG
  have HR0 : Hid (RdS w _ (w.heap.size + 1) bs false) := Lib.hid ⟨A, c, by rw [hn.out]; exact hbG, HS.out, HB0, by omega⟩
  have HRR := Lib.hid hbR
  have hGl : w.heap.size + 1 < ((w.alloc (.cells #[.slice none 0 0] 24)).alloc (.cells #[.slice A n c, .bool false] 51)).heap.size := by simp
  clear hbR hbG HB0
  obtain ⟨x, hx⟩ : ∃ x, Hid (rdX bs false = x) := ⟨_, Lib.hid rfl⟩
  obtain ⟨y, hy⟩ : ∃ y, Hid (rdX (tkR bs false 1) (tkB bs false 1) = y) := ⟨_, Lib.hid rfl⟩
  rw [hx.out, hy.out] at hh
  go_enter Try.func12, Try.ntmps12
  go_wp2_with fail
  obtain ⟨R, hR⟩ : ∃ R, w.heap.size = R := ⟨_, rfl⟩
  obtain ⟨G, hG⟩ : ∃ G, w.heap.size + 1 = G := ⟨_, rfl⟩
  have hRG : R + 1 = G := by omega
  have hwR : w.heap.size ≤ R := by omega
  rw [hG] at HR0 hGl
  rw [hR] at HRR
  simp only [hG]
  simp only [hR]
  clear hG hR
  refine (part_int G bs false w _ HR0.out x hx).mono ?_
  rintro e w1 ⟨rfl, hr1, hb1⟩
  have HR := Lib.hid hr1
  have HRR := Lib.hid (hb1.blk HRR.out (by omega))
  have hGl := Nat.lt_of_lt_of_le hGl hb1.size
  have ax := atInt (.int .i64 x)
  have ay := atInt (.int .i64 y)
  clear hr1 hb1 HR0
  obtain ⟨rfl, rfl⟩ := hh.out
  have tx : ((88 : Int) == 88) = true := rfl
  have ty : ((86 : Int) == 86) = true := rfl
  go_wp2_with fail
  refine (part_int G (tkR bs false 1) (tkB bs false 1) w _ HR.out 86 hy).mono ?_
  rintro e w2 ⟨rfl, hr2, hb2⟩
  have HR := Lib.hid hr2
  have HRR := Lib.hid (hb2.blk HRR.out (by omega))
  have hGl := Nat.lt_of_lt_of_le hGl hb2.size
  clear hr2 hb2

  obtain ⟨nf, hnf⟩ : ∃ nf : Nat, Hid (rdX (tkR (tkR bs false 1) (tkB bs false 1) 1) (tkB (tkR bs false 1) (tkB bs false 1) 1) = nf) := ⟨(rdX (tkR (tkR bs false 1) (tkB bs false 1) 1) (tkB (tkR bs false 1) (tkB bs false 1) 1)).toNat, Lib.hid (by have := rdX_range HR.out; omega)⟩
  have hnf2 : nf < 256 := by have := rdX_range HR.out; rw [hnf.out] at this; omega
  have HRC : Hid (rdFns nf [] (tkR (tkR (tkR bs false 1) (tkB bs false 1) 1) (tkB (tkR bs false 1) (tkB bs false 1) 1) 1) (tkB (tkR (tkR bs false 1) (tkB bs false 1) 1) (tkB (tkR bs false 1) (tkB bs false 1) 1) 1) = (L, lE, bE)) := Lib.hid (by
    have := hr2.out
    unfold getP2 at this
    rw [hnf.out, Int.toNat_natCast] at this
    exact this)
  have an := atInt (.int .i64 nf)
  have HRa := Lib.hid (HR.out.bel ((Bel.refl w2).alloc (.cells #[.slice none 0 0] 24)))
  have HRRa := Lib.hid (HRR.out.alloc (.cells #[.slice none 0 0] 24))
  have HPa := Lib.hid (Blk.new w2 24 #[.slice none 0 0])
  go_wp2_with fail
  generalize w2.alloc (.cells #[.slice none 0 0] 24) = W2 at *
  generalize w2.heap.size = Pb at *
  have hPl := HPa.out.lt
  refine (part_int G (tkR (tkR bs false 1) (tkB bs false 1) 1) (tkB (tkR bs false 1) (tkB bs false 1) 1) w _ HRa.out nf hnf).mono ?_
  rintro e w7 ⟨rfl, hr7, hb7⟩
  have HI : Hid (GetI w R G Pb (Pb + 1) [] (tkR (tkR (tkR bs false 1) (tkB bs false 1) 1) (tkB (tkR bs false 1) (tkB bs false 1) 1) 1) (tkB (tkR (tkR bs false 1) (tkB bs false 1) 1) (tkB (tkR bs false 1) (tkB bs false 1) 1) 1) (.slice none 0 0) w7) := Lib.hid ⟨hr7, hb7.blk HRRa.out (by omega), hb7.blk HPa.out (by omega), World.ownsRow_nil _ _ _ _, fun z hz => by cases hz⟩
  have hbw0 : Pb + 1 ≤ w7.heap.size := Nat.le_trans hPl hb7.size
  have hGb : G < Pb + 1 := by omega
  have hPb : Pb < Pb + 1 := by omega
  have hwP : w.heap.size ≤ Pb := by omega
  have HBS : Hid (∀ q ∈ bs, 0 ≤ q ∧ q < 256) := Lib.hid HS.out.u8
  clear hr7 hb7 HRRa HPa HRa HR HRR
  go_wp2_with fail
  go_loopw [7] (fun kv wr => ∃ (r : Nat) (zs : List (FnD × Value)) (l1 : List Int) (b1 : Bool) (v : Value), kv = .int .i64 r ∧ zs.length + r = nf ∧ rdFns r (zs.map Prod.fst) l1 b1 = (L, lE, bE) ∧ GetI w R G Pb (Pb + 1) zs l1 b1 v wr ∧ Pb + 1 ≤ wr.heap.size ∧ (∀ z ∈ zs, (0 ≤ z.1.args ∧ z.1.args < 256) ∧ ∀ i ∈ z.1.code, i.Wf) ∧ (∀ q ∈ l1, 0 ≤ q ∧ q < 256)) (fun kv _ => (intOf kv).toNat)
  case atStart => exact ⟨nf, [], _, _, _, rfl, by simp, HRC.out, HI.out, hbw0, fun z hz => (by cases hz), tkR_mem (tkR_mem (tkR_mem HBS.out _ 1) _ 1) _ 1⟩
  case round =>
    clear HI HRC hbw0
    obtain ⟨r, zs, l1, b1, v, rfl, hlen, hrc, hi, hbw, hzw, hlw⟩ := hrel
    have HII := Lib.hid hi
    obtain ⟨A1, c1, hbg, -, -, -⟩ := hi.rd
    have q1 := hbg.cell 1 (v := .bool b1) rfl
    have q0 := hbg.cell 0 (v := .slice A1 l1.length c1) rfl
    have HZW := Lib.hid hzw
    have HLW := Lib.hid hlw
    clear hi hbg hzw hlw
    by_cases hend : r = 0 ∨ b1 = true
    · have HE : Hid (zs.map Prod.fst = L ∧ l1 = lE ∧ b1 = bE) := Lib.hid (by
        cases r with
        | zero => simp only [rdFns, Prod.mk.injEq] at hrc; exact hrc
        | succ r =>
          have hb1 : b1 = true := hend.resolve_left (by omega)
          simp only [rdFns, hb1, if_true, Prod.mk.injEq] at hrc
          rw [hb1]
          exact hrc)
      obtain ⟨hL, rfl, rfl⟩ := HE.out
      have HL := Lib.hid hL
      obtain ⟨AV, cV, hv, hsV⟩ := sl_of_rows (R := FnR) (sz := 2) fnc (fun _ => rfl) Prod.fst HII.out.own (fun z hz => by
        obtain ⟨A', c', e1, hs'⟩ := sl_of_rows (R := InstR) (sz := 7) InstD.cells (fun _ => rfl) id (HII.out.codes z hz) (fun i hi => ⟨rfl, (HZW.out z hz).2 i hi⟩)
        rw [List.map_id] at hs'
        exact ⟨A', c', by unfold fnc; rw [e1], hs', wf_i64P (by have := (HZW.out z hz).1; omega) (by have := (HZW.out z hz).1; omega)⟩)
      subst hv
      have hvb := HII.out.box
      have p0 := hvb.cell 0 (v := .slice AV zs.length cV) rfl
      have hres := HII.out.res
      have r0 := hres.cell 0 (v := .slice none 0 0) rfl
      have f0 := hres.frozen 0
      have HRES := Lib.hid hres
      have HSV := Lib.hid hsV
      have HBX := Lib.hid (show Bel w wr from by obtain ⟨_, _, _, _, hb, _⟩ := HII.out.rd; exact hb)
      have HZL : Hid (L.length = zs.length) := Lib.hid (by rw [← HL.out, List.length_map])
      have HKEEP := Lib.hid HII.out
      have HEND := Lib.hid hend
      clear hvb hres hsV hend hrc hL
      have E0 : Hid ((wr.setCell ⟨R, 0, none⟩ (.slice none 0 0)).cell? ⟨R, 0, none⟩ = some (.slice none 0 0)) := Lib.hid ((Blk.set (cs := #[.slice none 0 0]) HRES.out 0 (.slice none 0 0)).cell 0 rfl)
      have HFB := Lib.hid (HBX.out.setCell (p := ⟨R, 0, none⟩) hwR (.slice none 0 0))
      have HGO : Hid ((Lr, er2) = if b1 = false ∧ l1 = [] ∧ progMay L = true then (L, 0) else ([], 7)) := hfin
      by_cases hb1 : b1 = true
      · subst hb1
        have HBAD : Hid (Lr = [] ∧ er2 = 7) := Lib.hid (by have := HGO.out; simp only [Bool.true_eq_false, false_and, if_false, Prod.mk.injEq] at this; exact this)
        by_cases hr0 : (0 : Int) < r
        · go_wp2_with fail
          refine bodyPost_ret (v := .tuple #[.agg #[.slice none 0 0], .int .i64 7]) ?_ rfl ⟨none, 0, by rw [HBAD.out.1, HBAD.out.2]; rfl, by rw [HBAD.out.1]; exact Sl.nil _ _ _, HFB.out⟩
          have h1 := E0.out
          simp [results, Try.results12, go_sem, h1]
        · go_wp2_with fail
          refine bodyPost_ret (v := .tuple #[.agg #[.slice none 0 0], .int .i64 7]) ?_ rfl ⟨none, 0, by rw [HBAD.out.1, HBAD.out.2]; rfl, by rw [HBAD.out.1]; exact Sl.nil _ _ _, HFB.out⟩
          have h1 := E0.out
          simp [results, Try.results12, go_sem, h1]
      · obtain rfl : b1 = false := by simpa using hb1
        have hr0 : r = 0 := by
          by_cases h : r = 0
          · exact h
          · exact absurd (HEND.out.resolve_left h) (by decide)
        subst hr0
        by_cases hl1 : l1 = []
        · subst hl1
          obtain ⟨mb, hmb⟩ : ∃ mb, Hid (progMay L = mb) := ⟨_, Lib.hid rfl⟩
          have q0 : wr.cell? ⟨G, 0, none⟩ = some (.slice A1 0 c1) := q0
          go_wp2_with fail
          refine (progmay_any AV cV zs.length L mb wr (by rw [← HL.out]; exact HSV.out) HZL hmb).mono ?_
          rintro e w9 ⟨rfl, hb9⟩
          have p0 := hb9.cell p0
          have r0 := hb9.cell r0
          have f0 := (HRES.out.bel hb9).frozen 0
          have HFB := Lib.hid ((HBX.out.trans hb9).setCell (p := ⟨R, 0, none⟩) hwR (.slice none 0 0))
          have E0 : Hid ((w9.setCell ⟨R, 0, none⟩ (.slice none 0 0)).cell? ⟨R, 0, none⟩ = some (.slice none 0 0)) := Lib.hid ((Blk.set (cs := #[.slice none 0 0]) (HRES.out.bel hb9) 0 (.slice none 0 0)).cell 0 rfl)
          have E1 : Hid ((w9.setCell ⟨R, 0, none⟩ (.slice AV zs.length cV)).cell? ⟨R, 0, none⟩ = some (.slice AV zs.length cV)) := Lib.hid ((Blk.set (cs := #[.slice none 0 0]) (HRES.out.bel hb9) 0 (.slice AV zs.length cV)).cell 0 rfl)
          have HFG := Lib.hid ((HBX.out.trans hb9).setCell (p := ⟨R, 0, none⟩) hwR (.slice AV zs.length cV))
          have HK9 : Hid (GetI w R G Pb (Pb + 1) zs [] false (.slice AV zs.length cV) (w9)) := Lib.hid (HKEEP.out.bel hb9)
          clear hb9
          cases mb
          · have HBAD : Hid (Lr = [] ∧ er2 = 7) := Lib.hid (by have := HGO.out; rw [hmb.out] at this; simp only [Bool.false_eq_true, and_false, if_false, Prod.mk.injEq] at this; exact this)
            go_wp2_with fail
            refine bodyPost_ret (v := .tuple #[.agg #[.slice none 0 0], .int .i64 7]) ?_ rfl ⟨none, 0, by rw [HBAD.out.1, HBAD.out.2]; rfl, by rw [HBAD.out.1]; exact Sl.nil _ _ _, HFB.out⟩
            have h1 := E0.out
            simp [results, Try.results12, go_sem, h1]
          · have HGOOD : Hid (Lr = L ∧ er2 = 0) := Lib.hid (by have := HGO.out; rw [hmb.out] at this; simp only [and_self, if_true, Prod.mk.injEq] at this; exact this)
            have HSF : Hid (Sl FnR 2 (w9.setCell ⟨R, 0, none⟩ (.slice AV zs.length cV)) AV cV L) := Lib.hid (by
              have hown := own_set (p := ⟨R, 0, none⟩) HK9.out.own (by simp only; omega) (.slice AV zs.length cV)
              obtain ⟨A', c', e', hs'⟩ := sl_of_rows (R := FnR) (sz := 2) (W := w9.setCell ⟨R, 0, none⟩ (.slice AV zs.length cV)) fnc (fun _ => rfl) Prod.fst hown (fun z hz => by
                obtain ⟨A', c', e1, hs'⟩ := sl_of_rows (R := InstR) (sz := 7) InstD.cells (fun _ => rfl) id (own_set (p := ⟨R, 0, none⟩) (HK9.out.codes z hz) (by simp only; omega) (.slice AV zs.length cV)) (fun i hi => ⟨rfl, (HZW.out z hz).2 i hi⟩)
                rw [List.map_id] at hs'
                exact ⟨A', c', by unfold fnc; rw [e1], hs', wf_i64P (by have := (HZW.out z hz).1; omega) (by have := (HZW.out z hz).1; omega)⟩)
              simp only [Value.slice.injEq] at e'
              obtain ⟨rfl, -, rfl⟩ := e'
              rw [HL.out] at hs'
              exact hs')
            go_wp2_with fail
            refine bodyPost_ret (v := .tuple #[.agg #[.slice AV zs.length cV], .int .i64 0]) ?_ rfl ⟨AV, cV, by rw [HGOOD.out.1, HGOOD.out.2, HZL.out], by rw [HGOOD.out.1]; exact HSF.out, HFG.out⟩
            have h1 := E1.out
            simp [results, Try.results12, go_sem, h1]
        · have hlp : (0 : Int) < (l1.length : Int) := by
            have := List.length_pos_iff.2 hl1
            omega
          have HBAD : Hid (Lr = [] ∧ er2 = 7) := Lib.hid (by have := HGO.out; simp only [hl1, false_and, and_false, if_false, Prod.mk.injEq] at this; exact this)
          obtain ⟨ql, hql⟩ : ∃ ql, Hid (l1.length = ql) := ⟨_, Lib.hid rfl⟩
          rw [hql.out] at q0 hlp
          clear hl1
          go_wp2_with fail
          refine bodyPost_ret (v := .tuple #[.agg #[.slice none 0 0], .int .i64 7]) ?_ rfl ⟨none, 0, by rw [HBAD.out.1, HBAD.out.2]; rfl, by rw [HBAD.out.1]; exact Sl.nil _ _ _, HFB.out⟩
          have h1 := E0.out
          simp [results, Try.results12, go_sem, h1]
    · obtain rfl : b1 = false := by
        cases b1
        · rfl
        · exact absurd (.inr rfl) hend
      have hr0 : r ≠ 0 := fun h => hend (.inl h)
      have hr1 : (0 : Int) < r := by omega
      obtain ⟨r', hr'⟩ : ∃ r', r = r' + 1 := ⟨r - 1, by omega⟩
      have er : IntKind.i64.wrap ((r : Int) - 1) = (r' : Int) := by rw [wrap_i64 (by omega) (by omega)]; omega
      have hwf := rdF_wf HLW.out false
      obtain ⟨⟨⟨a, code⟩, l2, b2⟩, hF⟩ : ∃ p, rdF l1 false = p := ⟨_, rfl⟩
      rw [hF] at hwf
      have HF := Lib.hid hF
      obtain ⟨m, hm⟩ : ∃ m, Hid (code.length = m) := ⟨_, Lib.hid rfl⟩
      have HRC2 : Hid (rdFns r' (zs.map Prod.fst ++ [⟨a, code⟩]) l2 b2 = (L, lE, bE)) := Lib.hid (by
        rw [hr'] at hrc
        simp only [rdFns, Bool.false_eq_true, if_false, hF] at hrc
        exact hrc)
      have HWF := Lib.hid hwf
      have HRN : Hid (zs.length + 1 + r' = nf) := Lib.hid (by omega)
      have hrr : r' < r := by omega
      have hzl : zs.length ≤ 255 := by omega
      have hbw2 : Pb + 1 ≤ wr.heap.size := hbw
      clear hend hrc hr0 hr' hF hwf q0
      go_wp2_with fail
      have hvb := HII.out.box
      have S0 : Fz Pb v wr := ⟨hvb.cell 0 rfl, hvb.frozen 0⟩
      have SD := S0.bel ((Bel.refl wr).drew)
      have P0 := fun (w' : World) (h : Fz Pb v w') => h.c
      have P1 := fun (w' : World) (h : Fz Pb v w') => h.f
      clear hvb q1
      refine wp_region_T (fun w' => Fz Pb v w') (fun j => j == 10) (by kernel_rfl) ?_
      refine wpAnyU_take (i := 0) (v := ?v0) rfl (by kernel_rfl) (by kernel_rfl) (by kernel_rfl) (by kernel_rfl) (fun _ _ _ h => h) ?hy0 SD ?rest0
      case hy0 => first | (refine Or.inl ⟨by rfl, ?_⟩; (intro w' hSw; go_simp) <;> with_reducible rfl) | (refine Or.inr ⟨by rfl, ?_⟩; with_reducible rfl)
      try simp only [List.getElem_toArray, List.getElem_cons_zero, List.getElem_cons_succ, Act.put, List.setIfInBounds_toArray, List.set_cons_zero, List.set_cons_succ]
      refine wpAnyU_take (i := 1) (v := ?v1) rfl (by kernel_rfl) (by kernel_rfl) (by kernel_rfl) (by kernel_rfl) (fun _ _ _ h => h) ?hy1 SD ?rest1
      case hy1 => first | (refine Or.inl ⟨by rfl, ?_⟩; (intro w' hSw; go_simp) <;> with_reducible rfl) | (refine Or.inr ⟨by rfl, ?_⟩; with_reducible rfl)
      try simp only [List.getElem_toArray, List.getElem_cons_zero, List.getElem_cons_succ, Act.put, List.setIfInBounds_toArray, List.set_cons_zero, List.set_cons_succ]
      refine wpAnyU_take (i := 2) (v := ?v2) rfl (by kernel_rfl) (by kernel_rfl) (by kernel_rfl) (by kernel_rfl) (fun _ _ _ h => h) ?hy2 SD ?rest2
      case hy2 => first | (refine Or.inl ⟨by rfl, ?_⟩; (intro w' hSw; go_simp) <;> with_reducible rfl) | (refine Or.inr ⟨by rfl, ?_⟩; with_reducible rfl)
      try simp only [List.getElem_toArray, List.getElem_cons_zero, List.getElem_cons_succ, Act.put, List.setIfInBounds_toArray, List.set_cons_zero, List.set_cons_succ]
      refine wpAnyU_take (i := 3) (v := ?v3) rfl (by kernel_rfl) (by kernel_rfl) (by kernel_rfl) (by kernel_rfl) (fun _ _ _ h => h) ?hy3 SD ?rest3
      case hy3 => first | (refine Or.inl ⟨by rfl, ?_⟩; (intro w' hSw; go_simp) <;> with_reducible rfl) | (refine Or.inr ⟨by rfl, ?_⟩; with_reducible rfl)
      try simp only [List.getElem_toArray, List.getElem_cons_zero, List.getElem_cons_succ, Act.put, List.setIfInBounds_toArray, List.set_cons_zero, List.set_cons_succ]
      refine wpAnyU_take (i := 4) (v := ?v4) rfl (by kernel_rfl) (by kernel_rfl) (by kernel_rfl) (by kernel_rfl) (fun _ _ _ h => h) ?hy4 SD ?rest4
      case hy4 => first | (refine Or.inl ⟨by rfl, ?_⟩; (intro w' hSw; go_simp) <;> with_reducible rfl) | (refine Or.inr ⟨by rfl, ?_⟩; with_reducible rfl)
      try simp only [List.getElem_toArray, List.getElem_cons_zero, List.getElem_cons_succ, Act.put, List.setIfInBounds_toArray, List.set_cons_zero, List.set_cons_succ]
      refine wpAnyT_one (i := 5) (by kernel_rfl) rfl (fun K hK => ?_)
      go_simp
      go_at_call 24
      refine (part_fnS G l1 false w _ (HII.out.rd.bel ((Bel.refl wr).drew)) a code m l2 b2 HF hm).mono ?_
      rintro en w5 ⟨A5, c5, rfl, ho5, hr5, hb5⟩
      have HI5 := Lib.hid ((HII.out.bel ((Bel.refl wr).drew)).read (by omega) (by omega) hGb hr5 hb5)
      have S5 : Fz Pb v w5 := ⟨HI5.out.box.cell 0 rfl, HI5.out.box.frozen 0⟩
      have HO5 := Lib.hid (own_mono ho5 (Nat.le_trans hbw ((Bel.refl wr).drew).size))
      have af := atFn (.agg #[.int .i64 a, .slice A5 m c5])
      dsimp only
      refine hK.out _ _ (fun _ => S5) ?_
      clear hK K
      try simp only [List.getElem_toArray, List.getElem_cons_zero, List.getElem_cons_succ, Act.put, List.setIfInBounds_toArray, List.set_cons_zero, List.set_cons_succ]
      refine wpAnyU_take (i := 6) (v := ?v6) rfl (by kernel_rfl) (by kernel_rfl) (by kernel_rfl) (by kernel_rfl) (fun _ _ _ h => h) ?hy6 S5 ?rest6
      case hy6 => first | (refine Or.inl ⟨by rfl, ?_⟩; (intro w' hSw; go_simp) <;> with_reducible rfl) | (refine Or.inr ⟨by rfl, ?_⟩; with_reducible rfl)
      try simp only [List.getElem_toArray, List.getElem_cons_zero, List.getElem_cons_succ, Act.put, List.setIfInBounds_toArray, List.set_cons_zero, List.set_cons_succ]
      refine wpAnyT_one (i := 7) (by kernel_rfl) rfl (fun K hK => ?_)
      go_simp
      refine hK.out _ _ (fun _ => S5.bel ((Bel.refl w5).alloc _)) ?_
      clear hK K
      try simp only [List.getElem_toArray, List.getElem_cons_zero, List.getElem_cons_succ, Act.put, List.setIfInBounds_toArray, List.set_cons_zero, List.set_cons_succ]
      refine wpAnyT_one (i := 8) (by kernel_rfl) rfl (fun K hK => ?_)
      refine step_append_run (by rfl) _ _ _ (by rfl) v (.slice (some ⟨w5.heap.size, 0, none⟩) 1 1) (by rfl) (by rfl) _ (app_fn _ (HI5.out.bel ((Bel.refl w5).alloc _)).own (by omega) w5.heap.size rfl (fun j u hu => cells_new w5 #[.int .i64 a, .slice A5 m c5] 38 j u hu) (Nat.le_trans hbw2 (Nat.le_trans ((Bel.refl wr).drew).size (Nat.le_trans hb5.size ((Bel.refl w5).alloc (.cells #[.int .i64 a, .slice A5 m c5] 38)).size)))) ?_
      rintro v8 w8 ⟨ho8, hg8, g8, c8, hv8⟩
      subst hv8
      have HI8 := Lib.hid ((HI5.out.bel ((Bel.refl w5).alloc (.cells #[.int .i64 a, .slice A5 m c5] 38))).push (z := (⟨a, code⟩, .slice A5 m c5)) hPb (by omega) (by omega) rfl (own_bel HO5.out ((Bel.refl w5).alloc _)) hwP ho8 hg8)
      have HB8 := blk_grown (HI5.out.box.alloc (.cells #[.int .i64 a, .slice A5 m c5] 38)) (HI5.out.bel ((Bel.refl w5).alloc (.cells #[.int .i64 a, .slice A5 m c5] 38))).own (by decide) hg8
      have S8 : Fz Pb v w8 := ⟨HB8.cell 0 rfl, HB8.frozen 0⟩
      refine hK.out _ _ (fun _ => S8) ?_
      clear hK K
      try simp only [List.getElem_toArray, List.getElem_cons_zero, List.getElem_cons_succ, Act.put, List.setIfInBounds_toArray, List.set_cons_zero, List.set_cons_succ]
      refine wpAnyU_take (i := 9) (v := ?v9) rfl (by kernel_rfl) (by kernel_rfl) (by kernel_rfl) (by kernel_rfl) (fun _ _ _ h => h) ?hy9 S8 ?rest9
      case hy9 => first | (refine Or.inl ⟨by rfl, ?_⟩; (intro w' hSw; go_simp) <;> with_reducible rfl) | (refine Or.inr ⟨by rfl, ?_⟩; with_reducible rfl)
      try simp only [List.getElem_toArray, List.getElem_cons_zero, List.getElem_cons_succ, Act.put, List.setIfInBounds_toArray, List.set_cons_zero, List.set_cons_succ]
      refine wpAnyT_one (i := 10) (by kernel_rfl) rfl (fun K hK => ?_)
      go_simp
      refine hK.out _ _ (fun h => absurd h (by decide)) ?_
      clear hK K
      try simp only [List.getElem_toArray, List.getElem_cons_zero, List.getElem_cons_succ, Act.put, List.setIfInBounds_toArray, List.set_cons_zero, List.set_cons_succ]
      refine wpAnyT_done (by kernel_rfl) ?_ _
      refine NoPanic.normal ?_
      have HI9 := Lib.hid HI8.out
      have hbw9 : Pb + 1 ≤ w8.heap.size := Nat.le_trans hbw2 (Nat.le_trans ((Bel.refl wr).drew).size (Nat.le_trans hb5.size (Nat.le_trans ((Bel.refl w5).alloc (.cells #[.int .i64 a, .slice A5 m c5] 38)).size hg8.size)))
      clear S0 SD S5 S8 P0 P1 ho5 hr5 hb5 ho8 hg8 HB8 HI8
      go_wp2
      go_roundw
      case rel => exact ⟨r', zs ++ [(⟨a, code⟩, .slice A5 m c5)], l2, b2, _, by simp, by rw [List.length_append]; exact HRN.out, by rw [List.map_append]; exact HRC2.out, HI9.out, by rw [setCell_size]; exact hbw9, fun z hz => (by
        rcases List.mem_append.1 hz with hz | hz
        · exact HZW.out z hz
        · simp only [List.mem_cons, List.not_mem_nil, or_false] at hz
          subst hz
          exact ⟨HWF.out.1, HWF.out.2.1⟩), HWF.out.2.2⟩
      case measure => simp [intOf]; omega
end Go.Proofs.Ytcllifcafgiopaa
