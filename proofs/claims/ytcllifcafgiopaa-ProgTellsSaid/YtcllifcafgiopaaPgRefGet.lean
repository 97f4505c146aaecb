/- The document's Get by its contract: it is what prog's is. -/
import Derived.Test.YtcllifcafgiopaaPgRefGetP
set_option linter.unusedVariables false
set_option linter.unusedSimpArgs false
namespace Go.Proofs.Ytcllifcafgiopaa
open Go.RowKit

theorem own_butN {X Y : World} {G b : Nat} {e : TypeId} {s : Nat} {v : Value} {n : Nat} {xs : List Value} (h : X.ownsRow b e s v n xs) (hg : v.ownBlock ≠ some G) (hb : But G X Y) : Y.ownsRow b e s v n xs :=
  ⟨h.1, h.2.imp id fun ⟨g, cap, cur, h1, h2, h3, r⟩ => ⟨g, cap, cur, h1, h2, (hb.same g (Array.getElem?_eq_some_iff.1 h3).1 (fun e2 => hg (by rw [h1, ← e2]; rfl))).trans h3, r⟩⟩
/-- What a round of the outer loop knows. -/
structure GdI (w : World) (R Pb base : Nat) (zs : List (FnD × Value)) (v : Value) (X : World) : Prop where
  bel : Bel w X
  res : Blk X R 24 #[.slice none 0 0]
  box : Blk X Pb 24 #[v]
  own : X.ownsRow base 38 2 v zs.length (zs.flatMap fnc)
  codes : ∀ z ∈ zs, X.ownsRow base 43 7 z.2 z.1.code.length (z.1.code.flatMap InstD.cells)
theorem GdI.mono {w : World} {R Pb base : Nat} {zs : List (FnD × Value)} {v : Value} {X Y : World} (h : GdI w R Pb base zs v X) (hb : Bel X Y) : GdI w R Pb base zs v Y :=
  ⟨h.bel.trans hb, h.res.bel hb, h.box.bel hb, own_bel h.own hb, fun z hz => own_bel (h.codes z hz) hb⟩
theorem GdI.but {w : World} {R Pb base F : Nat} {zs : List (FnD × Value)} {v : Value} {X Y : World} (h : GdI w R Pb base zs v X) (hR : R ≠ F) (hP : Pb ≠ F) (hv : v.ownBlock ≠ some F) (hz : ∀ z ∈ zs, z.2.ownBlock ≠ some F) (hw : Bel w Y) (hb : But F X Y) : GdI w R Pb base zs v Y :=
  ⟨hw, hb.blk h.res hR, hb.blk h.box hP, own_butN h.own hv hb, fun z hm => own_butN (h.codes z hm) (hz z hm) hb⟩
theorem GdI.push {w : World} {R Pb base : Nat} {zs : List (FnD × Value)} {v v' : Value} {X Y : World} {z : FnD × Value} {n : Nat} (h : GdI w R Pb base zs v X) (hP : Pb < base) (hRP : R ≠ Pb) (hwP : w.heap.size ≤ Pb) (hn : n = zs.length + 1) (hz : X.ownsRow base 43 7 z.2 z.1.code.length (z.1.code.flatMap InstD.cells)) (ho : Y.ownsRow base 38 2 v' n (zs.flatMap fnc ++ fnc z)) (hg : X.grownBy Y v.ownBlock) : GdI w R Pb base (zs ++ [z]) v' (Y.setCell ⟨Pb, 0, none⟩ v') := by
  subst hn
  refine ⟨(row_low h.own w (by omega) h.bel hg).setCell (p := ⟨Pb, 0, none⟩) hwP v', (blk_grown h.res h.own (by decide) hg).other (p := ⟨Pb, 0, none⟩) hRP v', Blk.set (cs := #[v]) (blk_grown h.box h.own (by decide) hg) 0 v', ?_, ?_⟩
  · rw [List.length_append, List.flatMap_append, List.flatMap_singleton]
    exact own_set ho hP v'
  · intro y hy
    rcases List.mem_append.1 hy with hy | hy
    · exact own_set (own_grown (h.codes y hy) h.own (by decide) hg) hP v'
    · obtain rfl := List.mem_singleton.1 hy
      exact own_set (own_grown hz h.own (by decide) hg) hP v'
/-- What a round of the inner loop knows. -/
structure GcI (w W3 : World) (F : Nat) (a : Int) (acc : List InstD) (vC : Value) (X : World) : Prop where
  bel : Bel w X
  but : But F W3 X
  fb : Blk X F 38 #[.int .i64 a, vC]
  co : X.ownsRow W3.heap.size 43 7 vC acc.length (acc.flatMap InstD.cells)
theorem GcI.mono {w W3 : World} {F : Nat} {a : Int} {acc : List InstD} {vC : Value} {X Y : World} (h : GcI w W3 F a acc vC X) (hb : Bel X Y) : GcI w W3 F a acc vC Y :=
  ⟨h.bel.trans hb, h.but.bel hb, h.fb.bel hb, own_bel h.co hb⟩
theorem GcI.push {w W3 : World} {F : Nat} {a : Int} {acc : List InstD} {vC vC' : Value} {X Y : World} {x : InstD} {m : Nat} (h : GcI w W3 F a acc vC X) (hF : F < W3.heap.size) (hwF : w.heap.size ≤ F) (hm : m = acc.length + 1) (ho : Y.ownsRow W3.heap.size 43 7 vC' m (acc.flatMap InstD.cells ++ x.cells)) (hg : X.grownBy Y vC.ownBlock) : GcI w W3 F a (acc ++ [x]) vC' (Y.setCell ⟨F, 1, none⟩ vC') := by
  subst hm
  have hY : But F W3 Y := ⟨Nat.le_trans h.but.size hg.size, fun k hk hkF => (hg.block k (Nat.lt_of_lt_of_le hk h.but.size) (fun e => by
    have := (h.co.lt k e.symm).1
    omega)).trans (h.but.same k hk hkF)⟩
  refine ⟨(row_low h.co w (by omega) h.bel hg).setCell (p := ⟨F, 1, none⟩) hwF vC', hY.set 1 vC', Blk.set (cs := #[.int .i64 a, vC]) (blk_grown h.fb h.co (by decide) hg) 1 vC', ?_⟩
  rw [List.length_append, List.flatMap_append, List.flatMap_singleton]
  exact own_set ho hF vC'
set_option maxHeartbeats 8000000 in
set_option maxRecDepth 100000 in
theorem refGet3_any (A : Option Addr) (c n : Nat) (bs : List Int) (w : World) (h : Sl (IntR .u8) 1 w A c bs) (hn : Hid (bs.length = n)) (Lr : List FnD) (er : Int) (mR : Nat) (hr : Hid (getP bs = (Lr, er))) (hmR : Hid (Lr.length = mR)) (hbig : n ≤ 100000) :
    Calls Try.prog 20 #[.slice A n c] w fun e' w' => ∃ A' c', e' = .returned (.tuple #[.agg #[.slice A' mR c'], .int .i64 er]) ∧ Sl FnR 2 w' A' c' Lr ∧ Bel w w' := by
  have HS := Lib.hid h
  have HR8 := Lib.hid h.u8
  have hnb : n ≤ 9223372036854775807 - 100 ∨ True := .inr trivial
  have hgg := hr.out
  rw [← gGet_eq] at hgg
  have HGG := Lib.hid hgg
  clear hgg hnb
  have HB0 := Lib.hid ((Bel.refl w).alloc (.cells #[.slice none 0 0] 24))
  have KR0 := Lib.hid (Blk.new w 24 #[.slice none 0 0])
  have hcn : n ≤ c := by rw [← hn.out]; exact h.le
  have hcb : c ≤ 9223372036854775807 := by have := h.big; simp only [maxLen] at this; omega
  obtain ⟨R, hR⟩ : ∃ R, w.heap.size = R := ⟨_, rfl⟩
  have hwR : w.heap.size ≤ R := by omega
  by_cases h3 : n < 3
  · have hE0 := HGG.out
    unfold gGet at hE0
    rw [if_pos (.inl (by rw [hn.out]; exact h3))] at hE0
    have hE1 := Prod.mk.inj hE0
    have t3 : (n : Int) < 3 := by omega
    clear h hE0
    subst hR
    go_enter Try.func20, Try.ntmps20
    obtain ⟨rfl, rfl⟩ : Lr = [] ∧ er = 7 := ⟨hE1.1.symm, hE1.2.symm⟩
    obtain rfl : mR = 0 := hmR.out.symm
    have HRS := Lib.hid KR0.out
    have E0 : Hid (((w.alloc (.cells #[.slice none 0 0] 24)).setCell ⟨w.heap.size, 0, none⟩ (.slice none 0 0)).cell? ⟨w.heap.size, 0, none⟩ = some (.slice none 0 0)) := Lib.hid ((Blk.set (cs := #[.slice none 0 0]) HRS.out 0 (.slice none 0 0)).cell 0 rfl)
    have HFE := Lib.hid ((HB0.out).setCell (p := ⟨w.heap.size, 0, none⟩) hwR (.slice none 0 0))
    have r0 := HRS.out.cell 0 (v := .slice none 0 0) rfl
    have f0 := HRS.out.frozen 0
    go_wp2_with fail
    refine bodyPost_ret (v := .tuple #[.agg #[.slice none 0 0], .int .i64 7]) ?_ rfl ⟨none, 0, rfl, Sl.nil _ _ _, by first | exact HFE.out | exact HB0.out⟩
    have h1 := E0.out
    simp [results, Try.results20, go_sem, h1]
  obtain ⟨b, o, rfl, hc⟩ := h.int_cell (by rw [hn.out]; omega)
  rw [hn.out] at hc
  have HC := Lib.hid hc
  have d0 := (hc 0 (by omega)).1
  rw [Nat.add_zero] at d0
  have d1 := (hc 1 (by omega)).1
  have d2 := (hc 2 (by omega)).1
  have hblt := World.block_lt_of_cell? _ _ d0
  simp only at hblt
  clear hc h
  have hg3 : ∀ j, j < n → 0 ≤ bs.getD j 0 ∧ bs.getD j 0 < 256 := fun j hj => by
    have hj' : j < bs.length := by rw [hn.out]; exact hj
    rw [List.getD_eq_getElem?_getD, List.getElem?_eq_getElem hj', Option.getD_some]
    exact HR8.out _ (List.getElem_mem hj')
  have HG3 := Lib.hid hg3
  have g2 := hg3 2 (by omega)
  clear hg3
  have HGE := HGG.out
  unfold gGet at HGE
  obtain ⟨x0, hx0⟩ : ∃ x, bs.getD 0 0 = x := ⟨_, rfl⟩
  obtain ⟨x1, hx1⟩ : ∃ x, bs.getD 1 0 = x := ⟨_, rfl⟩
  obtain ⟨nf, hnf⟩ : ∃ k : Nat, bs.getD 2 0 = k := ⟨(bs.getD 2 0).toNat, by omega⟩
  rw [hx0] at HGE d0
  rw [hx1] at HGE d1
  rw [hnf] at HGE d2 g2
  rw [hn.out, Int.toNat_natCast] at HGE
  clear hx0 hx1 hnf HGG
  have t3 : ¬ (n : Int) < 3 := by omega
  have t30 : 0 < n := by omega
  have t31 : 1 < n := by omega
  have t32 : 2 < n := by omega
  by_cases h88 : x0 = 88
  case neg =>
    rw [if_pos (.inr (.inl h88))] at HGE
    have hE1 := Prod.mk.inj HGE
    have tx : (x0 != 88) = true := by simpa using h88
    clear HGE h88 d1 d2
    subst hR
    go_enter Try.func20, Try.ntmps20
    obtain ⟨rfl, rfl⟩ : Lr = [] ∧ er = 7 := ⟨hE1.1.symm, hE1.2.symm⟩
    obtain rfl : mR = 0 := hmR.out.symm
    have HRS := Lib.hid KR0.out
    have E0 : Hid (((w.alloc (.cells #[.slice none 0 0] 24)).setCell ⟨w.heap.size, 0, none⟩ (.slice none 0 0)).cell? ⟨w.heap.size, 0, none⟩ = some (.slice none 0 0)) := Lib.hid ((Blk.set (cs := #[.slice none 0 0]) HRS.out 0 (.slice none 0 0)).cell 0 rfl)
    have HFE := Lib.hid ((HB0.out).setCell (p := ⟨w.heap.size, 0, none⟩) hwR (.slice none 0 0))
    have r0 := HRS.out.cell 0 (v := .slice none 0 0) rfl
    have f0 := HRS.out.frozen 0
    go_wp2_with fail
    refine bodyPost_ret (v := .tuple #[.agg #[.slice none 0 0], .int .i64 7]) ?_ rfl ⟨none, 0, rfl, Sl.nil _ _ _, by first | exact HFE.out | exact HB0.out⟩
    have h1 := E0.out
    simp [results, Try.results20, go_sem, h1]
  subst h88
  have tx : ((88 : Int) != 88) = false := rfl
  by_cases h86 : x1 = 86
  case neg =>
    rw [if_pos (.inr (.inr h86))] at HGE
    have hE1 := Prod.mk.inj HGE
    have ty : (x1 != 86) = true := by simpa using h86
    clear HGE h86 d2
    subst hR
    go_enter Try.func20, Try.ntmps20
    obtain ⟨rfl, rfl⟩ : Lr = [] ∧ er = 7 := ⟨hE1.1.symm, hE1.2.symm⟩
    obtain rfl : mR = 0 := hmR.out.symm
    have HRS := Lib.hid KR0.out
    have E0 : Hid (((w.alloc (.cells #[.slice none 0 0] 24)).setCell ⟨w.heap.size, 0, none⟩ (.slice none 0 0)).cell? ⟨w.heap.size, 0, none⟩ = some (.slice none 0 0)) := Lib.hid ((Blk.set (cs := #[.slice none 0 0]) HRS.out 0 (.slice none 0 0)).cell 0 rfl)
    have HFE := Lib.hid ((HB0.out).setCell (p := ⟨w.heap.size, 0, none⟩) hwR (.slice none 0 0))
    have r0 := HRS.out.cell 0 (v := .slice none 0 0) rfl
    have f0 := HRS.out.frozen 0
    go_wp2_with fail
    refine bodyPost_ret (v := .tuple #[.agg #[.slice none 0 0], .int .i64 7]) ?_ rfl ⟨none, 0, rfl, Sl.nil _ _ _, by first | exact HFE.out | exact HB0.out⟩
    have h1 := E0.out
    simp [results, Try.results20, go_sem, h1]
  subst h86
  have ty : ((86 : Int) != 86) = false := rfl
  rw [if_neg (by omega)] at HGE
  obtain ⟨G, hG⟩ : ∃ G, gFns nf [] (bs.drop 3) = G := ⟨_, rfl⟩
  rw [hG] at HGE
  have HGF0 := Lib.hid hG
  have HG : Hid (G = none → Lr = [] ∧ er = 7) := Lib.hid (fun e => by
    rw [e] at HGE
    have := Prod.mk.inj HGE
    exact ⟨this.1.symm, this.2.symm⟩)
  have HGS : Hid (∀ q, G = some q → (Lr, er) = if progMay q.1 = true ∧ q.2 = [] then (q.1, 0) else ([], 7)) := Lib.hid (fun q e => by
    rw [e] at HGE
    exact HGE.symm)
  clear HGE hG
  have HB1 := Lib.hid (HB0.out.alloc (.cells #[.slice none 0 0] 24))
  subst hR
  have HI0 : Hid (GdI w w.heap.size (w.heap.size + 1) (w.heap.size + 1 + 1) [] (.slice none 0 0) ((w.alloc (.cells #[.slice none 0 0] 24)).alloc (.cells #[.slice none 0 0] 24))) := Lib.hid (by
    have k1 := Blk.new (w.alloc (.cells #[.slice none 0 0] 24)) 24 #[.slice none 0 0]
    rw [World.size_alloc] at k1
    exact ⟨HB1.out, KR0.out.alloc _, k1, ⟨by simp, .inl ⟨rfl, rfl⟩⟩, fun z hz => (by cases hz)⟩)
  have hbw0 : w.heap.size + 1 + 1 ≤ ((w.alloc (.cells #[.slice none 0 0] 24)).alloc (.cells #[.slice none 0 0] 24)).heap.size := by simp
  clear hwR
  go_enter Try.func20, Try.ntmps20
  go_wp2_with fail
  generalize (w.alloc (.cells #[.slice none 0 0] 24)).alloc (.cells #[.slice none 0 0] 24) = W1 at *
  obtain ⟨R, hR⟩ : ∃ R, w.heap.size = R := ⟨_, rfl⟩
  obtain ⟨Pb, hPb0⟩ : ∃ Pb, w.heap.size + 1 = Pb := ⟨_, rfl⟩
  have hPb : R + 1 = Pb := by omega
  have hwR : w.heap.size ≤ R := by omega
  rw [hPb0] at HI0 hbw0
  simp only [hPb0]
  rw [hR] at HI0
  simp only [hR]
  clear hR hPb0 KR0 HB0 d0 d1 tx ty t30 t31 HB1 hblt
  obtain ⟨base, hbs⟩ : ∃ base, Pb + 1 = base := ⟨_, rfl⟩
  rw [hbs] at HI0 hbw0
  have e2 : IntKind.i64.wrap (nf : Int) = nf := wrap_i64 (by omega) (by omega)
  go_loopw [5, 6] (fun av iv wr => ∃ (r i u : Nat) (zs : List (FnD × Value)) (v : Value), iv = .int .i64 i ∧ av = .int .i64 u ∧ i + r = nf ∧ u ≤ n ∧ Hid (gFns r (zs.map Prod.fst) (bs.drop u) = G) ∧ Hid (zs.length = i) ∧ Hid (GdI w R Pb base zs v wr) ∧ base ≤ wr.heap.size ∧ Hid (∀ z ∈ zs, FnWf z.1)) (fun _ iv _ => nf - (intOf iv).toNat)
  case atStart => exact ⟨nf, 0, 3, [], _, rfl, rfl, by omega, by omega, HGF0, Lib.hid rfl, HI0, hbw0, Lib.hid (fun z hz => (by cases hz))⟩
  case round =>
    clear HI0 hbw0 HGF0
    obtain ⟨r, i, u, zs, v, rfl, rfl, hir, hun, HGF, HZL, HI, hbw, HZW⟩ := hrel
    have q2 := HI.out.bel.cell d2
    have HBw := Lib.hid HI.out.bel
    by_cases hend : r = 0
    · subst hend
      obtain rfl : i = nf := by omega
      have HQ : Hid (G = some (zs.map Prod.fst, bs.drop u)) := Lib.hid (by rw [← HGF.out]; rfl)
      have HFIN := Lib.hid (HGS.out _ HQ.out)
      have hfns : ∀ z ∈ zs, FnR wr (fnc z) z.1 := fun z hz => fnR_own (HI.out.codes z hz) (HZW.out z hz)
      obtain ⟨AV, cV, rfl, hsV⟩ := fns_of_own HI.out.own hfns
      have HSV := Lib.hid hsV
      have hown := HI.out.own
      obtain ⟨L, hL⟩ : ∃ L, Hid (zs.map Prod.fst = L) := ⟨_, Lib.hid rfl⟩
      rw [hL.out] at HSV HFIN
      have HLn : Hid (L.length = i) := Lib.hid (by rw [← hL.out, List.length_map, HZL.out])
      have p0 := HI.out.box.cell 0 (v := .slice AV i cV) (by rw [HZL.out]; rfl)
      clear hsV hown hfns HGF
      obtain ⟨mb, hmb⟩ : ∃ mb, Hid (progMay L = mb) := ⟨_, Lib.hid rfl⟩
      go_wp2_with fail
      refine (refProgMay_any AV cV i L mb wr HSV.out HLn hmb).mono ?_
      rintro e w9 ⟨rfl, hb9⟩
      have HI9 := Lib.hid (HI.out.mono hb9)
      have p9 := hb9.cell p0
      clear hb9 p0 q2
      have HF := HFIN.out
      rw [hmb.out] at HF
      cases mb
      · obtain ⟨rfl, rfl⟩ : Lr = [] ∧ er = 7 := by rw [if_neg (by simp)] at HF; exact Prod.mk.inj HF
        obtain rfl : mR = 0 := hmR.out.symm
        have HRS := Lib.hid HI9.out.res
        have E0 : Hid ((w9.setCell ⟨R, 0, none⟩ (.slice none 0 0)).cell? ⟨R, 0, none⟩ = some (.slice none 0 0)) := Lib.hid ((Blk.set (cs := #[.slice none 0 0]) HRS.out 0 (.slice none 0 0)).cell 0 rfl)
        have HFE := Lib.hid ((HI9.out.bel).setCell (p := ⟨R, 0, none⟩) hwR (.slice none 0 0))
        have r0 := HRS.out.cell 0 (v := .slice none 0 0) rfl
        have f0 := HRS.out.frozen 0
        go_wp2_with fail
        refine bodyPost_ret (v := .tuple #[.agg #[.slice none 0 0], .int .i64 7]) ?_ rfl ⟨none, 0, rfl, Sl.nil _ _ _, by first | exact HFE.out | exact HB0.out⟩
        have h1 := E0.out
        simp [results, Try.results20, go_sem, h1]
      · by_cases hu : u = n
        · subst hu
          have hdr : bs.drop u = [] := List.drop_eq_nil_of_le (by rw [hn.out]; exact Nat.le_refl _)
          rw [hdr, if_pos ⟨rfl, rfl⟩] at HF
          obtain ⟨rfl, rfl⟩ := Prod.mk.inj HF
          obtain rfl : mR = i := by rw [← hmR.out, HLn.out]
          have t0 : ((u : Int) != (u : Int)) = false := by simp
          have HRS := Lib.hid HI9.out.res
          have r0 := HRS.out.cell 0 (v := .slice none 0 0) rfl
          have f0 := HRS.out.frozen 0
          have E1 : Hid ((w9.setCell ⟨R, 0, none⟩ (.slice AV mR cV)).cell? ⟨R, 0, none⟩ = some (.slice AV mR cV)) := Lib.hid ((Blk.set (cs := #[.slice none 0 0]) HRS.out 0 (.slice AV mR cV)).cell 0 rfl)
          have HFE := Lib.hid (HI9.out.bel.setCell (p := ⟨R, 0, none⟩) hwR (.slice AV mR cV))
          have HSE : Hid (Sl FnR 2 (w9.setCell ⟨R, 0, none⟩ (.slice AV mR cV)) AV cV Lr) := Lib.hid (by
            have ho := own_set (p := ⟨R, 0, none⟩) HI9.out.own (by simp only; omega) (.slice AV mR cV)
            obtain ⟨A', c', e', hs'⟩ := fns_of_own ho (fun z hz => fnR_own (own_set (p := ⟨R, 0, none⟩) (HI9.out.codes z hz) (by simp only; omega) (.slice AV mR cV)) (HZW.out z hz))
            simp only [Value.slice.injEq, true_and] at e'
            obtain ⟨rfl, rfl⟩ := e'
            rw [hL.out] at hs'
            exact hs')
          clear HF hdr
          go_wp2_with fail
          refine bodyPost_ret (v := .tuple #[.agg #[.slice AV mR cV], .int .i64 0]) ?_ rfl ⟨AV, cV, rfl, HSE.out, HFE.out⟩
          have h1 := E1.out
          simp [results, Try.results20, go_sem, h1]
        · have t0 : ((u : Int) != (n : Int)) = true := by simp only [bne_iff_ne, ne_eq]; omega
          obtain ⟨rfl, rfl⟩ : Lr = [] ∧ er = 7 := by rw [if_neg (fun hh => hu (by have := List.drop_eq_nil_iff.1 hh.2; rw [hn.out] at this; omega))] at HF; exact Prod.mk.inj HF
          obtain rfl : mR = 0 := hmR.out.symm
          have HRS := Lib.hid HI9.out.res
          have E0 : Hid ((w9.setCell ⟨R, 0, none⟩ (.slice none 0 0)).cell? ⟨R, 0, none⟩ = some (.slice none 0 0)) := Lib.hid ((Blk.set (cs := #[.slice none 0 0]) HRS.out 0 (.slice none 0 0)).cell 0 rfl)
          have HFE := Lib.hid ((HI9.out.bel).setCell (p := ⟨R, 0, none⟩) hwR (.slice none 0 0))
          have r0 := HRS.out.cell 0 (v := .slice none 0 0) rfl
          have f0 := HRS.out.frozen 0
          go_wp2_with fail
          refine bodyPost_ret (v := .tuple #[.agg #[.slice none 0 0], .int .i64 7]) ?_ rfl ⟨none, 0, rfl, Sl.nil _ _ _, by first | exact HFE.out | exact HB0.out⟩
          have h1 := E0.out
          simp [results, Try.results20, go_sem, h1]
    · obtain ⟨r', rfl⟩ : ∃ r', r = r' + 1 := ⟨r - 1, by omega⟩
      have hi1 : (i : Int) < nf := by omega
      have hi2 : i < nf := by omega
      have ei : IntKind.i64.wrap ((i : Int) + 1) = (i : Int) + 1 := wrap_i64 (by omega) (by omega)
      clear hend
      have eu2 : IntKind.i64.wrap ((u : Int) + 2) = (u : Int) + 2 := wrap_i64 (by omega) (by omega)
      by_cases hu2 : n < u + 2
      · have hgn : G = none := by
          rw [← HGF.out]
          unfold gFns
          rw [if_pos (by rw [List.length_drop, hn.out]; omega)]
        have ht : (n : Int) < (u : Int) + 2 := by omega
        obtain ⟨rfl, rfl⟩ : Lr = [] ∧ er = 7 := HG.out hgn
        obtain rfl : mR = 0 := hmR.out.symm
        have HRS := Lib.hid HI.out.res
        have E0 : Hid ((wr.setCell ⟨R, 0, none⟩ (.slice none 0 0)).cell? ⟨R, 0, none⟩ = some (.slice none 0 0)) := Lib.hid ((Blk.set (cs := #[.slice none 0 0]) HRS.out 0 (.slice none 0 0)).cell 0 rfl)
        have HFE := Lib.hid ((HI.out.bel).setCell (p := ⟨R, 0, none⟩) hwR (.slice none 0 0))
        have r0 := HRS.out.cell 0 (v := .slice none 0 0) rfl
        have f0 := HRS.out.frozen 0
        go_wp2_with fail
        refine bodyPost_ret (v := .tuple #[.agg #[.slice none 0 0], .int .i64 7]) ?_ rfl ⟨none, 0, rfl, Sl.nil _ _ _, by first | exact HFE.out | exact HB0.out⟩
        have h1 := E0.out
        simp [results, Try.results20, go_sem, h1]
      · have ht : ¬ (n : Int) < (u : Int) + 2 := by omega
        have da := HI.out.bel.cell (HC.out u (by omega)).1
        have db := HI.out.bel.cell (HC.out (u + 1) (by omega)).1
        have hblt := World.block_lt_of_cell? _ _ da
        simp only at hblt
        have ra := HG3.out u (by omega)
        have rb := HG3.out (u + 1) (by omega)
        obtain ⟨a, ha⟩ : ∃ a, bs.getD u 0 = a := ⟨_, rfl⟩
        obtain ⟨nc, hnc⟩ : ∃ k : Nat, bs.getD (u + 1) 0 = k := ⟨(bs.getD (u + 1) 0).toNat, by omega⟩
        rw [ha] at da ra
        rw [hnc] at db rb
        obtain ⟨GC, hGC⟩ : ∃ GC, Hid (gCode nc [] (bs.drop (u + 2)) = GC) := ⟨_, Lib.hid rfl⟩
        have hgf := HGF.out
        unfold gFns at hgf
        rw [if_neg (by rw [List.length_drop, hn.out]; omega), getD_drop, getD_drop, show u + 0 = u from rfl, ha, hnc, Int.toNat_natCast, List.drop_drop, hGC.out] at hgf
        have HGN : Hid (GC = none → G = none) := Lib.hid (fun e => by rw [e] at hgf; exact hgf.symm)
        have HGY : Hid (∀ q, GC = some q → gFns r' (zs.map Prod.fst ++ [⟨a, q.1⟩]) q.2 = G) := Lib.hid (fun q e => by rw [e] at hgf; exact hgf)
        clear hgf HGF ha hnc
        have ea : IntKind.i64.wrap a = a := wrap_i64 (by omega) (by omega)
        have en : IntKind.i64.wrap (nc : Int) = nc := wrap_i64 (by omega) (by omega)
        have eu1 : IntKind.i64.wrap ((u : Int) + 1) = (u : Int) + 1 := wrap_i64 (by omega) (by omega)
        have i1 : u < n := by omega
        have i2 : u + 1 < n := by omega
        have i3 : (u : Int) + 1 < n := by omega
        have i4 : 0 ≤ (u : Int) + 1 := by omega
        have hown := HI.out.own
        rw [HZL.out] at hown
        obtain ⟨AV, cV, rfl⟩ := own_slice hown
        have hbF := (Bel.refl wr).alloc (.cells #[.int .i64 a, .slice none 0 0] 38)
        have HI3 := Lib.hid (HI.out.mono hbF)
        have HC3 : Hid (GcI w (wr.alloc (.cells #[.int .i64 a, .slice none 0 0] 38)) wr.heap.size a [] (.slice none 0 0) (wr.alloc (.cells #[.int .i64 a, .slice none 0 0] 38))) := Lib.hid ⟨HI3.out.bel, But.refl _ _, Blk.new _ _ _, ⟨by simp, .inl ⟨rfl, rfl⟩⟩⟩
        have hFs : wr.heap.size < (wr.alloc (.cells #[.int .i64 a, .slice none 0 0] 38)).heap.size := by simp
        have hRF : R ≠ wr.heap.size := by omega
        have hPF : Pb ≠ wr.heap.size := by omega
        have HVF : Hid ((Value.slice AV i cV).ownBlock ≠ some wr.heap.size) := Lib.hid (fun e => by have := own_ltN HI.out.own e; omega)
        have HZF : Hid (∀ z ∈ zs, z.2.ownBlock ≠ some wr.heap.size) := Lib.hid (fun z hz e => by have := own_ltN (HI.out.codes z hz) e; omega)
        have hwF : w.heap.size ≤ wr.heap.size := by omega
        have hbF2 : base ≤ wr.heap.size := hbw
        clear hown hbF
        go_wp2_with fail
        generalize wr.alloc (.cells #[.int .i64 a, .slice none 0 0] 38) = W3 at *
        generalize wr.heap.size = F at *
        clear ea en eu1 i3 i4 da db q2 ht
        go_loopw [5, 9] (fun av kv wr => ∃ (kr k u3 : Nat) (acc : List InstD) (vC : Value), kv = .int .i64 k ∧ av = .int .i64 u3 ∧ k + kr = nc ∧ u3 ≤ n ∧ Hid (gCode kr acc (bs.drop u3) = GC) ∧ Hid (acc.length = k) ∧ Hid (GcI w W3 F a acc vC wr) ∧ Hid (∀ i ∈ acc, i.Wf)) (fun _ kv _ => nc - (intOf kv).toNat)
        case atStart => exact ⟨nc, 0, u + 2, [], _, rfl, by first | rfl | simp, by omega, by omega, hGC, Lib.hid rfl, HC3, Lib.hid (fun i hi => (by cases hi))⟩
        case round =>
          clear hGC HC3
          obtain ⟨kr, k, u3, acc, vC, rfl, rfl, hkr, hu3, HGC, HAL, HK, HAW⟩ := hrel
          have hown := HK.out.co
          rw [HAL.out] at hown
          obtain ⟨AC, cC, rfl⟩ := own_slice hown
          clear hown
          have HRES := Lib.hid (HK.out.but.blk HI3.out.res hRF)
          by_cases hke : kr = 0
          · subst hke
            obtain rfl : k = nc := by omega
            have HN := Lib.hid (HGY.out _ (by rw [← HGC.out]; rfl))
            have HIX := Lib.hid (HI3.out.but hRF hPF HVF.out HZF.out HK.out.bel HK.out.but)
            have p0 := HIX.out.box.cell 0 (v := .slice AV i cV) rfl
            have p1 := HIX.out.box.frozen 0
            have y0 := HK.out.fb.cell 0 (v := .int .i64 a) rfl
            have y1 := HK.out.fb.cell 1 (v := .slice AC k cC) rfl
            have hbX := (Bel.refl wr).alloc (.cells #[.int .i64 a, .slice AC k cC] 38)
            have HIY := Lib.hid (HIX.out.mono hbX)
            have HCO := Lib.hid (own_bel HK.out.co hbX)
            have HOW : Hid ((wr.alloc (.cells #[.int .i64 a, .slice AC k cC] 38)).ownsRow base 38 2 (.slice AV i cV) i (zs.flatMap fnc)) := Lib.hid (by
              have := HIY.out.own
              rwa [HZL.out] at this)
            have HNEW := Lib.hid (cells_new wr #[.int .i64 a, .slice AC k cC] 38)
            have hsz : base ≤ (wr.alloc (.cells #[.int .i64 a, .slice AC k cC] 38)).heap.size := by
              have h1 := HK.out.but.size
              have h2 := hbX.size
              omega
            clear hbX
            go_wp2_with (show wpList _ _ _ ({ dst := _, op := .call { callee := .builtin .append, args := _, argTypes := _ }, type := _, pos := _, after := _, guard := none } :: _) _ _; refine at_append base 38 (.agg #[.int .i64 0, .slice none 0 0]) 2 32 Try.underlying22 info_fn rfl (by decide) (.slice AV i cV) i (zs.flatMap fnc) (by rfl) HOW.out ⟨wr.heap.size, 0, none⟩ 1 1 [.int .i64 a, .slice AC k cC] (by rfl) rfl HNEW.out (fn_one a AC k cC) (by simp only [maxLen]; omega) (by omega) hsz w (by omega) HIY.out.bel rfl ?_; intro v8 w8 o8 g8 b8 at8; have HB8 := blk_grown HIY.out.box HIY.out.own (by decide) g8; have z0 := HB8.cell 0 (v := .slice AV i cV) rfl; have z1 := HB8.frozen 0; have hw8 := Nat.le_trans hsz g8.size; have HI8 := Lib.hid (HIY.out.push (z := (⟨a, acc⟩, .slice AC k cC)) (by omega) (by omega) (by omega) (by rw [HZL.out]) (own_mono HCO.out (by omega)) o8 g8); obtain ⟨g9, c9, rfl⟩ := own_form o8; clear o8 g8 b8 at8 HB8)
            go_wp2
            go_roundw
            case rel => exact ⟨r', i + 1, u3, zs ++ [(⟨a, acc⟩, .slice AC k cC)], _, by simp, rfl, by omega, hu3, Lib.hid (by rw [List.map_append]; exact HN.out), Lib.hid (by rw [List.length_append, HZL.out]; rfl), HI8, by rw [setCell_size]; exact hw8, Lib.hid (fun z hz => by
              rcases List.mem_append.1 hz with hz | hz
              · exact HZW.out z hz
              · obtain rfl := List.mem_singleton.1 hz
                exact ⟨HAW.out, wf_i64P (by simp only; omega) (by simp only; omega)⟩)⟩
            case measure => simp [intOf]; omega
          · obtain ⟨kr', rfl⟩ : ∃ j, kr = j + 1 := ⟨kr - 1, by omega⟩
            have hk1 : (k : Int) < nc := by omega
            have hk2 : k < nc := by omega
            have ek : IntKind.i64.wrap ((k : Int) + 1) = (k : Int) + 1 := wrap_i64 (by omega) (by omega)
            have eu8 : IntKind.i64.wrap ((u3 : Int) + 8) = (u3 : Int) + 8 := wrap_i64 (by omega) (by omega)
            clear hke
            by_cases hu8 : n < u3 + 8
            · have hgn : GC = none := by
                rw [← HGC.out]
                unfold gCode
                rw [if_pos (by rw [List.length_drop, hn.out]; omega)]
              have ht : (n : Int) < (u3 : Int) + 8 := by omega
              obtain ⟨rfl, rfl⟩ : Lr = [] ∧ er = 7 := HG.out (HGN.out hgn)
              obtain rfl : mR = 0 := hmR.out.symm
              have HRS := Lib.hid HRES.out
              have E0 : Hid ((wr.setCell ⟨R, 0, none⟩ (.slice none 0 0)).cell? ⟨R, 0, none⟩ = some (.slice none 0 0)) := Lib.hid ((Blk.set (cs := #[.slice none 0 0]) HRS.out 0 (.slice none 0 0)).cell 0 rfl)
              have HFE := Lib.hid ((HK.out.bel).setCell (p := ⟨R, 0, none⟩) hwR (.slice none 0 0))
              have r0 := HRS.out.cell 0 (v := .slice none 0 0) rfl
              have f0 := HRS.out.frozen 0
              go_wp2_with fail
              refine bodyPost_ret (v := .tuple #[.agg #[.slice none 0 0], .int .i64 7]) ?_ rfl ⟨none, 0, rfl, Sl.nil _ _ _, by first | exact HFE.out | exact HB0.out⟩
              have h1 := E0.out
              simp [results, Try.results20, go_sem, h1]
            · have ht : ¬ (n : Int) < (u3 : Int) + 8 := by omega
              obtain ⟨x, ex, hgr⟩ : ∃ x ex, Hid (getR ((bs.drop u3).take 8) = (x, ex)) := ⟨_, _, Lib.hid rfl⟩
              have hgc := HGC.out
              unfold gCode at hgc
              rw [if_neg (by rw [List.length_drop, hn.out]; omega), hgr.out, List.drop_drop] at hgc
              simp only at hgc
              have HGC2 := Lib.hid hgc
              clear hgc HGC
              have HXW : Hid (x.Wf) := Lib.hid (by
                have := getR_wf (l := (bs.drop u3).take 8) (fun y hy => HR8.out y (List.mem_of_mem_drop (List.mem_of_mem_take hy)))
                rwa [hgr.out] at this)
              have SG : Hid (Sl (IntR .u8) 1 wr (some ⟨b, o + u3, none⟩) (c - u3) ((bs.drop u3).take 8)) := Lib.hid (by
                have h := ((HS.out.mono (IntR.mono _) HK.out.bel).takeR (u3 + 8)).dropR u3 (by rw [List.length_take, hn.out]; omega)
                rwa [List.drop_take, show u3 + 8 - u3 = 8 by omega, Nat.mul_one] at h)
              have HL8 : Hid (((bs.drop u3).take 8).length = 8) := Lib.hid (by rw [List.length_take, List.length_drop, hn.out]; omega)
              have s1 : (u3 : Int) ≤ (u3 : Int) + 8 := by omega
              have s2 : (u3 : Int) + 8 ≤ c := by omega
              have s3 : 0 ≤ (u3 : Int) + 8 := by omega
              have s4 : ¬ c = u3 := by omega
              have s5 : u3 + 8 ≤ c := by omega
              go_wp2_with fail
              refine (refget_at (some ⟨b, o + u3, none⟩) 8 (c - u3) ((bs.drop u3).take 8) _ SG.out HL8 x ex hgr).mono ?_
              rintro e w7 ⟨rfl, hb7⟩
              obtain ⟨op, fn, dst, src, reg, off, imm⟩ := x
              have hbx := (Bel.refl w7).alloc (.cells #[.int .i64 op, .int .i64 fn, .int .i64 dst, .int .i64 src, .bool reg, .int .i64 off, .int .u32 imm] 43)
              have HK7 := Lib.hid (HK.out.mono (hb7.trans hbx))
              have HR7 := Lib.hid (HRES.out.bel (hb7.trans hbx))
              clear hgr SG HL8 s1 s2 s3 s4 s5 hb7 hbx
              by_cases hex : ex = 0
              case neg =>
                have hgn : GC = none := by
                  have := HGC2.out
                  rw [if_pos hex] at this
                  exact this.symm
                have te : (ex != 0) = true := by simpa using hex
                clear hex HGC2
                obtain ⟨rfl, rfl⟩ : Lr = [] ∧ er = 7 := HG.out (HGN.out hgn)
                obtain rfl : mR = 0 := hmR.out.symm
                have HRS := Lib.hid HR7.out
                have E0 : Hid (((w7.alloc (.cells #[.int .i64 op, .int .i64 fn, .int .i64 dst, .int .i64 src, .bool reg, .int .i64 off, .int .u32 imm] 43)).setCell ⟨R, 0, none⟩ (.slice none 0 0)).cell? ⟨R, 0, none⟩ = some (.slice none 0 0)) := Lib.hid ((Blk.set (cs := #[.slice none 0 0]) HRS.out 0 (.slice none 0 0)).cell 0 rfl)
                have HFE := Lib.hid ((HK7.out.bel).setCell (p := ⟨R, 0, none⟩) hwR (.slice none 0 0))
                have r0 := HRS.out.cell 0 (v := .slice none 0 0) rfl
                have f0 := HRS.out.frozen 0
                go_wp2_with fail
                refine bodyPost_ret (v := .tuple #[.agg #[.slice none 0 0], .int .i64 7]) ?_ rfl ⟨none, 0, rfl, Sl.nil _ _ _, by first | exact HFE.out | exact HB0.out⟩
                have h1 := E0.out
                simp [results, Try.results20, go_sem, h1]
              subst hex
              have HGC3 : Hid (gCode kr' (acc ++ [⟨op, fn, dst, src, reg, off, imm⟩]) (bs.drop (u3 + 8)) = GC) := Lib.hid (by
                have := HGC2.out
                rwa [if_neg (by simp)] at this)
              have y1 := HK7.out.fb.cell 1 (v := .slice AC k cC) rfl
              have hbX := (Bel.refl (w7.alloc (.cells #[.int .i64 op, .int .i64 fn, .int .i64 dst, .int .i64 src, .bool reg, .int .i64 off, .int .u32 imm] 43))).alloc (.cells #[.int .i64 op, .int .i64 fn, .int .i64 dst, .int .i64 src, .bool reg, .int .i64 off, .int .u32 imm] 43)
              have HK9 := Lib.hid (HK7.out.mono hbX)
              have HOC : Hid (((w7.alloc (.cells #[.int .i64 op, .int .i64 fn, .int .i64 dst, .int .i64 src, .bool reg, .int .i64 off, .int .u32 imm] 43)).alloc (.cells #[.int .i64 op, .int .i64 fn, .int .i64 dst, .int .i64 src, .bool reg, .int .i64 off, .int .u32 imm] 43)).ownsRow W3.heap.size 43 7 (.slice AC k cC) k (acc.flatMap InstD.cells)) := Lib.hid (by
                have := HK9.out.co
                rwa [HAL.out] at this)
              have HNEW := Lib.hid (cells_new (w7.alloc (.cells #[.int .i64 op, .int .i64 fn, .int .i64 dst, .int .i64 src, .bool reg, .int .i64 off, .int .u32 imm] 43)) #[.int .i64 op, .int .i64 fn, .int .i64 dst, .int .i64 src, .bool reg, .int .i64 off, .int .u32 imm] 43)
              rw [World.size_alloc] at HNEW
              have hsz := HK9.out.but.size
              have hwW : w.heap.size ≤ W3.heap.size := by omega
              clear hbX HGC2
              go_wp2_with (show wpList _ _ _ ({ dst := _, op := .call { callee := .builtin .append, args := _, argTypes := _ }, type := _, pos := _, after := _, guard := none } :: _) _ _; refine at_append W3.heap.size 43 (.agg #[.int .i64 0, .int .i64 0, .int .i64 0, .int .i64 0, .bool false, .int .i64 0, .int .u32 0]) 7 56 Try.underlying36 info_inst rfl (by decide) (.slice AC k cC) k (acc.flatMap InstD.cells) (by rfl) HOC.out ⟨w7.heap.size + 1, 0, none⟩ 1 1 (InstD.cells ⟨op, fn, dst, src, reg, off, imm⟩) (by rfl) rfl HNEW.out (inst_one ⟨op, fn, dst, src, reg, off, imm⟩) (by simp only [maxLen]; omega) (by omega) hsz w hwW HK9.out.bel rfl ?_; intro v8 w8 o8 g8 b8 at8; have HB8 := blk_grown HK9.out.fb HK9.out.co (by decide) g8; have z0 := HB8.cell 1 (v := .slice AC k cC) rfl; have z1 := HB8.frozen 1; have HK8 := Lib.hid (HK9.out.push (x := ⟨op, fn, dst, src, reg, off, imm⟩) hFs hwF (by rw [HAL.out]) o8 g8); obtain ⟨g9, c9, rfl⟩ := own_form o8; clear o8 g8 b8 at8 HB8)
              go_wp2
              go_roundw
              case rel => exact ⟨kr', k + 1, u3 + 8, acc ++ [⟨op, fn, dst, src, reg, off, imm⟩], _, by simp, by simp, by omega, by omega, HGC3, Lib.hid (by rw [List.length_append, HAL.out]; rfl), HK8, Lib.hid (fun y hy => by
                rcases List.mem_append.1 hy with hy | hy
                · exact HAW.out y hy
                · obtain rfl := List.mem_singleton.1 hy
                  exact HXW.out)⟩
              case measure => simp [intOf]; omega
end Go.Proofs.Ytcllifcafgiopaa
