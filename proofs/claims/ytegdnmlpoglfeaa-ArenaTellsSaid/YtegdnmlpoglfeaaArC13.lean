/- arena.Patch by its contract. -/
import Derived.Test.YtegdnmlpoglfeaaArC12
set_option linter.unusedVariables false
set_option linter.unusedSimpArgs false
namespace Go.Proofs.Ytegdnmlpoglfeaa
open Go.RowKit

/-- A block with one word changed. -/
def setB (b : BlkD) (k : Nat) (v : Int) : BlkD := ⟨b.id, b.at', b.w.set k v⟩
theorem set_get! {l : List BlkD} {i : Nat} (hi : i < l.length) (b : BlkD) (j : Nat) : (l.set i b)[j]! = if j = i then b else l[j]! := by
  simp only [List.getElem!_eq_getElem?_getD]
  rw [List.getElem?_set]
  by_cases e : i = j
  · subst e
    rw [if_pos rfl, if_pos rfl, if_pos hi]
    rfl
  · rw [if_neg e, if_neg (Ne.symm e)]
theorem OwnB.patch {w0 W : World} {D c : Nat} {l : List BlkD} {A : Nat → Option Addr} {cc : Nat → Nat} (h : OwnB w0 W D c l l.length A cc) {i g k : Nat} (hi : i < l.length) (hg : A i = some ⟨g, 0, none⟩) (hgD : g ≠ D) (hk : k < (l[i]!).w.length) {v : Int} (hv : (Lit.int .u64 v).wf = true) :
    OwnB w0 (W.setCell ⟨g, k, none⟩ (.int .u64 v)) D c (l.set i (setB (l[i]!) k v)) (l.set i (setB (l[i]!) k v)).length A cc := by
  have hlen : (l.set i (setB (l[i]!) k v)).length = l.length := List.length_set
  have hget := set_get! hi (setB (l[i]!) k v)
  rw [hlen]
  have hid : ∀ j : Nat, ((l.set i (setB (l[i]!) k v))[j]!).id = (l[j]!).id ∧ ((l.set i (setB (l[i]!) k v))[j]!).at' = (l[j]!).at' ∧ ((l.set i (setB (l[i]!) k v))[j]!).w.length = (l[j]!).w.length := fun j => by
    rw [hget]
    split
    · rename_i e; subst e; exact ⟨rfl, rfl, List.length_set⟩
    · exact ⟨rfl, rfl, rfl⟩
  have hne : ∀ q, (W.setCell ⟨g, k, none⟩ (.int .u64 v)).cell? ⟨D, q, none⟩ = W.cell? ⟨D, q, none⟩ := fun q => World.cell?_of_block (a := ⟨D, q, none⟩) (setCell_heap_ne W _ (Ne.symm hgD))
  refine ⟨⟨h.row.D0, by rw [setCell_size]; exact h.row.lt, by rw [hlen]; exact h.row.le, h.row.big, fun q => by rw [World.frozen?_setCell]; exact h.row.frz q, fun j hj => ?_⟩, fun j hj hlj => ?_, fun j hj hlj => ?_, fun a b hab hb hbl => h.ne a b hab (by omega) hbl⟩
  · rw [hlen] at hj
    obtain ⟨e1, e2, e3⟩ := h.row.cells j hj
    obtain ⟨f1, f2, f3⟩ := hid j
    rw [f1, f2, f3, hne, hne, hne]
    exact ⟨e1, e2, e3⟩
  · omega
  · obtain ⟨g', e1, e2, e3, e4, e5⟩ := h.own j hlj hlj
    refine ⟨g', e1, e2, by rw [setCell_size]; exact e3, e4, ?_⟩
    rw [hget]
    by_cases e : j = i
    · subst e
      rw [if_pos rfl]
      obtain rfl : g' = g := by rw [hg] at e1; cases e1; rfl
      exact e5.set hk hv
    · rw [if_neg e]
      have hgg : g' ≠ g := fun hh => by
        subst hh
        by_cases h1 : i < j
        · exact h.ne i j h1 hlj hlj (by rw [hg, e1])
        · exact h.ne j i (by omega) hi hi (by rw [hg, e1])
      exact e5.other (setCell_heap_ne W _ hgg)
theorem OwnB.slS {N : Nat} {w0 W W9 : World} {D c : Nat} {l : List BlkD} {A : Nat → Option Addr} {cc : Nat → Nat} (h : OwnB w0 W D c l l.length A cc) (hA : Abv w0.heap.size W W9) (hn : N ≤ w0.heap.size) (hwf : ∀ i, i < l.length → (Lit.int .i64 (l[i]!).id).wf = true ∧ (Lit.int .i64 (l[i]!).at').wf = true) : SlS N W9 (some ⟨D, 0, none⟩) c l := slS_of hA hn (fun W' hA => (h.abv hA).sl hwf)
theorem patchM_eq {cap : Int} {l : List BlkD} {place v : Int} {i : Nat} (hm : mayM ⟨cap, l⟩ = true) (hb : blkOf l place = some i) : patchM ⟨cap, l⟩ place v = (⟨cap, l.set i (setB (l[i]!) (place - (l[i]!).at').toNat v)⟩, 0) := by
  unfold patchM
  rw [if_pos hm]
  simp only [hb]
  rfl
set_option maxRecDepth 100000 in
set_option maxHeartbeats 4000000 in
theorem Patch_any (cap : Int) (A : Option Addr) (nn c : Nat) (l : List BlkD) (place v : Int) (w : World) (h : Sl BlkR 3 w A c l) (hn : Hid (l.length = nn)) (hv : Hid ((Lit.int .u64 v).wf = true)) (cap' : Int) (l' : List BlkD) (nl : Nat) (e' : Int) (hr : Hid (patchM ⟨cap, l⟩ place v = (⟨cap', l'⟩, e'))) (hnl : Hid (l'.length = nl)) :
    Calls Try.prog 19 #[.agg #[.int .i64 cap, .slice A nn c], .int .i64 place, .int .u64 v] w fun e w' => ∃ A' c', e = .returned (.tuple #[.agg #[.int .i64 cap', .slice A' nl c'], .int .i64 e']) ∧ SlS w.heap.size w' A' c' l' ∧ Bel w w' := by
  have HS0 := Lib.hid h
  clear h
  obtain ⟨mb, hmb⟩ : ∃ mb, Hid (mayM ⟨cap, l⟩ = mb) := ⟨_, Lib.hid rfl⟩
  obtain ⟨⟨wi, wk⟩, hw⟩ : ∃ p, Hid (wordM l place = p) := ⟨_, Lib.hid rfl⟩
  have bM := (Blk.new w 26 #[.int .i64 cap, .slice A nn c]).alloc (.cells #[.int .i64 0, .slice none 0 0] 26)
  have bR := Blk.new (w.alloc (.cells #[.int .i64 cap, .slice A nn c] 26)) 26 #[.int .i64 0, .slice none 0 0]
  rw [World.size_alloc] at bR
  have HBa := Lib.hid (((Bel.refl w).alloc (.cells #[.int .i64 cap, .slice A nn c] 26)).alloc (.cells #[.int .i64 0, .slice none 0 0] 26))
  have q0 := bM.cell 0 (v := .int .i64 cap) rfl
  have q1 := bM.cell 1 (v := .slice A nn c) rfl
  go_enter Try.func19, Try.ntmps19
  go_wp2_with fail
  generalize (w.alloc (.cells #[.int .i64 cap, .slice A nn c] 26)).alloc (.cells #[.int .i64 0, .slice none 0 0] 26) = W1 at *
  refine (word_any cap A nn c l place wi wk _ (HS0.out.mono BlkR.mono HBa.out) hn hw).mono ?_
  rintro e w1 ⟨rfl, hb⟩
  have HB1 := HBa.out.trans hb
  have q0 := hb.cell q0
  have q1 := hb.cell q1
  have bM1 := bM.bel hb
  have bR1 := bR.bel hb
  clear hb bM bR
  go_wp2_with fail
  refine (May_any cap A nn c l mb _ (HS0.out.mono BlkR.mono HB1) hn hmb).mono ?_
  rintro e w2 ⟨rfl, hb⟩
  have HB2 := HB1.trans hb
  have q0 := hb.cell q0
  have q1 := hb.cell q1
  have BM := Lib.hid (bM1.bel hb)
  have BR := Lib.hid (bR1.bel hb)
  clear hb HB1 bM1 bR1
  obtain ⟨g, hg⟩ : ∃ g, w.heap.size = g := ⟨_, rfl⟩
  have hgw : w.heap.size ≤ g := by omega
  rw [hg] at q0 q1 BM BR ⊢
  have r0 : w2.cell? ⟨g + 1, 0, none⟩ = some (.int .i64 0) := BR.out.cell 0 rfl
  have r1 : w2.cell? ⟨g + 1, 1, none⟩ = some (.slice none 0 0) := BR.out.cell 1 rfl
  have fr0 := BR.out.frozen 0
  have fr1 := BR.out.frozen 1
  have fq0 := BM.out.frozen 0
  have fq1 := BM.out.frozen 1
  clear hg
  have ZERO : ∀ k : Int, Hid (patchM ⟨cap, l⟩ place v = (⟨0, []⟩, k) → (cap' = 0 ∧ l' = [] ∧ e' = k)) := fun k => Lib.hid (fun e => by
    have := hr.out
    rw [e] at this
    simp only [Prod.mk.injEq, MemD.mk.injEq] at this
    exact ⟨this.1.1.symm, this.1.2.symm, this.2.symm⟩)
  cases mb
  · obtain ⟨rfl, rfl, rfl⟩ := (ZERO 1).out (by unfold patchM; rw [if_neg (by rw [hmb.out]; simp)])
    obtain rfl : nl = 0 := by rw [← hnl.out]; rfl
    obtain ⟨e0, e1⟩ := res_two BR.out (.int .i64 0) (.slice none 0 0)
    have E0 := Lib.hid e0
    have E1 := Lib.hid e1
    have HFIN := Lib.hid ((HB2.setCell (p := ⟨g + 1, 0, none⟩) (by simp only; omega) (.int .i64 0)).setCell (p := ⟨g + 1, 1, none⟩) (by simp only; omega) (.slice none 0 0))
    clear e0 e1 hr ZERO
    go_wp2_with fail
    refine bodyPost_ret (v := .tuple #[.agg #[.int .i64 0, .slice none 0 0], .int .i64 1]) ?_ rfl ⟨none, 0, rfl, SlS.nil _ _ _ _ (by decide), HFIN.out⟩
    have h1 := E0.out
    have h2 := E1.out
    simp [results, Try.results19, go_sem, h1, h2]
  · have HOK : Hid (Ok ⟨cap, l⟩) := Lib.hid (mayM_iff.1 hmb.out)
    cases hbo : blkOf l place with
    | none =>
      have e1 := hw.out
      rw [HOK.out.word_none hbo] at e1
      obtain ⟨rfl, rfl⟩ : wi = -1 ∧ wk = 0 := by simp only [Prod.mk.injEq] at e1; exact ⟨e1.1.symm, e1.2.symm⟩
      obtain ⟨rfl, rfl, rfl⟩ := (ZERO 3).out (by unfold patchM; rw [if_pos hmb.out]; simp only [hbo])
      obtain rfl : nl = 0 := by rw [← hnl.out]; rfl
      obtain ⟨e0, e1⟩ := res_two BR.out (.int .i64 0) (.slice none 0 0)
      have E0 := Lib.hid e0
      have E1 := Lib.hid e1
      have HFIN := Lib.hid ((HB2.setCell (p := ⟨g + 1, 0, none⟩) (by simp only; omega) (.int .i64 0)).setCell (p := ⟨g + 1, 1, none⟩) (by simp only; omega) (.slice none 0 0))
      clear e0 e1 hr ZERO
      go_wp2_with fail
      refine bodyPost_ret (v := .tuple #[.agg #[.int .i64 0, .slice none 0 0], .int .i64 3]) ?_ rfl ⟨none, 0, rfl, SlS.nil _ _ _ _ (by decide), HFIN.out⟩
      have h1 := E0.out
      have h2 := E1.out
      simp [results, Try.results19, go_sem, h1, h2]
    | some i =>
      obtain ⟨hi, hp1, hp2⟩ := (blkOf_some (m := ⟨cap, l⟩) HOK.out).1 hbo
      simp only at hi hp1 hp2
      have e1 := hw.out
      rw [HOK.out.word_some hbo] at e1
      simp only [Prod.mk.injEq] at e1
      obtain ⟨rfl, e2⟩ := e1
      have HR : Hid (cap' = cap ∧ l' = l.set i (setB (l[i]!) (place - (l[i]!).at').toNat v) ∧ e' = 0) := Lib.hid (by
        have := hr.out
        rw [patchM_eq hmb.out hbo] at this
        simp only [Prod.mk.injEq, MemD.mk.injEq] at this
        exact ⟨this.1.1.symm, this.1.2.symm, this.2.symm⟩)
      obtain ⟨kk, hkk⟩ : ∃ kk : Nat, wk = kk := ⟨wk.toNat, by omega⟩
      subst hkk
      rw [show (place - (l[i]!).at').toNat = kk by omega] at HR
      obtain ⟨rfl, rfl, rfl⟩ := HR.out
      obtain rfl : nl = nn := by rw [← hnl.out, List.length_set, hn.out]
      have hin : i < nl := by rw [← hn.out]; exact hi
      have hin2 : (i : Int) < nl := by omega
      have i0 : 0 ≤ (i : Int) := by omega
      have hneg : ¬ (i : Int) < 0 := by omega
      have hkm : kk < (l[i]!).w.length := by omega
      have hkm2 : (kk : Int) < ((l[i]!).w.length : Int) := by omega
      have kk0 : 0 ≤ (kk : Int) := by omega
      clear hr ZERO e2 hp1 hp2 hbo
      have HKM := Lib.hid hkm
      have HIL := Lib.hid hi
      clear hi
      go_wp2_with fail
      refine (own_any cap' A nl c l w2 (HS0.out.mono BlkR.mono HB2) hn HOK).mono ?_
      rintro e w5 ⟨A5, c5, rfl, hown, hb5⟩
      rcases hown with ⟨rfl, -⟩ | ⟨D5, A', cc, rfl, hO⟩
      · have := HIL.out; simp at this
      have bM5 := BM.out.bel hb5
      have bR5 := BR.out.bel hb5
      have q0 : w5.cell? ⟨g, 0, none⟩ = some (.int .i64 cap') := bM5.cell 0 rfl
      have q1 : w5.cell? ⟨g, 1, none⟩ = some (.slice A nl c) := bM5.cell 1 rfl
      have fq0 := bM5.frozen 0
      have fq1 := bM5.frozen 1
      have hg2 := BR.out.lt
      have HBM6 : Hid (Blk ((w5.setCell ⟨g, 0, none⟩ (.int .i64 cap')).setCell ⟨g, 1, none⟩ (.slice (some ⟨D5, 0, none⟩) nl c5)) g 26 #[.int .i64 cap', .slice (some ⟨D5, 0, none⟩) nl c5]) := Lib.hid ((bM5.set 0 _).set 1 _)
      have HBR6 : Hid (Blk ((w5.setCell ⟨g, 0, none⟩ (.int .i64 cap')).setCell ⟨g, 1, none⟩ (.slice (some ⟨D5, 0, none⟩) nl c5)) (g + 1) 26 #[.int .i64 0, .slice none 0 0]) := Lib.hid ((bR5.other (by simp) _).other (by simp) _)
      have HB6 : Hid (Bel w ((w5.setCell ⟨g, 0, none⟩ (.int .i64 cap')).setCell ⟨g, 1, none⟩ (.slice (some ⟨D5, 0, none⟩) nl c5))) := Lib.hid (((HB2.trans hb5).setCell (p := ⟨g, 0, none⟩) (by simp only; omega) _).setCell (p := ⟨g, 1, none⟩) (by simp only; omega) _)
      have HA6 := Lib.hid (((Abv.refl w2.heap.size w5).set (p := ⟨g, 0, none⟩) (by simp only; omega) (.int .i64 cap')).set (p := ⟨g, 1, none⟩) (by simp only; omega) (.slice (some ⟨D5, 0, none⟩) nl c5))
      have HO6 := Lib.hid (hO.abv HA6.out)
      have HWF : Hid (∀ i, i < l.length → (Lit.int .i64 (l[i]!).id).wf = true ∧ (Lit.int .i64 (l[i]!).at').wf = true) := Lib.hid (fun i hi => by
        obtain ⟨b, off, rfl⟩ := HS0.out.addr (by omega)
        obtain ⟨_, _, _, _, _, _, f1, f2⟩ := blk_cells HS0.out i hi
        exact ⟨f1, f2⟩)
      have s0 : w5.cell? ⟨g + 1, 0, none⟩ = some (.int .i64 0) := bR5.cell 0 rfl
      have s1 : w5.cell? ⟨g + 1, 1, none⟩ = some (.slice none 0 0) := bR5.cell 1 rfl
      have fs0 := bR5.frozen 0
      have fs1 := bR5.frozen 1
      have HO5 := Lib.hid hO
      clear r0 r1 fr0 fr1 hb5 hO bM5 bR5
      obtain ⟨gi, ei, hge, hgl, hgD, hOw⟩ := HO5.out.own i HIL.out HIL.out
      have d2 := (HO5.out.row.cells i HIL.out).2.2
      have hDg : D5 ≠ g := by have := HO5.out.row.D0; omega
      have hDg1 : D5 ≠ g + 1 := by have := HO5.out.row.D0; omega
      rw [ei] at d2
      have dk := hOw.cells kk HKM.out
      have fk := hOw.frz kk
      have ng : gi ≠ g := by omega
      have ng1 : gi ≠ g + 1 := by omega
      have ng' : g ≠ gi := Ne.symm ng
      have ng1' : g + 1 ≠ gi := Ne.symm ng1
      have HP := Lib.hid (HO6.out.patch HIL.out ei hgD HKM.out hv.out)
      have hBM7 := HBM6.out.other (p := ⟨gi, kk, none⟩) ng' (.int .u64 v)
      have hBR7 := HBR6.out.other (p := ⟨gi, kk, none⟩) ng1' (.int .u64 v)
      obtain ⟨e0, e1⟩ := res_two hBR7 (.int .i64 cap') (.slice (some ⟨D5, 0, none⟩) nl c5)
      have E0 := Lib.hid e0
      have E1 := Lib.hid e1
      have HF := Lib.hid (((HB6.out.setCell (p := ⟨gi, kk, none⟩) (by simp only; omega) (.int .u64 v)).setCell (p := ⟨g + 1, 0, none⟩) (by simp only; omega) (.int .i64 cap')).setCell (p := ⟨g + 1, 1, none⟩) (by simp only; omega) (.slice (some ⟨D5, 0, none⟩) nl c5))
      have HSL := Lib.hid (HP.out.slS (((Abv.refl w2.heap.size _).set (p := ⟨g + 1, 0, none⟩) (by simp only; omega) (.int .i64 cap')).set (p := ⟨g + 1, 1, none⟩) (by simp only; omega) (.slice (some ⟨D5, 0, none⟩) nl c5)) HB2.size (fun j hj => by
        rw [List.length_set] at hj
        have hwj := HWF.out j hj
        rw [set_get! HIL.out]
        split
        · rename_i e; subst e; exact hwj
        · exact hwj))
      generalize (l[i]!).w.length = m at *
      generalize (l[i]!).w.getD kk 0 = x0 at *
      clear e0 e1 hBM7 hBR7 hOw hge hgl ei
      go_wp2_with fail
      refine bodyPost_ret (v := .tuple #[.agg #[.int .i64 cap', .slice (some ⟨D5, 0, none⟩) nl c5], .int .i64 0]) ?_ rfl ⟨_, c5, rfl, HSL.out, HF.out⟩
      have h1 := E0.out
      have h2 := E1.out
      simp [results, Try.results19, go_sem, h1, h2]
end Go.Proofs.Ytegdnmlpoglfeaa
