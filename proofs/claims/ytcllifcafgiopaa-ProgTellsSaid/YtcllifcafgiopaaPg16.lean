/- prog.Swap by its contract. -/
import Derived.Test.YtcllifcafgiopaaPgSw
set_option linter.unusedVariables false
set_option linter.unusedSimpArgs false
namespace Go.Proofs.Ytcllifcafgiopaa
open Go.RowKit

def swapP (L : List FnD) (i : Int) (f : FnD) : List FnD × Int :=
  if progMay L = true ∧ fnFine ⟨0, f.code⟩ = true then
    if i < 0 ∨ (L.length : Int) ≤ i then ([], 3)
    else if (L.getD i.toNat ⟨0, []⟩).args ≠ f.args then ([], 9) else (L.set i.toNat f, 0)
  else ([], 1)
set_option maxHeartbeats 8000000 in
set_option maxRecDepth 100000 in
theorem swap_any (A : Option Addr) (c n : Nat) (L : List FnD) (i fa : Int) (B : Option Addr) (cf nf : Nat) (code : List InstD) (w0 w : World) (hb0 : Hid (Bel w0 w)) (hL0 : Sl FnR 2 w0 A c L) (hf0 : Sl InstR 7 w0 B cf code) (hn : Hid (L.length = n)) (hnf : Hid (code.length = nf)) (hfa : Hid ((Lit.int .i64 fa).wf = true)) (R : List FnD) (er : Int) (m : Nat) (hr : Hid (swapP L i ⟨fa, code⟩ = (R, er))) (hm : Hid (R.length = m)) :
    Calls Try.prog 18 #[.agg #[.slice A n c], .int .i64 i, .agg #[.int .i64 fa, .slice B nf cf]] w fun e w' => ∃ A' c', e = .returned (.tuple #[.agg #[.slice A' m c'], .int .i64 er]) ∧ Sl FnR 2 w' A' c' R ∧ (∀ r cs v, Blk w' r 24 cs → w0.heap.size ≤ r → Sl FnR 2 (w'.setCell ⟨r, 0, none⟩ v) A' c' R) ∧ Bel w w' := by
  have hL := hL0.mono FnR.mono hb0.out
  have hf := hf0.mono InstR.mono hb0.out
  have HW1 := Lib.hid (((((Bel.refl w).alloc (.cells #[.slice A n c] 24)).alloc (.cells #[.int .i64 fa, .slice B nf cf] 38)).alloc (.cells #[.slice none 0 0] 24)).alloc (.cells #[.int .i64 0, .slice B nf cf] 38))
  have K0 : Hid (Blk ((((w.alloc (.cells #[.slice A n c] 24)).alloc (.cells #[.int .i64 fa, .slice B nf cf] 38)).alloc (.cells #[.slice none 0 0] 24)).alloc (.cells #[.int .i64 0, .slice B nf cf] 38)) w.heap.size 24 #[.slice A n c]) := Lib.hid ((((Blk.new w 24 #[.slice A n c]).alloc _).alloc _).alloc _)
  have K1 : Hid (Blk ((((w.alloc (.cells #[.slice A n c] 24)).alloc (.cells #[.int .i64 fa, .slice B nf cf] 38)).alloc (.cells #[.slice none 0 0] 24)).alloc (.cells #[.int .i64 0, .slice B nf cf] 38)) (w.heap.size + 1) 38 #[.int .i64 fa, .slice B nf cf]) := Lib.hid (by
    have := ((Blk.new (w.alloc (.cells #[.slice A n c] 24)) 38 #[.int .i64 fa, .slice B nf cf]).alloc (.cells #[.slice none 0 0] 24)).alloc (.cells #[.int .i64 0, .slice B nf cf] 38)
    simpa using this)
  have K2 : Hid (Blk ((((w.alloc (.cells #[.slice A n c] 24)).alloc (.cells #[.int .i64 fa, .slice B nf cf] 38)).alloc (.cells #[.slice none 0 0] 24)).alloc (.cells #[.int .i64 0, .slice B nf cf] 38)) (w.heap.size + 1 + 1) 24 #[.slice none 0 0]) := Lib.hid (by
    have := (Blk.new ((w.alloc (.cells #[.slice A n c] 24)).alloc (.cells #[.int .i64 fa, .slice B nf cf] 38)) 24 #[.slice none 0 0]).alloc (.cells #[.int .i64 0, .slice B nf cf] 38)
    simpa using this)
  have K3 : Hid (Blk ((((w.alloc (.cells #[.slice A n c] 24)).alloc (.cells #[.int .i64 fa, .slice B nf cf] 38)).alloc (.cells #[.slice none 0 0] 24)).alloc (.cells #[.int .i64 0, .slice B nf cf] 38)) (w.heap.size + 1 + 1 + 1) 38 #[.int .i64 0, .slice B nf cf]) := Lib.hid (by
    have := Blk.new (((w.alloc (.cells #[.slice A n c] 24)).alloc (.cells #[.int .i64 fa, .slice B nf cf] 38)).alloc (.cells #[.slice none 0 0] 24)) 38 #[.int .i64 0, .slice B nf cf]
    simpa using this)
  have HL := Lib.hid (hL.mono FnR.mono HW1.out)
  have HF := Lib.hid (hf.mono InstR.mono HW1.out)
  have HBIG : Hid (n ≤ 9223372036854775807) := Lib.hid (by rw [← hn.out]; have := hL.le; have := hL.big; simp only [maxLen] at this; omega)
  obtain ⟨mp, hmp⟩ : ∃ b, Hid (progMay L = b) := ⟨_, Lib.hid rfl⟩
  obtain ⟨ff, hff⟩ : ∃ b, Hid (fnFine ⟨0, code⟩ = b) := ⟨_, Lib.hid rfl⟩
  have HL0 := Lib.hid hL0
  have HF0 := Lib.hid hf0
  clear hL hf hL0 hf0
  go_enter Try.func18, Try.ntmps18
  go_wp2_with fail
  have HGW : Hid (w.heap.size ≤ w.heap.size) := Lib.hid (Nat.le_refl _)
  obtain ⟨g, hg⟩ : ∃ g, g = w.heap.size := ⟨_, rfl⟩
  rw [← hg] at K0 K1 K2 K3 ⊢
  have HGW : Hid (w.heap.size = g) := Lib.hid hg.symm
  clear hg
  generalize ((((w.alloc (.cells #[.slice A n c] 24)).alloc (.cells #[.int .i64 fa, .slice B nf cf] 38)).alloc (.cells #[.slice none 0 0] 24)).alloc (.cells #[.int .i64 0, .slice B nf cf] 38)) = W1 at *
  refine (progmay_any A c n L mp _ HL.out hn hmp).mono ?_
  rintro e w2 ⟨rfl, hb⟩
  have HB := Lib.hid (HW1.out.trans hb)
  have KZ := Lib.hid (K2.out.bel hb)
  have HB2 := Lib.hid hb
  cases mp
  · obtain ⟨rfl, rfl⟩ : R = [] ∧ er = 1 := by
      have h := hr.out
      unfold swapP at h
      rw [if_neg (fun hh => by rw [hmp.out] at hh; simp at hh)] at h
      have h' := Prod.mk.inj h
      exact ⟨h'.1.symm, h'.2.symm⟩
    obtain rfl : m = 0 := hm.out.symm
    have fz := KZ.out.frozen 0
    have E0 : Hid (Blk (w2.setCell ⟨g + 1 + 1, 0, none⟩ (.slice none 0 0)) (g + 1 + 1) 24 #[.slice none 0 0]) := Lib.hid (Blk.set (cs := #[.slice none 0 0]) KZ.out 0 (.slice none 0 0))
    have HF := Lib.hid (HB.out.setCell (p := ⟨g + 1 + 1, 0, none⟩) (by simp only; have := HGW.out; omega) (.slice none 0 0))
    have cz := KZ.out.cell 0 rfl
    go_wp2_with fail
    refine bodyPost_ret (v := .tuple #[.agg #[.slice none 0 0], .int .i64 1]) ?_ rfl ⟨none, 0, rfl, Sl.nil _ _ _, fun _ _ _ _ _ => Sl.nil _ _ _, HF.out⟩
    have h1 := E0.out.cell 0 rfl
    simp [results, Try.results18, go_sem, h1]
  have k30 := (K3.out.bel hb).cell 0 rfl
  have k31 := (K3.out.bel hb).cell 1 rfl
  clear hb
  go_wp2_with fail
  refine (fine_any 0 B cf nf code ff _ (HF.out.mono InstR.mono HB2.out) hnf hff).mono ?_
  rintro e w3 ⟨rfl, hb⟩
  have HB := Lib.hid (HB.out.trans hb)
  have KZ := Lib.hid (KZ.out.bel hb)
  have HB3 := Lib.hid (HB2.out.trans hb)
  clear hb k30 k31 HB2
  cases ff
  · obtain ⟨rfl, rfl⟩ : R = [] ∧ er = 1 := by
      have h := hr.out
      unfold swapP at h
      rw [if_neg (fun hh => by rw [hff.out] at hh; simp at hh)] at h
      have h' := Prod.mk.inj h
      exact ⟨h'.1.symm, h'.2.symm⟩
    obtain rfl : m = 0 := hm.out.symm
    have fz := KZ.out.frozen 0
    have E0 : Hid (Blk (w3.setCell ⟨g + 1 + 1, 0, none⟩ (.slice none 0 0)) (g + 1 + 1) 24 #[.slice none 0 0]) := Lib.hid (Blk.set (cs := #[.slice none 0 0]) KZ.out 0 (.slice none 0 0))
    have HF := Lib.hid (HB.out.setCell (p := ⟨g + 1 + 1, 0, none⟩) (by simp only; have := HGW.out; omega) (.slice none 0 0))
    have cz := KZ.out.cell 0 rfl
    go_wp2_with fail
    refine bodyPost_ret (v := .tuple #[.agg #[.slice none 0 0], .int .i64 1]) ?_ rfl ⟨none, 0, rfl, Sl.nil _ _ _, fun _ _ _ _ _ => Sl.nil _ _ _, HF.out⟩
    have h1 := E0.out.cell 0 rfl
    simp [results, Try.results18, go_sem, h1]
  have HOKK : Hid (progMay L = true ∧ fnFine ⟨0, code⟩ = true) := Lib.hid ⟨hmp.out, hff.out⟩
  have k00 := (K0.out.bel HB3.out).cell 0 rfl
  by_cases hi0 : i < 0
  · obtain ⟨rfl, rfl⟩ : R = [] ∧ er = 3 := by
      have h := hr.out
      unfold swapP at h
      rw [if_pos HOKK.out, if_pos (Or.inl hi0)] at h
      have h' := Prod.mk.inj h
      exact ⟨h'.1.symm, h'.2.symm⟩
    obtain rfl : m = 0 := hm.out.symm
    have fz := KZ.out.frozen 0
    have E0 : Hid (Blk (w3.setCell ⟨g + 1 + 1, 0, none⟩ (.slice none 0 0)) (g + 1 + 1) 24 #[.slice none 0 0]) := Lib.hid (Blk.set (cs := #[.slice none 0 0]) KZ.out 0 (.slice none 0 0))
    have HF := Lib.hid (HB.out.setCell (p := ⟨g + 1 + 1, 0, none⟩) (by simp only; have := HGW.out; omega) (.slice none 0 0))
    have cz := KZ.out.cell 0 rfl
    go_wp2_with fail
    refine bodyPost_ret (v := .tuple #[.agg #[.slice none 0 0], .int .i64 3]) ?_ rfl ⟨none, 0, rfl, Sl.nil _ _ _, fun _ _ _ _ _ => Sl.nil _ _ _, HF.out⟩
    have h1 := E0.out.cell 0 rfl
    simp [results, Try.results18, go_sem, h1]
  by_cases hin : (n : Int) ≤ i
  · obtain ⟨rfl, rfl⟩ : R = [] ∧ er = 3 := by
      have h := hr.out
      unfold swapP at h
      rw [if_pos HOKK.out, if_pos (Or.inr (by rw [hn.out]; exact hin))] at h
      have h' := Prod.mk.inj h
      exact ⟨h'.1.symm, h'.2.symm⟩
    obtain rfl : m = 0 := hm.out.symm
    have fz := KZ.out.frozen 0
    have E0 : Hid (Blk (w3.setCell ⟨g + 1 + 1, 0, none⟩ (.slice none 0 0)) (g + 1 + 1) 24 #[.slice none 0 0]) := Lib.hid (Blk.set (cs := #[.slice none 0 0]) KZ.out 0 (.slice none 0 0))
    have HF := Lib.hid (HB.out.setCell (p := ⟨g + 1 + 1, 0, none⟩) (by simp only; have := HGW.out; omega) (.slice none 0 0))
    have cz := KZ.out.cell 0 rfl
    go_wp2_with fail
    refine bodyPost_ret (v := .tuple #[.agg #[.slice none 0 0], .int .i64 3]) ?_ rfl ⟨none, 0, rfl, Sl.nil _ _ _, fun _ _ _ _ _ => Sl.nil _ _ _, HF.out⟩
    have h1 := E0.out.cell 0 rfl
    simp [results, Try.results18, go_sem, h1]
  obtain ⟨k, rfl⟩ : ∃ k : Nat, i = k := ⟨i.toNat, by omega⟩
  have hk1 : k < n := by omega
  have hk2 : (k : Int) < n := by omega
  have k0 : 0 ≤ (k : Int) := by omega
  have hkl : k < L.length := by rw [hn.out]; exact hk1
  have k10 := (K1.out.bel HB3.out).cell 0 rfl
  have HLS := Lib.hid (HL.out.mono FnR.mono HB3.out)
  obtain ⟨b, o, rfl⟩ := HL0.out.addr (by omega)
  obtain ⟨Ak, ck, d0, d1, -⟩ := fn_cells HLS.out k hkl
  have hsw : Hid (¬ ((k : Int) < 0 ∨ (L.length : Int) ≤ k)) := Lib.hid (by rw [hn.out]; omega)
  have hgd : Hid (L.getD (k : Int).toNat ⟨0, []⟩ = L[k]) := Lib.hid (by
    rw [Int.toNat_natCast, List.getD_eq_getElem?_getD, List.getElem?_eq_getElem hkl]
    rfl)
  obtain ⟨ak, hak⟩ : ∃ ak, Hid ((L[k]).args = ak) := ⟨_, Lib.hid rfl⟩
  rw [hak.out] at d0
  have HKL := Lib.hid hkl
  clear d1
  by_cases hargs : ak = fa
  case neg =>
    have t0 : (ak != fa) = true := by simpa using hargs
    obtain ⟨rfl, rfl⟩ : R = [] ∧ er = 9 := by
      have h := hr.out
      unfold swapP at h
      rw [if_pos HOKK.out, if_neg hsw.out, if_pos (by rw [hgd.out, hak.out]; exact hargs)] at h
      have h' := Prod.mk.inj h
      exact ⟨h'.1.symm, h'.2.symm⟩
    obtain rfl : m = 0 := hm.out.symm
    have fz := KZ.out.frozen 0
    have E0 : Hid (∀ z, Blk ((w3.drewN z).setCell ⟨g + 1 + 1, 0, none⟩ (.slice none 0 0)) (g + 1 + 1) 24 #[.slice none 0 0]) := Lib.hid (fun z => Blk.set (cs := #[.slice none 0 0]) (KZ.out.bel ((Bel.refl w3).drewN z)) 0 (.slice none 0 0))
    have HF := Lib.hid (fun z => (HB.out.drewN z).setCell (p := ⟨g + 1 + 1, 0, none⟩) (by simp only; have := HGW.out; omega) (.slice none 0 0))
    have cz := KZ.out.cell 0 rfl
    clear hargs
    go_wp2_with fail
    go_quiet (fail)
    go_wp2_with fail
    refine bodyPost_ret (v := .tuple #[.agg #[.slice none 0 0], .int .i64 9]) ?_ rfl ⟨none, 0, rfl, Sl.nil _ _ _, fun _ _ _ _ _ => Sl.nil _ _ _, HF.out _⟩
    have h1 := (E0.out nq).cell 0 rfl
    simp [results, Try.results18, go_sem, h1]
  subst hargs
  have t0 : (ak != ak) = false := by simp
  have hn8 : n ≤ 8 := by rw [← hn.out]; exact (progMay_iff.1 hmp.out).n8
  go_wp2_with fail
  go_quiet (fail)
  go_wp2_with fail
  have HBD := Lib.hid ((Bel.refl w3).drewN nq)
  clear t0 d0 k00 k10
  have KZ := Lib.hid (KZ.out.bel HBD.out)
  have K1 := Lib.hid (K1.out.bel (HB3.out.trans HBD.out))
  have HLS := Lib.hid (HLS.out.mono FnR.mono HBD.out)
  have HCF := Lib.hid (HF.out.mono InstR.mono (HB3.out.trans HBD.out))
  have HB := Lib.hid (HB.out.trans HBD.out)
  clear HBD HB3 HL HF K0 K2 K3
  generalize w3.drewN nq = w4 at *
  refine (cloneF_any b o n c L w0 w4 (Lib.hid (hb0.out.trans HB.out)) HL0.out hn (Lib.hid ⟨by omega, by omega⟩)).mono ?_
  rintro e w5 ⟨D, c5, AA, cc, rfl, hrow, hsl, hb⟩
  have hbx := hb.alloc (.cells #[.slice (some ⟨D, 0, none⟩) n c5] 24)
  have hrx := hrow.bel ((Bel.refl w5).alloc (.cells #[.slice (some ⟨D, 0, none⟩) n c5] 24))
  obtain ⟨d50, d51⟩ := hrx.cells k hkl
  have fz0 := hrx.frz (k * 2)
  have fz1 := hrx.frz (k * 2 + 1)
  have k10 := (K1.out.bel hbx).cell 0 rfl
  have k11 := (K1.out.bel hbx).cell 1 rfl
  have hDlt := hrow.lt
  obtain ⟨cur, hty⟩ := hrow.ty
  have fz2 := ((Blk.set (cs := cur) hty (k * 2) (.int .i64 ak)).alloc (.cells #[.slice (some ⟨D, 0, none⟩) n c5] 24)).frozen (k * 2 + 1)
  have d52 : ((w5.setCell ⟨D, k * 2, none⟩ (.int .i64 ak)).alloc (.cells #[.slice (some ⟨D, 0, none⟩) n c5] 24)).cell? ⟨D, k * 2 + 1, none⟩ = some (.slice (AA k) (L[k]).code.length (cc k)) := ((Bel.refl _).alloc _).cell (by
    rw [World.cell?_setCell_other _ _ _ _ (by simp only [ne_eq, Addr.mk.injEq, true_and, and_true]; omega)]
    exact (hrow.cells k hkl).2)
  have d53 : (((w5.setCell ⟨D, k * 2, none⟩ (.int .i64 ak)).setCell ⟨D, k * 2 + 1, none⟩ (.slice B nf cf)).alloc (.cells #[.slice (some ⟨D, 0, none⟩) n c5] 24)).cell? ⟨w5.heap.size, 0, none⟩ = some (.slice (some ⟨D, 0, none⟩) n c5) := by
    have := cell_fresh ((w5.setCell ⟨D, k * 2, none⟩ (.int .i64 ak)).setCell ⟨D, k * 2 + 1, none⟩ (.slice B nf cf)) #[.slice (some ⟨D, 0, none⟩) n c5] 24 0 _ rfl
    rwa [setCell_size, setCell_size] at this
  have hI : SwI w0 D c5 w5.heap.size n (L.set k ⟨ak, code⟩) (((w5.setCell ⟨D, k * 2, none⟩ (.int .i64 ak)).setCell ⟨D, k * 2 + 1, none⟩ (.slice B nf cf)).alloc (.cells #[.slice (some ⟨D, 0, none⟩) n c5] 24)) := by
    refine ⟨((((hb0.out.trans HB.out).trans hb).setCell (Nat.le_trans (hb0.out.trans HB.out).size hrow.D0) _).setCell (Nat.le_trans (hb0.out.trans HB.out).size hrow.D0) _).alloc _, ?_, by omega, upd AA k B, upd cc k cf, ?_, fun i hi => ?_⟩
    · have := Blk.new ((w5.setCell ⟨D, k * 2, none⟩ (.int .i64 ak)).setCell ⟨D, k * 2 + 1, none⟩ (.slice B nf cf)) 24 #[.slice (some ⟨D, 0, none⟩) n c5]
      rwa [setCell_size, setCell_size] at this
    · have := hrow.put hkl ⟨ak, code⟩ B cf
      simp only at this
      rw [hnf.out] at this
      exact (this.bel ((Bel.refl _).alloc _)).low (hb0.out.trans HB.out).size
    · by_cases hik : i = k
      · subst hik
        rw [upd_same, upd_same, List.getElem_set_self]
        exact .inl HF0.out
      · rw [upd_other _ _ hik, upd_other _ _ hik, List.getElem_set_ne (fun e => hik e.symm)]
        exact .inl (hsl i (by rw [List.length_set] at hi; exact hi))
  have HI := Lib.hid hI
  have hKD : g + 1 + 1 ≠ D := by
    have h1 := KZ.out.lt
    have h2 := hrow.D0
    omega
  have HWX := Lib.hid (((((HB.out.trans hb).setCell (p := ⟨D, k * 2, none⟩) (Nat.le_trans HB.out.size hrow.D0) (.int .i64 ak))).setCell (p := ⟨D, k * 2 + 1, none⟩) (Nat.le_trans HB.out.size hrow.D0) (.slice B nf cf)).alloc (.cells #[.slice (some ⟨D, 0, none⟩) n c5] 24))
  have HDW : Hid (w.heap.size ≤ D) := Lib.hid (Nat.le_trans HB.out.size hrow.D0)
  have HKX := Lib.hid ((((KZ.out.bel hb).other (p := ⟨D, k * 2, none⟩) hKD (.int .i64 ak)).other (p := ⟨D, k * 2 + 1, none⟩) hKD (.slice B nf cf)).alloc (.cells #[.slice (some ⟨D, 0, none⟩) n c5] 24))
  have HKD := Lib.hid hKD
  clear hKD
  clear hI hty
  have HROW := Lib.hid hrow
  have HSL := Lib.hid hsl
  have HB5 := Lib.hid hb
  have hck : n ≤ c5 := by have := hrow.le; rw [hn.out] at this; exact this
  clear hrow hsl hb hbx hrx
  go_wp2_with fail
  generalize ((w5.setCell ⟨D, k * 2, none⟩ (.int .i64 ak)).setCell ⟨D, k * 2 + 1, none⟩ (.slice B nf cf)).alloc (.cells #[.slice (some ⟨D, 0, none⟩) n c5] 24) = X0 at *
  clear fz0 fz1 fz2 d50 d51 d52 d53 k10 k11 HSL HROW
  generalize w5.heap.size = gp at *
  have HLEN : Hid ((L.set k ⟨ak, code⟩).length = n) := Lib.hid (by rw [List.length_set]; exact hn.out)
  have HRR : Hid (R = L.set k ⟨ak, code⟩ ∧ er = 0 ∧ m = n) := Lib.hid (by
    have h := hr.out
    unfold swapP at h
    rw [if_pos HOKK.out, if_neg hsw.out, if_neg (by rw [hgd.out, hak.out]; simp), Int.toNat_natCast] at h
    have h' := Prod.mk.inj h
    exact ⟨h'.1.symm, h'.2.symm, by rw [← hm.out, ← h'.1]; exact HLEN.out⟩)
  have HWF : Hid (∀ f ∈ L.set k ⟨ak, code⟩, ((∀ x ∈ f.code, x.Wf) ∧ (Lit.int .i64 f.args).wf = true) ∧ 0 < f.code.length ∧ f.code.length ≤ 64) := Lib.hid (by
    intro f hf
    rcases List.mem_or_eq_of_mem_set hf with hf | rfl
    · obtain ⟨q, hq, rfl⟩ := List.mem_iff_getElem.1 hf
      obtain ⟨b9, o9, cs9, -, -, ⟨A9, c9, -, hs9, hw9⟩, -⟩ := HL0.out.get q hq
      have h2 := fnFine_facts ((progMay_iff.1 hmp.out).fine q hq)
      exact ⟨⟨fun x hx => by
        obtain ⟨q2, hq2, rfl⟩ := List.mem_iff_getElem.1 hx
        obtain ⟨_, _, _, -, -, ⟨-, hwf⟩, -⟩ := hs9.get q2 hq2
        exact hwf, hw9⟩, h2.2.2.1, h2.2.2.2.1⟩
    · have h2 := fnFine_facts hff.out
      exact ⟨⟨fun x hx => by
        obtain ⟨q2, hq2, rfl⟩ := List.mem_iff_getElem.1 hx
        obtain ⟨_, _, _, -, -, ⟨-, hwf⟩, -⟩ := HF0.out.get q2 hq2
        exact hwf, hfa.out⟩, h2.2.2.1, h2.2.2.2.1⟩)
  generalize L.set k ⟨ak, code⟩ = L' at *
  go_loopw [55] (fun jv wr => ∃ j : Nat, jv = .int .i64 j ∧ j ≤ n ∧ Hid (SwI w0 D c5 gp n L' wr) ∧ Hid (Blk wr (g + 1 + 1) 24 #[.slice none 0 0]) ∧ Hid (Bel w wr)) (fun jv _ => n - (intOf jv).toNat)
  case atStart => exact ⟨0, rfl, Nat.zero_le _, HI, HKX, HWX⟩
  case round =>
    obtain ⟨j, rfl, hj, HJ, HJZ, HJW⟩ := hrel
    have b0 := HJ.out.box.cell 0 rfl
    by_cases hjn : j = n
    · subst hjn
      have KR := Lib.hid HJZ.out
      have cz := KR.out.cell 0 rfl
      have fz := KR.out.frozen 0
      have E1 := Lib.hid ((Blk.set (cs := #[.slice none 0 0]) KR.out 0 (.slice (some ⟨D, 0, none⟩) j c5)).cell 0 rfl)
      have HBE := Lib.hid (HJW.out.setCell (p := ⟨g + 1 + 1, 0, none⟩) (by simp only; have := HGW.out; omega) (.slice (some ⟨D, 0, none⟩) j c5))
      have HSE := Lib.hid (HJ.out.slr KR.out (by have := HGW.out; have := hb0.out.size; omega) (.slice (some ⟨D, 0, none⟩) j c5) (fun f hf => (HWF.out f hf).1))
      have HSR := Lib.hid (SwR.other ⟨HJ.out.bel, HJ.out.row⟩ KR.out (by have := HGW.out; have := hb0.out.size; omega) (.slice (some ⟨D, 0, none⟩) j c5))
      obtain ⟨rfl, rfl, rfl⟩ := HRR.out
      go_wp2_with fail
      refine bodyPost_ret (v := .tuple #[.agg #[.slice (some ⟨D, 0, none⟩) m c5], .int .i64 0]) ?_ rfl ⟨some ⟨D, 0, none⟩, c5, rfl, HSE.out, fun r cs v hK hr => (HSR.out.other hK hr v).sl (fun f hf => (HWF.out f hf).1), HBE.out⟩
      have h1 := E1.out
      simp [results, Try.results18, go_sem, h1]
    · have hj1 : j < n := by omega
      have hj2 : (j : Int) < n := by omega
      have j0 : 0 ≤ (j : Int) := by omega
      have ej : IntKind.i64.wrap ((j : Int) + 1) = (j : Int) + 1 := wrap_i64 (by omega) (by omega)
      have hjl : j < L'.length := by rw [HLEN.out]; exact hj1
      obtain ⟨AJ, cj, hrw, hcd⟩ := HJ.out.row
      have d1 := (hrw.cells j hjl).2
      have HSJ := Lib.hid ((hcd j hjl).sl HJ.out.bel (HWF.out _ (List.getElem_mem hjl)).1.1)
      have hfz : ∀ w', Bel wr w' → w'.frozen? ⟨D, j * 2 + 1, none⟩ = false := fun w' h => (hrw.bel h).frz _
      have hlow : w0.heap.size ≤ wr.drew.heap.size := Nat.le_trans HJ.out.bel.size ((Bel.refl wr).drew).size
      obtain ⟨lj, HLJ⟩ : ∃ lj, Hid ((L'[j]).code.length = lj) := ⟨_, Lib.hid rfl⟩
      rw [HLJ.out] at d1
      have HLP : Hid (0 < lj ∧ lj ≤ 4096) := Lib.hid (by have := (HWF.out _ (List.getElem_mem hjl)).2; rw [HLJ.out] at this; omega)
      clear hrw hcd hjn
      go_wp2_with fail
      have SD := (Bel.refl wr).drew
      have P0 : ∀ w', Bel wr w' → w'.cell? ⟨gp, 0, none⟩ = some (.slice (some ⟨D, 0, none⟩) n c5) := fun w' h => h.cell b0
      have P1 : ∀ w', Bel wr w' → w'.cell? ⟨D, j * 2 + 1, none⟩ = some (.slice (AJ j) lj (cj j)) := fun w' h => h.cell d1
      refine wp_region_T (fun w' => Bel wr w') (fun j => j == 11 || j == 12) (by kernel_rfl) ?_
      refine wpAnyU_take (i := 0) (v := ?v0) rfl (by kernel_rfl) (by kernel_rfl) (by kernel_rfl) (by kernel_rfl) (fun _ _ _ h => h) (Or.inl ⟨by rfl, ?hy0⟩) SD ?rest0
      case hy0 => (intro w' hSw; go_simp) <;> with_reducible rfl
      try simp only [List.getElem_toArray, List.getElem_cons_zero, List.getElem_cons_succ, Act.put, List.setIfInBounds_toArray, List.set_cons_zero, List.set_cons_succ]
      refine wpAnyU_take (i := 1) (v := ?v1) rfl (by kernel_rfl) (by kernel_rfl) (by kernel_rfl) (by kernel_rfl) (fun _ _ _ h => h) (Or.inl ⟨by rfl, ?hy1⟩) SD ?rest1
      case hy1 => (intro w' hSw; go_simp) <;> with_reducible rfl
      try simp only [List.getElem_toArray, List.getElem_cons_zero, List.getElem_cons_succ, Act.put, List.setIfInBounds_toArray, List.set_cons_zero, List.set_cons_succ]
      refine wpAnyU_take (i := 2) (v := ?v2) rfl (by kernel_rfl) (by kernel_rfl) (by kernel_rfl) (by kernel_rfl) (fun _ _ _ h => h) (Or.inl ⟨by rfl, ?hy2⟩) SD ?rest2
      case hy2 => (intro w' hSw; go_simp) <;> with_reducible rfl
      try simp only [List.getElem_toArray, List.getElem_cons_zero, List.getElem_cons_succ, Act.put, List.setIfInBounds_toArray, List.set_cons_zero, List.set_cons_succ]
      refine wpAnyU_take (i := 3) (v := ?v3) rfl (by kernel_rfl) (by kernel_rfl) (by kernel_rfl) (by kernel_rfl) (fun _ _ _ h => h) (Or.inl ⟨by rfl, ?hy3⟩) SD ?rest3
      case hy3 => (intro w' hSw; go_simp) <;> with_reducible rfl
      try simp only [List.getElem_toArray, List.getElem_cons_zero, List.getElem_cons_succ, Act.put, List.setIfInBounds_toArray, List.set_cons_zero, List.set_cons_succ]
      refine wpAnyU_take (i := 4) (v := ?v4) rfl (by kernel_rfl) (by kernel_rfl) (by kernel_rfl) (by kernel_rfl) (fun _ _ _ h => h) (Or.inl ⟨by rfl, ?hy4⟩) SD ?rest4
      case hy4 => (intro w' hSw; go_simp) <;> with_reducible rfl
      try simp only [List.getElem_toArray, List.getElem_cons_zero, List.getElem_cons_succ, Act.put, List.setIfInBounds_toArray, List.set_cons_zero, List.set_cons_succ]
      refine wpAnyU_take (i := 5) (v := ?v5) rfl (by kernel_rfl) (by kernel_rfl) (by kernel_rfl) (by kernel_rfl) (fun _ _ _ h => h) (Or.inl ⟨by rfl, ?hy5⟩) SD ?rest5
      case hy5 => (intro w' hSw; go_simp) <;> with_reducible rfl
      try simp only [List.getElem_toArray, List.getElem_cons_zero, List.getElem_cons_succ, Act.put, List.setIfInBounds_toArray, List.set_cons_zero, List.set_cons_succ]
      refine wpAnyU_take (i := 6) (v := ?v6) rfl (by kernel_rfl) (by kernel_rfl) (by kernel_rfl) (by kernel_rfl) (fun _ _ _ h => h) (Or.inl ⟨by rfl, ?hy6⟩) SD ?rest6
      case hy6 => (intro w' hSw; go_simp) <;> with_reducible rfl
      try simp only [List.getElem_toArray, List.getElem_cons_zero, List.getElem_cons_succ, Act.put, List.setIfInBounds_toArray, List.set_cons_zero, List.set_cons_succ]
      refine wpAnyU_take (i := 7) (v := ?v7) rfl (by kernel_rfl) (by kernel_rfl) (by kernel_rfl) (by kernel_rfl) (fun _ _ _ h => h) (Or.inl ⟨by rfl, ?hy7⟩) SD ?rest7
      case hy7 => (intro w' hSw; go_simp) <;> with_reducible rfl
      try simp only [List.getElem_toArray, List.getElem_cons_zero, List.getElem_cons_succ, Act.put, List.setIfInBounds_toArray, List.set_cons_zero, List.set_cons_succ]
      refine wpAnyU_take (i := 8) (v := ?v8) rfl (by kernel_rfl) (by kernel_rfl) (by kernel_rfl) (by kernel_rfl) (fun _ _ _ h => h) (Or.inl ⟨by rfl, ?hy8⟩) SD ?rest8
      case hy8 => (intro w' hSw; go_simp) <;> with_reducible rfl
      try simp only [List.getElem_toArray, List.getElem_cons_zero, List.getElem_cons_succ, Act.put, List.setIfInBounds_toArray, List.set_cons_zero, List.set_cons_succ]
      refine wpAnyT_one (i := 9) (by kernel_rfl) rfl (fun K hK => ?_)
      go_simp
      go_at_call 32
      refine (cloneI_any (AJ j) lj (cj j) (L'[j]).code wr.drew (HSJ.out.mono InstR.mono SD) HLJ HLP).mono ?_
      rintro e w7 ⟨v7, rfl, ho7, hb7⟩
      have S7 : Bel wr w7 := SD.trans hb7
      have HJ7 := HJ.out.mono S7
      have HK7 := HJZ.out.bel S7
      have hjw7 := HJW.out.trans S7
      obtain ⟨A7, c7, rfl⟩ := own_slice ho7
      have ho7' := own_low ho7 hlow
      rw [← HLJ.out] at ho7'
      have hI7 := HJ7.code hjl ho7'
      rw [HLJ.out] at hI7
      have HI7 := Lib.hid hI7
      have HJW7 := Lib.hid (hjw7.setCell (p := ⟨D, j * 2 + 1, none⟩) HDW.out (.slice A7 lj c7))
      clear hjw7
      have HK8 := Lib.hid (HK7.other (p := ⟨D, j * 2 + 1, none⟩) HKD.out (.slice A7 lj c7))
      have d7 := P1 w7 S7
      have fz7 : w7.frozen? ⟨D, j * 2 + 1, none⟩ = false := hfz w7 S7
      refine hK.out _ _ (fun _ => S7) ?_
      clear hK K
      try simp only [List.getElem_toArray, List.getElem_cons_zero, List.getElem_cons_succ, Act.put, List.setIfInBounds_toArray, List.set_cons_zero, List.set_cons_succ]
      refine wpAnyU_take (i := 10) (v := ?v10) rfl (by kernel_rfl) (by kernel_rfl) (by kernel_rfl) (by kernel_rfl) (fun _ _ _ h => h) (Or.inl ⟨by rfl, ?hy10⟩) S7 ?rest10
      case hy10 => (intro w' hSw; go_simp) <;> with_reducible rfl
      try simp only [List.getElem_toArray, List.getElem_cons_zero, List.getElem_cons_succ, Act.put, List.setIfInBounds_toArray, List.set_cons_zero, List.set_cons_succ]
      refine wpAnyU_take (i := 11) (v := ?v11) rfl (by kernel_rfl) (by kernel_rfl) (by kernel_rfl) (by kernel_rfl) (fun _ _ _ h => h) (Or.inl ⟨by rfl, ?hy11⟩) S7 ?rest11
      case hy11 => (intro w' hSw; go_simp) <;> with_reducible rfl
      try simp only [List.getElem_toArray, List.getElem_cons_zero, List.getElem_cons_succ, Act.put, List.setIfInBounds_toArray, List.set_cons_zero, List.set_cons_succ]
      refine wpAnyT_one (i := 12) (by kernel_rfl) rfl (fun K hK => ?_)
      go_simp
      refine hK.out _ _ (fun h => absurd h (by decide)) ?_
      clear hK K
      try simp only [List.getElem_toArray, List.getElem_cons_zero, List.getElem_cons_succ, Act.put, List.setIfInBounds_toArray, List.set_cons_zero, List.set_cons_succ]
      refine wpAnyT_done (by kernel_rfl) ?_ _
      refine NoPanic.normal ?_
      clear S7 SD P0 P1 d7 fz7 hI7 ho7 ho7' hb7 HJ7 HK7 b0 d1 hfz hlow
      go_wp2
      go_roundw
      case rel => exact ⟨j + 1, by simp, by omega, HI7, HK8, HJW7⟩
      case measure => simp [intOf]; omega
end Go.Proofs.Ytcllifcafgiopaa
