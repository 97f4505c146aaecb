/- The document's Swap by its contract: it is what prog's is. -/
import Derived.Test.YtcllifcafgiopaaPgOwn
import Derived.Test.YtcllifcafgiopaaHeldU
set_option linter.unusedVariables false
set_option linter.unusedSimpArgs false
namespace Go.Proofs.Ytcllifcafgiopaa
open Go.RowKit

def lset2 (l : List Value) (o : Nat) (z : FnD × Value) : List Value := (l.set o (.int .i64 z.1.args)).set (o + 1) z.2
theorem lset2_app (a l : List Value) (o : Nat) (z : FnD × Value) : lset2 (a ++ l) (a.length + o) z = a ++ lset2 l o z := by
  unfold lset2
  have s : ∀ (l : List Value) (k : Nat) (v : Value), (a ++ l).set (a.length + k) v = a ++ l.set k v := fun l k v => by
    rw [List.set_append_right _ _ (Nat.le_add_right _ _), Nat.add_sub_cancel_left]
  rw [Nat.add_assoc, s, s]
theorem lset2_flat (z : FnD × Value) : ∀ (l : List (FnD × Value)) (k : Nat), k < l.length → lset2 (l.flatMap fnc) (k * 2) z = (l.set k z).flatMap fnc
  | [], k, h => by simp at h
  | a :: l, 0, _ => by
    rw [List.flatMap_cons, List.set_cons_zero, List.flatMap_cons]
    rfl
  | a :: l, k + 1, h => by
    rw [List.flatMap_cons, List.set_cons_succ, List.flatMap_cons, ← lset2_flat z l k (by simpa using h), ← lset2_app]
    congr 1
    simp only [fnc, List.length_cons, List.length_nil]
    omega
/-- Functions of one's own, and their codes. -/
structure OwnW (w : World) (base : Nat) (zs : List (FnD × Value)) (v : Value) (X : World) : Prop where
  bel : Bel w X
  own : X.ownsRow base 38 2 v zs.length (zs.flatMap fnc)
  codes : ∀ z ∈ zs, X.ownsRow base 43 7 z.2 z.1.code.length (z.1.code.flatMap InstD.cells)
theorem OwnW.mono {w : World} {base : Nat} {zs : List (FnD × Value)} {v : Value} {X Y : World} (h : OwnW w base zs v X) (hb : Bel X Y) : OwnW w base zs v Y :=
  ⟨h.bel.trans hb, own_bel h.own hb, fun z hz => own_bel (h.codes z hz) hb⟩
theorem OwnW.sl {w : World} {base : Nat} {zs : List (FnD × Value)} {v : Value} {X : World} (h : OwnW w base zs v X) (hw : ∀ f ∈ zs.map Prod.fst, FnWf f) : ∃ A c, v = .slice A zs.length c ∧ Sl FnR 2 X A c (zs.map Prod.fst) :=
  fns_of_own h.own fun z hz => fnR_own (h.codes z hz) (hw _ (List.mem_map_of_mem hz))
theorem OwnW.box {w : World} {base : Nat} {zs : List (FnD × Value)} {v : Value} {X : World} (h : OwnW w base zs v X) {r : Nat} {cs : Array Value} (hK : Blk X r 24 cs) (hr : w.heap.size ≤ r) (u : Value) : OwnW w base zs v (X.setCell ⟨r, 0, none⟩ u) := by
  have e : X.heap[r]? = some (.cells cs 24 (0, 0)) := hK
  exact ⟨h.bel.setCell (p := ⟨r, 0, none⟩) hr u, ownsRow_setCell_other h.own (own_not h.own e (by decide)) u, fun z hz => ownsRow_setCell_other (h.codes z hz) (own_not (h.codes z hz) e (by decide)) u⟩
theorem OwnW.put {w : World} {base : Nat} {zs : List (FnD × Value)} {X : World} {D n c : Nat} (h : OwnW w base zs (.slice (some ⟨D, 0, none⟩) n c) X) (hb : w.heap.size ≤ base) (hn : zs.length = n) {k : Nat} (hk : k < zs.length) (z : FnD × Value) (hz : X.ownsRow base 43 7 z.2 z.1.code.length (z.1.code.flatMap InstD.cells)) :
    OwnW w base (zs.set k z) (.slice (some ⟨D, 0, none⟩) n c) ((X.setCell ⟨D, k * 2, none⟩ (.int .i64 z.1.args)).setCell ⟨D, k * 2 + 1, none⟩ z.2) := by
  subst hn
  have ho := h.own
  obtain ⟨cur, hD, hbD⟩ : ∃ cur, X.heap[D]? = some (.cells cur 38 (0, 0)) ∧ base ≤ D := by
    rcases ho.2 with ⟨e, _⟩ | ⟨g', cap, cur, e, h1, h2, _⟩
    · cases e
    · simp only [Value.slice.injEq, Option.some.injEq, Addr.mk.injEq, and_true, true_and] at e
      obtain ⟨rfl, rfl⟩ := e
      exact ⟨cur, h2, h1⟩
  have hD2 : (X.setCell ⟨D, k * 2, none⟩ (.int .i64 z.1.args)).heap[D]? = some (.cells _ 38 (0, 0)) := Blk.set (cs := cur) hD _ _
  have hrow := own_setIn (own_setIn ho (k * 2) (.int .i64 z.1.args)) (k * 2 + 1) z.2
  have he := lset2_flat z zs k hk
  unfold lset2 at he
  rw [he] at hrow
  have code : ∀ y : FnD × Value, X.ownsRow base 43 7 y.2 y.1.code.length (y.1.code.flatMap InstD.cells) → ((X.setCell ⟨D, k * 2, none⟩ (.int .i64 z.1.args)).setCell ⟨D, k * 2 + 1, none⟩ z.2).ownsRow base 43 7 y.2 y.1.code.length (y.1.code.flatMap InstD.cells) := fun y hy => by
    have h1 := ownsRow_setCell_other hy (a := ⟨D, k * 2, none⟩) (own_not hy hD (by decide)) (.int .i64 z.1.args)
    exact ownsRow_setCell_other h1 (a := ⟨D, k * 2 + 1, none⟩) (own_not h1 hD2 (by decide)) z.2
  refine ⟨(h.bel.setCell (p := ⟨D, k * 2, none⟩) (by simp only; omega) _).setCell (p := ⟨D, k * 2 + 1, none⟩) (by simp only; omega) _, by rw [List.length_set]; exact hrow, fun y hy => ?_⟩
  rcases List.mem_or_eq_of_mem_set hy with hy | rfl
  · exact code y (h.codes y hy)
  · exact code _ hz
theorem OwnW.ne {w : World} {base : Nat} {zs : List (FnD × Value)} {X : World} {D n c : Nat} (h : OwnW w base zs (.slice (some ⟨D, 0, none⟩) n c) X) {r : Nat} {cs : Array Value} (hK : Blk X r 24 cs) : r ≠ D := by
  rcases h.own.2 with ⟨e, _⟩ | ⟨g', cap, cur, e, h1, h2, _⟩
  · cases e
  · simp only [Value.slice.injEq, Option.some.injEq, Addr.mk.injEq, and_true, true_and] at e
    obtain ⟨rfl, -, rfl⟩ := e
    exact blk_not hK h2 (by decide)
theorem fine_crs {l : List InstD} {b : Bool} (h : fnFine ⟨0, l⟩ = b) : crsMay l = b := by
  rw [← h]
  unfold fnFine
  simp
set_option maxHeartbeats 8000000 in
set_option maxRecDepth 100000 in
theorem refSwap3_any (A : Option Addr) (c n : Nat) (L : List FnD) (i fa : Int) (B : Option Addr) (cf nf : Nat) (code : List InstD) (w : World) (hL : Sl FnR 2 w A c L) (hf : Sl InstR 7 w B cf code) (hn : Hid (L.length = n)) (hnf : Hid (code.length = nf)) (hfa : Hid ((Lit.int .i64 fa).wf = true)) (R : List FnD) (er : Int) (m : Nat) (hr : Hid (swapP L i ⟨fa, code⟩ = (R, er))) (hm : Hid (R.length = m)) :
    Calls Try.prog 21 #[.agg #[.slice A n c], .int .i64 i, .agg #[.int .i64 fa, .slice B nf cf]] w fun e w' => ∃ A' c', e = .returned (.tuple #[.agg #[.slice A' m c'], .int .i64 er]) ∧ Sl FnR 2 w' A' c' R ∧ Bel w w' := by
  have HB0 := Lib.hid ((((Bel.refl w).alloc (.cells #[.slice A n c] 24)).alloc (.cells #[.int .i64 fa, .slice B nf cf] 38)).alloc (.cells #[.slice none 0 0] 24))
  have HS := Lib.hid (hL.mono FnR.mono HB0.out)
  have HF := Lib.hid (hf.mono InstR.mono HB0.out)
  have K0 : Hid (Blk (((w.alloc (.cells #[.slice A n c] 24)).alloc (.cells #[.int .i64 fa, .slice B nf cf] 38)).alloc (.cells #[.slice none 0 0] 24)) w.heap.size 24 #[.slice A n c]) := Lib.hid (((Blk.new w 24 #[.slice A n c]).alloc _).alloc _)
  have K1 : Hid (Blk (((w.alloc (.cells #[.slice A n c] 24)).alloc (.cells #[.int .i64 fa, .slice B nf cf] 38)).alloc (.cells #[.slice none 0 0] 24)) (w.heap.size + 1) 38 #[.int .i64 fa, .slice B nf cf]) := Lib.hid (by
    have := (Blk.new (w.alloc (.cells #[.slice A n c] 24)) 38 #[.int .i64 fa, .slice B nf cf]).alloc (.cells #[.slice none 0 0] 24)
    rwa [World.size_alloc] at this)
  have K2 : Hid (Blk (((w.alloc (.cells #[.slice A n c] 24)).alloc (.cells #[.int .i64 fa, .slice B nf cf] 38)).alloc (.cells #[.slice none 0 0] 24)) (w.heap.size + 1 + 1) 24 #[.slice none 0 0]) := Lib.hid (by
    have := Blk.new ((w.alloc (.cells #[.slice A n c] 24)).alloc (.cells #[.int .i64 fa, .slice B nf cf] 38)) 24 #[.slice none 0 0]
    rwa [World.size_alloc, World.size_alloc] at this)
  obtain ⟨b1, hb1⟩ : ∃ b1, Hid (progMay L = b1) := ⟨_, Lib.hid rfl⟩
  obtain ⟨b2, hb2⟩ : ∃ b2, Hid (fnFine ⟨0, code⟩ = b2) := ⟨_, Lib.hid rfl⟩
  have hb3 : Hid (crsMay code = b2) := Lib.hid (fine_crs hb2.out)
  have HWL := Lib.hid (sl_wf hL)
  have HWC := Lib.hid (codes_wf hf)
  clear hL hf
  go_enter Try.func21, Try.ntmps21
  go_wp2_with fail
  generalize ((w.alloc (.cells #[.slice A n c] 24)).alloc (.cells #[.int .i64 fa, .slice B nf cf] 38)).alloc (.cells #[.slice none 0 0] 24) = W1 at *
  obtain ⟨g, hg⟩ : ∃ g, w.heap.size = g := ⟨_, rfl⟩
  rw [hg] at K0 K1 K2
  simp only [hg]
  have hwg : w.heap.size ≤ g := by omega
  clear hg
  refine (refProgMay_any A c n L b1 _ HS.out hn hb1).mono ?_
  rintro e w1 ⟨rfl, hb⟩
  have HB := Lib.hid hb
  clear hb
  have p0 := (K1.out.bel HB.out).cell 0 (v := .int .i64 fa) rfl
  have p1 := (K1.out.bel HB.out).cell 1 (v := .slice B nf cf) rfl
  go_wp2_with fail
  refine (refCode_any fa B cf nf code b2 _ (HF.out.mono InstR.mono HB.out) hnf hb3).mono ?_
  rintro e w2 ⟨rfl, hb⟩
  have HB := Lib.hid (HB.out.trans hb)
  clear hb p0 p1
  have KR := Lib.hid (K2.out.bel HB.out)
  have HBw := Lib.hid (HB0.out.trans HB.out)
  have E0 : Hid ((w2.setCell ⟨g + 1 + 1, 0, none⟩ (.slice none 0 0)).cell? ⟨g + 1 + 1, 0, none⟩ = some (.slice none 0 0)) := Lib.hid ((Blk.set (cs := #[.slice none 0 0]) KR.out 0 (.slice none 0 0)).cell 0 rfl)
  have HFE := Lib.hid (HBw.out.setCell (p := ⟨g + 1 + 1, 0, none⟩) (by simp only; omega) (.slice none 0 0))
  have r0 := KR.out.cell 0 (v := .slice none 0 0) rfl
  have f0 := KR.out.frozen 0
  have hsw := hr.out
  unfold swapP at hsw
  rw [hb1.out, hb2.out] at hsw
  cases b1
  · have hE := Prod.mk.inj hsw
    have hE1 : R = [] := hE.1.symm
    have hE2 : er = 1 := hE.2.symm
    obtain rfl : m = 0 := by rw [← hm.out, hE1]; rfl
    clear hE hsw
    go_wp2_with fail
    refine bodyPost_ret (v := .tuple #[.agg #[.slice none 0 0], .int .i64 1]) ?_ rfl ⟨none, 0, by rw [hE2], by rw [hE1]; exact Sl.nil _ _ _, HFE.out⟩
    have h1 := E0.out
    simp [results, Try.results21, go_sem, h1]
  cases b2
  · have hE := Prod.mk.inj hsw
    have hE1 : R = [] := hE.1.symm
    have hE2 : er = 1 := hE.2.symm
    obtain rfl : m = 0 := by rw [← hm.out, hE1]; rfl
    clear hE hsw
    go_wp2_with fail
    refine bodyPost_ret (v := .tuple #[.agg #[.slice none 0 0], .int .i64 1]) ?_ rfl ⟨none, 0, by rw [hE2], by rw [hE1]; exact Sl.nil _ _ _, HFE.out⟩
    have h1 := E0.out
    simp [results, Try.results21, go_sem, h1]
  rw [if_pos ⟨rfl, rfl⟩, hn.out] at hsw
  have q2 := (K0.out.bel HB.out).cell 0 (v := .slice A n c) rfl
  by_cases hi : i < 0 ∨ (n : Int) ≤ i
  · rw [if_pos hi] at hsw
    have hE := Prod.mk.inj hsw
    have hE1 : R = [] := hE.1.symm
    have hE2 : er = 3 := hE.2.symm
    obtain rfl : m = 0 := by rw [← hm.out, hE1]; rfl
    clear hE hsw
    by_cases hi0 : i < 0
    · clear hi
      go_wp2_with fail
      refine bodyPost_ret (v := .tuple #[.agg #[.slice none 0 0], .int .i64 3]) ?_ rfl ⟨none, 0, by rw [hE2], by rw [hE1]; exact Sl.nil _ _ _, HFE.out⟩
      have h1 := E0.out
      simp [results, Try.results21, go_sem, h1]
    · have hi1 : (n : Int) ≤ i := hi.resolve_left hi0
      clear hi
      go_wp2_with fail
      refine bodyPost_ret (v := .tuple #[.agg #[.slice none 0 0], .int .i64 3]) ?_ rfl ⟨none, 0, by rw [hE2], by rw [hE1]; exact Sl.nil _ _ _, HFE.out⟩
      have h1 := E0.out
      simp [results, Try.results21, go_sem, h1]
  rw [if_neg hi] at hsw
  obtain ⟨k, rfl⟩ : ∃ k : Nat, i = k := ⟨i.toNat, by omega⟩
  have hkn : k < n := by omega
  have hk2 : (k : Int) < n := by omega
  have k0 : 0 ≤ (k : Int) := by omega
  have hk3 : ¬ (k : Int) < 0 := by omega
  have hk4 : ¬ (n : Int) ≤ k := by omega
  have hkL : k < L.length := by rw [hn.out]; exact hkn
  clear hi
  rw [Int.toNat_natCast, List.getD_eq_getElem?_getD, List.getElem?_eq_getElem hkL, Option.getD_some] at hsw
  have HSW := Lib.hid hsw
  clear hsw
  have HS2 := Lib.hid (HS.out.mono FnR.mono HB.out)
  obtain ⟨b, o, rfl⟩ := HS2.out.addr (by omega)
  obtain ⟨Ak, ck, d0, -, -⟩ := fn_cells HS2.out k hkL
  have p20 := (K1.out.bel HB.out).cell 0 (v := .int .i64 fa) rfl
  obtain ⟨ak, hak⟩ : ∃ ak, Hid ((L[k]).args = ak) := ⟨_, Lib.hid rfl⟩
  rw [hak.out] at d0
  have HSW2 := HSW.out
  rw [hak.out] at HSW2
  by_cases hargs : ak = fa
  case neg =>
    rw [if_pos hargs] at HSW2
    have hE := Prod.mk.inj HSW2
    have hE1 : R = [] := hE.1.symm
    have hE2 : er = 9 := hE.2.symm
    obtain rfl : m = 0 := by rw [← hm.out, hE1]; rfl
    clear hE HSW2 r0 f0 E0 HFE
    have t0 : (ak != fa) = true := by simpa using hargs
    clear hargs
    go_wp2_with fail
    go_quiet (fail)
    have hbz := (Bel.refl w2).drewN nq
    have KR := Lib.hid (KR.out.bel hbz)
    have HBw := Lib.hid (HBw.out.trans hbz)
    clear hbz q2 d0 p20 t0
    generalize w2.drewN nq = wz at *
    have E0 : Hid ((wz.setCell ⟨g + 1 + 1, 0, none⟩ (.slice none 0 0)).cell? ⟨g + 1 + 1, 0, none⟩ = some (.slice none 0 0)) := Lib.hid ((Blk.set (cs := #[.slice none 0 0]) KR.out 0 (.slice none 0 0)).cell 0 rfl)
    have HFE := Lib.hid (HBw.out.setCell (p := ⟨g + 1 + 1, 0, none⟩) (by simp only; omega) (.slice none 0 0))
    have r0 := KR.out.cell 0 (v := .slice none 0 0) rfl
    have f0 := KR.out.frozen 0
    go_wp2_with fail
    refine bodyPost_ret (v := .tuple #[.agg #[.slice none 0 0], .int .i64 9]) ?_ rfl ⟨none, 0, by rw [hE2], by rw [hE1]; exact Sl.nil _ _ _, HFE.out⟩
    have h1 := E0.out
    simp [results, Try.results21, go_sem, h1]
  subst hargs
  rw [if_neg (by simp)] at HSW2
  obtain ⟨hR, rfl⟩ := Prod.mk.inj HSW2
  have HR := Lib.hid hR
  clear hR HSW2 HSW r0 f0 E0 HFE
  have t0 : (ak != ak) = false := by simp
  go_wp2_with fail
  go_quiet (fail)
  go_wp2_with fail
  have hbz := (Bel.refl w2).drewN nq
  have KR := Lib.hid (KR.out.bel hbz)
  have HBw := Lib.hid (HBw.out.trans hbz)
  have HBz := Lib.hid (HB.out.trans hbz)
  clear hbz q2 d0 p20 t0
  generalize w2.drewN nq = wz at *
  have hP := progMay_iff.1 hb1.out
  have hn8 : n ≤ 8 := by rw [← hn.out]; exact hP.n8
  refine (own_any _ c n L _ (HS.out.mono FnR.mono HBz.out) hn (by omega) (Lib.hid (fun f hf => by
    obtain ⟨j, hj, rfl⟩ := List.mem_iff_getElem.1 hf
    have := (fnFine_facts (hP.fine j hj)).2.2.2.1
    omega))).mono ?_
  rintro e w3 ⟨zs, v, rfl, hzs, ho⟩
  have HZN : Hid (zs.length = n) := Lib.hid (by rw [← hn.out, ← hzs, List.length_map])
  have HZS := Lib.hid hzs
  have how := ho.own
  rw [HZN.out] at how
  obtain ⟨n', hn'⟩ : ∃ n', n = n' + 1 := ⟨n - 1, by omega⟩
  obtain ⟨D, cD, rfl⟩ : ∃ D cD, v = .slice (some ⟨D, 0, none⟩) n cD := by
    rw [hn'] at how ⊢
    exact own_form how
  clear hn'
  have hDf : ∀ j, w3.frozen? ⟨D, j, none⟩ = false := by
    rcases own_openP how with ⟨e, _⟩ | ⟨g', c', e, -, -, -, -, hf, -⟩
    · cases e
    · simp only [Value.slice.injEq, Option.some.injEq, Addr.mk.injEq, and_true, true_and] at e
      obtain ⟨rfl, -⟩ := e
      exact hf
  have hDc : ∀ j, j < n * 2 → ∃ u, w3.cell? ⟨D, j, none⟩ = some u := by
    rcases own_openP how with ⟨e, _⟩ | ⟨g', c', e, -, -, -, -, -, hcl⟩
    · cases e
    · simp only [Value.slice.injEq, Option.some.injEq, Addr.mk.injEq, and_true, true_and] at e
      obtain ⟨rfl, -⟩ := e
      intro j hj
      have hl : j < (zs.flatMap fnc).length := by rw [how.1]; exact hj
      exact ⟨_, hcl j _ (List.getElem?_eq_getElem hl)⟩
  obtain ⟨u0, e0⟩ := hDc (k * 2) (by omega)
  obtain ⟨u1, e1⟩ := hDc (k * 2 + 1) (by omega)
  have hbq := (Bel.refl w3).alloc (.cells #[.slice (some ⟨D, 0, none⟩) n cD] 24)
  have HB3 := Lib.hid (HBz.out.trans (ho.bel.trans hbq))
  have HBw3 := Lib.hid (HBw.out.trans (ho.bel.trans hbq))
  have KR3 := Lib.hid (KR.out.bel (ho.bel.trans hbq))
  have KQ := Lib.hid (Blk.new w3 24 #[.slice (some ⟨D, 0, none⟩) n cD])
  have HW3 : Hid (OwnW w wz.heap.size zs (.slice (some ⟨D, 0, none⟩) n cD) (w3.alloc (.cells #[.slice (some ⟨D, 0, none⟩) n cD] 24))) := Lib.hid ⟨HBw3.out, own_bel ho.own hbq, fun z hz => own_bel (ho.codes z hz) hbq⟩
  have GH0 := Lib.hid (hbq.cell e0)
  have GH1 := Lib.hid (hbq.cell e1)
  have GF0 := Lib.hid ((hbq.frozen e0).trans (hDf _))
  have GF1 := Lib.hid ((hbq.frozen e1).trans (hDf _))
  have hbs := Nat.le_trans ho.bel.size hbq.size
  have hbw0 := HBw.out.size
  clear ho how hDf hDc e0 e1 hbq hzs hP
  go_wp2_with fail
  generalize w3.alloc (.cells #[.slice (some ⟨D, 0, none⟩) n cD] 24) = Wq at *
  generalize w3.heap.size = q at *
  generalize wz.heap.size = base at *
  have HR0 := Bel.refl Wq
  have SD := (Bel.refl Wq).drew
  have hbX := Nat.le_trans hbs SD.size
  have HWX := Lib.hid (HW3.out.mono SD)
  have HBD := Lib.hid (HB3.out.trans SD)
  have PQ := fun (w' : World) (h : Bel Wq w') => h.cell (KQ.out.cell 0 (v := .slice (some ⟨D, 0, none⟩) n cD) rfl)
  have X0 := fun (w' : World) (h : Bel Wq w') => h.cell ((K1.out.bel HB3.out).cell 0 (v := .int .i64 ak) rfl)
  have X1 := fun (w' : World) (h : Bel Wq w') => h.cell ((K1.out.bel HB3.out).cell 1 (v := .slice B nf cf) rfl)
  have G0 := fun (w' : World) (h : Bel Wq w') => h.cell GH0.out
  have G1 := fun (w' : World) (h : Bel Wq w') => h.cell GH1.out
  have F0 := fun (w' : World) (h : Bel Wq w') => (h.frozen GH0.out).trans GF0.out
  have F1 := fun (w' : World) (h : Bel Wq w') => (h.frozen GH1.out).trans GF1.out
  have hnf64 : nf ≤ 4096 := by
    have := (fnFine_facts hb2.out).2.2.2.1
    simp only [hnf.out] at this
    omega
  refine wp_region_T (fun w' => Bel Wq w') (fun j => j == 10) (by kernel_rfl) ?_
  refine wpAnyU_take (i := 0) (v := ?v0) rfl (by kernel_rfl) (by kernel_rfl) (by kernel_rfl) (by kernel_rfl) (fun _ _ _ h => h) ?hy0 SD ?rest0
  case hy0 => first | (refine Or.inl ⟨by rfl, ?_⟩; (intro w' hSw; go_simp) <;> with_reducible rfl) | (refine Or.inr ⟨by rfl, ?_⟩; with_reducible rfl)
  try simp only [List.getElem_toArray, List.getElem_cons_zero, List.getElem_cons_succ, Act.put, List.setIfInBounds_toArray, List.set_cons_zero, List.set_cons_succ]
  refine wpAnyU_take (i := 1) (v := ?v1) rfl (by kernel_rfl) (by kernel_rfl) (by kernel_rfl) (by kernel_rfl) (fun _ _ _ h => h) ?hy1 SD ?rest1
  case hy1 => first | (refine Or.inl ⟨by rfl, ?_⟩; (intro w' hSw; go_simp) <;> with_reducible rfl) | (refine Or.inr ⟨by rfl, ?_⟩; with_reducible rfl)
  try simp only [List.getElem_toArray, List.getElem_cons_zero, List.getElem_cons_succ, Act.put, List.setIfInBounds_toArray, List.set_cons_zero, List.set_cons_succ]
  refine wpAnyU_take (i := 2) (v := ?v2) rfl (by kernel_rfl) (by kernel_rfl) (by kernel_rfl) (by kernel_rfl) (fun _ _ _ h => h) ?hy2 SD ?rest2
  case hy2 => first | (refine Or.inl ⟨by rfl, ?_⟩; (intro w' hSw; go_simp) <;> with_reducible rfl) | (refine Or.inr ⟨by rfl, ?_⟩; with_reducible rfl)
  try simp only [List.getElem_toArray, List.getElem_cons_zero, List.getElem_cons_succ, Act.put, List.setIfInBounds_toArray, List.set_cons_zero, List.set_cons_succ]
  refine wpAnyU_take (i := 3) (v := ?v3) rfl (by kernel_rfl) (by kernel_rfl) (by kernel_rfl) (by kernel_rfl) (fun _ _ _ h => h) ?hy3 SD ?rest3
  case hy3 => first | (refine Or.inl ⟨by rfl, ?_⟩; (intro w' hSw; go_simp) <;> with_reducible rfl) | (refine Or.inr ⟨by rfl, ?_⟩; with_reducible rfl)
  try simp only [List.getElem_toArray, List.getElem_cons_zero, List.getElem_cons_succ, Act.put, List.setIfInBounds_toArray, List.set_cons_zero, List.set_cons_succ]
  refine wpAnyU_take (i := 4) (v := ?v4) rfl (by kernel_rfl) (by kernel_rfl) (by kernel_rfl) (by kernel_rfl) (fun _ _ _ h => h) ?hy4 SD ?rest4
  case hy4 => first | (refine Or.inl ⟨by rfl, ?_⟩; (intro w' hSw; go_simp) <;> with_reducible rfl) | (refine Or.inr ⟨by rfl, ?_⟩; with_reducible rfl)
  try simp only [List.getElem_toArray, List.getElem_cons_zero, List.getElem_cons_succ, Act.put, List.setIfInBounds_toArray, List.set_cons_zero, List.set_cons_succ]
  refine wpAnyU_take (i := 5) (v := ?v5) rfl (by kernel_rfl) (by kernel_rfl) (by kernel_rfl) (by kernel_rfl) (fun _ _ _ h => h) ?hy5 SD ?rest5
  case hy5 => first | (refine Or.inl ⟨by rfl, ?_⟩; (intro w' hSw; go_simp) <;> with_reducible rfl) | (refine Or.inr ⟨by rfl, ?_⟩; with_reducible rfl)
  try simp only [List.getElem_toArray, List.getElem_cons_zero, List.getElem_cons_succ, Act.put, List.setIfInBounds_toArray, List.set_cons_zero, List.set_cons_succ]
  refine wpAnyU_take (i := 6) (v := ?v6) rfl (by kernel_rfl) (by kernel_rfl) (by kernel_rfl) (by kernel_rfl) (fun _ _ _ h => h) ?hy6 SD ?rest6
  case hy6 => first | (refine Or.inl ⟨by rfl, ?_⟩; (intro w' hSw; go_simp) <;> with_reducible rfl) | (refine Or.inr ⟨by rfl, ?_⟩; with_reducible rfl)
  try simp only [List.getElem_toArray, List.getElem_cons_zero, List.getElem_cons_succ, Act.put, List.setIfInBounds_toArray, List.set_cons_zero, List.set_cons_succ]
  refine wpAnyT_one (i := 7) (by kernel_rfl) rfl (fun K hK => ?_)
  refine step_append_run (by rfl) _ _ _ (by rfl) (.slice none 0 0) (.slice B nf cf) (by rfl) (by rfl) _ (app_insts (base := base) _ (HF.out.mono InstR.mono HBD.out) hnf.out hnf64 hbX) ?_
  rintro v5 w5 ⟨ho5, hb5, hn5, A5, c5, hv5⟩
  subst hv5
  have HW5 := Lib.hid (HWX.out.mono hb5)
  have S5 := SD.trans hb5
  have HO5 := Lib.hid ho5
  have HBQ5 := Lib.hid hb5
  clear ho5 hb5 hn5
  refine hK.out _ _ (fun _ => S5) ?_
  clear hK K
  try simp only [List.getElem_toArray, List.getElem_cons_zero, List.getElem_cons_succ, Act.put, List.setIfInBounds_toArray, List.set_cons_zero, List.set_cons_succ]
  refine wpAnyU_take (i := 8) (v := ?v8) rfl (by kernel_rfl) (by kernel_rfl) (by kernel_rfl) (by kernel_rfl) (fun _ _ _ h => h) ?hy8 S5 ?rest8
  case hy8 => first | (refine Or.inl ⟨by rfl, ?_⟩; (intro w' hSw; go_simp) <;> with_reducible rfl) | (refine Or.inr ⟨by rfl, ?_⟩; with_reducible rfl)
  try simp only [List.getElem_toArray, List.getElem_cons_zero, List.getElem_cons_succ, Act.put, List.setIfInBounds_toArray, List.set_cons_zero, List.set_cons_succ]
  refine wpAnyU_take (i := 9) (v := ?v9) rfl (by kernel_rfl) (by kernel_rfl) (by kernel_rfl) (by kernel_rfl) (fun _ _ _ h => h) ?hy9 S5 ?rest9
  case hy9 => first | (refine Or.inl ⟨by rfl, ?_⟩; (intro w' hSw; go_simp) <;> with_reducible rfl) | (refine Or.inr ⟨by rfl, ?_⟩; with_reducible rfl)
  try simp only [List.getElem_toArray, List.getElem_cons_zero, List.getElem_cons_succ, Act.put, List.setIfInBounds_toArray, List.set_cons_zero, List.set_cons_succ]
  refine wpAnyT_one (i := 10) (by kernel_rfl) rfl (fun K hK => ?_)
  go_simp
  refine hK.out _ _ (fun h => absurd h (by decide)) ?_
  clear hK K
  try simp only [List.getElem_toArray, List.getElem_cons_zero, List.getElem_cons_succ, Act.put, List.setIfInBounds_toArray, List.set_cons_zero, List.set_cons_succ]
  refine wpAnyT_done (by kernel_rfl) ?_ _
  refine NoPanic.normal ?_
  have HZ := Lib.hid (HW5.out.put hbw0 HZN.out (k := k) (by rw [HZN.out]; exact hkn) (⟨ak, code⟩, .slice A5 nf c5) (by simp only [hnf.out]; exact HO5.out))
  have KRZ := Lib.hid (KR3.out.bel S5)
  have KQZ := Lib.hid (KQ.out.bel S5)
  have hq6 := HW5.out.ne KQZ.out
  have hr6 := HW5.out.ne KRZ.out
  have KQ6 := Lib.hid ((KQZ.out.other (p := ⟨D, k * 2, none⟩) hq6 (.int .i64 ak)).other (p := ⟨D, k * 2 + 1, none⟩) hq6 (.slice A5 nf c5))
  have KR6 := Lib.hid ((KRZ.out.other (p := ⟨D, k * 2, none⟩) hr6 (.int .i64 ak)).other (p := ⟨D, k * 2 + 1, none⟩) hr6 (.slice A5 nf c5))
  have HZ2 := HZ.out
  clear HZ HR0 SD S5 PQ X0 X1 G0 G1 F0 F1 GH0 GH1 GF0 GF1 HWX HW5 HW3 HO5 HBQ5 KQZ KRZ KQ KR3 hq6 hr6 hbX HBD
  simp only at HZ2
  generalize (w5.setCell ⟨D, k * 2, none⟩ (.int .i64 ak)).setCell ⟨D, k * 2 + 1, none⟩ (.slice A5 nf c5) = W6 at *
  have HZ := Lib.hid HZ2
  clear HZ2
  have q6 := KQ6.out.cell 0 (v := .slice (some ⟨D, 0, none⟩) n cD) rfl
  have r6 := KR6.out.cell 0 (v := .slice none 0 0) rfl
  have f6 := KR6.out.frozen 0
  have HZE := Lib.hid (HZ.out.box KR6.out (by omega) (.slice (some ⟨D, 0, none⟩) n cD))
  have E1 : Hid ((W6.setCell ⟨g + 1 + 1, 0, none⟩ (.slice (some ⟨D, 0, none⟩) n cD)).cell? ⟨g + 1 + 1, 0, none⟩ = some (.slice (some ⟨D, 0, none⟩) n cD)) := Lib.hid ((Blk.set (cs := #[.slice none 0 0]) KR6.out 0 (.slice (some ⟨D, 0, none⟩) n cD)).cell 0 rfl)
  obtain rfl : m = n := by rw [← hm.out, ← HR.out, List.length_set, hn.out]
  have HSE : Hid (Sl FnR 2 (W6.setCell ⟨g + 1 + 1, 0, none⟩ (.slice (some ⟨D, 0, none⟩) m cD)) (some ⟨D, 0, none⟩) cD R) := Lib.hid (by
    have hmap : (zs.set k (⟨ak, code⟩, Value.slice A5 nf c5)).map Prod.fst = R := by rw [List.map_set, HZS.out, HR.out]
    obtain ⟨A', c', e, hs⟩ := HZE.out.sl (by
      rw [hmap, ← HR.out]
      intro f hf
      rcases List.mem_or_eq_of_mem_set hf with hf | rfl
      · exact HWL.out f hf
      · exact ⟨HWC.out, hfa.out⟩)
    rw [hmap] at hs
    simp only [Value.slice.injEq] at e
    obtain ⟨rfl, -, rfl⟩ := e
    exact hs)
  go_wp2_with fail
  refine bodyPost_ret (v := .tuple #[.agg #[.slice (some ⟨D, 0, none⟩) m cD], .int .i64 0]) ?_ rfl ⟨_, cD, rfl, HSE.out, HZE.out.bel⟩
  have h1 := E1.out
  simp [results, Try.results21, go_sem, h1]
end Go.Proofs.Ytcllifcafgiopaa
