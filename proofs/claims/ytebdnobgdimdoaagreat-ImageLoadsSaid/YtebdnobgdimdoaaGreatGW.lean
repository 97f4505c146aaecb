/- image.Load by its contract. image.Part by its contract. -/
import Derived.Test.YtebdnobgdimdoaaGreatGQ
import Derived.Test.YtebdnobgdimdoaaGreatGU
import Derived.Test.YtebdnobgdimdoaaGreatZArC10
import Derived.Test.YtebdnobgdimdoaaGreatGS
import Derived.Test.YtebdnobgdimdoaaGreatGF
set_option linter.unusedVariables false
set_option linter.unusedSimpArgs false
namespace Go.Proofs.YtebdnobgdimdoaaGreat
open Go.RowKit
def loadM (m : MemD) (id : Int) (L : List FnD) : MemD × Int × Int :=
  if progMay L = false ∨ mayM m = false then (⟨0, []⟩, 0, 1)
  else if (findM m (imgSize L)).2 = false then (⟨0, []⟩, 0, 4)
  else if (imgMake L (findM m (imgSize L)).1).2 ≠ 0 then (⟨0, []⟩, 0, (imgMake L (findM m (imgSize L)).1).2)
  else if (putM m ⟨id, (findM m (imgSize L)).1, (imgMake L (findM m (imgSize L)).1).1⟩).2 ≠ 0 then (⟨0, []⟩, 0, (putM m ⟨id, (findM m (imgSize L)).1, (imgMake L (findM m (imgSize L)).1).1⟩).2)
  else ((putM m ⟨id, (findM m (imgSize L)).1, (imgMake L (findM m (imgSize L)).1).1⟩).1, (findM m (imgSize L)).1, 0)
set_option maxHeartbeats 8000000 in
set_option maxRecDepth 100000 in
theorem imload_any (cap : Int) (A : Option Addr) (nn c : Nat) (l : List BlkD) (id : Int) (B : Option Addr) (n c2 : Nat) (L : List FnD) (w : World) (h : Sl BlkR 3 w A c l) (hn : Hid (l.length = nn)) (hL : Sl FnR 2 w B c2 L) (hnL : Hid (L.length = n)) (hwf1 : Hid ((Lit.int .i64 id).wf = true)) (cap' : Int) (l' : List BlkD) (nl : Nat) (p' e' : Int) (hr : Hid (loadM ⟨cap, l⟩ id L = (⟨cap', l'⟩, p', e'))) (hnl : Hid (l'.length = nl)) :
    Calls Tryz.prog 24 #[.agg #[.int .i64 cap, .slice A nn c], .int .i64 id, .agg #[.slice B n c2]] w fun e w' => ∃ A' c', e = .returned (.tuple #[.agg #[.int .i64 cap', .slice A' nl c'], .int .i64 p', .int .i64 e']) ∧ Sl BlkR 3 w' A' c' l' ∧ Bel w w' := by
  have HB := Lib.hid ((((Bel.refl w).alloc (.cells #[.int .i64 cap, .slice A nn c] 79)).alloc (.cells #[.slice B n c2] 24)).alloc (.cells #[.int .i64 0, .slice none 0 0] 79))
  have HS := Lib.hid (h.mono BlkR.mono HB.out)
  have HL := Lib.hid (hL.mono FnR.mono HB.out)
  have HIMM := Lib.hid (sl_imm hL)
  have KM := Lib.hid (((Blk.new w 79 #[.int .i64 cap, .slice A nn c]).alloc (.cells #[.slice B n c2] 24)).alloc (.cells #[.int .i64 0, .slice none 0 0] 79))
  have kp := (One.new (w.alloc (.cells #[.int .i64 cap, .slice A nn c] 79)) 24 (.slice B n c2)).alloc (.cells #[.int .i64 0, .slice none 0 0] 79)
  have kr := Blk.new ((w.alloc (.cells #[.int .i64 cap, .slice A nn c] 79)).alloc (.cells #[.slice B n c2] 24)) 79 #[.int .i64 0, .slice none 0 0]
  rw [World.size_alloc] at kp
  rw [World.size_alloc, World.size_alloc] at kr
  have KP := Lib.hid kp
  have KR := Lib.hid kr
  have hR0 : w.heap.size + 2 < (((w.alloc (.cells #[.int .i64 cap, .slice A nn c] 79)).alloc (.cells #[.slice B n c2] 24)).alloc (.cells #[.int .i64 0, .slice none 0 0] 79)).heap.size := by simp
  obtain ⟨mb, hmb⟩ : ∃ mb, Hid (progMay L = mb) := ⟨_, Lib.hid rfl⟩
  obtain ⟨fb, hfb⟩ : ∃ fb, Hid (mayM ⟨cap, l⟩ = fb) := ⟨_, Lib.hid rfl⟩
  have ZERO : ∀ k : Int, Hid (loadM ⟨cap, l⟩ id L = (⟨0, []⟩, 0, k) → (cap' = 0 ∧ l' = [] ∧ p' = 0 ∧ e' = k)) := fun k => Lib.hid (fun e => by
    have := hr.out
    rw [e] at this
    simp only [Prod.mk.injEq, MemD.mk.injEq] at this
    exact ⟨this.1.1.symm, this.1.2.symm, this.2.1.symm, this.2.2.symm⟩)
  clear h hL kp kr
  go_enter Tryz.func24, Tryz.ntmps24
  go_wp2_with fail
  generalize ((w.alloc (.cells #[.int .i64 cap, .slice A nn c] 79)).alloc (.cells #[.slice B n c2] 24)).alloc (.cells #[.int .i64 0, .slice none 0 0] 79) = W1 at *
  obtain ⟨g, hg⟩ : ∃ g, w.heap.size = g := ⟨_, rfl⟩
  rw [hg] at KM KP KR hR0
  simp only [hg]
  have hwg : w.heap.size ≤ g := by omega
  clear hg
  have hR : g + 3 ≤ W1.heap.size := hR0
  refine (progmay_any B c2 n L mb _ HL.out hnL hmb).mono ?_
  rintro e w1 ⟨rfl, hb⟩
  have HB := Lib.hid (HB.out.trans hb)
  have KM := Lib.hid (KM.out.bel hb)
  have KP := Lib.hid (KP.out.bel hb)
  have KR := Lib.hid (KR.out.bel hb)
  have HS := Lib.hid (HS.out.mono BlkR.mono hb)
  have HL := Lib.hid (HL.out.mono FnR.mono hb)
  have hR := Nat.le_trans hR hb.size
  clear hb
  have q0 := KM.out.cell 0 (v := .int .i64 cap) rfl
  have q1 := KM.out.cell 1 (v := .slice A nn c) rfl
  have p0 := KP.out.cell1 rfl
  have r0 := KR.out.cell 0 (v := .int .i64 0) rfl
  have r1 := KR.out.cell 1 (v := .slice none 0 0) rfl
  have fr0 := KR.out.frozen 0
  have fr1 := KR.out.frozen 1
  cases mb
  · obtain ⟨rfl, rfl, rfl, rfl⟩ := (ZERO 1).out (by unfold loadM; rw [if_pos (by rw [hmb.out]; simp)])
    obtain rfl : nl = 0 := by rw [← hnl.out]; rfl
    obtain ⟨e0, e1⟩ := res_two KR.out (.int .i64 0) (.slice none 0 0)
    have E0 := Lib.hid e0
    have E1 := Lib.hid e1
    have HFIN := Lib.hid ((HB.out.setCell (p := ⟨g + 2, 0, none⟩) (by simp only; omega) (.int .i64 0)).setCell (p := ⟨g + 2, 1, none⟩) (by simp only; omega) (.slice none 0 0))
    clear e0 e1 hr ZERO
    go_wp2_with fail
    refine bodyPost_ret (v := .tuple #[.agg #[.int .i64 0, .slice none 0 0], .int .i64 0, .int .i64 1]) ?_ rfl ⟨none, 0, rfl, Sl.nil _ _ _, HFIN.out⟩
    have h1 := E0.out
    have h2 := E1.out
    simp [results, Tryz.results24, go_sem, h1, h2]
  go_wp2_with fail
  refine (May_any cap A nn c l fb _ HS.out hn hfb).mono ?_
  rintro e w2 ⟨rfl, hb⟩
  clear q0 q1 p0 r0 r1 fr0 fr1
  have HB := Lib.hid (HB.out.trans hb)
  have KM := Lib.hid (KM.out.bel hb)
  have KP := Lib.hid (KP.out.bel hb)
  have KR := Lib.hid (KR.out.bel hb)
  have HS := Lib.hid (HS.out.mono BlkR.mono hb)
  have HL := Lib.hid (HL.out.mono FnR.mono hb)
  have hR := Nat.le_trans hR hb.size
  clear hb
  have q0 := KM.out.cell 0 (v := .int .i64 cap) rfl
  have q1 := KM.out.cell 1 (v := .slice A nn c) rfl
  have p0 := KP.out.cell1 rfl
  have r0 := KR.out.cell 0 (v := .int .i64 0) rfl
  have r1 := KR.out.cell 1 (v := .slice none 0 0) rfl
  have fr0 := KR.out.frozen 0
  have fr1 := KR.out.frozen 1
  cases fb
  · obtain ⟨rfl, rfl, rfl, rfl⟩ := (ZERO 1).out (by unfold loadM; rw [if_pos (by rw [hfb.out]; simp)])
    obtain rfl : nl = 0 := by rw [← hnl.out]; rfl
    obtain ⟨e0, e1⟩ := res_two KR.out (.int .i64 0) (.slice none 0 0)
    have E0 := Lib.hid e0
    have E1 := Lib.hid e1
    have HFIN := Lib.hid ((HB.out.setCell (p := ⟨g + 2, 0, none⟩) (by simp only; omega) (.int .i64 0)).setCell (p := ⟨g + 2, 1, none⟩) (by simp only; omega) (.slice none 0 0))
    clear e0 e1 hr ZERO
    go_wp2_with fail
    refine bodyPost_ret (v := .tuple #[.agg #[.int .i64 0, .slice none 0 0], .int .i64 0, .int .i64 1]) ?_ rfl ⟨none, 0, rfl, Sl.nil _ _ _, HFIN.out⟩
    have h1 := E0.out
    have h2 := E1.out
    simp [results, Tryz.results24, go_sem, h1, h2]
  obtain ⟨sz0, hsz⟩ : ∃ s, Hid (imgSize L = s) := ⟨_, Lib.hid rfl⟩
  have hs520 : sz0 ≤ 520 := by
    rw [← hsz.out]
    unfold imgSize
    rw [if_pos hmb.out]
    have h1 := fine_of hmb.out
    have h2 := sz_le h1.c64 L.length (Nat.le_refl _)
    have h3 := h1.n8
    omega
  obtain ⟨⟨a, fo⟩, hfd⟩ : ∃ p, Hid (findM ⟨cap, l⟩ sz0 = p) := ⟨_, Lib.hid rfl⟩
  go_wp2_with fail
  generalize w2 = W0 at *
  have M0 := fun (w' : World) (h : Bel W0 w') => h.cell q0
  have M1 := fun (w' : World) (h : Bel W0 w') => h.cell q1
  have P0 := fun (w' : World) (h : Bel W0 w') => h.cell p0
  have SD : Bel W0 W0.drew := (Bel.refl W0).drew
  clear q0 q1 p0 r0 r1 fr0 fr1
  refine wp_region_T (fun w' => Bel W0 w') (fun _ => false) (by kernel_rfl) ?_
  refine wpAnyU_take (i := 0) (v := ?v0) rfl (by kernel_rfl) (by kernel_rfl) (by kernel_rfl) (by kernel_rfl) (fun _ _ _ h => h) ?hy0 SD ?rest0
  case hy0 => first | (refine Or.inl ⟨by rfl, ?_⟩; (intro w' hSw; go_simp) <;> with_reducible rfl) | (refine Or.inr ⟨by rfl, ?_⟩; with_reducible rfl)
  try simp only [List.getElem_toArray, List.getElem_cons_zero, List.getElem_cons_succ, Act.put, List.setIfInBounds_toArray, List.set_cons_zero, List.set_cons_succ]
  refine wpAnyU_take (i := 1) (v := ?v1) rfl (by kernel_rfl) (by kernel_rfl) (by kernel_rfl) (by kernel_rfl) (fun _ _ _ h => h) ?hy1 SD ?rest1
  case hy1 => first | (refine Or.inl ⟨by rfl, ?_⟩; (intro w' hSw; go_simp) <;> with_reducible rfl) | (refine Or.inr ⟨by rfl, ?_⟩; with_reducible rfl)
  try simp only [List.getElem_toArray, List.getElem_cons_zero, List.getElem_cons_succ, Act.put, List.setIfInBounds_toArray, List.set_cons_zero, List.set_cons_succ]
  refine wpAnyT_one (i := 2) (by kernel_rfl) rfl (fun K hK => ?_)
  go_simp
  go_at_call 25
  refine (size_any B c2 n L _ (HL.out.mono FnR.mono SD) hnL sz0 hsz).mono ?_
  rintro en w5 ⟨rfl, hb5⟩
  have S5 : Bel W0 w5 := SD.trans hb5
  dsimp only
  refine hK.out _ _ (fun _ => S5) ?_
  clear hK K
  try simp only [List.getElem_toArray, List.getElem_cons_zero, List.getElem_cons_succ, Act.put, List.setIfInBounds_toArray, List.set_cons_zero, List.set_cons_succ]
  refine wpAnyT_one (i := 3) (by kernel_rfl) rfl (fun K hK => ?_)
  go_simp
  go_at_call 29
  refine (Find_any cap A nn c l sz0 a fo _ (HS.out.mono BlkR.mono S5) hn (by omega) hfd).mono ?_
  rintro en w6 ⟨rfl, hb6⟩
  have S6 : Bel W0 w6 := S5.trans hb6
  dsimp only
  refine hK.out _ _ (fun _ => S6) ?_
  clear hK K
  try simp only [List.getElem_toArray, List.getElem_cons_zero, List.getElem_cons_succ, Act.put, List.setIfInBounds_toArray, List.set_cons_zero, List.set_cons_succ]
  refine wpAnyU_take (i := 4) (v := ?v4) rfl (by kernel_rfl) (by kernel_rfl) (by kernel_rfl) (by kernel_rfl) (fun _ _ _ h => h) ?hy4 S6 ?rest4
  case hy4 => first | (refine Or.inl ⟨by rfl, ?_⟩; (intro w' hSw; go_simp) <;> with_reducible rfl) | (refine Or.inr ⟨by rfl, ?_⟩; with_reducible rfl)
  try simp only [List.getElem_toArray, List.getElem_cons_zero, List.getElem_cons_succ, Act.put, List.setIfInBounds_toArray, List.set_cons_zero, List.set_cons_succ]
  refine wpAnyU_take (i := 5) (v := ?v5) rfl (by kernel_rfl) (by kernel_rfl) (by kernel_rfl) (by kernel_rfl) (fun _ _ _ h => h) ?hy5 S6 ?rest5
  case hy5 => first | (refine Or.inl ⟨by rfl, ?_⟩; (intro w' hSw; go_simp) <;> with_reducible rfl) | (refine Or.inr ⟨by rfl, ?_⟩; with_reducible rfl)
  try simp only [List.getElem_toArray, List.getElem_cons_zero, List.getElem_cons_succ, Act.put, List.setIfInBounds_toArray, List.set_cons_zero, List.set_cons_succ]
  refine wpAnyU_take (i := 6) (v := ?v6) rfl (by kernel_rfl) (by kernel_rfl) (by kernel_rfl) (by kernel_rfl) (fun _ _ _ h => h) ?hy6 S6 ?rest6
  case hy6 => first | (refine Or.inl ⟨by rfl, ?_⟩; (intro w' hSw; go_simp) <;> with_reducible rfl) | (refine Or.inr ⟨by rfl, ?_⟩; with_reducible rfl)
  try simp only [List.getElem_toArray, List.getElem_cons_zero, List.getElem_cons_succ, Act.put, List.setIfInBounds_toArray, List.set_cons_zero, List.set_cons_succ]
  refine wpAnyU_take (i := 7) (v := ?v7) rfl (by kernel_rfl) (by kernel_rfl) (by kernel_rfl) (by kernel_rfl) (fun _ _ _ h => h) ?hy7 S6 ?rest7
  case hy7 => first | (refine Or.inl ⟨by rfl, ?_⟩; (intro w' hSw; go_simp) <;> with_reducible rfl) | (refine Or.inr ⟨by rfl, ?_⟩; with_reducible rfl)
  try simp only [List.getElem_toArray, List.getElem_cons_zero, List.getElem_cons_succ, Act.put, List.setIfInBounds_toArray, List.set_cons_zero, List.set_cons_succ]
  refine wpAnyU_take (i := 8) (v := ?v8) rfl (by kernel_rfl) (by kernel_rfl) (by kernel_rfl) (by kernel_rfl) (fun _ _ _ h => h) ?hy8 S6 ?rest8
  case hy8 => first | (refine Or.inl ⟨by rfl, ?_⟩; (intro w' hSw; go_simp) <;> with_reducible rfl) | (refine Or.inr ⟨by rfl, ?_⟩; with_reducible rfl)
  try simp only [List.getElem_toArray, List.getElem_cons_zero, List.getElem_cons_succ, Act.put, List.setIfInBounds_toArray, List.set_cons_zero, List.set_cons_succ]
  refine wpAnyT_done (by kernel_rfl) ?_ _
  refine NoPanic.normal ?_
  have hb := S6
  clear SD S5 S6 hb5 hb6 M0 M1 P0
  have HB := Lib.hid (HB.out.trans hb)
  have KM := Lib.hid (KM.out.bel hb)
  have KP := Lib.hid (KP.out.bel hb)
  have KR := Lib.hid (KR.out.bel hb)
  have HS := Lib.hid (HS.out.mono BlkR.mono hb)
  have HL := Lib.hid (HL.out.mono FnR.mono hb)
  have hR := Nat.le_trans hR hb.size
  clear hb
  have q0 := KM.out.cell 0 (v := .int .i64 cap) rfl
  have q1 := KM.out.cell 1 (v := .slice A nn c) rfl
  have p0 := KP.out.cell1 rfl
  have r0 := KR.out.cell 0 (v := .int .i64 0) rfl
  have r1 := KR.out.cell 1 (v := .slice none 0 0) rfl
  have fr0 := KR.out.frozen 0
  have fr1 := KR.out.frozen 1
  cases fo
  · obtain ⟨rfl, rfl, rfl, rfl⟩ := (ZERO 4).out (by unfold loadM; rw [if_neg (by rw [hmb.out, hfb.out]; simp), if_pos (by rw [hsz.out, hfd.out])])
    obtain rfl : nl = 0 := by rw [← hnl.out]; rfl
    obtain ⟨e0, e1⟩ := res_two KR.out (.int .i64 0) (.slice none 0 0)
    have E0 := Lib.hid e0
    have E1 := Lib.hid e1
    have HFIN := Lib.hid ((HB.out.setCell (p := ⟨g + 2, 0, none⟩) (by simp only; omega) (.int .i64 0)).setCell (p := ⟨g + 2, 1, none⟩) (by simp only; omega) (.slice none 0 0))
    clear e0 e1 hr ZERO
    go_wp2_with fail
    refine bodyPost_ret (v := .tuple #[.agg #[.int .i64 0, .slice none 0 0], .int .i64 0, .int .i64 4]) ?_ rfl ⟨none, 0, rfl, Sl.nil _ _ _, HFIN.out⟩
    have h1 := E0.out
    have h2 := E1.out
    simp [results, Tryz.results24, go_sem, h1, h2]
  obtain ⟨⟨ws, er⟩, hmk⟩ : ∃ p, Hid (imgMake L a = p) := ⟨_, Lib.hid rfl⟩
  obtain ⟨m, hm⟩ : ∃ m, Hid (ws.length = m) := ⟨_, Lib.hid rfl⟩
  go_wp2_with fail
  refine (make_any B c2 n L a _ HL.out hnL ws er m hmk hm).mono ?_
  rintro e w7 ⟨A7, c7, rfl, s7, hb⟩
  clear q0 q1 p0 r0 r1 fr0 fr1
  have HB := Lib.hid (HB.out.trans hb)
  have KM := Lib.hid (KM.out.bel hb)
  have KP := Lib.hid (KP.out.bel hb)
  have KR := Lib.hid (KR.out.bel hb)
  have HS := Lib.hid (HS.out.mono BlkR.mono hb)
  have HL := Lib.hid (HL.out.mono FnR.mono hb)
  have hR := Nat.le_trans hR hb.size
  have HW := Lib.hid s7
  clear s7
  clear hb
  have q0 := KM.out.cell 0 (v := .int .i64 cap) rfl
  have q1 := KM.out.cell 1 (v := .slice A nn c) rfl
  have p0 := KP.out.cell1 rfl
  have r0 := KR.out.cell 0 (v := .int .i64 0) rfl
  have r1 := KR.out.cell 1 (v := .slice none 0 0) rfl
  have fr0 := KR.out.frozen 0
  have fr1 := KR.out.frozen 1
  by_cases her : er = 0
  rotate_left
  · have hne : (er == 0) = false := by simpa using her
    have hnb : (er != 0) = true := by simpa using her
    have hNZ := Lib.hid her
    clear her
    obtain ⟨rfl, rfl, rfl, rfl⟩ := (ZERO er).out (by unfold loadM; rw [if_neg (by rw [hmb.out, hfb.out]; simp), if_neg (by rw [hsz.out, hfd.out]; simp), if_pos (by rw [hsz.out, hfd.out, hmk.out]; exact hNZ.out)]; rw [hsz.out, hfd.out, hmk.out])
    obtain rfl : nl = 0 := by rw [← hnl.out]; rfl
    obtain ⟨e0, e1⟩ := res_two KR.out (.int .i64 0) (.slice none 0 0)
    have E0 := Lib.hid e0
    have E1 := Lib.hid e1
    have HFIN := Lib.hid ((HB.out.setCell (p := ⟨g + 2, 0, none⟩) (by simp only; omega) (.int .i64 0)).setCell (p := ⟨g + 2, 1, none⟩) (by simp only; omega) (.slice none 0 0))
    clear e0 e1 hr ZERO
    go_wp2_with fail
    refine bodyPost_ret (v := .tuple #[.agg #[.int .i64 0, .slice none 0 0], .int .i64 0, .int .i64 e']) ?_ rfl ⟨none, 0, rfl, Sl.nil _ _ _, HFIN.out⟩
    have h1 := E0.out
    have h2 := E1.out
    simp [results, Tryz.results24, go_sem, h1, h2]
  subst her
  have ha := make_ok HIMM.out hmk.out
  have ha1 : 0 ≤ a := ha.2.1
  have ha2 : a ≤ 1024 := by have := ha.2.2.1; omega
  have ham : m ≤ 1024 := by
    have h1 := ha.2.2.2.1
    have h2 := ha.2.2.2.2.1
    have h3 := ha.2.2.1
    rw [← hm.out, h1, List.length_map, h2]
    omega
  have hwf2 : Hid ((Lit.int .i64 a).wf = true) := Lib.hid (by simp [Lit.wf, IntKind.min, IntKind.max, IntKind.bits, IntKind.signed]; omega)
  clear ha
  obtain ⟨⟨⟨cap8, l8⟩, e8⟩, hput⟩ : ∃ p, Hid (putM ⟨cap, l⟩ ⟨id, a, ws⟩ = p) := ⟨_, Lib.hid rfl⟩
  obtain ⟨n8, hn8⟩ : ∃ n, Hid (l8.length = n) := ⟨_, Lib.hid rfl⟩
  have hR7 := hR
  go_wp2_with fail
  refine (Put_any cap A nn c l id a A7 m c7 ws _ HS.out hn HW.out hm hwf1 hwf2 cap8 l8 n8 e8 hput hn8).mono ?_
  rintro e w8 ⟨A8, c8, rfl, s8, hb⟩
  clear q0 q1 p0 r0 r1 fr0 fr1
  have HB := Lib.hid (HB.out.trans hb)
  have KM := Lib.hid (KM.out.bel hb)
  have KP := Lib.hid (KP.out.bel hb)
  have KR := Lib.hid (KR.out.bel hb)
  have HS := Lib.hid (HS.out.mono BlkR.mono hb)
  have HL := Lib.hid (HL.out.mono FnR.mono hb)
  have hR := Nat.le_trans hR hb.size
  have S8 := Lib.hid (s8.down hR7)
  clear s8
  clear hb
  have q0 := KM.out.cell 0 (v := .int .i64 cap) rfl
  have q1 := KM.out.cell 1 (v := .slice A nn c) rfl
  have p0 := KP.out.cell1 rfl
  have r0 := KR.out.cell 0 (v := .int .i64 0) rfl
  have r1 := KR.out.cell 1 (v := .slice none 0 0) rfl
  have fr0 := KR.out.frozen 0
  have fr1 := KR.out.frozen 1
  have fq0 := KM.out.frozen 0
  have fq1 := KM.out.frozen 1
  have km9 := (KM.out.set 0 (.int .i64 cap8)).set 1 (.slice A8 n8 c8)
  have kr9 := (KR.out.other (p := ⟨g, 0, none⟩) (by simp only; omega) (.int .i64 cap8)).other (p := ⟨g, 1, none⟩) (by simp only; omega) (.slice A8 n8 c8)
  have hb9 := (HB.out.setCell (p := ⟨g, 0, none⟩) (by simp only; omega) (.int .i64 cap8)).setCell (p := ⟨g, 1, none⟩) (by simp only; omega) (.slice A8 n8 c8)
  have KM9 := Lib.hid km9
  have KR9 := Lib.hid kr9
  have HB9 := Lib.hid hb9
  have S9 := Lib.hid (S8.out.abv (((Abv.refl (g + 3) w8).set (p := ⟨g, 0, none⟩) (by simp only; omega) (.int .i64 cap8)).set (p := ⟨g, 1, none⟩) (by simp only; omega) (.slice A8 n8 c8)))
  clear km9 kr9 hb9
  by_cases h8 : e8 = 0
  rotate_left
  · have hne : (e8 == 0) = false := by simpa using h8
    have hnb : (e8 != 0) = true := by simpa using h8
    have hNZ := Lib.hid h8
    clear h8
    obtain ⟨rfl, rfl, rfl, rfl⟩ := (ZERO e8).out (by unfold loadM; rw [if_neg (by rw [hmb.out, hfb.out]; simp), if_neg (by rw [hsz.out, hfd.out]; simp), if_neg (by rw [hsz.out, hfd.out, hmk.out]; simp), if_pos (by rw [hsz.out, hfd.out, hmk.out, hput.out]; exact hNZ.out)]; rw [hsz.out, hfd.out, hmk.out, hput.out])
    obtain rfl : nl = 0 := by rw [← hnl.out]; rfl
    obtain ⟨e0, e1⟩ := res_two KR9.out (.int .i64 0) (.slice none 0 0)
    have E0 := Lib.hid e0
    have E1 := Lib.hid e1
    have HFIN := Lib.hid ((HB9.out.setCell (p := ⟨g + 1 + 1, 0, none⟩) (by simp only; omega) (.int .i64 0)).setCell (p := ⟨g + 1 + 1, 1, none⟩) (by simp only; omega) (.slice none 0 0))
    clear e0 e1 hr ZERO
    go_wp2_with fail
    refine bodyPost_ret (v := .tuple #[.agg #[.int .i64 0, .slice none 0 0], .int .i64 0, .int .i64 e']) ?_ rfl ⟨none, 0, rfl, Sl.nil _ _ _, HFIN.out⟩
    have h1 := E0.out
    have h2 := E1.out
    simp [results, Tryz.results24, go_sem, h1, h2]
  subst h8
  have hre := hr.out
  rw [show loadM ⟨cap, l⟩ id L = (⟨cap8, l8⟩, a, 0) from (by unfold loadM; rw [if_neg (by rw [hmb.out, hfb.out]; simp), if_neg (by rw [hsz.out, hfd.out]; simp), if_neg (by rw [hsz.out, hfd.out, hmk.out]; simp), if_neg (by rw [hsz.out, hfd.out, hmk.out, hput.out]; simp)]; rw [hsz.out, hfd.out, hmk.out, hput.out])] at hre
  simp only [Prod.mk.injEq, MemD.mk.injEq] at hre
  obtain ⟨⟨rfl, rfl⟩, rfl, rfl⟩ := hre
  obtain rfl : n8 = nl := by rw [← hn8.out, hnl.out]
  obtain ⟨e0, e1⟩ := res_two KR9.out (.int .i64 cap8) (.slice A8 n8 c8)
  have E0 := Lib.hid e0
  have E1 := Lib.hid e1
  have HFIN := Lib.hid ((HB9.out.setCell (p := ⟨g + 1 + 1, 0, none⟩) (by simp only; omega) (.int .i64 cap8)).setCell (p := ⟨g + 1 + 1, 1, none⟩) (by simp only; omega) (.slice A8 n8 c8))
  have SFIN := Lib.hid (S9.out.abv (((Abv.refl (g + 3) _).set (p := ⟨g + 1 + 1, 0, none⟩) (by simp only; omega) (.int .i64 cap8)).set (p := ⟨g + 1 + 1, 1, none⟩) (by simp only; omega) (.slice A8 n8 c8))).sl
  clear e0 e1 hr ZERO
  go_wp2_with fail
  refine bodyPost_ret (v := .tuple #[.agg #[.int .i64 cap8, .slice A8 n8 c8], .int .i64 a, .int .i64 0]) ?_ rfl ⟨A8, c8, rfl, SFIN.out, HFIN.out⟩
  have h1 := E0.out
  have h2 := E1.out
  simp [results, Tryz.results24, go_sem, h1, h2]
end Go.Proofs.YtebdnobgdimdoaaGreat
set_option linter.unusedVariables false
set_option linter.unusedSimpArgs false
namespace Go.Proofs.YtebdnobgdimdoaaGreat
open Go.RowKit
def imgPart (L : List FnD) (fn base at' : Int) : List Int × Int :=
  if progMay L = true ∧ 0 ≤ fn ∧ fn < L.length ∧ 0 ≤ base ∧ base ≤ 1024 - (L.length : Int) ∧ 0 ≤ at' ∧ at' ≤ 1024 - (((L.map FnD.code)[fn.toNat]!).length : Int) then
    match imgCode L.length ((L.map FnD.code)[fn.toNat]!) base at' ((L.map FnD.code)[fn.toNat]!).length with
    | none => ([], 8)
    | some ws => (ws, 0)
  else ([], 1)
set_option maxHeartbeats 4000000 in
set_option maxRecDepth 100000 in
theorem part_any (A : Option Addr) (c n : Nat) (L : List FnD) (fn base at' : Int) (w : World) (hL : Sl FnR 2 w A c L) (hn : Hid (L.length = n)) (ws : List Int) (er : Int) (m : Nat) (hr : Hid (imgPart L fn base at' = (ws, er))) (hm : Hid (ws.length = m)) :
    Calls Tryz.prog 32 #[.agg #[.slice A n c], .int .i64 fn, .int .i64 base, .int .i64 at'] w fun e w' => ∃ A' c', e = .returned (.tuple #[.slice A' m c', .int .i64 er]) ∧ Sl (IntR .u64) 1 w' A' c' ws ∧ Bel w w' := by
  have HBa := Lib.hid ((Bel.refl w).alloc (.cells #[.slice A n c] 24))
  have HS := Lib.hid (hL.mono FnR.mono HBa.out)
  have K0 := Lib.hid (One.new w 24 (.slice A n c))
  obtain ⟨mb, hmb⟩ : ∃ mb, Hid (progMay L = mb) := ⟨_, Lib.hid rfl⟩
  have HIMM := Lib.hid (sl_imm hL)
  have HRE := hr.out
  unfold imgPart at HRE
  clear hL
  go_enter Tryz.func32, Tryz.ntmps32
  go_wp2_with fail
  generalize w.alloc (.cells #[.slice A n c] 24) = W0 at *
  generalize w.heap.size = g at *
  refine (progmay_any A c n L mb _ HS.out hn hmb).mono ?_
  rintro e W1 ⟨rfl, hb⟩
  have HB1 := Lib.hid (HBa.out.trans hb)
  have HS1 := Lib.hid (HS.out.mono FnR.mono hb)
  have K1 := Lib.hid (K0.out.bel hb)
  have q0 := K1.out.cell1 rfl
  clear hb
  cases mb
  · rw [if_neg (by rw [hmb.out]; simp)] at HRE
    obtain ⟨rfl, rfl⟩ := Prod.mk.inj HRE
    obtain rfl : m = 0 := hm.out.symm
    clear HRE
    go_wp2_with fail
    go_ret2
    exact ⟨none, 0, rfl, Sl.nil _ _ _, HB1.out⟩
  by_cases h1 : fn < 0
  · rw [if_neg (by omega)] at HRE
    obtain ⟨rfl, rfl⟩ := Prod.mk.inj HRE
    obtain rfl : m = 0 := hm.out.symm
    clear HRE
    go_wp2_with fail
    go_ret2
    exact ⟨none, 0, rfl, Sl.nil _ _ _, HB1.out⟩
  by_cases h2 : (n : Int) ≤ fn
  · rw [if_neg (by rw [hn.out]; omega)] at HRE
    obtain ⟨rfl, rfl⟩ := Prod.mk.inj HRE
    obtain rfl : m = 0 := hm.out.symm
    clear HRE
    go_wp2_with fail
    go_ret2
    exact ⟨none, 0, rfl, Sl.nil _ _ _, HB1.out⟩
  by_cases h3 : base < 0
  · rw [if_neg (by omega)] at HRE
    obtain ⟨rfl, rfl⟩ := Prod.mk.inj HRE
    obtain rfl : m = 0 := hm.out.symm
    clear HRE
    go_wp2_with fail
    go_ret2
    exact ⟨none, 0, rfl, Sl.nil _ _ _, HB1.out⟩
  have HFI := Lib.hid (fine_of hmb.out)
  have hn8 : n ≤ 8 := by rw [← hn.out]; exact HFI.out.n8
  have hn0 : 0 < n := by rw [← hn.out]; exact HFI.out.n0
  have er1 : IntKind.i64.wrap (1024 - (n : Int)) = 1024 - (n : Int) := wrap_i64 (by omega) (by omega)
  have emin : min (1023 : Int) (1024 - (n : Int)) = 1024 - (n : Int) := by omega
  by_cases h4 : 1024 - (n : Int) < base
  · rw [if_neg (by rw [hn.out]; omega)] at HRE
    obtain ⟨rfl, rfl⟩ := Prod.mk.inj HRE
    obtain rfl : m = 0 := hm.out.symm
    clear HRE
    go_wp2_with fail
    go_ret2
    exact ⟨none, 0, rfl, Sl.nil _ _ _, HB1.out⟩
  by_cases h5 : at' < 0
  · rw [if_neg (by omega)] at HRE
    obtain ⟨rfl, rfl⟩ := Prod.mk.inj HRE
    obtain rfl : m = 0 := hm.out.symm
    clear HRE
    go_wp2_with fail
    go_ret2
    exact ⟨none, 0, rfl, Sl.nil _ _ _, HB1.out⟩
  obtain ⟨j, rfl⟩ : ∃ j : Nat, fn = j := ⟨fn.toNat, by omega⟩
  have hjn : j < n := by omega
  have hjL : j < L.length := by rw [hn.out]; exact hjn
  obtain ⟨b, o, rfl⟩ := HS1.out.addr (by rw [hn.out]; exact hn0)
  obtain ⟨Ak, ck, -, d1, -⟩ := fn_cells HS1.out j hjL
  obtain ⟨l, hl⟩ : ∃ l, Hid ((L[j]).code = l) := ⟨_, Lib.hid rfl⟩
  obtain ⟨ml, hml⟩ : ∃ ml, Hid (l.length = ml) := ⟨_, Lib.hid rfl⟩
  have h64 := HFI.out.c64 _ (List.getElem_mem hjL)
  have hc0 := HFI.out.c0 _ (List.getElem_mem hjL)
  have hok := HFI.out.ok j hjL
  rw [hl.out] at d1 h64 hok hc0
  rw [hml.out] at d1 h64 hc0
  have HOK := Lib.hid hok
  have HIM : Hid (∀ i ∈ l, U32 i.imm) := Lib.hid (fun i hi => HIMM.out _ (List.getElem_mem hjL) i (by rw [hl.out]; exact hi))
  rw [show ((j : Int)).toNat = j from rfl, code_nth hjL, hl.out, hml.out, hn.out] at HRE
  have em1 : IntKind.i64.wrap (1024 - (ml : Int)) = 1024 - (ml : Int) := wrap_i64 (by omega) (by omega)
  have hjn2 : (j : Int) < n := by omega
  have hj0 : (0 : Int) ≤ j := by omega
  clear hok h1
  by_cases h6 : 1024 - (ml : Int) < at'
  · rw [if_neg (by omega)] at HRE
    obtain ⟨rfl, rfl⟩ := Prod.mk.inj HRE
    obtain rfl : m = 0 := hm.out.symm
    clear HRE
    go_wp2_with fail
    go_ret2
    exact ⟨none, 0, rfl, Sl.nil _ _ _, HB1.out⟩
  rw [if_pos ⟨hmb.out, by omega, by omega, by omega, by omega, by omega, by omega⟩] at HRE
  obtain ⟨rk, hrk⟩ : ∃ rk, Hid (imgCode n l base at' l.length = rk) := ⟨_, Lib.hid rfl⟩
  have hrk2 := hrk.out
  rw [hml.out] at hrk2
  rw [hrk2] at HRE
  have HRE2 := Lib.hid HRE
  clear HRE hrk2
  go_wp2_with fail
  refine (code_any _ c n L j base at' _ HS1.out hn hn8 hjL l hl HOK ml hml h64 ⟨by omega, by omega⟩ ⟨by omega, by omega⟩ rk hrk).mono ?_
  rintro e wB ⟨hcase, hbB⟩
  have HBB := Lib.hid (HB1.out.trans hbB)
  rcases hcase with ⟨rfl, rfl⟩ | ⟨wk, A', c', rfl, hwl, rfl, hown⟩
  · obtain ⟨rfl, rfl⟩ := Prod.mk.inj HRE2.out
    obtain rfl : m = 0 := hm.out.symm
    clear hbB HRE2
    go_wp2_with fail
    go_ret2
    exact ⟨none, 0, rfl, Sl.nil _ _ _, HBB.out⟩
  obtain ⟨rfl, rfl⟩ := Prod.mk.inj HRE2.out
  obtain rfl : m = ml := by rw [← hm.out, hwl]
  obtain ⟨-, hrng⟩ := imgCode_rng (n := n) (base := base) (at' := at') HIM.out l.length wk (Nat.le_refl _) hrk.out
  obtain ⟨AE, cE, e1, hs⟩ := sl_ownI (l := wk) (by rw [hwl]; exact hown) (fun x hx => wf_u64R (hrng x hx))
  rw [hwl] at e1
  simp only [Value.slice.injEq, true_and] at e1
  obtain ⟨rfl, rfl⟩ := e1
  have HSE := Lib.hid hs
  clear hs hown hbB HRE2 hrng
  go_wp2_with fail
  go_ret2
  exact ⟨A', c', rfl, HSE.out, HBB.out⟩
end Go.Proofs.YtebdnobgdimdoaaGreat
