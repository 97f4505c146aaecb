/- The walk of ImageTells. -/
import Derived.Test.YteopeocgbfdofaaZRi6
import Derived.Test.YteopeocgbfdofaaZRi5
import Derived.Test.YteopeocgbfdofaaImRow
import Derived.Test.YteopeocgbfdofaaPg2
import Derived.Test.YteopeocgbfdofaaZArRef1
set_option linter.unusedVariables false
set_option linter.unusedSimpArgs false
namespace Go.Proofs.Yteopeocgbfdofaa
open Go.RowKit

set_option maxRecDepth 100000 in
set_option maxHeartbeats 16000000 in
theorem ImageTells_walk (C0 : Array Value) (L : List FnD) (base fn at' : Int) (C1 : Array Value) (m : MemD) (id : Int) (w : World) (r0 : ProgR w C0.toList L) (wf1 : (Lit.int .i64 base).wf = true) (wf2 : (Lit.int .i64 fn).wf = true) (wf3 : (Lit.int .i64 at').wf = true) (r1 : MemR w C1.toList m) (wf5 : (Lit.int .i64 id).wf = true) :
    Calls Try.prog 6 #[.agg C0, .int .i64 base, .int .i64 fn, .int .i64 at', .agg C1, .int .i64 id] w fun e w' => e = .returned (.bool true) ∧ Bel w w' := by
  obtain ⟨A, c, hcs, hL⟩ := r0
  obtain rfl : C0 = #[.slice A L.length c] := Array.toList_inj.1 hcs
  obtain ⟨n, hn⟩ : ∃ n, Hid (L.length = n) := ⟨_, Lib.hid rfl⟩
  rw [hn.out]
  obtain ⟨cap, l⟩ := m
  obtain ⟨B, d, hcs2, hs, hwf0⟩ := r1
  obtain rfl : C1 = #[.int .i64 cap, .slice B l.length d] := Array.toList_inj.1 hcs2
  obtain ⟨nn, hnn⟩ : ∃ nn, Hid (l.length = nn) := ⟨_, Lib.hid rfl⟩
  rw [hnn.out]
  have kp := (One.new w 24 (.slice A n c)).alloc (.cells #[.int .i64 cap, .slice B nn d] 45)
  have km := Blk.new (w.alloc (.cells #[.slice A n c] 24)) 45 #[.int .i64 cap, .slice B nn d]
  rw [World.size_alloc] at km
  have p0 := kp.cell1 rfl
  have q0 := km.cell 0 (v := .int .i64 cap) rfl
  have q1 := km.cell 1 (v := .slice B nn d) rfl
  have HBW := Lib.hid (((Bel.refl w).alloc (.cells #[.slice A n c] 24)).alloc (.cells #[.int .i64 cap, .slice B nn d] 45))
  have HS := Lib.hid (hs.mono BlkR.mono HBW.out)
  have HL := Lib.hid (hL.mono FnR.mono HBW.out)
  obtain ⟨fa, hfa⟩ : ∃ fa, Hid (fewB L = fa) := ⟨_, Lib.hid rfl⟩
  obtain ⟨fb, hfb⟩ : ∃ fb, Hid (fewM ⟨cap, l⟩ = fb) := ⟨_, Lib.hid rfl⟩
  clear hs hL hcs hcs2 kp km wf1 wf2 wf3 hwf0
  go_enter Try.func6, Try.ntmps6
  go_wp2_with fail
  refine (awake_any _).mono ?_
  rintro e v1 ⟨rfl, hb⟩
  have HBW := Lib.hid (HBW.out.trans hb)
  have p0 := hb.cell p0
  have q0 := hb.cell q0
  have q1 := hb.cell q1
  have HS := Lib.hid (HS.out.mono BlkR.mono hb)
  have HL := Lib.hid (HL.out.mono FnR.mono hb)
  clear hb
  obtain ⟨g, hg⟩ : ∃ g, w.heap.size = g := ⟨_, rfl⟩
  rw [hg] at p0 q0 q1 ⊢
  clear hg
  go_wp2_with fail
  refine (refFew_any A c n L fa _ HL.out hn hfa).mono ?_
  rintro e v2 ⟨rfl, hb⟩
  have HBW := Lib.hid (HBW.out.trans hb)
  have p0 := hb.cell p0
  have q0 := hb.cell q0
  have q1 := hb.cell q1
  have HS := Lib.hid (HS.out.mono BlkR.mono hb)
  have HL := Lib.hid (HL.out.mono FnR.mono hb)
  clear hb
  go_wp2_with fail
  refine (fewM_any cap B nn d l fb _ HS.out hnn hfb).mono ?_
  rintro e v3 ⟨rfl, hb⟩
  have HBW := Lib.hid (HBW.out.trans hb)
  have p0 := hb.cell p0
  have q0 := hb.cell q0
  have q1 := hb.cell q1
  have HS := Lib.hid (HS.out.mono BlkR.mono hb)
  have HL := Lib.hid (HL.out.mono FnR.mono hb)
  clear hb
  cases fa
  · go_wp2_with fail
    go_ret
    exact ⟨by first | rfl | simp, HBW.out⟩
  cases fb
  · go_wp2_with fail
    go_ret
    exact ⟨by first | rfl | simp, HBW.out⟩
  have hlen : Hid (∀ i, i < l.length → (l[i]!).w.length ≤ 4000) := Lib.hid (fun i hi => by
    have h := hfb.out
    unfold fewM at h
    rw [Bool.and_eq_true, List.all_eq_true] at h
    have := of_decide_eq_true (h.2 _ (List.getElem_mem hi))
    rw [getElem!_pos l i hi]
    omega)
  obtain ⟨⟨ws, er⟩, hmk⟩ : ∃ p, Hid (imgMake L base = p) := ⟨_, Lib.hid rfl⟩
  obtain ⟨m1, hm1⟩ : ∃ m, Hid (ws.length = m) := ⟨_, Lib.hid rfl⟩
  obtain ⟨⟨ws2, er2⟩, hpt⟩ : ∃ p, Hid (imgPart L fn base at' = p) := ⟨_, Lib.hid rfl⟩
  obtain ⟨m2, hm2⟩ : ∃ m, Hid (ws2.length = m) := ⟨_, Lib.hid rfl⟩
  obtain ⟨⟨⟨capA, lA⟩, pA, eA⟩, hld⟩ : ∃ p, Hid (loadM ⟨cap, l⟩ id L = p) := ⟨_, Lib.hid rfl⟩
  obtain ⟨nA, hnA⟩ : ∃ n, Hid (lA.length = n) := ⟨_, Lib.hid rfl⟩
  obtain ⟨⟨⟨capB, lB⟩, eB⟩, htn⟩ : ∃ p, Hid (turnW ⟨cap, l⟩ base fn at' = p) := ⟨_, Lib.hid rfl⟩
  obtain ⟨nB, hnB⟩ : ∃ n, Hid (lB.length = n) := ⟨_, Lib.hid rfl⟩
  obtain ⟨sz0, hsz⟩ : ∃ s, Hid (imgSize L = s) := ⟨_, Lib.hid rfl⟩
  go_wp2_with fail
  refine (make_any A c n L base _ HL.out hn ws er m1 hmk hm1).mono ?_
  rintro e v4 ⟨A1a, c1a, rfl, s1, hb⟩
  have HBW := Lib.hid (HBW.out.trans hb)
  have p0 := hb.cell p0
  have q0 := hb.cell q0
  have q1 := hb.cell q1
  have HS := Lib.hid (HS.out.mono BlkR.mono hb)
  have HL := Lib.hid (HL.out.mono FnR.mono hb)
  have W1a := Lib.hid s1
  clear s1
  clear hb
  go_wp2_with fail
  refine (rmake_any A c n L base _ HL.out hn ws er m1 hmk hm1).mono ?_
  rintro e v5 ⟨A2a, c2a, rfl, s1, hb⟩
  have HBW := Lib.hid (HBW.out.trans hb)
  have p0 := hb.cell p0
  have q0 := hb.cell q0
  have q1 := hb.cell q1
  have HS := Lib.hid (HS.out.mono BlkR.mono hb)
  have HL := Lib.hid (HL.out.mono FnR.mono hb)
  have W1a := Lib.hid (W1a.out.mono (IntR.mono _) hb)
  have W2a := Lib.hid s1
  clear s1
  clear hb
  go_wp2_with fail
  refine (long_same A1a A2a m1 c1a c2a ws _ W1a.out W2a.out hm1).mono ?_
  rintro e v6 ⟨rfl, hb⟩
  have HBW := Lib.hid (HBW.out.trans hb)
  have p0 := hb.cell p0
  have q0 := hb.cell q0
  have q1 := hb.cell q1
  have HS := Lib.hid (HS.out.mono BlkR.mono hb)
  have HL := Lib.hid (HL.out.mono FnR.mono hb)
  have W1a := Lib.hid (W1a.out.mono (IntR.mono _) hb)
  have W2a := Lib.hid (W2a.out.mono (IntR.mono _) hb)
  clear hb
  have tea : (er == er) = true := by simp
  go_wp2_with fail
  clear W1a W2a tea
  go_wp2_with fail
  refine (part_any A c n L fn base at' _ HL.out hn ws2 er2 m2 hpt hm2).mono ?_
  rintro e v7 ⟨A1b, c1b, rfl, s1, hb⟩
  have HBW := Lib.hid (HBW.out.trans hb)
  have p0 := hb.cell p0
  have q0 := hb.cell q0
  have q1 := hb.cell q1
  have HS := Lib.hid (HS.out.mono BlkR.mono hb)
  have HL := Lib.hid (HL.out.mono FnR.mono hb)
  have W1b := Lib.hid s1
  clear s1
  clear hb
  go_wp2_with fail
  refine (rpart_any A c n L fn base at' _ HL.out hn ws2 er2 m2 hpt hm2).mono ?_
  rintro e v8 ⟨A2b, c2b, rfl, s1, hb⟩
  have HBW := Lib.hid (HBW.out.trans hb)
  have p0 := hb.cell p0
  have q0 := hb.cell q0
  have q1 := hb.cell q1
  have HS := Lib.hid (HS.out.mono BlkR.mono hb)
  have HL := Lib.hid (HL.out.mono FnR.mono hb)
  have W1b := Lib.hid (W1b.out.mono (IntR.mono _) hb)
  have W2b := Lib.hid s1
  clear s1
  clear hb
  go_wp2_with fail
  refine (long_same A1b A2b m2 c1b c2b ws2 _ W1b.out W2b.out hm2).mono ?_
  rintro e v9 ⟨rfl, hb⟩
  have HBW := Lib.hid (HBW.out.trans hb)
  have p0 := hb.cell p0
  have q0 := hb.cell q0
  have q1 := hb.cell q1
  have HS := Lib.hid (HS.out.mono BlkR.mono hb)
  have HL := Lib.hid (HL.out.mono FnR.mono hb)
  have W1b := Lib.hid (W1b.out.mono (IntR.mono _) hb)
  have W2b := Lib.hid (W2b.out.mono (IntR.mono _) hb)
  clear hb
  have teb : (er2 == er2) = true := by simp
  go_wp2_with fail
  clear W1b W2b teb
  go_wp2_with fail
  refine (load_any cap B nn d l id A n c L _ HS.out hnn HL.out hn (Lib.hid wf5) capA lA nA pA eA hld hnA).mono ?_
  rintro e v10 ⟨A1l, c1l, rfl, s1, hb⟩
  have HBW := Lib.hid (HBW.out.trans hb)
  have p0 := hb.cell p0
  have q0 := hb.cell q0
  have q1 := hb.cell q1
  have HS := Lib.hid (HS.out.mono BlkR.mono hb)
  have HL := Lib.hid (HL.out.mono FnR.mono hb)
  have HS1l := Lib.hid s1
  clear s1
  clear hb
  have bx1l := Blk.new v10 45 #[.int .i64 capA, .slice A1l nA c1l]
  have hb := (Bel.refl v10).alloc (.cells #[.int .i64 capA, .slice A1l nA c1l] 45)
  have HBW := Lib.hid (HBW.out.trans hb)
  have p0 := hb.cell p0
  have q0 := hb.cell q0
  have q1 := hb.cell q1
  have HS := Lib.hid (HS.out.mono BlkR.mono hb)
  have HL := Lib.hid (HL.out.mono FnR.mono hb)
  have HS1l := Lib.hid (HS1l.out.mono BlkR.mono hb)
  have x1l0 := bx1l.cell 0 (v := .int .i64 capA) rfl
  have x1l1 := bx1l.cell 1 (v := .slice A1l nA c1l) rfl
  have Bx1l := Lib.hid bx1l
  clear hb bx1l
  go_wp2_with fail
  generalize v10.alloc (.cells #[.int .i64 capA, .slice A1l nA c1l] 45) = V10 at *
  generalize v10.heap.size = gx1l at *
  go_wp2_with fail
  refine (rload_any cap B nn d l id A n c L _ HS.out hnn hlen HL.out hn (Lib.hid wf5) capA lA nA pA eA hld hnA).mono ?_
  rintro e v11 ⟨A2l, c2l, rfl, s1, hb⟩
  have HBW := Lib.hid (HBW.out.trans hb)
  have p0 := hb.cell p0
  have q0 := hb.cell q0
  have q1 := hb.cell q1
  have HS := Lib.hid (HS.out.mono BlkR.mono hb)
  have HL := Lib.hid (HL.out.mono FnR.mono hb)
  have HS1l := Lib.hid (HS1l.out.mono BlkR.mono hb)
  have x1l0 := hb.cell x1l0
  have x1l1 := hb.cell x1l1
  have Bx1l := Lib.hid (Bx1l.out.bel hb)
  have HS2l := Lib.hid s1
  clear s1
  clear hb
  have bx2l := Blk.new v11 45 #[.int .i64 capA, .slice A2l nA c2l]
  have hb := (Bel.refl v11).alloc (.cells #[.int .i64 capA, .slice A2l nA c2l] 45)
  have HBW := Lib.hid (HBW.out.trans hb)
  have p0 := hb.cell p0
  have q0 := hb.cell q0
  have q1 := hb.cell q1
  have HS := Lib.hid (HS.out.mono BlkR.mono hb)
  have HL := Lib.hid (HL.out.mono FnR.mono hb)
  have HS1l := Lib.hid (HS1l.out.mono BlkR.mono hb)
  have x1l0 := hb.cell x1l0
  have x1l1 := hb.cell x1l1
  have Bx1l := Lib.hid (Bx1l.out.bel hb)
  have HS2l := Lib.hid (HS2l.out.mono BlkR.mono hb)
  have x2l0 := bx2l.cell 0 (v := .int .i64 capA) rfl
  have x2l1 := bx2l.cell 1 (v := .slice A2l nA c2l) rfl
  have Bx2l := Lib.hid bx2l
  clear hb bx2l
  go_wp2_with fail
  generalize v11.alloc (.cells #[.int .i64 capA, .slice A2l nA c2l] 45) = V11 at *
  generalize v11.heap.size = gx2l at *
  go_wp2_with fail
  refine (refSame_any capA capA A1l A2l nA nA c1l c2l lA lA true _ HS1l.out HS2l.out hnA hnA (Lib.hid (decide_eq_true rfl))).mono ?_
  rintro e v12 ⟨rfl, hb⟩
  have HBW := Lib.hid (HBW.out.trans hb)
  have p0 := hb.cell p0
  have q0 := hb.cell q0
  have q1 := hb.cell q1
  have HS := Lib.hid (HS.out.mono BlkR.mono hb)
  have HL := Lib.hid (HL.out.mono FnR.mono hb)
  have HS1l := Lib.hid (HS1l.out.mono BlkR.mono hb)
  have x1l0 := hb.cell x1l0
  have x1l1 := hb.cell x1l1
  have Bx1l := Lib.hid (Bx1l.out.bel hb)
  have HS2l := Lib.hid (HS2l.out.mono BlkR.mono hb)
  have x2l0 := hb.cell x2l0
  have x2l1 := hb.cell x2l1
  have Bx2l := Lib.hid (Bx2l.out.bel hb)
  clear hb
  have te0l : (pA == pA) = true := by simp
  have te1l : (eA == eA) = true := by simp
  go_wp2_with fail
  clear x1l0 x1l1 Bx1l
  clear x2l0 x2l1 Bx2l
  clear HS1l HS2l te0l te1l
  go_wp2_with fail
  refine (turn_all cap B nn d l base fn at' _ HS.out hnn capB lB nB eB htn hnB).mono ?_
  rintro e v13 ⟨A1t, c1t, rfl, s1, hb⟩
  have HBW := Lib.hid (HBW.out.trans hb)
  have p0 := hb.cell p0
  have q0 := hb.cell q0
  have q1 := hb.cell q1
  have HS := Lib.hid (HS.out.mono BlkR.mono hb)
  have HL := Lib.hid (HL.out.mono FnR.mono hb)
  have HS1t := Lib.hid s1
  clear s1
  clear hb
  have bx1t := Blk.new v13 45 #[.int .i64 capB, .slice A1t nB c1t]
  have hb := (Bel.refl v13).alloc (.cells #[.int .i64 capB, .slice A1t nB c1t] 45)
  have HBW := Lib.hid (HBW.out.trans hb)
  have p0 := hb.cell p0
  have q0 := hb.cell q0
  have q1 := hb.cell q1
  have HS := Lib.hid (HS.out.mono BlkR.mono hb)
  have HL := Lib.hid (HL.out.mono FnR.mono hb)
  have HS1t := Lib.hid (HS1t.out.mono BlkR.mono hb)
  have x1t0 := bx1t.cell 0 (v := .int .i64 capB) rfl
  have x1t1 := bx1t.cell 1 (v := .slice A1t nB c1t) rfl
  have Bx1t := Lib.hid bx1t
  clear hb bx1t
  go_wp2_with fail
  generalize v13.alloc (.cells #[.int .i64 capB, .slice A1t nB c1t] 45) = V13 at *
  generalize v13.heap.size = gx1t at *
  go_wp2_with fail
  refine (rturn_all cap B nn d l base fn at' _ HS.out hnn hlen capB lB nB eB htn hnB).mono ?_
  rintro e v14 ⟨A2t, c2t, rfl, s1, hb⟩
  have HBW := Lib.hid (HBW.out.trans hb)
  have p0 := hb.cell p0
  have q0 := hb.cell q0
  have q1 := hb.cell q1
  have HS := Lib.hid (HS.out.mono BlkR.mono hb)
  have HL := Lib.hid (HL.out.mono FnR.mono hb)
  have HS1t := Lib.hid (HS1t.out.mono BlkR.mono hb)
  have x1t0 := hb.cell x1t0
  have x1t1 := hb.cell x1t1
  have Bx1t := Lib.hid (Bx1t.out.bel hb)
  have HS2t := Lib.hid s1
  clear s1
  clear hb
  have bx2t := Blk.new v14 45 #[.int .i64 capB, .slice A2t nB c2t]
  have hb := (Bel.refl v14).alloc (.cells #[.int .i64 capB, .slice A2t nB c2t] 45)
  have HBW := Lib.hid (HBW.out.trans hb)
  have p0 := hb.cell p0
  have q0 := hb.cell q0
  have q1 := hb.cell q1
  have HS := Lib.hid (HS.out.mono BlkR.mono hb)
  have HL := Lib.hid (HL.out.mono FnR.mono hb)
  have HS1t := Lib.hid (HS1t.out.mono BlkR.mono hb)
  have x1t0 := hb.cell x1t0
  have x1t1 := hb.cell x1t1
  have Bx1t := Lib.hid (Bx1t.out.bel hb)
  have HS2t := Lib.hid (HS2t.out.mono BlkR.mono hb)
  have x2t0 := bx2t.cell 0 (v := .int .i64 capB) rfl
  have x2t1 := bx2t.cell 1 (v := .slice A2t nB c2t) rfl
  have Bx2t := Lib.hid bx2t
  clear hb bx2t
  go_wp2_with fail
  generalize v14.alloc (.cells #[.int .i64 capB, .slice A2t nB c2t] 45) = V14 at *
  generalize v14.heap.size = gx2t at *
  go_wp2_with fail
  refine (refSame_any capB capB A1t A2t nB nB c1t c2t lB lB true _ HS1t.out HS2t.out hnB hnB (Lib.hid (decide_eq_true rfl))).mono ?_
  rintro e v15 ⟨rfl, hb⟩
  have HBW := Lib.hid (HBW.out.trans hb)
  have p0 := hb.cell p0
  have q0 := hb.cell q0
  have q1 := hb.cell q1
  have HS := Lib.hid (HS.out.mono BlkR.mono hb)
  have HL := Lib.hid (HL.out.mono FnR.mono hb)
  have HS1t := Lib.hid (HS1t.out.mono BlkR.mono hb)
  have x1t0 := hb.cell x1t0
  have x1t1 := hb.cell x1t1
  have Bx1t := Lib.hid (Bx1t.out.bel hb)
  have HS2t := Lib.hid (HS2t.out.mono BlkR.mono hb)
  have x2t0 := hb.cell x2t0
  have x2t1 := hb.cell x2t1
  have Bx2t := Lib.hid (Bx2t.out.bel hb)
  clear hb
  have te0t : (eB == eB) = true := by simp
  go_wp2_with fail
  clear x1t0 x1t1 Bx1t
  clear x2t0 x2t1 Bx2t
  clear HS1t HS2t te0t
  generalize v15 = W0 at *
  have P0 := fun (w' : World) (h : Bel W0 w') => h.cell p0
  have ts : ((sz0 : Int) == sz0) = true := by simp
  have HWW := HBW.out
  have HR : Bel W0 W0.drew := (Bel.refl W0).drew
  clear p0 q0 q1 HBW HS
  refine wp_region_T (fun w' => Bel W0 w') (fun _ => false) (by kernel_rfl) ?_
  refine wpAnyU_take (i := 0) (v := ?v0) rfl (by kernel_rfl) (by kernel_rfl) (by kernel_rfl) (by kernel_rfl) (fun _ _ _ h => h) ?hy0 HR ?rest0
  case hy0 => first | (refine Or.inl ⟨by rfl, ?_⟩; (intro w' hSw; go_simp) <;> with_reducible rfl) | (refine Or.inr ⟨by rfl, ?_⟩; with_reducible rfl)
  try simp only [List.getElem_toArray, List.getElem_cons_zero, List.getElem_cons_succ, Act.put, List.setIfInBounds_toArray, List.set_cons_zero, List.set_cons_succ]
  refine wpAnyU_take (i := 1) (v := ?v1) rfl (by kernel_rfl) (by kernel_rfl) (by kernel_rfl) (by kernel_rfl) (fun _ _ _ h => h) ?hy1 HR ?rest1
  case hy1 => first | (refine Or.inl ⟨by rfl, ?_⟩; (intro w' hSw; go_simp) <;> with_reducible rfl) | (refine Or.inr ⟨by rfl, ?_⟩; with_reducible rfl)
  try simp only [List.getElem_toArray, List.getElem_cons_zero, List.getElem_cons_succ, Act.put, List.setIfInBounds_toArray, List.set_cons_zero, List.set_cons_succ]
  refine wpAnyU_take (i := 2) (v := ?v2) rfl (by kernel_rfl) (by kernel_rfl) (by kernel_rfl) (by kernel_rfl) (fun _ _ _ h => h) ?hy2 HR ?rest2
  case hy2 => first | (refine Or.inl ⟨by rfl, ?_⟩; (intro w' hSw; go_simp) <;> with_reducible rfl) | (refine Or.inr ⟨by rfl, ?_⟩; with_reducible rfl)
  try simp only [List.getElem_toArray, List.getElem_cons_zero, List.getElem_cons_succ, Act.put, List.setIfInBounds_toArray, List.set_cons_zero, List.set_cons_succ]
  refine wpAnyU_take (i := 3) (v := ?v3) rfl (by kernel_rfl) (by kernel_rfl) (by kernel_rfl) (by kernel_rfl) (fun _ _ _ h => h) ?hy3 HR ?rest3
  case hy3 => first | (refine Or.inl ⟨by rfl, ?_⟩; (intro w' hSw; go_simp) <;> with_reducible rfl) | (refine Or.inr ⟨by rfl, ?_⟩; with_reducible rfl)
  try simp only [List.getElem_toArray, List.getElem_cons_zero, List.getElem_cons_succ, Act.put, List.setIfInBounds_toArray, List.set_cons_zero, List.set_cons_succ]
  refine wpAnyU_take (i := 4) (v := ?v4) rfl (by kernel_rfl) (by kernel_rfl) (by kernel_rfl) (by kernel_rfl) (fun _ _ _ h => h) ?hy4 HR ?rest4
  case hy4 => first | (refine Or.inl ⟨by rfl, ?_⟩; (intro w' hSw; go_simp) <;> with_reducible rfl) | (refine Or.inr ⟨by rfl, ?_⟩; with_reducible rfl)
  try simp only [List.getElem_toArray, List.getElem_cons_zero, List.getElem_cons_succ, Act.put, List.setIfInBounds_toArray, List.set_cons_zero, List.set_cons_succ]
  refine wpAnyU_take (i := 5) (v := ?v5) rfl (by kernel_rfl) (by kernel_rfl) (by kernel_rfl) (by kernel_rfl) (fun _ _ _ h => h) ?hy5 HR ?rest5
  case hy5 => first | (refine Or.inl ⟨by rfl, ?_⟩; (intro w' hSw; go_simp) <;> with_reducible rfl) | (refine Or.inr ⟨by rfl, ?_⟩; with_reducible rfl)
  try simp only [List.getElem_toArray, List.getElem_cons_zero, List.getElem_cons_succ, Act.put, List.setIfInBounds_toArray, List.set_cons_zero, List.set_cons_succ]
  refine wpAnyU_take (i := 6) (v := ?v6) rfl (by kernel_rfl) (by kernel_rfl) (by kernel_rfl) (by kernel_rfl) (fun _ _ _ h => h) ?hy6 HR ?rest6
  case hy6 => first | (refine Or.inl ⟨by rfl, ?_⟩; (intro w' hSw; go_simp) <;> with_reducible rfl) | (refine Or.inr ⟨by rfl, ?_⟩; with_reducible rfl)
  try simp only [List.getElem_toArray, List.getElem_cons_zero, List.getElem_cons_succ, Act.put, List.setIfInBounds_toArray, List.set_cons_zero, List.set_cons_succ]
  refine wpAnyU_take (i := 7) (v := ?v7) rfl (by kernel_rfl) (by kernel_rfl) (by kernel_rfl) (by kernel_rfl) (fun _ _ _ h => h) ?hy7 HR ?rest7
  case hy7 => first | (refine Or.inl ⟨by rfl, ?_⟩; (intro w' hSw; go_simp) <;> with_reducible rfl) | (refine Or.inr ⟨by rfl, ?_⟩; with_reducible rfl)
  try simp only [List.getElem_toArray, List.getElem_cons_zero, List.getElem_cons_succ, Act.put, List.setIfInBounds_toArray, List.set_cons_zero, List.set_cons_succ]
  refine wpAnyU_take (i := 8) (v := ?v8) rfl (by kernel_rfl) (by kernel_rfl) (by kernel_rfl) (by kernel_rfl) (fun _ _ _ h => h) ?hy8 HR ?rest8
  case hy8 => first | (refine Or.inl ⟨by rfl, ?_⟩; (intro w' hSw; go_simp) <;> with_reducible rfl) | (refine Or.inr ⟨by rfl, ?_⟩; with_reducible rfl)
  try simp only [List.getElem_toArray, List.getElem_cons_zero, List.getElem_cons_succ, Act.put, List.setIfInBounds_toArray, List.set_cons_zero, List.set_cons_succ]
  refine wpAnyU_take (i := 9) (v := ?v9) rfl (by kernel_rfl) (by kernel_rfl) (by kernel_rfl) (by kernel_rfl) (fun _ _ _ h => h) ?hy9 HR ?rest9
  case hy9 => first | (refine Or.inl ⟨by rfl, ?_⟩; (intro w' hSw; go_simp) <;> with_reducible rfl) | (refine Or.inr ⟨by rfl, ?_⟩; with_reducible rfl)
  try simp only [List.getElem_toArray, List.getElem_cons_zero, List.getElem_cons_succ, Act.put, List.setIfInBounds_toArray, List.set_cons_zero, List.set_cons_succ]
  refine wpAnyU_take (i := 10) (v := ?v10) rfl (by kernel_rfl) (by kernel_rfl) (by kernel_rfl) (by kernel_rfl) (fun _ _ _ h => h) ?hy10 HR ?rest10
  case hy10 => first | (refine Or.inl ⟨by rfl, ?_⟩; (intro w' hSw; go_simp) <;> with_reducible rfl) | (refine Or.inr ⟨by rfl, ?_⟩; with_reducible rfl)
  try simp only [List.getElem_toArray, List.getElem_cons_zero, List.getElem_cons_succ, Act.put, List.setIfInBounds_toArray, List.set_cons_zero, List.set_cons_succ]
  refine wpAnyU_take (i := 11) (v := ?v11) rfl (by kernel_rfl) (by kernel_rfl) (by kernel_rfl) (by kernel_rfl) (fun _ _ _ h => h) ?hy11 HR ?rest11
  case hy11 => first | (refine Or.inl ⟨by rfl, ?_⟩; (intro w' hSw; go_simp) <;> with_reducible rfl) | (refine Or.inr ⟨by rfl, ?_⟩; with_reducible rfl)
  try simp only [List.getElem_toArray, List.getElem_cons_zero, List.getElem_cons_succ, Act.put, List.setIfInBounds_toArray, List.set_cons_zero, List.set_cons_succ]
  refine wpAnyU_take (i := 13) (v := ?v13) rfl (by kernel_rfl) (by kernel_rfl) (by kernel_rfl) (by kernel_rfl) (fun _ _ _ h => h) ?hy13 HR ?rest13
  case hy13 => first | (refine Or.inl ⟨by rfl, ?_⟩; (intro w' hSw; go_simp) <;> with_reducible rfl) | (refine Or.inr ⟨by rfl, ?_⟩; with_reducible rfl)
  try simp only [List.getElem_toArray, List.getElem_cons_zero, List.getElem_cons_succ, Act.put, List.setIfInBounds_toArray, List.set_cons_zero, List.set_cons_succ]
  refine wpAnyT_one (i := 12) (by kernel_rfl) rfl (fun K hK => ?_)
  go_simp
  go_at_call 10
  refine (size_any A c n L _ (HL.out.mono FnR.mono HR) hn sz0 hsz).mono ?_
  rintro e w51 ⟨rfl, hb1⟩
  have HR12 : Bel W0 w51 := HR.trans hb1
  refine hK.out _ _ (fun _ => HR12) ?_
  clear hK K
  try simp only [List.getElem_toArray, List.getElem_cons_zero, List.getElem_cons_succ, Act.put, List.setIfInBounds_toArray, List.set_cons_zero, List.set_cons_succ]
  refine wpAnyT_one (i := 14) (by kernel_rfl) rfl (fun K hK => ?_)
  go_simp
  go_at_call 23
  refine (rsize_any A c n L _ (HL.out.mono FnR.mono HR12) hn sz0 hsz).mono ?_
  rintro e w52 ⟨rfl, hb2⟩
  have HR14 : Bel W0 w52 := HR12.trans hb2
  refine hK.out _ _ (fun _ => HR14) ?_
  clear hK K
  try simp only [List.getElem_toArray, List.getElem_cons_zero, List.getElem_cons_succ, Act.put, List.setIfInBounds_toArray, List.set_cons_zero, List.set_cons_succ]
  refine wpAnyU_take (i := 15) (v := ?v15) rfl (by kernel_rfl) (by kernel_rfl) (by kernel_rfl) (by kernel_rfl) (fun _ _ _ h => h) ?hy15 HR14 ?rest15
  case hy15 => first | (refine Or.inl ⟨by rfl, ?_⟩; (intro w' hSw; go_simp) <;> with_reducible rfl) | (refine Or.inr ⟨by rfl, ?_⟩; with_reducible rfl)
  try simp only [List.getElem_toArray, List.getElem_cons_zero, List.getElem_cons_succ, Act.put, List.setIfInBounds_toArray, List.set_cons_zero, List.set_cons_succ]
  refine wpAnyU_take (i := 16) (v := ?v16) rfl (by kernel_rfl) (by kernel_rfl) (by kernel_rfl) (by kernel_rfl) (fun _ _ _ h => h) ?hy16 HR14 ?rest16
  case hy16 => first | (refine Or.inl ⟨by rfl, ?_⟩; (intro w' hSw; go_simp) <;> with_reducible rfl) | (refine Or.inr ⟨by rfl, ?_⟩; with_reducible rfl)
  try simp only [List.getElem_toArray, List.getElem_cons_zero, List.getElem_cons_succ, Act.put, List.setIfInBounds_toArray, List.set_cons_zero, List.set_cons_succ]
  refine wpAnyU_take (i := 17) (v := ?v17) rfl (by kernel_rfl) (by kernel_rfl) (by kernel_rfl) (by kernel_rfl) (fun _ _ _ h => h) ?hy17 HR14 ?rest17
  case hy17 => first | (refine Or.inl ⟨by rfl, ?_⟩; (intro w' hSw; go_simp) <;> with_reducible rfl) | (refine Or.inr ⟨by rfl, ?_⟩; with_reducible rfl)
  try simp only [List.getElem_toArray, List.getElem_cons_zero, List.getElem_cons_succ, Act.put, List.setIfInBounds_toArray, List.set_cons_zero, List.set_cons_succ]
  refine wpAnyT_done (by kernel_rfl) ?_ _
  refine NoPanic.normal ?_
  go_wp2
  go_ret
  exact ⟨by first | rfl | (simp; done) | (simp; omega), HWW.trans HR14⟩
end Go.Proofs.Yteopeocgbfdofaa
