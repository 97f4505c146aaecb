/- The document's Patch (chapter 13) by its contract: it is what arena's is. -/
import Derived.Test.YteopeocgbfdofaaZRf5
set_option linter.unusedVariables false
set_option linter.unusedSimpArgs false
namespace Go.Proofs.Yteopeocgbfdofaa
open Go.RowKit

/-- A cell of a row of one's own is changed. -/
theorem own_setIn {X : World} {b s n c g : Nat} {t : TypeId} {xs : List Value} (h : X.ownsRow b t s (.slice (some ⟨g, 0, none⟩) n c) n xs) (j : Nat) (u : Value) : (X.setCell ⟨g, j, none⟩ u).ownsRow b t s (.slice (some ⟨g, 0, none⟩) n c) n (xs.set j u) := by
  refine ⟨by rw [List.length_set]; exact h.1, ?_⟩
  rcases h.2 with ⟨e, _⟩ | ⟨g', cap, cur, e, h1, h2, h3, h4, h5, h6⟩
  · cases e
  · simp only [Value.slice.injEq, Option.some.injEq, Addr.mk.injEq, and_true, true_and] at e
    obtain ⟨rfl, rfl⟩ := e
    refine .inr ⟨g, c, cur.setIfInBounds j u, rfl, h1, Blk.set (cs := cur) h2 j u, h3, h4, by rw [Array.size_setIfInBounds]; exact h5, ?_⟩
    rw [Array.toList_setIfInBounds, ← h6, List.take_set]
theorem flat_sameZ {zs : List (BlkD × Value)} {i : Nat} (hi : i < zs.length) {z : BlkD × Value} (he : bz z = bz zs[i]) : (zs.set i z).flatMap bz = zs.flatMap bz := by
  rw [List.flatMap_def, List.flatMap_def, List.map_set, he, ← List.getElem_map bz (h := by rw [List.length_map]; exact hi), List.set_getElem_self]
theorem own_ltT {X : World} {b s n : Nat} {t : TypeId} {G c : Nat} {xs : List Value} (h : X.ownsRow b t s (.slice (some ⟨G, 0, none⟩) n c) n xs) : b ≤ G ∧ ∃ cur, X.heap[G]? = some (.cells cur t (0, 0)) := by
  rcases h.2 with ⟨e, _⟩ | ⟨g', cap, cur, e, h1, h2, _⟩
  · cases e
  · simp only [Value.slice.injEq, Option.some.injEq, Addr.mk.injEq, and_true, true_and] at e
    obtain ⟨rfl, rfl⟩ := e
    exact ⟨h1, cur, h2⟩
/-- A word of a block of one's own is changed. -/
theorem RowZ.patch {N : Nat} {zs : List (BlkD × Value)} {v : Value} {X : World} (h : RowZ N zs v X) {i : Nat} (hi : i < zs.length) {k : Nat} (hk : k < zs[i].1.w.length) :
    ∃ G cG, zs[i].2 = .slice (some ⟨G, 0, none⟩) zs[i].1.w.length cG ∧ (∃ u, X.cell? ⟨G, k, none⟩ = some u) ∧ X.frozen? ⟨G, k, none⟩ = false ∧ N ≤ G ∧ (∀ P cs, Blk X P 45 cs → P ≠ G) ∧ ∀ x, RowZ N (zs.set i (setB zs[i].1 k x, zs[i].2)) v (X.setCell ⟨G, k, none⟩ (.int .u64 x)) := by
  have hmem : zs[i] ∈ zs := List.getElem_mem hi
  have hc := h.words _ hmem
  obtain ⟨G, cG, hv2⟩ : ∃ G cG, zs[i].2 = .slice (some ⟨G, 0, none⟩) zs[i].1.w.length cG := by
    obtain ⟨m, hm⟩ : ∃ m, zs[i].1.w.length = m + 1 := ⟨zs[i].1.w.length - 1, by omega⟩
    rw [hm] at hc ⊢
    exact own_form hc
  rw [hv2] at hc
  obtain ⟨hGb, cur, hG0⟩ := own_ltT hc
  refine ⟨G, cG, hv2, ?_, by simp [World.frozen?, hG0], hGb, fun P cs hP e => ?_, fun x => ?_⟩
  · rcases own_openK hc with ⟨e, _⟩ | ⟨g, c, e, -, -, -, -, -, hcl⟩
    · cases e
    · simp only [Value.slice.injEq, Option.some.injEq, Addr.mk.injEq, and_true, true_and] at e
      obtain ⟨rfl, rfl⟩ := e
      have hl : k < (u64s zs[i].1.w).length := by simpa [u64s] using hk
      exact ⟨_, hcl k _ (List.getElem?_eq_getElem hl)⟩
  · subst e
    have e : X.heap[P]? = some (.cells cs 45 (0, 0)) := hP
    rw [hG0] at e
    simp only [Option.some.injEq, Obj.cells.injEq] at e
    exact absurd e.2.1 (by decide)
  · have hrow := own_setIn hc k (.int .u64 x)
    have hset : (u64s zs[i].1.w).set k (.int .u64 x) = u64s (zs[i].1.w.set k x) := by unfold u64s; rw [List.map_set]
    rw [hset] at hrow
    refine ⟨?_, fun z hz => ?_, ?_⟩
    · rw [List.length_set, flat_sameZ hi (by simp only [bz, setB])]
      exact ownsRow_setCell_other h.own (own_not h.own hG0 (by decide)) _
    · obtain ⟨j, hj, rfl⟩ := List.mem_iff_getElem.1 hz
      rw [List.length_set] at hj
      by_cases hij : i = j
      · subst hij
        rw [List.getElem_set_self]
        simp only [setB]
        rw [hv2, List.length_set]
        exact hrow
      · rw [List.getElem_set_ne hij]
        have hmj : zs[j] ∈ zs := List.getElem_mem hj
        refine ownsRow_setCell_other (h.words _ hmj) (fun e => ?_) _
        have hp := List.pairwise_iff_getElem.1 h.apart
        rcases Nat.lt_or_gt_of_ne hij with hlt | hlt
        · exact hp i j hi hj hlt (by rw [hv2]; simp [Value.ownBlock]) (by rw [e, hv2]; rfl)
        · exact hp j i hj hi hlt (by rw [e]; simp) (by rw [e, hv2]; rfl)
    · unfold ApartZ
      have hp := List.pairwise_iff_getElem.1 h.apart
      refine List.pairwise_iff_getElem.2 fun a b ha hb hab => ?_
      rw [List.length_set] at ha hb
      have g : ∀ j (hj : j < zs.length), ((zs.set i (setB zs[i].1 k x, zs[i].2))[j]'(by rw [List.length_set]; exact hj)).2 = zs[j].2 := fun j hj => by
        by_cases hij : i = j
        · subst hij; rw [List.getElem_set_self]
        · rw [List.getElem_set_ne hij]
      rw [g a ha, g b hb]
      exact hp a b ha hb hab
set_option maxHeartbeats 8000000 in
set_option maxRecDepth 100000 in
theorem patch13_any (cap : Int) (A : Option Addr) (nn c : Nat) (l : List BlkD) (place v : Int) (w : World) (h : Sl BlkR 3 w A c l) (hn : Hid (l.length = nn)) (hlen : Hid (∀ i, i < l.length → (l[i]!).w.length ≤ 4000)) (hp : Hid (place ≤ 9223372036854775807)) (hv : Hid ((Lit.int .u64 v).wf = true)) (cap' : Int) (l' : List BlkD) (nl : Nat) (e' : Int) (hr : Hid (patchM ⟨cap, l⟩ place v = (⟨cap', l'⟩, e'))) (hnl : Hid (l'.length = nl)) :
    Calls Try.prog 41 #[.agg #[.int .i64 cap, .slice A nn c], .int .i64 place, .int .u64 v] w fun e w' => ∃ A' c', e = .returned (.tuple #[.agg #[.int .i64 cap', .slice A' nl c'], .int .i64 e']) ∧ SlS w.heap.size w' A' c' l' ∧ Bel w w' := by
  have HS0 := Lib.hid h
  clear h
  obtain ⟨mb, hmb⟩ : ∃ mb, Hid (mayM ⟨cap, l⟩ = mb) := ⟨_, Lib.hid rfl⟩
  obtain ⟨ix, hix⟩ : ∃ ix, Hid (ofM l place = ix) := ⟨_, Lib.hid rfl⟩
  have BM := (Blk.new w 45 #[.int .i64 cap, .slice A nn c]).alloc (.cells #[.int .i64 0, .slice none 0 0] 45)
  have BR := Blk.new (w.alloc (.cells #[.int .i64 cap, .slice A nn c] 45)) 45 #[.int .i64 0, .slice none 0 0]
  rw [World.size_alloc] at BR
  have HB2 := Lib.hid (((Bel.refl w).alloc (.cells #[.int .i64 cap, .slice A nn c] 45)).alloc (.cells #[.int .i64 0, .slice none 0 0] 45))
  have q0 := BM.cell 0 (v := .int .i64 cap) rfl
  have q1 := BM.cell 1 (v := .slice A nn c) rfl
  have BM := Lib.hid BM
  have BR := Lib.hid BR
  go_enter Try.func41, Try.ntmps41
  go_wp2_with fail
  generalize (w.alloc (.cells #[.int .i64 cap, .slice A nn c] 45)).alloc (.cells #[.int .i64 0, .slice none 0 0] 45) = W1 at *
  obtain ⟨g, hg⟩ : ∃ g, w.heap.size = g := ⟨_, rfl⟩
  have hgw : w.heap.size ≤ g := by omega
  rw [hg] at q0 q1 BM BR
  simp only [hg]
  clear hg
  refine (may13_any cap A nn c l mb _ (HS0.out.mono BlkR.mono HB2.out) hn hlen hmb).mono ?_
  rintro e w1 ⟨rfl, hb⟩
  have HB2 := Lib.hid (HB2.out.trans hb)
  have BM := Lib.hid (BM.out.bel hb)
  have BR := Lib.hid (BR.out.bel hb)
  clear hb q0 q1
  have r0 : w1.cell? ⟨g + 1, 0, none⟩ = some (.int .i64 0) := BR.out.cell 0 rfl
  have r1 : w1.cell? ⟨g + 1, 1, none⟩ = some (.slice none 0 0) := BR.out.cell 1 rfl
  have fr0 := BR.out.frozen 0
  have fr1 := BR.out.frozen 1
  have q0 : w1.cell? ⟨g, 0, none⟩ = some (.int .i64 cap) := BM.out.cell 0 rfl
  have q1 : w1.cell? ⟨g, 1, none⟩ = some (.slice A nn c) := BM.out.cell 1 rfl
  have ZERO : ∀ k : Int, Hid (patchM ⟨cap, l⟩ place v = (⟨0, []⟩, k) → (cap' = 0 ∧ l' = [] ∧ e' = k)) := fun k => Lib.hid (fun e => by
    have := hr.out
    rw [e] at this
    simp only [Prod.mk.injEq, MemD.mk.injEq] at this
    exact ⟨this.1.1.symm, this.1.2.symm, this.2.symm⟩)
  cases mb
  · obtain ⟨rfl, rfl, rfl⟩ := (ZERO 1).out (by unfold patchM; rw [if_neg (by rw [hmb.out]; simp)])
    obtain rfl : nl = 0 := by rw [← hnl.out]; rfl
    obtain ⟨e0, e1⟩ := res_two BR.out (.int .i64 0) (.slice none 0 0)
    have E0 := Lib.hid e0
    have E1 := Lib.hid e1
    have HFIN := Lib.hid ((HB2.out.setCell (p := ⟨g + 1, 0, none⟩) (by simp only; omega) (.int .i64 0)).setCell (p := ⟨g + 1, 1, none⟩) (by simp only; omega) (.slice none 0 0))
    clear e0 e1 hr ZERO
    go_wp2_with fail
    refine bodyPost_ret (v := .tuple #[.agg #[.int .i64 0, .slice none 0 0], .int .i64 1]) ?_ rfl ⟨none, 0, rfl, SlS.nil _ _ _ _ (by decide), HFIN.out⟩
    have h1 := E0.out
    have h2 := E1.out
    simp [results, Try.results41, go_sem, h1, h2]
  have HOK : Hid (Ok ⟨cap, l⟩) := Lib.hid (mayM_iff.1 hmb.out)
  go_wp2_with fail
  refine (of_any cap A nn c l place ix _ (HS0.out.mono BlkR.mono HB2.out) hn hix).mono ?_
  rintro e w3 ⟨rfl, hb⟩
  have HB2 := Lib.hid (HB2.out.trans hb)
  have BM := Lib.hid (BM.out.bel hb)
  have BR := Lib.hid (BR.out.bel hb)
  clear hb q0 q1 r0 r1 fr0 fr1
  have r0 : w3.cell? ⟨g + 1, 0, none⟩ = some (.int .i64 0) := BR.out.cell 0 rfl
  have r1 : w3.cell? ⟨g + 1, 1, none⟩ = some (.slice none 0 0) := BR.out.cell 1 rfl
  have fr0 := BR.out.frozen 0
  have fr1 := BR.out.frozen 1
  have q0 : w3.cell? ⟨g, 0, none⟩ = some (.int .i64 cap) := BM.out.cell 0 rfl
  have q1 : w3.cell? ⟨g, 1, none⟩ = some (.slice A nn c) := BM.out.cell 1 rfl
  obtain ⟨bo, hbo⟩ : ∃ bo, Hid (blkOf l place = bo) := ⟨_, Lib.hid rfl⟩
  cases bo with
  | none =>
    obtain rfl : ix = -1 := by rw [← hix.out]; exact HOK.out.of_none hp.out hbo.out
    obtain ⟨rfl, rfl, rfl⟩ := (ZERO 3).out (by unfold patchM; rw [if_pos hmb.out]; simp only [hbo.out])
    obtain rfl : nl = 0 := by rw [← hnl.out]; rfl
    obtain ⟨e0, e1⟩ := res_two BR.out (.int .i64 0) (.slice none 0 0)
    have E0 := Lib.hid e0
    have E1 := Lib.hid e1
    have HFIN := Lib.hid ((HB2.out.setCell (p := ⟨g + 1, 0, none⟩) (by simp only; omega) (.int .i64 0)).setCell (p := ⟨g + 1, 1, none⟩) (by simp only; omega) (.slice none 0 0))
    clear e0 e1 hr ZERO
    go_wp2_with fail
    refine bodyPost_ret (v := .tuple #[.agg #[.int .i64 0, .slice none 0 0], .int .i64 3]) ?_ rfl ⟨none, 0, rfl, SlS.nil _ _ _ _ (by decide), HFIN.out⟩
    have h1 := E0.out
    have h2 := E1.out
    simp [results, Try.results41, go_sem, h1, h2]
  | some i =>
    obtain ⟨hi, hp1, hp2⟩ := (blkOf_some (m := ⟨cap, l⟩) HOK.out).1 hbo.out
    simp only at hi hp1 hp2
    obtain rfl : ix = (i : Int) := by rw [← hix.out]; exact HOK.out.of_some hp.out hbo.out
    obtain ⟨b1, b2, b3, b4⟩ := HOK.out.bounds (i := i) (by simpa using hi)
    simp only at b1 b2 b3 b4
    obtain ⟨kk, hkk⟩ : ∃ kk : Nat, place - (l[i]!).at' = kk := ⟨(place - (l[i]!).at').toNat, by omega⟩
    have HKM : Hid (kk < (l[i]!).w.length) := Lib.hid (by omega)
    have HR : Hid (cap' = cap ∧ l' = l.set i (setB (l[i]!) kk v) ∧ e' = 0) := Lib.hid (by
      have := hr.out
      rw [patchM_eq hmb.out hbo.out, hkk, Int.toNat_natCast] at this
      simp only [Prod.mk.injEq, MemD.mk.injEq] at this
      exact ⟨this.1.1.symm, this.1.2.symm, this.2.symm⟩)
    have eks : IntKind.i64.wrap (place - (l[i]!).at') = (kk : Int) := by rw [wrap_i64 (by omega) (by omega), hkk]
    obtain ⟨rfl, rfl, rfl⟩ := HR.out
    obtain rfl : nl = nn := by rw [← hnl.out, List.length_set, hn.out]
    have hin : i < nl := by rw [← hn.out]; exact hi
    have hin2 : (i : Int) < nl := by omega
    have i0 : 0 ≤ (i : Int) := by omega
    have hneg : ¬ (i : Int) < 0 := by omega
    have HNN : Hid (nl ≤ 1024) := Lib.hid (by have := HOK.out.few; simp only [hn.out] at this; exact this)
    have HIL := Lib.hid hi
    have EKS := Lib.hid eks
    clear hr ZERO hkk hp1 hp2 b1 b2 b3 b4 hi HR eks
    go_wp2_with fail
    refine (own13_any cap' A nl c l _ (HS0.out.mono BlkR.mono HB2.out) hn (by have := HNN.out; omega) hlen).mono ?_
    rintro e w5 ⟨zs0, v0, rfl, hzl, hrz, hb⟩
    have HRZ := Lib.hid (hrz.down HB2.out.size)
    have HZL := Lib.hid hzl
    have HZ0 : Hid (zs0.length = nl) := Lib.hid (by rw [← hn.out, ← HZL.out, List.length_map])
    obtain ⟨A0, c0, rfl⟩ := own_slice hrz.own
    rw [HZ0.out] at HRZ ⊢
    clear hrz hzl
    have HB2 := Lib.hid (HB2.out.trans hb)
    have BM := Lib.hid (BM.out.bel hb)
    have BR := Lib.hid (BR.out.bel hb)
    clear hb q0 q1 r0 r1 fr0 fr1
    have hP5 : g + 1 < w5.heap.size := BR.out.lt
    have KO := Lib.hid (Blk.new w5 45 #[.int .i64 cap', .slice A0 nl c0])
    have HB6 := Lib.hid ((Bel.refl w5).alloc (.cells #[.int .i64 cap', .slice A0 nl c0] 45))
    have HRZ := Lib.hid (HRZ.out.bel HB6.out)
    have HB2 := Lib.hid (HB2.out.trans HB6.out)
    have BM := Lib.hid (BM.out.bel HB6.out)
    have BR := Lib.hid (BR.out.bel HB6.out)
    go_wp2_with fail
    generalize w5.alloc (.cells #[.int .i64 cap', .slice A0 nl c0] 45) = W6 at *
    generalize w5.heap.size = Pb at *
    have hiz : i < zs0.length := by rw [HZ0.out]; exact hin
    have HLI : Hid (l[i]! = zs0[i].1) := Lib.hid (by
      rw [getElem!_pos l i HIL.out]
      have : (zs0.map Prod.fst)[i]? = l[i]? := by rw [HZL.out]
      rw [List.getElem?_map, List.getElem?_eq_getElem hiz, List.getElem?_eq_getElem HIL.out] at this
      simpa using this.symm)
    obtain ⟨D, cD, Ak, ck, hv0, hz2, -, -, d2⟩ := HRZ.out.cells hiz
    obtain ⟨G, cG, hG2, ⟨u0, dk⟩, fk, hGw, hGne, hPat⟩ := HRZ.out.patch hiz (k := kk) (by rw [← HLI.out]; exact HKM.out)
    rw [hz2] at hG2
    obtain ⟨rfl, rfl⟩ : Ak = some ⟨G, 0, none⟩ ∧ ck = cG := by cases hG2; exact ⟨rfl, rfl⟩
    rw [HZ0.out] at hv0
    obtain ⟨rfl, rfl⟩ : A0 = some ⟨D, 0, none⟩ ∧ c0 = cD := by cases hv0; exact ⟨rfl, rfl⟩
    have HPATD := Lib.hid hPat
    clear hPat
    have HMAP : Hid ((zs0.set i (setB zs0[i].1 kk v, zs0[i].2)).map Prod.fst = l.set i (setB (l[i]!) kk v)) := Lib.hid (by rw [List.map_set, HZL.out, HLI.out])
    have HWF : Hid (∀ z ∈ zs0.set i (setB zs0[i].1 kk v, zs0[i].2), BlkWf z.1) := Lib.hid (fun z hz => by
      have hm := List.mem_map_of_mem (f := Prod.fst) hz
      rw [HMAP.out] at hm
      rcases List.mem_or_eq_of_mem_set hm with hm | hm
      · exact sl_bwf HS0.out _ hm
      · rw [hm]
        have h0 := sl_bwf HS0.out (l[i]!) (by rw [getElem!_pos l i HIL.out]; exact List.getElem_mem HIL.out)
        refine ⟨fun j hj => ?_, h0.2.1, h0.2.2⟩
        simp only [setB, List.length_set] at hj ⊢
        rw [List.getD_eq_getElem?_getD, List.getElem?_set]
        by_cases e : kk = j
        · subst e
          rw [if_pos rfl, if_pos hj]
          exact hv.out
        · rw [if_neg e, ← List.getD_eq_getElem?_getD]
          exact h0.1 j hj)
    obtain ⟨b0, o0, rfl⟩ := HS0.out.addr (by rw [hn.out]; omega)
    obtain ⟨Am, cm, -, s1, -, -, -, -⟩ := blk_cells (HS0.out.mono BlkR.mono HB2.out) i HIL.out
    have p1 := KO.out.cell 1 (v := .slice (some ⟨D, 0, none⟩) nl c0) rfl
    have q1 := BM.out.cell 1 (v := .slice (some ⟨b0, o0, none⟩) nl c) rfl
    have hkm := HKM.out
    have hkm2 : (kk : Int) < ((l[i]!).w.length : Int) := by omega
    have kk0 : 0 ≤ (kk : Int) := by omega
    have hGg := hGne _ _ BR.out
    have hGP := hGne _ _ KO.out
    have HGG := Lib.hid hGg
    have HGP := Lib.hid hGP
    rw [HLI.out] at hkm hkm2 EKS s1
    have eks := EKS.out
    clear hGg hGP hv0 hz2 hG2 hGne
    generalize zs0[i] = Z at *
    obtain ⟨lw, hlw⟩ : ∃ lw, Hid (Z.1.w.length = lw) := ⟨_, Lib.hid rfl⟩
    obtain ⟨ta, hta⟩ : ∃ ta, Hid (Z.1.at' = ta) := ⟨_, Lib.hid rfl⟩
    rw [hlw.out] at d2 hkm hkm2
    rw [hta.out] at s1 eks
    have HB7 := Lib.hid ((Bel.refl W6).drew)
    have P0 := fun (w' : World) (h : Bel W6 w') => h.cell p1
    have P1 := fun (w' : World) (h : Bel W6 w') => h.cell q1
    have D2 := fun (w' : World) (h : Bel W6 w') => h.cell d2
    have D1 := fun (w' : World) (h : Bel W6 w') => h.cell s1
    have FK := fun (w' : World) (h : Bel W6 w') => (h.frozen dk).trans fk
    have DK := fun (w' : World) (h : Bel W6 w') => h.cell dk
    have SD := (Bel.refl W6).drew
    clear p1 q1 d2 s1
    refine wp_region_T (fun w' => Bel W6 w') (fun j => j == 16) (by kernel_rfl) ?_
    refine wpAnyU_take (i := 0) (v := ?v0) rfl (by kernel_rfl) (by kernel_rfl) (by kernel_rfl) (by kernel_rfl) (fun _ _ _ h => h) ?hy0 SD ?rest0
    case hy0 => first | (refine Or.inl ⟨by rfl, ?_⟩; (intro w' hSw; go_simp) <;> with_reducible rfl) | (refine Or.inr ⟨by rfl, ?_⟩; with_reducible rfl)
    try simp only [List.getElem_toArray, List.getElem_cons_zero, List.getElem_cons_succ, Act.put, List.setIfInBounds_toArray, List.set_cons_zero, List.set_cons_succ]
    refine wpAnyU_take (i := 1) (v := ?v1) rfl (by kernel_rfl) (by kernel_rfl) (by kernel_rfl) (by kernel_rfl) (fun _ _ _ h => h) ?hy1 SD ?rest1
    case hy1 => first | (refine Or.inl ⟨by rfl, ?_⟩; (intro w' hSw; go_simp) <;> with_reducible rfl) | (refine Or.inr ⟨by rfl, ?_⟩; with_reducible rfl)
    try simp only [List.getElem_toArray, List.getElem_cons_zero, List.getElem_cons_succ, Act.put, List.setIfInBounds_toArray, List.set_cons_zero, List.set_cons_succ]
    refine wpAnyU_take (i := 2) (v := ?v2) rfl (by kernel_rfl) (by kernel_rfl) (by kernel_rfl) (by kernel_rfl) (fun _ _ _ h => h) ?hy2 SD ?rest2
    case hy2 => first | (refine Or.inl ⟨by rfl, ?_⟩; (intro w' hSw; go_simp) <;> with_reducible rfl) | (refine Or.inr ⟨by rfl, ?_⟩; with_reducible rfl)
    try simp only [List.getElem_toArray, List.getElem_cons_zero, List.getElem_cons_succ, Act.put, List.setIfInBounds_toArray, List.set_cons_zero, List.set_cons_succ]
    refine wpAnyU_take (i := 3) (v := ?v3) rfl (by kernel_rfl) (by kernel_rfl) (by kernel_rfl) (by kernel_rfl) (fun _ _ _ h => h) ?hy3 SD ?rest3
    case hy3 => first | (refine Or.inl ⟨by rfl, ?_⟩; (intro w' hSw; go_simp) <;> with_reducible rfl) | (refine Or.inr ⟨by rfl, ?_⟩; with_reducible rfl)
    try simp only [List.getElem_toArray, List.getElem_cons_zero, List.getElem_cons_succ, Act.put, List.setIfInBounds_toArray, List.set_cons_zero, List.set_cons_succ]
    refine wpAnyU_take (i := 4) (v := ?v4) rfl (by kernel_rfl) (by kernel_rfl) (by kernel_rfl) (by kernel_rfl) (fun _ _ _ h => h) ?hy4 SD ?rest4
    case hy4 => first | (refine Or.inl ⟨by rfl, ?_⟩; (intro w' hSw; go_simp) <;> with_reducible rfl) | (refine Or.inr ⟨by rfl, ?_⟩; with_reducible rfl)
    try simp only [List.getElem_toArray, List.getElem_cons_zero, List.getElem_cons_succ, Act.put, List.setIfInBounds_toArray, List.set_cons_zero, List.set_cons_succ]
    refine wpAnyU_take (i := 5) (v := ?v5) rfl (by kernel_rfl) (by kernel_rfl) (by kernel_rfl) (by kernel_rfl) (fun _ _ _ h => h) ?hy5 SD ?rest5
    case hy5 => first | (refine Or.inl ⟨by rfl, ?_⟩; (intro w' hSw; go_simp) <;> with_reducible rfl) | (refine Or.inr ⟨by rfl, ?_⟩; with_reducible rfl)
    try simp only [List.getElem_toArray, List.getElem_cons_zero, List.getElem_cons_succ, Act.put, List.setIfInBounds_toArray, List.set_cons_zero, List.set_cons_succ]
    refine wpAnyU_take (i := 6) (v := ?v6) rfl (by kernel_rfl) (by kernel_rfl) (by kernel_rfl) (by kernel_rfl) (fun _ _ _ h => h) ?hy6 SD ?rest6
    case hy6 => first | (refine Or.inl ⟨by rfl, ?_⟩; (intro w' hSw; go_simp) <;> with_reducible rfl) | (refine Or.inr ⟨by rfl, ?_⟩; with_reducible rfl)
    try simp only [List.getElem_toArray, List.getElem_cons_zero, List.getElem_cons_succ, Act.put, List.setIfInBounds_toArray, List.set_cons_zero, List.set_cons_succ]
    refine wpAnyU_take (i := 7) (v := ?v7) rfl (by kernel_rfl) (by kernel_rfl) (by kernel_rfl) (by kernel_rfl) (fun _ _ _ h => h) ?hy7 SD ?rest7
    case hy7 => first | (refine Or.inl ⟨by rfl, ?_⟩; (intro w' hSw; go_simp) <;> with_reducible rfl) | (refine Or.inr ⟨by rfl, ?_⟩; with_reducible rfl)
    try simp only [List.getElem_toArray, List.getElem_cons_zero, List.getElem_cons_succ, Act.put, List.setIfInBounds_toArray, List.set_cons_zero, List.set_cons_succ]
    refine wpAnyU_take (i := 8) (v := ?v8) rfl (by kernel_rfl) (by kernel_rfl) (by kernel_rfl) (by kernel_rfl) (fun _ _ _ h => h) ?hy8 SD ?rest8
    case hy8 => first | (refine Or.inl ⟨by rfl, ?_⟩; (intro w' hSw; go_simp) <;> with_reducible rfl) | (refine Or.inr ⟨by rfl, ?_⟩; with_reducible rfl)
    try simp only [List.getElem_toArray, List.getElem_cons_zero, List.getElem_cons_succ, Act.put, List.setIfInBounds_toArray, List.set_cons_zero, List.set_cons_succ]
    refine wpAnyU_take (i := 9) (v := ?v9) rfl (by kernel_rfl) (by kernel_rfl) (by kernel_rfl) (by kernel_rfl) (fun _ _ _ h => h) ?hy9 SD ?rest9
    case hy9 => first | (refine Or.inl ⟨by rfl, ?_⟩; (intro w' hSw; go_simp) <;> with_reducible rfl) | (refine Or.inr ⟨by rfl, ?_⟩; with_reducible rfl)
    try simp only [List.getElem_toArray, List.getElem_cons_zero, List.getElem_cons_succ, Act.put, List.setIfInBounds_toArray, List.set_cons_zero, List.set_cons_succ]
    refine wpAnyU_take (i := 10) (v := ?v10) rfl (by kernel_rfl) (by kernel_rfl) (by kernel_rfl) (by kernel_rfl) (fun _ _ _ h => h) ?hy10 SD ?rest10
    case hy10 => first | (refine Or.inl ⟨by rfl, ?_⟩; (intro w' hSw; go_simp) <;> with_reducible rfl) | (refine Or.inr ⟨by rfl, ?_⟩; with_reducible rfl)
    try simp only [List.getElem_toArray, List.getElem_cons_zero, List.getElem_cons_succ, Act.put, List.setIfInBounds_toArray, List.set_cons_zero, List.set_cons_succ]
    refine wpAnyU_take (i := 11) (v := ?v11) rfl (by kernel_rfl) (by kernel_rfl) (by kernel_rfl) (by kernel_rfl) (fun _ _ _ h => h) ?hy11 SD ?rest11
    case hy11 => first | (refine Or.inl ⟨by rfl, ?_⟩; (intro w' hSw; go_simp) <;> with_reducible rfl) | (refine Or.inr ⟨by rfl, ?_⟩; with_reducible rfl)
    try simp only [List.getElem_toArray, List.getElem_cons_zero, List.getElem_cons_succ, Act.put, List.setIfInBounds_toArray, List.set_cons_zero, List.set_cons_succ]
    refine wpAnyU_take (i := 12) (v := ?v12) rfl (by kernel_rfl) (by kernel_rfl) (by kernel_rfl) (by kernel_rfl) (fun _ _ _ h => h) ?hy12 SD ?rest12
    case hy12 => first | (refine Or.inl ⟨by rfl, ?_⟩; (intro w' hSw; go_simp) <;> with_reducible rfl) | (refine Or.inr ⟨by rfl, ?_⟩; with_reducible rfl)
    try simp only [List.getElem_toArray, List.getElem_cons_zero, List.getElem_cons_succ, Act.put, List.setIfInBounds_toArray, List.set_cons_zero, List.set_cons_succ]
    refine wpAnyU_take (i := 13) (v := ?v13) rfl (by kernel_rfl) (by kernel_rfl) (by kernel_rfl) (by kernel_rfl) (fun _ _ _ h => h) ?hy13 SD ?rest13
    case hy13 => first | (refine Or.inl ⟨by rfl, ?_⟩; (intro w' hSw; go_simp) <;> with_reducible rfl) | (refine Or.inr ⟨by rfl, ?_⟩; with_reducible rfl)
    try simp only [List.getElem_toArray, List.getElem_cons_zero, List.getElem_cons_succ, Act.put, List.setIfInBounds_toArray, List.set_cons_zero, List.set_cons_succ]
    refine wpAnyU_take (i := 14) (v := ?v14) rfl (by kernel_rfl) (by kernel_rfl) (by kernel_rfl) (by kernel_rfl) (fun _ _ _ h => h) ?hy14 SD ?rest14
    case hy14 => first | (refine Or.inl ⟨by rfl, ?_⟩; (intro w' hSw; go_simp) <;> with_reducible rfl) | (refine Or.inr ⟨by rfl, ?_⟩; with_reducible rfl)
    try simp only [List.getElem_toArray, List.getElem_cons_zero, List.getElem_cons_succ, Act.put, List.setIfInBounds_toArray, List.set_cons_zero, List.set_cons_succ]
    refine wpAnyU_take (i := 15) (v := ?v15) rfl (by kernel_rfl) (by kernel_rfl) (by kernel_rfl) (by kernel_rfl) (fun _ _ _ h => h) ?hy15 SD ?rest15
    case hy15 => first | (refine Or.inl ⟨by rfl, ?_⟩; (intro w' hSw; go_simp) <;> with_reducible rfl) | (refine Or.inr ⟨by rfl, ?_⟩; with_reducible rfl)
    try simp only [List.getElem_toArray, List.getElem_cons_zero, List.getElem_cons_succ, Act.put, List.setIfInBounds_toArray, List.set_cons_zero, List.set_cons_succ]
    have dk9 := DK _ SD
    have fk9 := FK _ SD
    refine wpAnyT_one (i := 16) (by kernel_rfl) rfl (fun K hK => ?_)
    go_simp
    refine hK.out _ _ (fun h => absurd h (by decide)) ?_
    clear hK K
    try simp only [List.getElem_toArray, List.getElem_cons_zero, List.getElem_cons_succ, Act.put, List.setIfInBounds_toArray, List.set_cons_zero, List.set_cons_succ]
    refine wpAnyT_done (by kernel_rfl) ?_ _
    refine NoPanic.normal ?_
    clear SD P0 P1 D1 D2 FK DK dk9 fk9 dk fk
    have BR7 := Lib.hid ((BR.out.other (p := ⟨G, kk, none⟩) HGG.out (.int .u64 v)).bel (Bel.refl _).drew)
    have KO7 := Lib.hid ((KO.out.other (p := ⟨G, kk, none⟩) HGP.out (.int .u64 v)).bel (Bel.refl _).drew)
    have HB8 := Lib.hid ((HB2.out.setCell (p := ⟨G, kk, none⟩) hGw (.int .u64 v)).drew)
    have HRZ8 := Lib.hid ((HPATD.out v).bel (Bel.refl _).drew)
    clear eks hkm hkm2 kk0
    generalize (W6.setCell ⟨G, kk, none⟩ (.int .u64 v)).drew = W8 at *
    have p0 := KO7.out.cell 0 (v := .int .i64 cap') rfl
    have p1 := KO7.out.cell 1 (v := .slice (some ⟨D, 0, none⟩) nl c0) rfl
    have r0 := BR7.out.cell 0 (v := .int .i64 0) rfl
    have r1 := BR7.out.cell 1 (v := .slice none 0 0) rfl
    have fr0 := BR7.out.frozen 0
    have fr1 := BR7.out.frozen 1
    have HQ : Hid (Blk ((W8.setCell ⟨g + 1, 0, none⟩ (.int .i64 cap')).setCell ⟨g + 1, 1, none⟩ (.slice (some ⟨D, 0, none⟩) nl c0)) (g + 1) 45 #[.int .i64 cap', .slice (some ⟨D, 0, none⟩) nl c0]) := Lib.hid ((BR7.out.set 0 _).set 1 _)
    have HRZ9 := Lib.hid ((HRZ8.out.mem BR7.out 0 (.int .i64 cap')).mem (BR7.out.set 0 (.int .i64 cap')) 1 (.slice (some ⟨D, 0, none⟩) nl c0))
    have HBF := Lib.hid ((HB8.out.setCell (p := ⟨g + 1, 0, none⟩) (by simp only; omega) (.int .i64 cap')).setCell (p := ⟨g + 1, 1, none⟩) (by simp only; omega) (.slice (some ⟨D, 0, none⟩) nl c0))
    have HSL : Hid (SlS w.heap.size ((W8.setCell ⟨g + 1, 0, none⟩ (.int .i64 cap')).setCell ⟨g + 1, 1, none⟩ (.slice (some ⟨D, 0, none⟩) nl c0)) (some ⟨D, 0, none⟩) c0 (l.set i (setB (l[i]!) kk v))) := Lib.hid (by
      obtain ⟨A9, c9, e9, hs9⟩ := HRZ9.out.slS HWF.out
      rw [HMAP.out] at hs9
      cases e9
      exact hs9)
    go_wp2_with fail
    refine bodyPost_ret (v := .tuple #[.agg #[.int .i64 cap', .slice (some ⟨D, 0, none⟩) nl c0], .int .i64 0]) ?_ rfl ⟨_, c0, rfl, HSL.out, HBF.out⟩
    have h1 := HQ.out.cell 0 (v := .int .i64 cap') rfl
    have h2 := HQ.out.cell 1 (v := .slice (some ⟨D, 0, none⟩) nl c0) rfl
    simp [results, Try.results41, go_sem, h1, h2]
end Go.Proofs.Yteopeocgbfdofaa
