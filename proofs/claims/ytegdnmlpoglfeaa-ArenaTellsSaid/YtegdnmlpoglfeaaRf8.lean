/- The document's Drop (chapter 13) by its contract: it is what arena's is. -/
import Derived.Test.YtegdnmlpoglfeaaRf7
set_option linter.unusedVariables false
set_option linter.unusedSimpArgs false
namespace Go.Proofs.Ytegdnmlpoglfeaa
open Go.RowKit

theorem bz_take : ∀ (zs : List (BlkD × Value)) (i : Nat), (zs.flatMap bz).take (i * 3) = (zs.take i).flatMap bz
  | [], i => by simp
  | z :: zs, 0 => by simp
  | z :: zs, i + 1 => by
    rw [List.take_succ_cons, List.flatMap_cons, List.flatMap_cons, List.take_append, bz_len, show (i + 1) * 3 - 3 = i * 3 by omega, bz_take zs i, List.take_of_length_le (by rw [bz_len]; omega)]
theorem bz_drop : ∀ (zs : List (BlkD × Value)) (i : Nat), (zs.flatMap bz).drop (i * 3) = (zs.drop i).flatMap bz
  | [], i => by simp
  | z :: zs, 0 => by simp
  | z :: zs, i + 1 => by
    rw [List.drop_succ_cons, List.flatMap_cons, List.drop_append, bz_len, show (i + 1) * 3 - 3 = i * 3 by omega, bz_drop zs i, List.drop_eq_nil_of_le (by rw [bz_len]; omega), List.nil_append]
/-- 'append(l[:i], l[i+1:]...)', in place. -/
theorem app_drop (ty : TypeId) {X : World} {N D c n i : Nat} {zs : List (BlkD × Value)} (h : RowZ N zs (.slice (some ⟨D, 0, none⟩) n c) X) (hl : zs.length = n) (hi : i < n) (hn : n ≤ 4096) (hb : N ≤ X.heap.size) :
    ∃ v' w', (Builtin.append_ #[24, 24] ty #[.slice (some ⟨D, 0, none⟩) i c, .slice (if c = i + 1 then some ⟨D, 0, none⟩ else some ⟨D, (i + 1) * 3, none⟩) (n - (i + 1)) (c - (i + 1))]).run Try.prog X = .ok v' w' ∧ w'.ownsRow N 33 3 v' (n - 1) ((zs.take i ++ zs.drop (i + 1)).flatMap bz) ∧ X.grownBy w' (some D) ∧ ∃ A' c', v' = .slice A' (n - 1) c' := by
  have ho := h.own
  rw [hl] at ho
  have h0 : X.ownsRow N 33 3 (.slice (some ⟨D, 0, none⟩) i c) i ((zs.take i).flatMap bz) := by
    refine ⟨by rw [flat_len bz 3 bz_len, List.length_take]; omega, ?_⟩
    rcases ho.2 with ⟨e, _⟩ | ⟨g', cap, cur, e, h1, h2, h3, h4, h5, h6⟩
    · cases e
    · simp only [Value.slice.injEq, Option.some.injEq, Addr.mk.injEq, and_true, true_and] at e
      obtain ⟨rfl, rfl⟩ := e
      refine .inr ⟨D, c, cur, rfl, h1, h2, by omega, h4, h5, ?_⟩
      rw [← bz_take, ← h6, List.take_take, Nat.min_eq_left (by omega)]
  obtain ⟨ad, had, hcl⟩ : ∃ ad, (if c = i + 1 then some (⟨D, 0, none⟩ : Addr) else some ⟨D, (i + 1) * 3, none⟩) = some ad ∧ ∀ j u, ((zs.drop (i + 1)).flatMap bz)[j]? = some u → X.cell? (ad.add j) = some u := by
    rcases own_openK ho with ⟨e, _⟩ | ⟨g, c9, e, -, -, hc1, -, -, hcl⟩
    · cases e
    · simp only [Value.slice.injEq, Option.some.injEq, Addr.mk.injEq, and_true, true_and] at e
      obtain ⟨rfl, rfl⟩ := e
      by_cases hc : c = i + 1
      · rw [if_pos hc]
        refine ⟨_, rfl, fun j u hu => ?_⟩
        rw [List.drop_eq_nil_of_le (by omega)] at hu
        simp at hu
      · rw [if_neg hc]
        refine ⟨_, rfl, fun j u hu => ?_⟩
        rw [Addr.add_lit]
        rw [← bz_drop, List.getElem?_drop] at hu
        exact hcl _ _ hu
  rw [had]
  obtain ⟨i0, hi0, hzz⟩ := Option.map_eq_some_iff.1 info_Block
  simp only [Prod.mk.injEq] at hzz
  obtain ⟨hz0, hz1, hz2⟩ := hzz
  obtain ⟨v', w', hr, h2, h3, _, h5⟩ := run_append_own_at (P := Try.prog) X N _ ty 33 i0 _ 3 40 Try.underlying24 hi0 hz0 hz1 hz2 rfl (by decide) _ i _ h0 ad (n - (i + 1)) (c - (i + 1)) ((zs.drop (i + 1)).flatMap bz) (by rw [flat_len bz 3 bz_len, List.length_drop, hl]) hcl (fun u hu => by
    obtain ⟨z, hz, hu⟩ := List.mem_flatMap.1 hu
    obtain ⟨A9, c9, e9⟩ := own_slice (h.words z (List.mem_of_mem_drop hz))
    unfold bz at hu
    rw [e9] at hu
    exact blk3_one _ _ _ _ _ u hu) (by simp only [maxLen]; omega) (by omega) hb
  rw [show i + (n - (i + 1)) = n - 1 by omega, ← List.flatMap_append] at h2
  exact ⟨v', w', hr, h2, h3, own_slice h2⟩

set_option maxHeartbeats 8000000 in
set_option maxRecDepth 100000 in
theorem drop13_any (cap : Int) (A : Option Addr) (nn c : Nat) (l : List BlkD) (id : Int) (w : World) (h : Sl BlkR 3 w A c l) (hn : Hid (l.length = nn)) (hlen : Hid (∀ i, i < l.length → (l[i]!).w.length ≤ 4000)) (cap' : Int) (l' : List BlkD) (nl : Nat) (e' : Int) (hr : Hid (dropM ⟨cap, l⟩ id = (⟨cap', l'⟩, e'))) (hnl : Hid (l'.length = nl)) :
    Calls Try.prog 22 #[.agg #[.int .i64 cap, .slice A nn c], .int .i64 id] w fun e w' => ∃ A' c', e = .returned (.tuple #[.agg #[.int .i64 cap', .slice A' nl c'], .int .i64 e']) ∧ SlS w.heap.size w' A' c' l' ∧ Bel w w' := by
  have HS0 := Lib.hid h
  clear h
  obtain ⟨mb, hmb⟩ : ∃ mb, Hid (mayM ⟨cap, l⟩ = mb) := ⟨_, Lib.hid rfl⟩
  obtain ⟨ix, hix⟩ : ∃ ix, Hid (idxR l id = ix) := ⟨_, Lib.hid rfl⟩
  have BM := (Blk.new w 26 #[.int .i64 cap, .slice A nn c]).alloc (.cells #[.int .i64 0, .slice none 0 0] 26)
  have BR := Blk.new (w.alloc (.cells #[.int .i64 cap, .slice A nn c] 26)) 26 #[.int .i64 0, .slice none 0 0]
  rw [World.size_alloc] at BR
  have HB2 := Lib.hid (((Bel.refl w).alloc (.cells #[.int .i64 cap, .slice A nn c] 26)).alloc (.cells #[.int .i64 0, .slice none 0 0] 26))
  have q0 := BM.cell 0 (v := .int .i64 cap) rfl
  have q1 := BM.cell 1 (v := .slice A nn c) rfl
  have BM := Lib.hid BM
  have BR := Lib.hid BR
  go_enter Try.func22, Try.ntmps22
  go_wp2_with fail
  generalize (w.alloc (.cells #[.int .i64 cap, .slice A nn c] 26)).alloc (.cells #[.int .i64 0, .slice none 0 0] 26) = W1 at *
  obtain ⟨g, hg⟩ : ∃ g, w.heap.size = g := ⟨_, rfl⟩
  have hgw : w.heap.size ≤ g := by omega
  rw [hg] at q0 q1 BM BR
  simp only [hg]
  clear hg
  refine (may13_any cap A nn c l mb _ (HS0.out.mono BlkR.mono HB2.out) hn hlen hmb).mono ?_
  rintro e w1 ⟨rfl, hb⟩
  have HB2 := Lib.hid (HB2.out.trans hb)
  have BM := Lib.hid (BM.out.bel hb)
  have BR := Lib.hid (BR.out.bel hb)
  clear hb q0 q1
  have r0 : w1.cell? ⟨g + 1, 0, none⟩ = some (.int .i64 0) := BR.out.cell 0 rfl
  have r1 : w1.cell? ⟨g + 1, 1, none⟩ = some (.slice none 0 0) := BR.out.cell 1 rfl
  have fr0 := BR.out.frozen 0
  have fr1 := BR.out.frozen 1
  have q0 : w1.cell? ⟨g, 0, none⟩ = some (.int .i64 cap) := BM.out.cell 0 rfl
  have q1 : w1.cell? ⟨g, 1, none⟩ = some (.slice A nn c) := BM.out.cell 1 rfl
  have ZERO : ∀ k : Int, Hid (dropM ⟨cap, l⟩ id = (⟨0, []⟩, k) → (cap' = 0 ∧ l' = [] ∧ e' = k)) := fun k => Lib.hid (fun e => by
    have := hr.out
    rw [e] at this
    simp only [Prod.mk.injEq, MemD.mk.injEq] at this
    exact ⟨this.1.1.symm, this.1.2.symm, this.2.symm⟩)
  cases mb
  · obtain ⟨rfl, rfl, rfl⟩ := (ZERO 1).out (by unfold dropM; rw [if_neg (by rw [hmb.out]; simp)])
    obtain rfl : nl = 0 := by rw [← hnl.out]; rfl
    obtain ⟨e0, e1⟩ := res_two BR.out (.int .i64 0) (.slice none 0 0)
    have E0 := Lib.hid e0
    have E1 := Lib.hid e1
    have HFIN := Lib.hid ((HB2.out.setCell (p := ⟨g + 1, 0, none⟩) (by simp only; omega) (.int .i64 0)).setCell (p := ⟨g + 1, 1, none⟩) (by simp only; omega) (.slice none 0 0))
    clear e0 e1 hr ZERO
    go_wp2_with fail
    refine bodyPost_ret (v := .tuple #[.agg #[.int .i64 0, .slice none 0 0], .int .i64 1]) ?_ rfl ⟨none, 0, rfl, SlS.nil _ _ _ _ (by decide), HFIN.out⟩
    have h1 := E0.out
    have h2 := E1.out
    simp [results, Try.results22, go_sem, h1, h2]
  have HOK : Hid (Ok ⟨cap, l⟩) := Lib.hid (mayM_iff.1 hmb.out)
  go_wp2_with fail
  refine (find13_any cap A nn c l id ix _ (HS0.out.mono BlkR.mono HB2.out) hn hix).mono ?_
  rintro e w3 ⟨rfl, hb⟩
  have HB2 := Lib.hid (HB2.out.trans hb)
  have BM := Lib.hid (BM.out.bel hb)
  have BR := Lib.hid (BR.out.bel hb)
  clear hb q0 q1 r0 r1 fr0 fr1
  have r0 : w3.cell? ⟨g + 1, 0, none⟩ = some (.int .i64 0) := BR.out.cell 0 rfl
  have r1 : w3.cell? ⟨g + 1, 1, none⟩ = some (.slice none 0 0) := BR.out.cell 1 rfl
  have fr0 := BR.out.frozen 0
  have fr1 := BR.out.frozen 1
  have q0 : w3.cell? ⟨g, 0, none⟩ = some (.int .i64 cap) := BM.out.cell 0 rfl
  have q1 : w3.cell? ⟨g, 1, none⟩ = some (.slice A nn c) := BM.out.cell 1 rfl
  rcases idxR_range l id with hneg | ⟨i, hie, hi⟩
  · rw [hix.out] at hneg
    have HNG := Lib.hid hneg
    obtain ⟨rfl, rfl, rfl⟩ := (ZERO 3).out (by unfold dropM; rw [if_pos hmb.out, if_pos (by simp only; rw [hix.out]; exact HNG.out)])
    obtain rfl : nl = 0 := by rw [← hnl.out]; rfl
    obtain ⟨e0, e1⟩ := res_two BR.out (.int .i64 0) (.slice none 0 0)
    have E0 := Lib.hid e0
    have E1 := Lib.hid e1
    have HFIN := Lib.hid ((HB2.out.setCell (p := ⟨g + 1, 0, none⟩) (by simp only; omega) (.int .i64 0)).setCell (p := ⟨g + 1, 1, none⟩) (by simp only; omega) (.slice none 0 0))
    clear e0 e1 hr ZERO
    go_wp2_with fail
    refine bodyPost_ret (v := .tuple #[.agg #[.int .i64 0, .slice none 0 0], .int .i64 3]) ?_ rfl ⟨none, 0, rfl, SlS.nil _ _ _ _ (by decide), HFIN.out⟩
    have h1 := E0.out
    have h2 := E1.out
    simp [results, Try.results22, go_sem, h1, h2]
  · obtain rfl : ix = (i : Int) := by rw [← hix.out]; exact hie
    have HR : Hid (cap' = cap ∧ l' = del l i ∧ e' = 0) := Lib.hid (by
      have := hr.out
      unfold dropM at this
      rw [if_pos hmb.out, if_neg (by simp only [hie]; omega)] at this
      simp only [hie, Prod.mk.injEq, MemD.mk.injEq, Int.toNat_natCast] at this
      exact ⟨this.1.1.symm, this.1.2.symm, this.2.symm⟩)
    obtain ⟨rfl, rfl, rfl⟩ := HR.out
    obtain rfl : nl = nn - 1 := by rw [← hnl.out, del_length hi, hn.out]
    have hin : i < nn := by rw [← hn.out]; exact hi
    have hin2 : (i : Int) < nn := by omega
    have i0 : 0 ≤ (i : Int) := by omega
    have hneg : ¬ (i : Int) < 0 := by omega
    have HNN : Hid (nn ≤ 1024) := Lib.hid (by have := HOK.out.few; simp only [hn.out] at this; exact this)
    have HIL := Lib.hid hi
    clear hr ZERO hie hi HR
    go_wp2_with fail
    refine (own13_any cap' A nn c l _ (HS0.out.mono BlkR.mono HB2.out) hn (by have := HNN.out; omega) hlen).mono ?_
    rintro e w5 ⟨zs0, v0, rfl, hzl, hrz, hb⟩
    have HRZ := Lib.hid (hrz.down HB2.out.size)
    have HZL := Lib.hid hzl
    have HZ0 : Hid (zs0.length = nn) := Lib.hid (by rw [← hn.out, ← HZL.out, List.length_map])
    obtain ⟨A0, c0, rfl⟩ := own_slice hrz.own
    rw [HZ0.out] at HRZ ⊢
    clear hrz hzl
    have HB2 := Lib.hid (HB2.out.trans hb)
    have BM := Lib.hid (BM.out.bel hb)
    have BR := Lib.hid (BR.out.bel hb)
    clear hb q0 q1 r0 r1 fr0 fr1
    have hP5 : g + 1 < w5.heap.size := BR.out.lt
    have KO := Lib.hid (Blk.new w5 26 #[.int .i64 cap', .slice A0 nn c0])
    have HB6 := Lib.hid ((Bel.refl w5).alloc (.cells #[.int .i64 cap', .slice A0 nn c0] 26))
    have HRZ := Lib.hid (HRZ.out.bel HB6.out)
    have HB2 := Lib.hid (HB2.out.trans HB6.out)
    have BM := Lib.hid (BM.out.bel HB6.out)
    have BR := Lib.hid (BR.out.bel HB6.out)
    go_wp2_with fail
    generalize w5.alloc (.cells #[.int .i64 cap', .slice A0 nn c0] 26) = W6 at *
    generalize w5.heap.size = Pb at *
    obtain ⟨D, cD, Ak, ck, hv0, -, -, -, -⟩ := HRZ.out.cells (i := i) (by rw [HZ0.out]; exact hin)
    rw [HZ0.out] at hv0
    obtain ⟨rfl, rfl⟩ : A0 = some ⟨D, 0, none⟩ ∧ c0 = cD := by cases hv0; exact ⟨rfl, rfl⟩
    have hnc : nn ≤ c0 ∧ c0 ≤ maxLen := by
      rcases own_openK HRZ.out.own with ⟨e, _⟩ | ⟨g9, c9, e, -, -, hc1, hc2, -, -⟩
      · cases e
      · simp only [Value.slice.injEq, Option.some.injEq, Addr.mk.injEq, and_true, true_and] at e
        obtain ⟨rfl, -, rfl⟩ := e
        rw [HZ0.out] at hc1
        exact ⟨hc1, hc2⟩
    simp only [maxLen] at hnc
    have HNC := Lib.hid hnc
    have t1 : (i : Int) ≤ nn := by omega
    have t2 : (nn : Int) ≤ c0 := by omega
    have t3 : (i : Int) ≤ c0 := by omega
    have t4 : (i : Int) + 1 ≤ nn := by omega
    have t5 : 0 ≤ (i : Int) + 1 := by omega
    have ek : IntKind.i64.wrap ((i : Int) + 1) = (i : Int) + 1 := wrap_i64 (by omega) (by have := HNN.out; omega)
    have HDL : Hid ((zs0.take i ++ zs0.drop (i + 1)).map Prod.fst = del l i) := Lib.hid (by rw [List.map_append, List.map_take, List.map_drop, HZL.out]; rfl)
    have HDN : Hid ((zs0.take i ++ zs0.drop (i + 1)).length = nn - 1) := Lib.hid (by rw [List.length_append, List.length_take, List.length_drop, HZ0.out]; omega)
    have HWF : Hid (∀ z ∈ zs0.take i ++ zs0.drop (i + 1), BlkWf z.1) := Lib.hid (fun z hz => by
      have hm : z ∈ zs0 := by
        rcases List.mem_append.1 hz with h | h
        · exact List.mem_of_mem_take h
        · exact List.mem_of_mem_drop h
      have := List.mem_map_of_mem (f := Prod.fst) hm
      rw [HZL.out] at this
      exact sl_bwf HS0.out _ this)
    clear hv0 hnc
    have HRD := Lib.hid (HRZ.out.bel (Bel.refl W6).drew)
    have KOD := Lib.hid (KO.out.bel (Bel.refl W6).drew)
    have BRD := Lib.hid (BR.out.bel (Bel.refl W6).drew)
    have HBD := Lib.hid (HB2.out.drew)
    have SD : Thr ⟨Pb, 1, none⟩ ⟨Pb, 1, none⟩ ⟨Pb, 1, none⟩ (.slice (some ⟨D, 0, none⟩) nn c0) (.slice (some ⟨D, 0, none⟩) nn c0) (.slice (some ⟨D, 0, none⟩) nn c0) W6.drew := ⟨KOD.out.cell 1 rfl, KOD.out.cell 1 rfl, KOD.out.cell 1 rfl, KOD.out.frozen 1⟩
    have P0 := fun (w' : World) (h : Thr ⟨Pb, 1, none⟩ ⟨Pb, 1, none⟩ ⟨Pb, 1, none⟩ (.slice (some ⟨D, 0, none⟩) nn c0) (.slice (some ⟨D, 0, none⟩) nn c0) (.slice (some ⟨D, 0, none⟩) nn c0) w') => h.c1
    have P1 := fun (w' : World) (h : Thr ⟨Pb, 1, none⟩ ⟨Pb, 1, none⟩ ⟨Pb, 1, none⟩ (.slice (some ⟨D, 0, none⟩) nn c0) (.slice (some ⟨D, 0, none⟩) nn c0) (.slice (some ⟨D, 0, none⟩) nn c0) w') => h.f1
    refine wp_region_T (fun w' => Thr ⟨Pb, 1, none⟩ ⟨Pb, 1, none⟩ ⟨Pb, 1, none⟩ (.slice (some ⟨D, 0, none⟩) nn c0) (.slice (some ⟨D, 0, none⟩) nn c0) (.slice (some ⟨D, 0, none⟩) nn c0) w') (fun j => j == 11) (by kernel_rfl) ?_
    refine wpAnyU_take (i := 0) (v := ?v0) rfl (by kernel_rfl) (by kernel_rfl) (by kernel_rfl) (by kernel_rfl) (fun _ _ _ h => h) ?hy0 SD ?rest0
    case hy0 => first | (refine Or.inl ⟨by rfl, ?_⟩; (intro w' hSw; go_simp) <;> with_reducible rfl) | (refine Or.inr ⟨by rfl, ?_⟩; with_reducible rfl)
    try simp only [List.getElem_toArray, List.getElem_cons_zero, List.getElem_cons_succ, Act.put, List.setIfInBounds_toArray, List.set_cons_zero, List.set_cons_succ]
    refine wpAnyU_take (i := 1) (v := ?v1) rfl (by kernel_rfl) (by kernel_rfl) (by kernel_rfl) (by kernel_rfl) (fun _ _ _ h => h) ?hy1 SD ?rest1
    case hy1 => first | (refine Or.inl ⟨by rfl, ?_⟩; (intro w' hSw; go_simp) <;> with_reducible rfl) | (refine Or.inr ⟨by rfl, ?_⟩; with_reducible rfl)
    try simp only [List.getElem_toArray, List.getElem_cons_zero, List.getElem_cons_succ, Act.put, List.setIfInBounds_toArray, List.set_cons_zero, List.set_cons_succ]
    refine wpAnyU_take (i := 2) (v := ?v2) rfl (by kernel_rfl) (by kernel_rfl) (by kernel_rfl) (by kernel_rfl) (fun _ _ _ h => h) ?hy2 SD ?rest2
    case hy2 => first | (refine Or.inl ⟨by rfl, ?_⟩; (intro w' hSw; go_simp) <;> with_reducible rfl) | (refine Or.inr ⟨by rfl, ?_⟩; with_reducible rfl)
    try simp only [List.getElem_toArray, List.getElem_cons_zero, List.getElem_cons_succ, Act.put, List.setIfInBounds_toArray, List.set_cons_zero, List.set_cons_succ]
    refine wpAnyU_take (i := 3) (v := ?v3) rfl (by kernel_rfl) (by kernel_rfl) (by kernel_rfl) (by kernel_rfl) (fun _ _ _ h => h) ?hy3 SD ?rest3
    case hy3 => first | (refine Or.inl ⟨by rfl, ?_⟩; (intro w' hSw; go_simp) <;> with_reducible rfl) | (refine Or.inr ⟨by rfl, ?_⟩; with_reducible rfl)
    try simp only [List.getElem_toArray, List.getElem_cons_zero, List.getElem_cons_succ, Act.put, List.setIfInBounds_toArray, List.set_cons_zero, List.set_cons_succ]
    refine wpAnyU_take (i := 4) (v := ?v4) rfl (by kernel_rfl) (by kernel_rfl) (by kernel_rfl) (by kernel_rfl) (fun _ _ _ h => h) ?hy4 SD ?rest4
    case hy4 => first | (refine Or.inl ⟨by rfl, ?_⟩; (intro w' hSw; go_simp) <;> with_reducible rfl) | (refine Or.inr ⟨by rfl, ?_⟩; with_reducible rfl)
    try simp only [List.getElem_toArray, List.getElem_cons_zero, List.getElem_cons_succ, Act.put, List.setIfInBounds_toArray, List.set_cons_zero, List.set_cons_succ]
    refine wpAnyU_take (i := 5) (v := ?v5) rfl (by kernel_rfl) (by kernel_rfl) (by kernel_rfl) (by kernel_rfl) (fun _ _ _ h => h) ?hy5 SD ?rest5
    case hy5 => first | (refine Or.inl ⟨by rfl, ?_⟩; (intro w' hSw; go_simp) <;> with_reducible rfl) | (refine Or.inr ⟨by rfl, ?_⟩; with_reducible rfl)
    try simp only [List.getElem_toArray, List.getElem_cons_zero, List.getElem_cons_succ, Act.put, List.setIfInBounds_toArray, List.set_cons_zero, List.set_cons_succ]
    refine wpAnyU_take (i := 6) (v := ?v6) rfl (by kernel_rfl) (by kernel_rfl) (by kernel_rfl) (by kernel_rfl) (fun _ _ _ h => h) ?hy6 SD ?rest6
    case hy6 => first | (refine Or.inl ⟨by rfl, ?_⟩; (intro w' hSw; go_simp) <;> with_reducible rfl) | (refine Or.inr ⟨by rfl, ?_⟩; with_reducible rfl)
    try simp only [List.getElem_toArray, List.getElem_cons_zero, List.getElem_cons_succ, Act.put, List.setIfInBounds_toArray, List.set_cons_zero, List.set_cons_succ]
    refine wpAnyU_take (i := 7) (v := ?v7) rfl (by kernel_rfl) (by kernel_rfl) (by kernel_rfl) (by kernel_rfl) (fun _ _ _ h => h) ?hy7 SD ?rest7
    case hy7 => first | (refine Or.inl ⟨by rfl, ?_⟩; (intro w' hSw; go_simp) <;> with_reducible rfl) | (refine Or.inr ⟨by rfl, ?_⟩; with_reducible rfl)
    try simp only [List.getElem_toArray, List.getElem_cons_zero, List.getElem_cons_succ, Act.put, List.setIfInBounds_toArray, List.set_cons_zero, List.set_cons_succ]
    refine wpAnyU_take (i := 8) (v := ?v8) rfl (by kernel_rfl) (by kernel_rfl) (by kernel_rfl) (by kernel_rfl) (fun _ _ _ h => h) ?hy8 SD ?rest8
    case hy8 => first | (refine Or.inl ⟨by rfl, ?_⟩; (intro w' hSw; go_simp) <;> with_reducible rfl) | (refine Or.inr ⟨by rfl, ?_⟩; with_reducible rfl)
    try simp only [List.getElem_toArray, List.getElem_cons_zero, List.getElem_cons_succ, Act.put, List.setIfInBounds_toArray, List.set_cons_zero, List.set_cons_succ]
    refine wpAnyT_one (i := 9) (by kernel_rfl) rfl (fun K hK => ?_)
    refine step_append_run (by rfl) _ _ _ (by rfl) (.slice (some ⟨D, 0, none⟩) i c0) (.slice (if c0 = i + 1 then some ⟨D, 0, none⟩ else some ⟨D, (i + 1) * 3, none⟩) (nn - (i + 1)) (c0 - (i + 1))) (by rfl) (by rfl) _ (app_drop _ HRD.out HZ0.out hin (by have := HNN.out; omega) HBD.out.size) ?_
    rintro v8 w8 ⟨ho8, hg8, A8, c8, hv8⟩
    subst hv8
    have HO8 := Lib.hid ho8
    have HG8 := Lib.hid hg8
    have k2 := blk_grown KOD.out HRD.out.own (by decide) hg8
    have S8 : Thr ⟨Pb, 1, none⟩ ⟨Pb, 1, none⟩ ⟨Pb, 1, none⟩ (.slice (some ⟨D, 0, none⟩) nn c0) (.slice (some ⟨D, 0, none⟩) nn c0) (.slice (some ⟨D, 0, none⟩) nn c0) w8 := ⟨k2.cell 1 rfl, k2.cell 1 rfl, k2.cell 1 rfl, k2.frozen 1⟩
    clear ho8 hg8 k2
    refine hK.out _ _ (fun _ => S8) ?_
    clear hK K
    try simp only [List.getElem_toArray, List.getElem_cons_zero, List.getElem_cons_succ, Act.put, List.setIfInBounds_toArray, List.set_cons_zero, List.set_cons_succ]
    refine wpAnyU_take (i := 10) (v := ?v10) rfl (by kernel_rfl) (by kernel_rfl) (by kernel_rfl) (by kernel_rfl) (fun _ _ _ h => h) ?hy10 S8 ?rest10
    case hy10 => first | (refine Or.inl ⟨by rfl, ?_⟩; (intro w' hSw; go_simp) <;> with_reducible rfl) | (refine Or.inr ⟨by rfl, ?_⟩; with_reducible rfl)
    try simp only [List.getElem_toArray, List.getElem_cons_zero, List.getElem_cons_succ, Act.put, List.setIfInBounds_toArray, List.set_cons_zero, List.set_cons_succ]
    refine wpAnyT_one (i := 11) (by kernel_rfl) rfl (fun K hK => ?_)
    go_simp
    refine hK.out _ _ (fun h => absurd h (by decide)) ?_
    clear hK K
    try simp only [List.getElem_toArray, List.getElem_cons_zero, List.getElem_cons_succ, Act.put, List.setIfInBounds_toArray, List.set_cons_zero, List.set_cons_succ]
    refine wpAnyT_done (by kernel_rfl) ?_ _
    refine NoPanic.normal ?_
    clear SD S8 P0 P1 t1 t2 t3 t4 t5 ek
    have KO8 := Lib.hid (blk_grown KOD.out HRD.out.own (by decide) HG8.out)
    have BR8 := Lib.hid ((blk_grown BRD.out HRD.out.own (by decide) HG8.out).other (p := ⟨Pb, 1, none⟩) (by simp only; omega) (.slice A8 (nn - 1) c8))
    have KO9 := Lib.hid (KO8.out.set 1 (.slice A8 (nn - 1) c8))
    have HB8 := Lib.hid ((row_low HRD.out.own w (Nat.le_refl _) HBD.out HG8.out).setCell (p := ⟨Pb, 1, none⟩) (by simp only; omega) (.slice A8 (nn - 1) c8))
    have HO9 := Lib.hid (own_put HO8.out KO8.out (by decide) 1 (.slice A8 (nn - 1) c8))
    have HD9 : Hid (∀ z ∈ zs0.take i ++ zs0.drop (i + 1), (w8.setCell ⟨Pb, 1, none⟩ (.slice A8 (nn - 1) c8)).ownsRow w.heap.size 40 1 z.2 z.1.w.length (u64s z.1.w)) := Lib.hid (fun z hz => by
      have hm : z ∈ zs0 := by
        rcases List.mem_append.1 hz with h | h
        · exact List.mem_of_mem_take h
        · exact List.mem_of_mem_drop h
      exact own_put (own_grown (HRD.out.words z hm) HRD.out.own (by decide) HG8.out) KO8.out (by decide) 1 _)
    generalize w8.setCell ⟨Pb, 1, none⟩ (.slice A8 (nn - 1) c8) = W8 at *
    have p0 := KO9.out.cell 0 (v := .int .i64 cap') rfl
    have p1 := KO9.out.cell 1 (v := .slice A8 (nn - 1) c8) rfl
    have r0 := BR8.out.cell 0 (v := .int .i64 0) rfl
    have r1 := BR8.out.cell 1 (v := .slice none 0 0) rfl
    have fr0 := BR8.out.frozen 0
    have fr1 := BR8.out.frozen 1
    have HQ : Hid (Blk ((W8.setCell ⟨g + 1, 0, none⟩ (.int .i64 cap')).setCell ⟨g + 1, 1, none⟩ (.slice A8 (nn - 1) c8)) (g + 1) 26 #[.int .i64 cap', .slice A8 (nn - 1) c8]) := Lib.hid ((BR8.out.set 0 _).set 1 _)
    have HBF := Lib.hid ((HB8.out.setCell (p := ⟨g + 1, 0, none⟩) (by simp only; omega) (.int .i64 cap')).setCell (p := ⟨g + 1, 1, none⟩) (by simp only; omega) (.slice A8 (nn - 1) c8))
    have HSL : Hid (SlS w.heap.size ((W8.setCell ⟨g + 1, 0, none⟩ (.int .i64 cap')).setCell ⟨g + 1, 1, none⟩ (.slice A8 (nn - 1) c8)) A8 c8 (del l i)) := Lib.hid (by
      have k1 := own_put (own_put HO9.out BR8.out (by decide) 0 (.int .i64 cap')) (BR8.out.set 0 (.int .i64 cap')) (by decide) 1 (.slice A8 (nn - 1) c8)
      have k2 := fun z hz => own_put (own_put (HD9.out z hz) BR8.out (by decide) 0 (.int .i64 cap')) (BR8.out.set 0 (.int .i64 cap')) (by decide) 1 (.slice A8 (nn - 1) c8)
      obtain ⟨A9, c9, e9, hs9⟩ := rowY_slS (zs := zs0.take i ++ zs0.drop (i + 1)) (v := .slice A8 (nn - 1) c8) (by rw [HDN.out]; exact k1) k2 HWF.out
      rw [HDL.out] at hs9
      rw [HDN.out] at e9
      cases e9
      exact hs9)
    go_wp2_with fail
    all_goals (
      refine bodyPost_ret (v := .tuple #[.agg #[.int .i64 cap', .slice A8 (nn - 1) c8], .int .i64 0]) ?_ rfl ⟨A8, c8, rfl, HSL.out, HBF.out⟩
      have h1 := HQ.out.cell 0 (v := .int .i64 cap') rfl
      have h2 := HQ.out.cell 1 (v := .slice A8 (nn - 1) c8) rfl
      simp [results, Try.results22, go_sem, h1, h2])
end Go.Proofs.Ytegdnmlpoglfeaa
