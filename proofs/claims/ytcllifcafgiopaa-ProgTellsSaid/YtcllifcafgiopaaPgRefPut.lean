/- The document's Put by its contract: it is what prog's is. -/
import Derived.Test.YtcllifcafgiopaaPgRef2
import Derived.Test.YtcllifcafgiopaaPgOwn
import Derived.Test.YtcllifcafgiopaaHeldU
set_option linter.unusedVariables false
set_option linter.unusedSimpArgs false
namespace Go.Proofs.Ytcllifcafgiopaa
open Go.RowKit

/-- The bytes up to function i. -/
def pre (L : List FnD) (i : Nat) : List Int := [88, 86, (L.length : Int)] ++ (L.take i).flatMap FnD.bytes
theorem pre_len {L : List FnD} (h : progMay L = true) (i : Nat) : (pre L i).length ≤ 4200 := by
  have hL := progMay_iff.1 h
  have h1 := fns_le (L.take i) (fun f hf => by
    obtain ⟨j, hj, rfl⟩ := List.mem_iff_getElem.1 (List.mem_of_mem_take hf)
    exact hL.fine j hj)
  have h2 : (L.take i).length ≤ 8 := by rw [List.length_take]; have := hL.n8; omega
  unfold pre
  simp only [List.length_append, List.length_cons, List.length_nil]
  omega
theorem pre_succ (L : List FnD) {i : Nat} (hi : i < L.length) : pre L (i + 1) = pre L i ++ [(L[i]).args, ((L[i]).code.length : Int)] ++ (L[i]).code.flatMap InstD.put := by
  unfold pre
  rw [fns_take L hi]
  simp [FnD.bytes]
/-- What the loops know of the bytes. -/
structure RPut (W1 : World) (base : Nat) (bs : List Int) (v : Value) (X : World) : Prop where
  bel : Bel W1 X
  own : X.ownsRow base 5 1 v bs.length (u8s bs)
  sz : base ≤ X.heap.size
theorem RPut.mono {W1 : World} {base : Nat} {bs : List Int} {v : Value} {X Y : World} (h : RPut W1 base bs v X) (hb : Bel X Y) : RPut W1 base bs v Y := ⟨h.bel.trans hb, own_bel h.own hb, Nat.le_trans h.sz hb.size⟩
theorem RPut.grow {W1 : World} {base : Nat} {bs cs : List Int} {v v' : Value} {X Y : World} {k : Nat} (h : RPut W1 base bs v X) (hw : W1.heap.size ≤ base) (ho : Y.ownsRow base 5 1 v' k (u8s bs ++ u8s cs)) (hk : k = bs.length + cs.length) (hg : X.grownBy Y v.ownBlock) : RPut W1 base (bs ++ cs) v' Y := by
  subst hk
  refine ⟨row_low h.own W1 hw h.bel hg, ?_, Nat.le_trans h.sz hg.size⟩
  rw [List.length_append, u8s_append]
  exact ho
theorem RPut.sl {W1 : World} {base : Nat} {bs : List Int} {v : Value} {X : World} (h : RPut W1 base bs v X) (hw : ∀ x ∈ bs, (Lit.int .u8 x).wf = true) : ∃ A c, v = .slice A bs.length c ∧ Sl (IntR .u8) 1 X A c bs := sl_of_own h.own hw
/-- 'append' of bytes. -/
theorem app_u8 (ty : TypeId) {X : World} {base n : Nat} {v : Value} {bs cs : List Int} (ho : X.ownsRow base 5 1 v n (u8s bs)) {ad : Addr} {m c : Nat} (hm : cs.length = m) (hx : n + m ≤ 50000) (hnews : ∀ j u, (u8s cs)[j]? = some u → X.cell? (ad.add j) = some u) (hb : base ≤ X.heap.size) :
    ∃ v' w', (Builtin.append_ #[25, 25] ty #[v, .slice (some ad) m c]).run Try.prog X = .ok v' w' ∧ w'.ownsRow base 5 1 v' (n + m) (u8s bs ++ u8s cs) ∧ X.grownBy w' v.ownBlock ∧ ∃ A' c', v' = .slice A' (n + m) c' := by
  obtain ⟨i0, hi, hzz⟩ := Option.map_eq_some_iff.1 info_u8
  simp only [Prod.mk.injEq] at hzz
  obtain ⟨hz0, hz1, hz2⟩ := hzz
  obtain ⟨v', w', hr, h2, h3, _, h5⟩ := run_append_own_at (P := Try.prog) X base _ ty 5 i0 _ 1 1 Try.underlying25 hi hz0 hz1 hz2 rfl (by decide) v n (u8s bs) ho ad m c (u8s cs) (by simp [u8s, hm]) hnews (u8s_one cs) (by simp only [maxLen]; omega) (by omega) hb
  exact ⟨v', w', hr, h2, h3, own_slice h2⟩
set_option maxHeartbeats 8000000 in
set_option maxRecDepth 100000 in
theorem refPut3_yes (A : Option Addr) (c n : Nat) (L : List FnD) (w : World) (hL : Sl FnR 2 w A c L) (hn : Hid (L.length = n)) (hm : Hid (progMay L = true)) :
    Calls Try.prog 19 #[.agg #[.slice A n c]] w fun e w' => ∃ A' c', e = .returned (.tuple #[.slice A' (progBytes L).length c', .int .i64 0]) ∧ Sl (IntR .u8) 1 w' A' c' (progBytes L) ∧ Bel w w' := by
  have hP := progMay_iff.1 hm.out
  have hn0 : 0 < n := by rw [← hn.out]; exact hP.n0
  have hn8 : n ≤ 8 := by rw [← hn.out]; exact hP.n8
  have HFI := Lib.hid hP.fine
  have HBa := Lib.hid ((Bel.refl w).alloc (.cells #[.slice A n c] 24))
  have HS := Lib.hid (hL.mono FnR.mono HBa.out)
  have K0 := Lib.hid (Blk.new w 24 #[.slice A n c])
  have HWF := Lib.hid (progBytes_wf hL hm.out)
  clear hP hL
  go_enter Try.func19, Try.ntmps19
  go_wp2_with fail
  generalize w.alloc (.cells #[.slice A n c] 24) = W0 at *
  generalize w.heap.size = g at *
  refine (refProgMay_any A c n L true _ HS.out hn hm).mono ?_
  rintro e W1 ⟨rfl, hb⟩
  have HB1 := Lib.hid (HBa.out.trans hb)
  have HS1 := Lib.hid (HS.out.mono FnR.mono hb)
  have q0 := (K0.out.bel hb).cell 0 (v := .slice A n c) rfl
  clear hb
  have eu : IntKind.u8.wrap (n : Int) = n := wrap_u8 (by omega)
  have HR0 : Hid (RPut W1 W1.heap.size (pre L 0) (.slice (some ⟨W1.heap.size, 0, none⟩) 3 3) (W1.alloc (.cells #[.int .u8 88, .int .u8 86, .int .u8 n] 5))) := Lib.hid (by
    have ho := World.ownsRow_lit (base := W1.heap.size) (e := 5) (size := 1) W1 #[.int .u8 88, .int .u8 86, .int .u8 n] 3 (Nat.le_refl _) (by decide) rfl
    refine ⟨(Bel.refl W1).alloc _, ?_, ((Bel.refl W1).alloc (.cells #[.int .u8 88, .int .u8 86, .int .u8 n] 5)).size⟩
    have e : pre L 0 = [88, 86, (n : Int)] := by
      unfold pre
      rw [hn.out]
      simp
    rw [e]
    exact ho)
  have HPL := Lib.hid (pre_len hm.out)
  obtain ⟨b, o, rfl⟩ := HS1.out.addr (by rw [hn.out]; exact hn0)
  go_wp2_with fail
  generalize W1.alloc (.cells #[.int .u8 88, .int .u8 86, .int .u8 n] 5) = W2 at *
  obtain ⟨base, hbz⟩ : ∃ base, W1.heap.size = base := ⟨_, rfl⟩
  rw [hbz] at HR0
  simp only [hbz]
  have hwb : W1.heap.size ≤ base := Nat.le_of_eq hbz
  clear hbz
  go_loopw [5, 6] (fun ov iv wr => ∃ (i lo : Nat) (AO : Option Addr) (cO : Nat), iv = .int .i64 i ∧ i ≤ n ∧ ov = .slice AO lo cO ∧ (pre L i).length = lo ∧ RPut W1 base (pre L i) (.slice AO lo cO) wr) (fun _ iv _ => n - (intOf iv).toNat)
  case atStart => exact ⟨0, 3, _, 3, rfl, Nat.zero_le _, rfl, by unfold pre; simp, HR0.out⟩
  case round =>
    clear HR0
    obtain ⟨i, lo, AO, cO, rfl, hin, rfl, hlo, hrp⟩ := hrel
    have HRP := Lib.hid hrp
    have HLO := Lib.hid hlo
    have q1 := hrp.bel.cell q0
    have hlo2 : lo ≤ 4200 := by rw [← hlo]; exact HPL.out i
    clear hrp hlo
    by_cases hend : i = n
    · subst hend
      have hfin : pre L i = progBytes L := by
        unfold pre progBytes
        rw [List.take_of_length_le (by rw [hn.out]; exact Nat.le_refl _)]
      have HRE := HRP.out
      rw [hfin] at HRE
      obtain ⟨AE, cE, hv, hs⟩ := HRE.sl HWF.out
      have hle : (progBytes L).length = lo := by rw [← hfin]; exact HLO.out
      rw [hle] at hv
      simp only [Value.slice.injEq, true_and] at hv
      obtain ⟨rfl, rfl⟩ := hv
      have HSE := Lib.hid hs
      have HLE := Lib.hid hle
      have HBE := Lib.hid (HB1.out.trans HRE.bel)
      clear HRE hs hle hfin
      go_wp2_with fail
      go_ret2
      exact ⟨AO, cO, by rw [HLE.out]; rfl, HSE.out, HBE.out⟩
    · have hi1 : i < n := by omega
      have hiL : i < L.length := by rw [hn.out]; exact hi1
      have hi2 : (i : Int) < n := by omega
      have hi3 : 0 ≤ (i : Int) := by omega
      have ei : IntKind.i64.wrap ((i : Int) + 1) = (i : Int) + 1 := wrap_i64 (by omega) (by omega)
      obtain ⟨Ak, ck, d0, d1, hsk⟩ := fn_cells HS1.out i hiL
      have HSK := Lib.hid hsk
      have hff := fnFine_facts (HFI.out i hiL)
      have HSU := Lib.hid (pre_succ L hiL)
      clear hend hsk
      obtain ⟨f, hf⟩ : ∃ f, Hid (L[i] = f) := ⟨_, Lib.hid rfl⟩
      rw [hf.out] at d0 d1 HSK hff HSU
      obtain ⟨a, l⟩ := f
      simp only at d0 d1 HSK hff HSU
      obtain ⟨m, hml⟩ : ∃ m, Hid (l.length = m) := ⟨_, Lib.hid rfl⟩
      rw [hml.out] at d1 hff HSU
      obtain ⟨a0, a4, m0, m64, hok⟩ := hff
      have HOK := Lib.hid hok
      clear hok
      have ea : IntKind.u8.wrap a = a := wrap_u8 (by omega)
      have em : IntKind.u8.wrap (m : Int) = m := wrap_u8 (by omega)
      have dd1 := d1
      go_wp2_with fail
      have HRX := Lib.hid (HRP.out.mono ((Bel.refl wr).drew))
      have SD := HRX.out.bel
      have P0 := fun (w' : World) (h : Bel W1 w') => h.cell q0
      have D0 := fun (w' : World) (h : Bel W1 w') => h.cell d0
      have D1 := fun (w' : World) (h : Bel W1 w') => h.cell d1
      clear d0 d1
      refine wp_region_T (fun w' => Bel W1 w') (fun j => false) (by kernel_rfl) ?_
      refine wpAnyU_take (i := 0) (v := ?v0) rfl (by kernel_rfl) (by kernel_rfl) (by kernel_rfl) (by kernel_rfl) (fun _ _ _ h => h) ?hy0 SD ?rest0
      case hy0 => first | (refine Or.inl ⟨by rfl, ?_⟩; (intro w' hSw; go_simp) <;> with_reducible rfl) | (refine Or.inr ⟨by rfl, ?_⟩; with_reducible rfl)
      try simp only [List.getElem_toArray, List.getElem_cons_zero, List.getElem_cons_succ, Act.put, List.setIfInBounds_toArray, List.set_cons_zero, List.set_cons_succ]
      refine wpAnyU_take (i := 1) (v := ?v1) rfl (by kernel_rfl) (by kernel_rfl) (by kernel_rfl) (by kernel_rfl) (fun _ _ _ h => h) ?hy1 SD ?rest1
      case hy1 => first | (refine Or.inl ⟨by rfl, ?_⟩; (intro w' hSw; go_simp) <;> with_reducible rfl) | (refine Or.inr ⟨by rfl, ?_⟩; with_reducible rfl)
      try simp only [List.getElem_toArray, List.getElem_cons_zero, List.getElem_cons_succ, Act.put, List.setIfInBounds_toArray, List.set_cons_zero, List.set_cons_succ]
      refine wpAnyU_take (i := 2) (v := ?v2) rfl (by kernel_rfl) (by kernel_rfl) (by kernel_rfl) (by kernel_rfl) (fun _ _ _ h => h) ?hy2 SD ?rest2
      case hy2 => first | (refine Or.inl ⟨by rfl, ?_⟩; (intro w' hSw; go_simp) <;> with_reducible rfl) | (refine Or.inr ⟨by rfl, ?_⟩; with_reducible rfl)
      try simp only [List.getElem_toArray, List.getElem_cons_zero, List.getElem_cons_succ, Act.put, List.setIfInBounds_toArray, List.set_cons_zero, List.set_cons_succ]
      refine wpAnyU_take (i := 3) (v := ?v3) rfl (by kernel_rfl) (by kernel_rfl) (by kernel_rfl) (by kernel_rfl) (fun _ _ _ h => h) ?hy3 SD ?rest3
      case hy3 => first | (refine Or.inl ⟨by rfl, ?_⟩; (intro w' hSw; go_simp) <;> with_reducible rfl) | (refine Or.inr ⟨by rfl, ?_⟩; with_reducible rfl)
      try simp only [List.getElem_toArray, List.getElem_cons_zero, List.getElem_cons_succ, Act.put, List.setIfInBounds_toArray, List.set_cons_zero, List.set_cons_succ]
      refine wpAnyU_take (i := 4) (v := ?v4) rfl (by kernel_rfl) (by kernel_rfl) (by kernel_rfl) (by kernel_rfl) (fun _ _ _ h => h) ?hy4 SD ?rest4
      case hy4 => first | (refine Or.inl ⟨by rfl, ?_⟩; (intro w' hSw; go_simp) <;> with_reducible rfl) | (refine Or.inr ⟨by rfl, ?_⟩; with_reducible rfl)
      try simp only [List.getElem_toArray, List.getElem_cons_zero, List.getElem_cons_succ, Act.put, List.setIfInBounds_toArray, List.set_cons_zero, List.set_cons_succ]
      refine wpAnyU_take (i := 5) (v := ?v5) rfl (by kernel_rfl) (by kernel_rfl) (by kernel_rfl) (by kernel_rfl) (fun _ _ _ h => h) ?hy5 SD ?rest5
      case hy5 => first | (refine Or.inl ⟨by rfl, ?_⟩; (intro w' hSw; go_simp) <;> with_reducible rfl) | (refine Or.inr ⟨by rfl, ?_⟩; with_reducible rfl)
      try simp only [List.getElem_toArray, List.getElem_cons_zero, List.getElem_cons_succ, Act.put, List.setIfInBounds_toArray, List.set_cons_zero, List.set_cons_succ]
      refine wpAnyU_take (i := 6) (v := ?v6) rfl (by kernel_rfl) (by kernel_rfl) (by kernel_rfl) (by kernel_rfl) (fun _ _ _ h => h) ?hy6 SD ?rest6
      case hy6 => first | (refine Or.inl ⟨by rfl, ?_⟩; (intro w' hSw; go_simp) <;> with_reducible rfl) | (refine Or.inr ⟨by rfl, ?_⟩; with_reducible rfl)
      try simp only [List.getElem_toArray, List.getElem_cons_zero, List.getElem_cons_succ, Act.put, List.setIfInBounds_toArray, List.set_cons_zero, List.set_cons_succ]
      refine wpAnyU_take (i := 7) (v := ?v7) rfl (by kernel_rfl) (by kernel_rfl) (by kernel_rfl) (by kernel_rfl) (fun _ _ _ h => h) ?hy7 SD ?rest7
      case hy7 => first | (refine Or.inl ⟨by rfl, ?_⟩; (intro w' hSw; go_simp) <;> with_reducible rfl) | (refine Or.inr ⟨by rfl, ?_⟩; with_reducible rfl)
      try simp only [List.getElem_toArray, List.getElem_cons_zero, List.getElem_cons_succ, Act.put, List.setIfInBounds_toArray, List.set_cons_zero, List.set_cons_succ]
      refine wpAnyU_take (i := 8) (v := ?v8) rfl (by kernel_rfl) (by kernel_rfl) (by kernel_rfl) (by kernel_rfl) (fun _ _ _ h => h) ?hy8 SD ?rest8
      case hy8 => first | (refine Or.inl ⟨by rfl, ?_⟩; (intro w' hSw; go_simp) <;> with_reducible rfl) | (refine Or.inr ⟨by rfl, ?_⟩; with_reducible rfl)
      try simp only [List.getElem_toArray, List.getElem_cons_zero, List.getElem_cons_succ, Act.put, List.setIfInBounds_toArray, List.set_cons_zero, List.set_cons_succ]
      refine wpAnyU_take (i := 9) (v := ?v9) rfl (by kernel_rfl) (by kernel_rfl) (by kernel_rfl) (by kernel_rfl) (fun _ _ _ h => h) ?hy9 SD ?rest9
      case hy9 => first | (refine Or.inl ⟨by rfl, ?_⟩; (intro w' hSw; go_simp) <;> with_reducible rfl) | (refine Or.inr ⟨by rfl, ?_⟩; with_reducible rfl)
      try simp only [List.getElem_toArray, List.getElem_cons_zero, List.getElem_cons_succ, Act.put, List.setIfInBounds_toArray, List.set_cons_zero, List.set_cons_succ]
      refine wpAnyU_take (i := 10) (v := ?v10) rfl (by kernel_rfl) (by kernel_rfl) (by kernel_rfl) (by kernel_rfl) (fun _ _ _ h => h) ?hy10 SD ?rest10
      case hy10 => first | (refine Or.inl ⟨by rfl, ?_⟩; (intro w' hSw; go_simp) <;> with_reducible rfl) | (refine Or.inr ⟨by rfl, ?_⟩; with_reducible rfl)
      try simp only [List.getElem_toArray, List.getElem_cons_zero, List.getElem_cons_succ, Act.put, List.setIfInBounds_toArray, List.set_cons_zero, List.set_cons_succ]
      refine wpAnyU_take (i := 11) (v := ?v11) rfl (by kernel_rfl) (by kernel_rfl) (by kernel_rfl) (by kernel_rfl) (fun _ _ _ h => h) ?hy11 SD ?rest11
      case hy11 => first | (refine Or.inl ⟨by rfl, ?_⟩; (intro w' hSw; go_simp) <;> with_reducible rfl) | (refine Or.inr ⟨by rfl, ?_⟩; with_reducible rfl)
      try simp only [List.getElem_toArray, List.getElem_cons_zero, List.getElem_cons_succ, Act.put, List.setIfInBounds_toArray, List.set_cons_zero, List.set_cons_succ]
      refine wpAnyU_take (i := 12) (v := ?v12) rfl (by kernel_rfl) (by kernel_rfl) (by kernel_rfl) (by kernel_rfl) (fun _ _ _ h => h) ?hy12 SD ?rest12
      case hy12 => first | (refine Or.inl ⟨by rfl, ?_⟩; (intro w' hSw; go_simp) <;> with_reducible rfl) | (refine Or.inr ⟨by rfl, ?_⟩; with_reducible rfl)
      try simp only [List.getElem_toArray, List.getElem_cons_zero, List.getElem_cons_succ, Act.put, List.setIfInBounds_toArray, List.set_cons_zero, List.set_cons_succ]
      refine wpAnyU_take (i := 13) (v := ?v13) rfl (by kernel_rfl) (by kernel_rfl) (by kernel_rfl) (by kernel_rfl) (fun _ _ _ h => h) ?hy13 SD ?rest13
      case hy13 => first | (refine Or.inl ⟨by rfl, ?_⟩; (intro w' hSw; go_simp) <;> with_reducible rfl) | (refine Or.inr ⟨by rfl, ?_⟩; with_reducible rfl)
      try simp only [List.getElem_toArray, List.getElem_cons_zero, List.getElem_cons_succ, Act.put, List.setIfInBounds_toArray, List.set_cons_zero, List.set_cons_succ]
      refine wpAnyU_take (i := 14) (v := ?v14) rfl (by kernel_rfl) (by kernel_rfl) (by kernel_rfl) (by kernel_rfl) (fun _ _ _ h => h) ?hy14 SD ?rest14
      case hy14 => first | (refine Or.inl ⟨by rfl, ?_⟩; (intro w' hSw; go_simp) <;> with_reducible rfl) | (refine Or.inr ⟨by rfl, ?_⟩; with_reducible rfl)
      try simp only [List.getElem_toArray, List.getElem_cons_zero, List.getElem_cons_succ, Act.put, List.setIfInBounds_toArray, List.set_cons_zero, List.set_cons_succ]
      refine wpAnyU_take (i := 15) (v := ?v15) rfl (by kernel_rfl) (by kernel_rfl) (by kernel_rfl) (by kernel_rfl) (fun _ _ _ h => h) ?hy15 SD ?rest15
      case hy15 => first | (refine Or.inl ⟨by rfl, ?_⟩; (intro w' hSw; go_simp) <;> with_reducible rfl) | (refine Or.inr ⟨by rfl, ?_⟩; with_reducible rfl)
      try simp only [List.getElem_toArray, List.getElem_cons_zero, List.getElem_cons_succ, Act.put, List.setIfInBounds_toArray, List.set_cons_zero, List.set_cons_succ]
      refine wpAnyT_one (i := 16) (by kernel_rfl) rfl (fun K hK => ?_)
      go_simp
      refine hK.out _ _ (fun _ => SD.alloc _) ?_
      clear hK K
      try simp only [List.getElem_toArray, List.getElem_cons_zero, List.getElem_cons_succ, Act.put, List.setIfInBounds_toArray, List.set_cons_zero, List.set_cons_succ]
      refine wpAnyT_one (i := 17) (by kernel_rfl) rfl (fun K hK => ?_)
      have HRY := Lib.hid (HRX.out.mono ((Bel.refl wr.drew).alloc (.cells #[.int .u8 a, .int .u8 m] 5)))
      refine step_append_run (by rfl) _ _ _ (by rfl) (.slice AO lo cO) (.slice (some ⟨wr.heap.size, 0, none⟩) 2 2) (by rfl) (by rfl) _ (app_u8 _ (cs := [a, m]) (by have := HRY.out.own; rw [HLO.out] at this; exact this) rfl (by omega) (fun j u hu => cells_new wr.drew #[.int .u8 a, .int .u8 m] 5 j u hu) HRY.out.sz) ?_
      rintro v5 w5 ⟨ho5, hg5, A5, c5, hv5⟩
      subst hv5
      have HR5 := Lib.hid (HRY.out.grow hwb (cs := [a, m]) ho5 (by rw [HLO.out]; rfl) hg5)
      have S5 := HR5.out.bel
      clear ho5 hg5
      refine hK.out _ _ (fun _ => S5) ?_
      clear hK K
      try simp only [List.getElem_toArray, List.getElem_cons_zero, List.getElem_cons_succ, Act.put, List.setIfInBounds_toArray, List.set_cons_zero, List.set_cons_succ]
      refine wpAnyU_take (i := 18) (v := ?v18) rfl (by kernel_rfl) (by kernel_rfl) (by kernel_rfl) (by kernel_rfl) (fun _ _ _ h => h) ?hy18 S5 ?rest18
      case hy18 => first | (refine Or.inl ⟨by rfl, ?_⟩; (intro w' hSw; go_simp) <;> with_reducible rfl) | (refine Or.inr ⟨by rfl, ?_⟩; with_reducible rfl)
      try simp only [List.getElem_toArray, List.getElem_cons_zero, List.getElem_cons_succ, Act.put, List.setIfInBounds_toArray, List.set_cons_zero, List.set_cons_succ]
      refine wpAnyT_done (by kernel_rfl) ?_ _
      refine NoPanic.normal ?_
      clear SD S5 P0 D0 D1
      obtain ⟨B0, hB0⟩ : ∃ B0, Hid (pre L i ++ [a, (m : Int)] = B0) := ⟨_, Lib.hid rfl⟩
      rw [hB0.out] at HR5 HSU
      have hB0l : B0.length = lo + 2 := by rw [← hB0.out, List.length_append, HLO.out]; rfl
      clear hB0 HRP HRX HRY HLO
      obtain ⟨b1, o1, rfl⟩ := HSK.out.addr (by rw [hml.out]; exact m0)
      clear ea eu
      go_wp2_with fail
      go_loopw [5, 7] (fun ov kv wi => ∃ (k lk : Nat) (AO : Option Addr) (cO : Nat), kv = .int .i64 k ∧ k ≤ m ∧ ov = .slice AO lk cO ∧ lk = lo + 2 + 8 * k ∧ RPut W1 base (B0 ++ (l.take k).flatMap InstD.put) (.slice AO lk cO) wi) (fun _ kv _ => m - (intOf kv).toNat)
      case atStart => exact ⟨0, lo + 2, A5, c5, rfl, Nat.zero_le _, rfl, by omega, by simp only [List.take_zero, List.flatMap_nil, List.append_nil]; exact HR5.out⟩
      case round =>
        clear HR5
        obtain ⟨k, lk, AK, cK, rfl, hkm, rfl, hlk, hrk⟩ := hrel
        have HRK := Lib.hid hrk
        have HLK := Lib.hid hlk
        have hlk2 : lk ≤ 5000 := by omega
        clear hlk
        have q2 := hrk.bel.cell q0
        have d2 := hrk.bel.cell dd1
        clear hrk
        by_cases hke : k = m
        · subst hke
          have HRN : Hid (RPut W1 base (pre L (i + 1)) (.slice AK lk cK) wr) := Lib.hid (by
            have := HRK.out
            rwa [List.take_of_length_le (by rw [hml.out]; exact Nat.le_refl _), ← HSU.out] at this)
          go_wp2
          go_roundw
          case rel => exact ⟨i + 1, lk, AK, cK, by simp, by omega, rfl, by
            rw [HSU.out, List.length_append, hB0l, code_le, hml.out, HLK.out], HRN.out⟩
          case measure => simp [intOf]; omega
        · have hk1 : k < m := by omega
          have hk2 : (k : Int) < m := by omega
          have hk3 : 0 ≤ (k : Int) := by omega
          have ek : IntKind.i64.wrap ((k : Int) + 1) = (k : Int) + 1 := wrap_i64 (by omega) (by omega)
          have hkl : k < l.length := by rw [hml.out]; exact hk1
          obtain ⟨c0, c1, c2, c3, c4, c5, c6, hxw⟩ := (HSK.out.mono InstR.mono HRK.out.bel).inst_at hkl
          have hput : Hid (putR (l[k]!) = ((l[k]!).put, 0)) := Lib.hid (if_pos (HOK.out k (by first | exact hk1 | exact hkl)))
          have HTK := Lib.hid (code_take l hkl)
          have HU := Lib.hid hxw.imm
          generalize l[k]! = x at *
          have HPL8 : Hid (x.put.length = 8) := Lib.hid rfl
          obtain ⟨op, fn, dst, src, reg, off, imm⟩ := x
          simp only at c0 c1 c2 c3 c4 c5 c6 HU
          clear hke hxw
          go_wp2_with fail
          refine (refput_at op fn dst src reg off imm _ HU.out _ _ hput).mono ?_
          rintro e w7 ⟨A7, c7, he7, s7, hb7⟩
          simp only at he7 s7
          rw [HPL8.out] at he7
          subst he7
          obtain ⟨xs, hxs⟩ : ∃ xs, Hid (InstD.put ⟨op, fn, dst, src, reg, off, imm⟩ = xs) := ⟨_, Lib.hid rfl⟩
          rw [hxs.out] at s7 HPL8 HTK
          obtain ⟨b7, o7, rfl, hc7⟩ := s7.int_cell (by rw [HPL8.out]; decide)
          have HN7 := Lib.hid (cells_u8 (n := 8) HPL8.out (fun i hi => (hc7 i (by rw [HPL8.out]; exact hi)).1))
          have HR7 := Lib.hid (HRK.out.mono hb7)
          have HO7 : Hid (w7.ownsRow base 5 1 (.slice AK lk cK) lk (u8s (B0 ++ (l.take k).flatMap InstD.put))) := Lib.hid (by
            have := HR7.out.own
            rwa [List.length_append, hB0l, code_le, List.length_take, hml.out, Nat.min_eq_left (by omega), ← HLK.out] at this)
          have HUL : Hid ((u8s xs).length = 8 * 1) := Lib.hid (by simp [u8s, HPL8.out])
          clear hc7 s7 hb7 c0 c1 c2 c3 c4 c5 c6 hput
          go_wp2_with (show wpList _ _ _ ({ dst := _, op := .call { callee := .builtin .append, args := _, argTypes := _ }, type := _, pos := _, after := _, guard := none } :: _) _ _; refine at_append base 5 (.int .u8 0) 1 1 Try.underlying25 info_u8 rfl (by decide) (.slice AK lk cK) lk (u8s (B0 ++ (l.take k).flatMap InstD.put)) (by rfl) HO7.out ⟨b7, o7, none⟩ 8 c7 (u8s xs) (by rfl) HUL.out HN7.out (u8s_one xs) (by simp only [maxLen]; omega) (by omega) HR7.out.sz W1 hwb HR7.out.bel rfl ?_; intro v8 w8 ow8 g8 b8 at8; have HR8 := Lib.hid (HR7.out.grow hwb (cs := xs) ow8 (by rw [List.length_append, hB0l, code_le, List.length_take, hml.out, Nat.min_eq_left (by omega), HPL8.out, HLK.out]) g8); obtain ⟨A8, c8, rfl⟩ := own_slice ow8; clear ow8 g8 b8 at8)
          go_wp2
          go_roundw
          case rel => exact ⟨k + 1, lk + 8, A8, c8, by simp, by omega, rfl, by have := HLK.out; omega, by rw [HTK.out, ← List.append_assoc]; exact HR8.out⟩
          case measure => simp [intOf]; omega
theorem refPut3_any (A : Option Addr) (c n : Nat) (L : List FnD) (w : World) (bs : List Int) (m : Nat) (e : Int) (h : Sl FnR 2 w A c L) (hn : Hid (L.length = n)) (hr : Hid (putP L = (bs, e))) (hm : Hid (bs.length = m)) :
    Calls Try.prog 19 #[.agg #[.slice A n c]] w fun e' w' => ∃ A' c', e' = .returned (.tuple #[.slice A' m c', .int .i64 e]) ∧ Sl (IntR .u8) 1 w' A' c' bs ∧ Bel w w' := by
  by_cases hp : progMay L = true
  · have e1 : putP L = (progBytes L, 0) := if_pos hp
    have e2 := hr.out
    rw [e1] at e2
    obtain ⟨rfl, rfl⟩ := Prod.mk.inj e2
    rw [← hm.out]
    exact refPut3_yes A c n L w h hn (Lib.hid hp)
  · have e1 : putP L = ([], 1) := if_neg hp
    have e2 := hr.out
    rw [e1] at e2
    obtain ⟨rfl, rfl⟩ := Prod.mk.inj e2
    obtain rfl : m = 0 := hm.out.symm
    have hp2 : Hid (progMay L = false) := Lib.hid (by simpa using hp)
    have HBa := Lib.hid ((Bel.refl w).alloc (.cells #[.slice A n c] 24))
    have HS := Lib.hid (h.mono FnR.mono HBa.out)
    clear h hp e1 e2
    go_enter Try.func19, Try.ntmps19
    go_wp2_with fail
    refine (refProgMay_any A c n L false _ HS.out hn hp2).mono ?_
    rintro e W1 ⟨rfl, hb⟩
    go_wp2_with fail
    go_ret2
    exact ⟨none, 0, rfl, Sl.nil _ _ _, HBa.out.trans hb⟩
end Go.Proofs.Ytcllifcafgiopaa
