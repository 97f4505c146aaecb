/- The document's 'Longest' by its contract. -/
import Derived.Test.YtpfnjbebfihkeaaCrsRef2
import Derived.Test.YtpfnjbebfihkeaaCrsDual
set_option linter.unusedVariables false
set_option linter.unusedSimpArgs false
namespace Go.Proofs.Ytpfnjbebfihkeaa
open Go.RowKit

/-- Whatever lay before is as it was, but for block g. -/
structure But (g : Nat) (W W' : World) : Prop where
  size : W.heap.size ≤ W'.heap.size
  same : ∀ k, k < W.heap.size → k ≠ g → W'.heap[k]? = W.heap[k]?
theorem But.refl (g : Nat) (W : World) : But g W W := ⟨Nat.le_refl _, fun _ _ _ => rfl⟩
theorem But.bel {g : Nat} {W W' W'' : World} (h : But g W W') (hb : Bel W' W'') : But g W W'' :=
  ⟨Nat.le_trans h.size hb.size, fun k hk hg => (hb.out.block k (Nat.lt_of_lt_of_le hk h.size)).trans (h.same k hk hg)⟩
theorem But.set {g : Nat} {W W' : World} (h : But g W W') (i : Nat) (v : Value) : But g W (W'.setCell ⟨g, i, none⟩ v) :=
  ⟨by simpa [World.setCell] using h.size, fun k hk hg => (Below.heap_setCell _ _ _ k hg).trans (h.same k hk hg)⟩
theorem But.cell {g : Nat} {W W' : World} (h : But g W W') {p : Addr} {v : Value} (hp : p.block ≠ g) (hc : W.cell? p = some v) : W'.cell? p = some v :=
  (World.cell?_of_block (h.same p.block (World.block_lt_of_cell? _ _ hc) hp)).trans hc
theorem own_le2 (I : InstD) (cs : List Int) {J : InstD} (h : J = I) : 1 ≤ ownC I cs ∧ ownC I cs ≤ 1000001 := by
  refine ⟨ownC_pos I cs, ?_⟩
  unfold ownC
  split
  · rename_i h; omega
  · omega
theorem fwd_bound (l : List InstD) (cs : List Int) : ∀ m, m ≤ l.length → (∀ t, (fwd l cs m).1.getD t 0 ≤ 1000001 * m) ∧ (fwd l cs m).2 ≤ 1000001 * m
  | 0, _ => ⟨fun t => by simp [fwd, List.getD_eq_getElem?_getD, List.getElem?_replicate]; split <;> simp, by simp [fwd]⟩
  | m + 1, hm => by
    have ih := fwd_bound l cs m (by omega)
    have hl := fwd_length l cs m
    have ho := own_le2 l[m]! cs rfl
    rw [fwd, fstep]
    rcases hfw : fwd l cs m with ⟨b, out⟩
    rw [hfw] at ih hl
    simp only at ih hl ⊢
    obtain ⟨ih1, ih2⟩ := ih
    split
    · simp only
      refine ⟨fun t => ?_, by have := ih1 m; omega⟩
      rw [upds_get t _ b hl]
      have h1 := ih1 t
      have h2 := ih1 m
      split <;> omega
    · refine ⟨fun t => ?_, ?_⟩
      · have := ih1 t
        show b.getD t 0 ≤ _
        omega
      · show out ≤ _
        omega
set_option maxHeartbeats 16000000 in
set_option maxRecDepth 100000 in
theorem reflong_ok (A A1 : Option Addr) (c n c1 n1 : Nat) (l : List InstD) (cs : List Int) (w : World) (h : Sl InstR 7 w A c l) (hn : Hid (l.length = n)) (h1 : Sl (IntR .i64) 1 w A1 c1 cs) (hn1 : Hid (cs.length = n1)) (hm : Hid (crsMay l = true)) (hn0 : 0 < n) (hn64 : n ≤ 64) :
    Calls Try.prog 18 #[.slice A n c, .slice A1 n1 c1] w fun e w' => e = .returned (.int .i64 (cost l cs 0)) ∧ Bel w w' := by
  obtain ⟨b0, o0, rfl⟩ := h.addr (by rw [hn.out]; exact hn0)
  have HS0 := Lib.hid h
  have HC0 := Lib.hid h1
  have HRL : Hid ((reach l).length = n) := Lib.hid (by rw [reach_length, hn.out])
  have HDU : Hid (min (fwd l cs n).2 1000000 = cost l cs 0) := Lib.hid (by rw [← hn.out]; exact dual (by rw [hn.out]; exact hn64) (by rw [hn.out]; exact hn0) cs)
  have hns : (n : Int) ≤ 64 := by omega
  have hns0 : (0 : Int) < n := by omega
  clear h h1
  go_enter Try.func18, Try.ntmps18
  go_wp2_with fail
  refine (refCrsMay_any _ _ _ l true _ HS0.out hn hm).mono ?_
  rintro e w1 ⟨rfl, hb⟩
  have HB := hb
  clear hb
  have hmk := (made_ints n w1).resolve_right (by omega)
  obtain ⟨W2, hW2⟩ : ∃ W2, W2 = w1.alloc (.cells ((List.replicate n (0 : Int)).map (Value.int .i64)).toArray 3) := ⟨_, rfl⟩
  have HB2 : Bel w1 W2 := by rw [hW2]; exact (Bel.refl _).alloc _
  have R0 : Row (Value.int .i64) 3 W2 w1.heap.size (List.replicate n (0 : Int)) := by rw [hW2]; exact Row.new _ _ _
  have hgs : w.heap.size ≤ w1.heap.size := HB.size
  rw [← hW2] at hmk
  clear hW2
  generalize w1.heap.size = g at *
  have HBw := HB.trans HB2
  have HR0 := Lib.hid R0
  clear HB HB2 R0
  go_wp2_with fail
  clear hmk
  refine (refReach_any _ _ _ _ (reach l) _ (HS0.out.mono InstR.mono HBw) hn (Lib.hid (by unfold reachR; rw [if_pos hm.out]))).mono ?_
  rw [HRL.out]
  rintro e W3 ⟨A2, c2, rfl, s2, hf2, hb⟩
  obtain ⟨b2, o2, rfl, hc2⟩ := s2.bool_cell (by rw [HRL.out]; exact hn0)
  have hb2g : b2 ≠ g := by
    have h1 := hf2 _ rfl
    have h2 := HR0.out.lt
    simp only at h1
    omega
  have HC2 : Hid (∀ i, i < n → W3.cell? ⟨b2, o2 + i, none⟩ = some (.bool ((reach l).getD i false))) := Lib.hid (fun i hi => hc2 i (by rw [HRL.out]; exact hi))
  have HR3 : Hid (Row (Value.int .i64) 3 W3 g (fwd l cs 0).1) := Lib.hid (by rw [fwd, hn.out]; exact HR0.out.mono hb)
  have HB3 := Lib.hid (HBw.trans hb)
  have HGN := Lib.hid hb2g
  clear s2 hf2 hb hc2 HBw HR0 hb2g
  go_wp2_with fail
  go_loopw [7, 9] (fun ov iv wr => ∃ i : Nat, iv = .int .i64 i ∧ i ≤ n ∧ ov = .int .i64 (fwd l cs i).2 ∧ Row (Value.int .i64) 3 wr g (fwd l cs i).1 ∧ But g W3 wr ∧ Bel w wr) (fun _ iv _ => n - (intOf iv).toNat)
  case atStart => exact ⟨0, rfl, Nat.zero_le _, by simp [fwd], HR3.out, But.refl _ _, HB3.out⟩
  case round =>
    obtain ⟨i, rfl, hi, rfl, hrow, hbut, hbi⟩ := hrel
    by_cases hin : i = n
    · subst hin
      obtain ⟨ou, hou⟩ : ∃ ou, Hid ((fwd l cs i).2 = ou) := ⟨_, Lib.hid rfl⟩
      have hdu := HDU.out
      rw [hou.out] at hdu ⊢
      have HDD := Lib.hid hdu
      clear hrow hdu
      by_cases hom : 1000000 < ou
      · have HV : Hid (cost l cs 0 = 1000000) := Lib.hid (by have := HDD.out; omega)
        go_wp2
        go_ret
        rw [HV.out]
        exact ⟨rfl, hbi⟩
      · have HV : Hid (cost l cs 0 = ou) := Lib.hid (by have := HDD.out; omega)
        go_wp2
        go_ret
        rw [HV.out]
        exact ⟨rfl, hbi⟩
    · have hi1 : i < n := by omega
      have hi2 : (i : Int) < n := by omega
      have i0 : 0 ≤ (i : Int) := by omega
      have HEI : Hid (IntKind.i64.wrap ((i : Int) + 1) = (i : Int) + 1) := Lib.hid (wrap_i64 (by omega) (by omega))
      have HIL : Hid (i < l.length) := Lib.hid (by rw [hn.out]; exact hi1)
      have rci := hbut.cell (p := ⟨b2, o2 + i, none⟩) HGN.out (HC2.out i hi1)
      obtain ⟨rv, hrv⟩ : ∃ rv, Hid ((reach l).getD i false = rv) := ⟨_, Lib.hid rfl⟩
      rw [hrv.out] at rci
      have hbound := fwd_bound l cs i (by rw [hn.out]; exact hi)
      have hinv := fwd_inv l cs i (by rw [hn.out]; exact hi)
      have hbl := fwd_length l cs i
      rw [hn.out] at hbl
      obtain ⟨b, ou, hfw⟩ : ∃ b ou, Hid (fwd l cs i = (b, ou)) := ⟨_, _, Lib.hid rfl⟩
      rw [hfw.out] at hrow hbound hinv hbl ⊢
      simp only at hrow hbound hinv hbl ⊢
      have HBL := Lib.hid hbl
      have HRB := Lib.hid hrow
      have HBUT := Lib.hid hbut
      clear hin hrow hbut hbl
      cases rv
      · have HNX : Hid (fwd l cs (i + 1) = (b, ou)) := Lib.hid (by
          rw [fwd, hfw.out]
          unfold fstep
          rw [if_neg (by rw [hrv.out]; simp)])
        have ei := HEI.out
        clear hbound hinv
        go_wp2
        go_roundw
        case rel => exact ⟨i + 1, by simp, by omega, by rw [HNX.out], by rw [HNX.out]; exact HRB.out, HBUT.out, hbi⟩
        case measure => simp [intOf]; omega
      · obtain ⟨ts, hts⟩ : ∃ ts, Hid (nxt l[i]! i = ts) := ⟨_, Lib.hid rfl⟩
        have htl : ts.length ≤ 2 := by rw [← hts.out]; exact nxt_two _ _
        have rcb := HRB.out.cell (i := i) (by rw [HBL.out]; exact hi1)
        have hval : b[i]'(by rw [HBL.out]; exact hi1) = b.getD i 0 := by rw [List.getD_eq_getElem?_getD, List.getElem?_eq_getElem (by rw [HBL.out]; exact hi1)]; rfl
        rw [hval] at rcb
        have hb0 := hinv.pos i
        have hb1 := hbound.1 i
        have ho0 := hinv.pos2
        have ho1 := hbound.2
        obtain ⟨bi, hbi2⟩ : ∃ bi, Hid (b.getD i 0 = bi) := ⟨_, Lib.hid rfl⟩
        rw [hbi2.out] at rcb hb0 hb1
        have hSr := HS0.out.mono InstR.mono hbi
        have HSr := hSr
        have hcells := inst_cells hSr i HIL.out
        obtain ⟨b9, o9, cs9, -, -, ⟨-, hwf⟩, -⟩ := hSr.get i HIL.out
        rw [← getElem!_pos l i HIL.out] at hwf
        obtain ⟨I, hII⟩ : ∃ I, Hid (l[i]! = I) := ⟨_, Lib.hid rfl⟩
        rw [hII.out] at hcells hwf
        obtain ⟨op, fn, dst, src, reg, off, imm⟩ := I
        have k0 := hcells 0 _ rfl
        have k6 := hcells 6 _ rfl
        have k1 := hcells 1 _ rfl
        rw [Nat.add_zero] at k0
        have um : U32 imm := hwf.imm
        obtain ⟨um0, um1⟩ := um
        have HCk := Lib.hid (HC0.out.mono (IntR.mono _) hbi)
        have em : IntKind.i64.wrap imm = imm := wrap_i64 (by omega) (by omega)
        clear hcells hwf hval hbound hinv hSr
        by_cases h6 : op = 6
        · subst h6
          obtain ⟨m, rfl⟩ : ∃ m : Nat, imm = m := ⟨imm.toNat, by omega⟩
          clear um0 um1
          by_cases hm1 : m < n1
          · have hm1' : (m : Int) < (n1 : Int) := by omega
            obtain ⟨b7, o7, rfl, hc7⟩ := HCk.out.int_cell (by rw [hn1.out]; omega)
            have k7 := (hc7 m (by rw [hn1.out]; exact hm1)).1
            obtain ⟨kv, hkv⟩ : ∃ kv, Hid (cs.getD m 0 = kv) := ⟨_, Lib.hid rfl⟩
            rw [hkv.out] at k7
            have m0 : 0 ≤ (m : Int) := by omega
            clear hc7
            by_cases kn : kv < 0
            · have kn' : ¬ 0 ≤ kv := by omega
              have OWNF : ownC ⟨6, fn, dst, src, reg, off, m⟩ cs = 1 := own_bad (.inl (by rw [Int.toNat_natCast, hkv.out]; exact kn))
              have hown := own_le2 _ cs hII.out
              rw [OWNF] at hown
              obtain ⟨x, hx⟩ : ∃ x, Hid (bi + 1 = x) := ⟨_, Lib.hid rfl⟩
              have HNX : Hid (fwd l cs (i + 1) = (ts.foldl (upd n x) b, max ou x)) := Lib.hid (by
                rw [fwd, hfw.out]
                unfold fstep
                rw [if_pos hrv.out]
                simp only
                rw [hts.out, hII.out, OWNF, hbi2.out, hx.out, hn.out])
              have es : IntKind.i64.wrap (bi + 1) = x := (wrap_i64 (by omega) (by omega)).trans hx.out
              clear OWNF hown
              by_cases hox : ou < x
              · have hmx : max ou x = x := by omega
                rw [hmx] at HNX
                clear hmx
                go_wp2_with fail
                refine (refNext_any _ _ _ l i ts _ HSr hn (Lib.hid ((nextR_in hm.out HIL.out).trans hts.out))).mono ?_
                rintro e w5 ⟨A5, c5, rfl, s5, hfr, hb5⟩
                have IA := Lib.hid (IntsAt.of s5 hfr HRB.out.lt)
                have HR5 := Lib.hid (HRB.out.mono hb5)
                have HB5 := Lib.hid (hbi.trans hb5)
                have HBUT5 := Lib.hid (HBUT.out.bel hb5)
                clear s5 hfr hb5 hbi HSr k0 k1 k6 rcb rci
                go_wp2_with fail
                go_loopw [13] (fun v wr => ∃ k : Nat, v = .int .i64 k ∧ k ≤ ts.length ∧ Row (Value.int .i64) 3 wr g ((ts.take k).foldl (upd n x) b) ∧ IntsAt A5 g ts wr ∧ But g W3 wr ∧ Bel w wr) (fun v _ => ts.length - (intOf v).toNat)
                case atStart => exact ⟨0, rfl, Nat.zero_le _, by simpa using HR5.out, IA.out, HBUT5.out, HB5.out⟩
                case round =>
                  obtain ⟨k, rfl, hk, hrow, hia, hbut, hbk⟩ := hrel
                  by_cases hkt : k = ts.length
                  · subst hkt
                    rw [List.take_length] at hrow
                    have HRW2 := Lib.hid hrow
                    have HBUT6 := Lib.hid hbut
                    have HB6 := Lib.hid hbk
                    have ei := HEI.out
                    clear hrow hia hbut hbk hk
                    go_wp2
                    go_roundw
                    case rel => exact ⟨i + 1, by simp, by omega, by rw [HNX.out], by rw [HNX.out]; exact HRW2.out, HBUT6.out, HB6.out⟩
                    case measure => simp [intOf]; omega
                  · have hk1 : k < ts.length := by omega
                    have hk2 : (k : Int) < ts.length := by omega
                    have k0 : 0 ≤ (k : Int) := by omega
                    have HIA := Lib.hid hia
                    have HRK := Lib.hid hrow
                    have hPl : ((ts.take k).foldl (upd n x) b).length = n := by rw [upds_length]; exact HBL.out
                    obtain ⟨b2, o2, rfl, hne, hcj⟩ := hia k hk1
                    have hfs := Lib.hid (foldl_take_succ (upd n x) b ts hk1)
                    have ek : IntKind.i64.wrap ((k : Int) + 1) = (k : Int) + 1 := wrap_i64 (by omega) (by omega)
                    generalize ts[k] = t at *
                    obtain ⟨P, hP⟩ : ∃ P, Hid ((ts.take k).foldl (upd n x) b = P) := ⟨_, Lib.hid rfl⟩
                    rw [hP.out] at HRK hfs hPl
                    have HPL := Lib.hid hPl
                    have t0 : 0 ≤ (t : Int) := by omega
                    clear hia hrow hkt hPl
                    by_cases htn : t < n
                    · have htn' : (t : Int) < (n : Int) := by omega
                      have rct := HRK.out.cell (i := t) (by rw [HPL.out]; exact htn)
                      have rft := HRK.out.frozen t
                      have hval : P[t]'(by rw [HPL.out]; exact htn) = P.getD t 0 := by rw [List.getD_eq_getElem?_getD, List.getElem?_eq_getElem (by rw [HPL.out]; exact htn)]; rfl
                      rw [hval] at rct
                      clear hval
                      have HSET := Lib.hid (HRK.out.set (i := t) (by rw [HPL.out]; exact htn) x)
                      have hb3 : Bel w (wr.setCell ⟨g, t, none⟩ (.int .i64 x)) := hbk.setCell hgs _
                      have hbut3 := hbut.set t (.int .i64 x)
                      have HIA2 := Lib.hid (HIA.out.set t (.int .i64 x))
                      obtain ⟨y, hy⟩ : ∃ y, Hid (P.getD t 0 = y) := ⟨_, Lib.hid rfl⟩
                      rw [hy.out] at rct
                      by_cases hyx : y < x
                      · have hup : Hid (upd n x P t = P.set t x) := Lib.hid (if_pos ⟨htn, by rw [hy.out]; exact hyx⟩)
                        go_wp2
                        go_roundw
                        case rel => exact ⟨k + 1, by simp, by omega, by rw [hfs.out, hup.out]; exact HSET.out, HIA2.out, hbut3, hb3⟩
                        case measure => simp [intOf]; omega
                      · have hup : Hid (upd n x P t = P) := Lib.hid (if_neg (fun h => hyx (by rw [← hy.out]; exact h.2)))
                        go_wp2
                        go_roundw
                        case rel => exact ⟨k + 1, by simp, by omega, by rw [hfs.out, hup.out]; exact HRK.out, HIA.out, hbut, hbk⟩
                        case measure => simp [intOf]; omega
                    · have htn' : ¬ (t : Int) < (n : Int) := by omega
                      have hup : Hid (upd n x P t = P) := Lib.hid (if_neg (fun h => htn h.1))
                      go_wp2
                      go_roundw
                      case rel => exact ⟨k + 1, by simp, by omega, by rw [hfs.out, hup.out]; exact HRK.out, HIA.out, hbut, hbk⟩
                      case measure => simp [intOf]; omega
              · have hmx : max ou x = ou := by omega
                rw [hmx] at HNX
                clear hmx
                go_wp2_with fail
                refine (refNext_any _ _ _ l i ts _ HSr hn (Lib.hid ((nextR_in hm.out HIL.out).trans hts.out))).mono ?_
                rintro e w5 ⟨A5, c5, rfl, s5, hfr, hb5⟩
                have IA := Lib.hid (IntsAt.of s5 hfr HRB.out.lt)
                have HR5 := Lib.hid (HRB.out.mono hb5)
                have HB5 := Lib.hid (hbi.trans hb5)
                have HBUT5 := Lib.hid (HBUT.out.bel hb5)
                clear s5 hfr hb5 hbi HSr k0 k1 k6 rcb rci
                go_wp2_with fail
                go_loopw [13] (fun v wr => ∃ k : Nat, v = .int .i64 k ∧ k ≤ ts.length ∧ Row (Value.int .i64) 3 wr g ((ts.take k).foldl (upd n x) b) ∧ IntsAt A5 g ts wr ∧ But g W3 wr ∧ Bel w wr) (fun v _ => ts.length - (intOf v).toNat)
                case atStart => exact ⟨0, rfl, Nat.zero_le _, by simpa using HR5.out, IA.out, HBUT5.out, HB5.out⟩
                case round =>
                  obtain ⟨k, rfl, hk, hrow, hia, hbut, hbk⟩ := hrel
                  by_cases hkt : k = ts.length
                  · subst hkt
                    rw [List.take_length] at hrow
                    have HRW2 := Lib.hid hrow
                    have HBUT6 := Lib.hid hbut
                    have HB6 := Lib.hid hbk
                    have ei := HEI.out
                    clear hrow hia hbut hbk hk
                    go_wp2
                    go_roundw
                    case rel => exact ⟨i + 1, by simp, by omega, by rw [HNX.out], by rw [HNX.out]; exact HRW2.out, HBUT6.out, HB6.out⟩
                    case measure => simp [intOf]; omega
                  · have hk1 : k < ts.length := by omega
                    have hk2 : (k : Int) < ts.length := by omega
                    have k0 : 0 ≤ (k : Int) := by omega
                    have HIA := Lib.hid hia
                    have HRK := Lib.hid hrow
                    have hPl : ((ts.take k).foldl (upd n x) b).length = n := by rw [upds_length]; exact HBL.out
                    obtain ⟨b2, o2, rfl, hne, hcj⟩ := hia k hk1
                    have hfs := Lib.hid (foldl_take_succ (upd n x) b ts hk1)
                    have ek : IntKind.i64.wrap ((k : Int) + 1) = (k : Int) + 1 := wrap_i64 (by omega) (by omega)
                    generalize ts[k] = t at *
                    obtain ⟨P, hP⟩ : ∃ P, Hid ((ts.take k).foldl (upd n x) b = P) := ⟨_, Lib.hid rfl⟩
                    rw [hP.out] at HRK hfs hPl
                    have HPL := Lib.hid hPl
                    have t0 : 0 ≤ (t : Int) := by omega
                    clear hia hrow hkt hPl
                    by_cases htn : t < n
                    · have htn' : (t : Int) < (n : Int) := by omega
                      have rct := HRK.out.cell (i := t) (by rw [HPL.out]; exact htn)
                      have rft := HRK.out.frozen t
                      have hval : P[t]'(by rw [HPL.out]; exact htn) = P.getD t 0 := by rw [List.getD_eq_getElem?_getD, List.getElem?_eq_getElem (by rw [HPL.out]; exact htn)]; rfl
                      rw [hval] at rct
                      clear hval
                      have HSET := Lib.hid (HRK.out.set (i := t) (by rw [HPL.out]; exact htn) x)
                      have hb3 : Bel w (wr.setCell ⟨g, t, none⟩ (.int .i64 x)) := hbk.setCell hgs _
                      have hbut3 := hbut.set t (.int .i64 x)
                      have HIA2 := Lib.hid (HIA.out.set t (.int .i64 x))
                      obtain ⟨y, hy⟩ : ∃ y, Hid (P.getD t 0 = y) := ⟨_, Lib.hid rfl⟩
                      rw [hy.out] at rct
                      by_cases hyx : y < x
                      · have hup : Hid (upd n x P t = P.set t x) := Lib.hid (if_pos ⟨htn, by rw [hy.out]; exact hyx⟩)
                        go_wp2
                        go_roundw
                        case rel => exact ⟨k + 1, by simp, by omega, by rw [hfs.out, hup.out]; exact HSET.out, HIA2.out, hbut3, hb3⟩
                        case measure => simp [intOf]; omega
                      · have hup : Hid (upd n x P t = P) := Lib.hid (if_neg (fun h => hyx (by rw [← hy.out]; exact h.2)))
                        go_wp2
                        go_roundw
                        case rel => exact ⟨k + 1, by simp, by omega, by rw [hfs.out, hup.out]; exact HRK.out, HIA.out, hbut, hbk⟩
                        case measure => simp [intOf]; omega
                    · have htn' : ¬ (t : Int) < (n : Int) := by omega
                      have hup : Hid (upd n x P t = P) := Lib.hid (if_neg (fun h => htn h.1))
                      go_wp2
                      go_roundw
                      case rel => exact ⟨k + 1, by simp, by omega, by rw [hfs.out, hup.out]; exact HRK.out, HIA.out, hbut, hbk⟩
                      case measure => simp [intOf]; omega
            · have kn' : 0 ≤ kv := by omega
              by_cases kh : kv ≤ 1000000
              · have OWNF : ownC ⟨6, fn, dst, src, reg, off, m⟩ cs = 1 + kv := by rw [own_good (by rw [Int.toNat_natCast, hn1.out]; exact hm1) (by rw [Int.toNat_natCast, hkv.out]; exact kn') (by rw [Int.toNat_natCast, hkv.out]; exact kh), Int.toNat_natCast, hkv.out]
                have ek1 : IntKind.i64.wrap (1 + kv) = 1 + kv := wrap_i64 (by omega) (by omega)
                have hown := own_le2 _ cs hII.out
                rw [OWNF] at hown
                obtain ⟨x, hx⟩ : ∃ x, Hid (bi + (1 + kv) = x) := ⟨_, Lib.hid rfl⟩
                have HNX : Hid (fwd l cs (i + 1) = (ts.foldl (upd n x) b, max ou x)) := Lib.hid (by
                  rw [fwd, hfw.out]
                  unfold fstep
                  rw [if_pos hrv.out]
                  simp only
                  rw [hts.out, hII.out, OWNF, hbi2.out, hx.out, hn.out])
                have es : IntKind.i64.wrap (bi + (1 + kv)) = x := (wrap_i64 (by omega) (by omega)).trans hx.out
                clear OWNF hown
                by_cases hox : ou < x
                · have hmx : max ou x = x := by omega
                  rw [hmx] at HNX
                  clear hmx
                  go_wp2_with fail
                  refine (refNext_any _ _ _ l i ts _ HSr hn (Lib.hid ((nextR_in hm.out HIL.out).trans hts.out))).mono ?_
                  rintro e w5 ⟨A5, c5, rfl, s5, hfr, hb5⟩
                  have IA := Lib.hid (IntsAt.of s5 hfr HRB.out.lt)
                  have HR5 := Lib.hid (HRB.out.mono hb5)
                  have HB5 := Lib.hid (hbi.trans hb5)
                  have HBUT5 := Lib.hid (HBUT.out.bel hb5)
                  clear s5 hfr hb5 hbi HSr k0 k1 k6 rcb rci
                  go_wp2_with fail
                  go_loopw [13] (fun v wr => ∃ k : Nat, v = .int .i64 k ∧ k ≤ ts.length ∧ Row (Value.int .i64) 3 wr g ((ts.take k).foldl (upd n x) b) ∧ IntsAt A5 g ts wr ∧ But g W3 wr ∧ Bel w wr) (fun v _ => ts.length - (intOf v).toNat)
                  case atStart => exact ⟨0, rfl, Nat.zero_le _, by simpa using HR5.out, IA.out, HBUT5.out, HB5.out⟩
                  case round =>
                    obtain ⟨k, rfl, hk, hrow, hia, hbut, hbk⟩ := hrel
                    by_cases hkt : k = ts.length
                    · subst hkt
                      rw [List.take_length] at hrow
                      have HRW2 := Lib.hid hrow
                      have HBUT6 := Lib.hid hbut
                      have HB6 := Lib.hid hbk
                      have ei := HEI.out
                      clear hrow hia hbut hbk hk
                      go_wp2
                      go_roundw
                      case rel => exact ⟨i + 1, by simp, by omega, by rw [HNX.out], by rw [HNX.out]; exact HRW2.out, HBUT6.out, HB6.out⟩
                      case measure => simp [intOf]; omega
                    · have hk1 : k < ts.length := by omega
                      have hk2 : (k : Int) < ts.length := by omega
                      have k0 : 0 ≤ (k : Int) := by omega
                      have HIA := Lib.hid hia
                      have HRK := Lib.hid hrow
                      have hPl : ((ts.take k).foldl (upd n x) b).length = n := by rw [upds_length]; exact HBL.out
                      obtain ⟨b2, o2, rfl, hne, hcj⟩ := hia k hk1
                      have hfs := Lib.hid (foldl_take_succ (upd n x) b ts hk1)
                      have ek : IntKind.i64.wrap ((k : Int) + 1) = (k : Int) + 1 := wrap_i64 (by omega) (by omega)
                      generalize ts[k] = t at *
                      obtain ⟨P, hP⟩ : ∃ P, Hid ((ts.take k).foldl (upd n x) b = P) := ⟨_, Lib.hid rfl⟩
                      rw [hP.out] at HRK hfs hPl
                      have HPL := Lib.hid hPl
                      have t0 : 0 ≤ (t : Int) := by omega
                      clear hia hrow hkt hPl
                      by_cases htn : t < n
                      · have htn' : (t : Int) < (n : Int) := by omega
                        have rct := HRK.out.cell (i := t) (by rw [HPL.out]; exact htn)
                        have rft := HRK.out.frozen t
                        have hval : P[t]'(by rw [HPL.out]; exact htn) = P.getD t 0 := by rw [List.getD_eq_getElem?_getD, List.getElem?_eq_getElem (by rw [HPL.out]; exact htn)]; rfl
                        rw [hval] at rct
                        clear hval
                        have HSET := Lib.hid (HRK.out.set (i := t) (by rw [HPL.out]; exact htn) x)
                        have hb3 : Bel w (wr.setCell ⟨g, t, none⟩ (.int .i64 x)) := hbk.setCell hgs _
                        have hbut3 := hbut.set t (.int .i64 x)
                        have HIA2 := Lib.hid (HIA.out.set t (.int .i64 x))
                        obtain ⟨y, hy⟩ : ∃ y, Hid (P.getD t 0 = y) := ⟨_, Lib.hid rfl⟩
                        rw [hy.out] at rct
                        by_cases hyx : y < x
                        · have hup : Hid (upd n x P t = P.set t x) := Lib.hid (if_pos ⟨htn, by rw [hy.out]; exact hyx⟩)
                          go_wp2
                          go_roundw
                          case rel => exact ⟨k + 1, by simp, by omega, by rw [hfs.out, hup.out]; exact HSET.out, HIA2.out, hbut3, hb3⟩
                          case measure => simp [intOf]; omega
                        · have hup : Hid (upd n x P t = P) := Lib.hid (if_neg (fun h => hyx (by rw [← hy.out]; exact h.2)))
                          go_wp2
                          go_roundw
                          case rel => exact ⟨k + 1, by simp, by omega, by rw [hfs.out, hup.out]; exact HRK.out, HIA.out, hbut, hbk⟩
                          case measure => simp [intOf]; omega
                      · have htn' : ¬ (t : Int) < (n : Int) := by omega
                        have hup : Hid (upd n x P t = P) := Lib.hid (if_neg (fun h => htn h.1))
                        go_wp2
                        go_roundw
                        case rel => exact ⟨k + 1, by simp, by omega, by rw [hfs.out, hup.out]; exact HRK.out, HIA.out, hbut, hbk⟩
                        case measure => simp [intOf]; omega
                · have hmx : max ou x = ou := by omega
                  rw [hmx] at HNX
                  clear hmx
                  go_wp2_with fail
                  refine (refNext_any _ _ _ l i ts _ HSr hn (Lib.hid ((nextR_in hm.out HIL.out).trans hts.out))).mono ?_
                  rintro e w5 ⟨A5, c5, rfl, s5, hfr, hb5⟩
                  have IA := Lib.hid (IntsAt.of s5 hfr HRB.out.lt)
                  have HR5 := Lib.hid (HRB.out.mono hb5)
                  have HB5 := Lib.hid (hbi.trans hb5)
                  have HBUT5 := Lib.hid (HBUT.out.bel hb5)
                  clear s5 hfr hb5 hbi HSr k0 k1 k6 rcb rci
                  go_wp2_with fail
                  go_loopw [13] (fun v wr => ∃ k : Nat, v = .int .i64 k ∧ k ≤ ts.length ∧ Row (Value.int .i64) 3 wr g ((ts.take k).foldl (upd n x) b) ∧ IntsAt A5 g ts wr ∧ But g W3 wr ∧ Bel w wr) (fun v _ => ts.length - (intOf v).toNat)
                  case atStart => exact ⟨0, rfl, Nat.zero_le _, by simpa using HR5.out, IA.out, HBUT5.out, HB5.out⟩
                  case round =>
                    obtain ⟨k, rfl, hk, hrow, hia, hbut, hbk⟩ := hrel
                    by_cases hkt : k = ts.length
                    · subst hkt
                      rw [List.take_length] at hrow
                      have HRW2 := Lib.hid hrow
                      have HBUT6 := Lib.hid hbut
                      have HB6 := Lib.hid hbk
                      have ei := HEI.out
                      clear hrow hia hbut hbk hk
                      go_wp2
                      go_roundw
                      case rel => exact ⟨i + 1, by simp, by omega, by rw [HNX.out], by rw [HNX.out]; exact HRW2.out, HBUT6.out, HB6.out⟩
                      case measure => simp [intOf]; omega
                    · have hk1 : k < ts.length := by omega
                      have hk2 : (k : Int) < ts.length := by omega
                      have k0 : 0 ≤ (k : Int) := by omega
                      have HIA := Lib.hid hia
                      have HRK := Lib.hid hrow
                      have hPl : ((ts.take k).foldl (upd n x) b).length = n := by rw [upds_length]; exact HBL.out
                      obtain ⟨b2, o2, rfl, hne, hcj⟩ := hia k hk1
                      have hfs := Lib.hid (foldl_take_succ (upd n x) b ts hk1)
                      have ek : IntKind.i64.wrap ((k : Int) + 1) = (k : Int) + 1 := wrap_i64 (by omega) (by omega)
                      generalize ts[k] = t at *
                      obtain ⟨P, hP⟩ : ∃ P, Hid ((ts.take k).foldl (upd n x) b = P) := ⟨_, Lib.hid rfl⟩
                      rw [hP.out] at HRK hfs hPl
                      have HPL := Lib.hid hPl
                      have t0 : 0 ≤ (t : Int) := by omega
                      clear hia hrow hkt hPl
                      by_cases htn : t < n
                      · have htn' : (t : Int) < (n : Int) := by omega
                        have rct := HRK.out.cell (i := t) (by rw [HPL.out]; exact htn)
                        have rft := HRK.out.frozen t
                        have hval : P[t]'(by rw [HPL.out]; exact htn) = P.getD t 0 := by rw [List.getD_eq_getElem?_getD, List.getElem?_eq_getElem (by rw [HPL.out]; exact htn)]; rfl
                        rw [hval] at rct
                        clear hval
                        have HSET := Lib.hid (HRK.out.set (i := t) (by rw [HPL.out]; exact htn) x)
                        have hb3 : Bel w (wr.setCell ⟨g, t, none⟩ (.int .i64 x)) := hbk.setCell hgs _
                        have hbut3 := hbut.set t (.int .i64 x)
                        have HIA2 := Lib.hid (HIA.out.set t (.int .i64 x))
                        obtain ⟨y, hy⟩ : ∃ y, Hid (P.getD t 0 = y) := ⟨_, Lib.hid rfl⟩
                        rw [hy.out] at rct
                        by_cases hyx : y < x
                        · have hup : Hid (upd n x P t = P.set t x) := Lib.hid (if_pos ⟨htn, by rw [hy.out]; exact hyx⟩)
                          go_wp2
                          go_roundw
                          case rel => exact ⟨k + 1, by simp, by omega, by rw [hfs.out, hup.out]; exact HSET.out, HIA2.out, hbut3, hb3⟩
                          case measure => simp [intOf]; omega
                        · have hup : Hid (upd n x P t = P) := Lib.hid (if_neg (fun h => hyx (by rw [← hy.out]; exact h.2)))
                          go_wp2
                          go_roundw
                          case rel => exact ⟨k + 1, by simp, by omega, by rw [hfs.out, hup.out]; exact HRK.out, HIA.out, hbut, hbk⟩
                          case measure => simp [intOf]; omega
                      · have htn' : ¬ (t : Int) < (n : Int) := by omega
                        have hup : Hid (upd n x P t = P) := Lib.hid (if_neg (fun h => htn h.1))
                        go_wp2
                        go_roundw
                        case rel => exact ⟨k + 1, by simp, by omega, by rw [hfs.out, hup.out]; exact HRK.out, HIA.out, hbut, hbk⟩
                        case measure => simp [intOf]; omega
              · have OWNF : ownC ⟨6, fn, dst, src, reg, off, m⟩ cs = 1 := own_bad (.inr (by rw [Int.toNat_natCast, hkv.out]; omega))
                have hown := own_le2 _ cs hII.out
                rw [OWNF] at hown
                obtain ⟨x, hx⟩ : ∃ x, Hid (bi + 1 = x) := ⟨_, Lib.hid rfl⟩
                have HNX : Hid (fwd l cs (i + 1) = (ts.foldl (upd n x) b, max ou x)) := Lib.hid (by
                  rw [fwd, hfw.out]
                  unfold fstep
                  rw [if_pos hrv.out]
                  simp only
                  rw [hts.out, hII.out, OWNF, hbi2.out, hx.out, hn.out])
                have es : IntKind.i64.wrap (bi + 1) = x := (wrap_i64 (by omega) (by omega)).trans hx.out
                clear OWNF hown
                by_cases hox : ou < x
                · have hmx : max ou x = x := by omega
                  rw [hmx] at HNX
                  clear hmx
                  go_wp2_with fail
                  refine (refNext_any _ _ _ l i ts _ HSr hn (Lib.hid ((nextR_in hm.out HIL.out).trans hts.out))).mono ?_
                  rintro e w5 ⟨A5, c5, rfl, s5, hfr, hb5⟩
                  have IA := Lib.hid (IntsAt.of s5 hfr HRB.out.lt)
                  have HR5 := Lib.hid (HRB.out.mono hb5)
                  have HB5 := Lib.hid (hbi.trans hb5)
                  have HBUT5 := Lib.hid (HBUT.out.bel hb5)
                  clear s5 hfr hb5 hbi HSr k0 k1 k6 rcb rci
                  go_wp2_with fail
                  go_loopw [13] (fun v wr => ∃ k : Nat, v = .int .i64 k ∧ k ≤ ts.length ∧ Row (Value.int .i64) 3 wr g ((ts.take k).foldl (upd n x) b) ∧ IntsAt A5 g ts wr ∧ But g W3 wr ∧ Bel w wr) (fun v _ => ts.length - (intOf v).toNat)
                  case atStart => exact ⟨0, rfl, Nat.zero_le _, by simpa using HR5.out, IA.out, HBUT5.out, HB5.out⟩
                  case round =>
                    obtain ⟨k, rfl, hk, hrow, hia, hbut, hbk⟩ := hrel
                    by_cases hkt : k = ts.length
                    · subst hkt
                      rw [List.take_length] at hrow
                      have HRW2 := Lib.hid hrow
                      have HBUT6 := Lib.hid hbut
                      have HB6 := Lib.hid hbk
                      have ei := HEI.out
                      clear hrow hia hbut hbk hk
                      go_wp2
                      go_roundw
                      case rel => exact ⟨i + 1, by simp, by omega, by rw [HNX.out], by rw [HNX.out]; exact HRW2.out, HBUT6.out, HB6.out⟩
                      case measure => simp [intOf]; omega
                    · have hk1 : k < ts.length := by omega
                      have hk2 : (k : Int) < ts.length := by omega
                      have k0 : 0 ≤ (k : Int) := by omega
                      have HIA := Lib.hid hia
                      have HRK := Lib.hid hrow
                      have hPl : ((ts.take k).foldl (upd n x) b).length = n := by rw [upds_length]; exact HBL.out
                      obtain ⟨b2, o2, rfl, hne, hcj⟩ := hia k hk1
                      have hfs := Lib.hid (foldl_take_succ (upd n x) b ts hk1)
                      have ek : IntKind.i64.wrap ((k : Int) + 1) = (k : Int) + 1 := wrap_i64 (by omega) (by omega)
                      generalize ts[k] = t at *
                      obtain ⟨P, hP⟩ : ∃ P, Hid ((ts.take k).foldl (upd n x) b = P) := ⟨_, Lib.hid rfl⟩
                      rw [hP.out] at HRK hfs hPl
                      have HPL := Lib.hid hPl
                      have t0 : 0 ≤ (t : Int) := by omega
                      clear hia hrow hkt hPl
                      by_cases htn : t < n
                      · have htn' : (t : Int) < (n : Int) := by omega
                        have rct := HRK.out.cell (i := t) (by rw [HPL.out]; exact htn)
                        have rft := HRK.out.frozen t
                        have hval : P[t]'(by rw [HPL.out]; exact htn) = P.getD t 0 := by rw [List.getD_eq_getElem?_getD, List.getElem?_eq_getElem (by rw [HPL.out]; exact htn)]; rfl
                        rw [hval] at rct
                        clear hval
                        have HSET := Lib.hid (HRK.out.set (i := t) (by rw [HPL.out]; exact htn) x)
                        have hb3 : Bel w (wr.setCell ⟨g, t, none⟩ (.int .i64 x)) := hbk.setCell hgs _
                        have hbut3 := hbut.set t (.int .i64 x)
                        have HIA2 := Lib.hid (HIA.out.set t (.int .i64 x))
                        obtain ⟨y, hy⟩ : ∃ y, Hid (P.getD t 0 = y) := ⟨_, Lib.hid rfl⟩
                        rw [hy.out] at rct
                        by_cases hyx : y < x
                        · have hup : Hid (upd n x P t = P.set t x) := Lib.hid (if_pos ⟨htn, by rw [hy.out]; exact hyx⟩)
                          go_wp2
                          go_roundw
                          case rel => exact ⟨k + 1, by simp, by omega, by rw [hfs.out, hup.out]; exact HSET.out, HIA2.out, hbut3, hb3⟩
                          case measure => simp [intOf]; omega
                        · have hup : Hid (upd n x P t = P) := Lib.hid (if_neg (fun h => hyx (by rw [← hy.out]; exact h.2)))
                          go_wp2
                          go_roundw
                          case rel => exact ⟨k + 1, by simp, by omega, by rw [hfs.out, hup.out]; exact HRK.out, HIA.out, hbut, hbk⟩
                          case measure => simp [intOf]; omega
                      · have htn' : ¬ (t : Int) < (n : Int) := by omega
                        have hup : Hid (upd n x P t = P) := Lib.hid (if_neg (fun h => htn h.1))
                        go_wp2
                        go_roundw
                        case rel => exact ⟨k + 1, by simp, by omega, by rw [hfs.out, hup.out]; exact HRK.out, HIA.out, hbut, hbk⟩
                        case measure => simp [intOf]; omega
                · have hmx : max ou x = ou := by omega
                  rw [hmx] at HNX
                  clear hmx
                  go_wp2_with fail
                  refine (refNext_any _ _ _ l i ts _ HSr hn (Lib.hid ((nextR_in hm.out HIL.out).trans hts.out))).mono ?_
                  rintro e w5 ⟨A5, c5, rfl, s5, hfr, hb5⟩
                  have IA := Lib.hid (IntsAt.of s5 hfr HRB.out.lt)
                  have HR5 := Lib.hid (HRB.out.mono hb5)
                  have HB5 := Lib.hid (hbi.trans hb5)
                  have HBUT5 := Lib.hid (HBUT.out.bel hb5)
                  clear s5 hfr hb5 hbi HSr k0 k1 k6 rcb rci
                  go_wp2_with fail
                  go_loopw [13] (fun v wr => ∃ k : Nat, v = .int .i64 k ∧ k ≤ ts.length ∧ Row (Value.int .i64) 3 wr g ((ts.take k).foldl (upd n x) b) ∧ IntsAt A5 g ts wr ∧ But g W3 wr ∧ Bel w wr) (fun v _ => ts.length - (intOf v).toNat)
                  case atStart => exact ⟨0, rfl, Nat.zero_le _, by simpa using HR5.out, IA.out, HBUT5.out, HB5.out⟩
                  case round =>
                    obtain ⟨k, rfl, hk, hrow, hia, hbut, hbk⟩ := hrel
                    by_cases hkt : k = ts.length
                    · subst hkt
                      rw [List.take_length] at hrow
                      have HRW2 := Lib.hid hrow
                      have HBUT6 := Lib.hid hbut
                      have HB6 := Lib.hid hbk
                      have ei := HEI.out
                      clear hrow hia hbut hbk hk
                      go_wp2
                      go_roundw
                      case rel => exact ⟨i + 1, by simp, by omega, by rw [HNX.out], by rw [HNX.out]; exact HRW2.out, HBUT6.out, HB6.out⟩
                      case measure => simp [intOf]; omega
                    · have hk1 : k < ts.length := by omega
                      have hk2 : (k : Int) < ts.length := by omega
                      have k0 : 0 ≤ (k : Int) := by omega
                      have HIA := Lib.hid hia
                      have HRK := Lib.hid hrow
                      have hPl : ((ts.take k).foldl (upd n x) b).length = n := by rw [upds_length]; exact HBL.out
                      obtain ⟨b2, o2, rfl, hne, hcj⟩ := hia k hk1
                      have hfs := Lib.hid (foldl_take_succ (upd n x) b ts hk1)
                      have ek : IntKind.i64.wrap ((k : Int) + 1) = (k : Int) + 1 := wrap_i64 (by omega) (by omega)
                      generalize ts[k] = t at *
                      obtain ⟨P, hP⟩ : ∃ P, Hid ((ts.take k).foldl (upd n x) b = P) := ⟨_, Lib.hid rfl⟩
                      rw [hP.out] at HRK hfs hPl
                      have HPL := Lib.hid hPl
                      have t0 : 0 ≤ (t : Int) := by omega
                      clear hia hrow hkt hPl
                      by_cases htn : t < n
                      · have htn' : (t : Int) < (n : Int) := by omega
                        have rct := HRK.out.cell (i := t) (by rw [HPL.out]; exact htn)
                        have rft := HRK.out.frozen t
                        have hval : P[t]'(by rw [HPL.out]; exact htn) = P.getD t 0 := by rw [List.getD_eq_getElem?_getD, List.getElem?_eq_getElem (by rw [HPL.out]; exact htn)]; rfl
                        rw [hval] at rct
                        clear hval
                        have HSET := Lib.hid (HRK.out.set (i := t) (by rw [HPL.out]; exact htn) x)
                        have hb3 : Bel w (wr.setCell ⟨g, t, none⟩ (.int .i64 x)) := hbk.setCell hgs _
                        have hbut3 := hbut.set t (.int .i64 x)
                        have HIA2 := Lib.hid (HIA.out.set t (.int .i64 x))
                        obtain ⟨y, hy⟩ : ∃ y, Hid (P.getD t 0 = y) := ⟨_, Lib.hid rfl⟩
                        rw [hy.out] at rct
                        by_cases hyx : y < x
                        · have hup : Hid (upd n x P t = P.set t x) := Lib.hid (if_pos ⟨htn, by rw [hy.out]; exact hyx⟩)
                          go_wp2
                          go_roundw
                          case rel => exact ⟨k + 1, by simp, by omega, by rw [hfs.out, hup.out]; exact HSET.out, HIA2.out, hbut3, hb3⟩
                          case measure => simp [intOf]; omega
                        · have hup : Hid (upd n x P t = P) := Lib.hid (if_neg (fun h => hyx (by rw [← hy.out]; exact h.2)))
                          go_wp2
                          go_roundw
                          case rel => exact ⟨k + 1, by simp, by omega, by rw [hfs.out, hup.out]; exact HRK.out, HIA.out, hbut, hbk⟩
                          case measure => simp [intOf]; omega
                      · have htn' : ¬ (t : Int) < (n : Int) := by omega
                        have hup : Hid (upd n x P t = P) := Lib.hid (if_neg (fun h => htn h.1))
                        go_wp2
                        go_roundw
                        case rel => exact ⟨k + 1, by simp, by omega, by rw [hfs.out, hup.out]; exact HRK.out, HIA.out, hbut, hbk⟩
                        case measure => simp [intOf]; omega
          · have hm1' : ¬ (m : Int) < (n1 : Int) := by omega
            have OWNF : ownC ⟨6, fn, dst, src, reg, off, m⟩ cs = 1 := own_short (by rw [Int.toNat_natCast, hn1.out]; exact hm1)
            have hown := own_le2 _ cs hII.out
            rw [OWNF] at hown
            obtain ⟨x, hx⟩ : ∃ x, Hid (bi + 1 = x) := ⟨_, Lib.hid rfl⟩
            have HNX : Hid (fwd l cs (i + 1) = (ts.foldl (upd n x) b, max ou x)) := Lib.hid (by
              rw [fwd, hfw.out]
              unfold fstep
              rw [if_pos hrv.out]
              simp only
              rw [hts.out, hII.out, OWNF, hbi2.out, hx.out, hn.out])
            have es : IntKind.i64.wrap (bi + 1) = x := (wrap_i64 (by omega) (by omega)).trans hx.out
            clear OWNF hown
            by_cases hox : ou < x
            · have hmx : max ou x = x := by omega
              rw [hmx] at HNX
              clear hmx
              go_wp2_with fail
              refine (refNext_any _ _ _ l i ts _ HSr hn (Lib.hid ((nextR_in hm.out HIL.out).trans hts.out))).mono ?_
              rintro e w5 ⟨A5, c5, rfl, s5, hfr, hb5⟩
              have IA := Lib.hid (IntsAt.of s5 hfr HRB.out.lt)
              have HR5 := Lib.hid (HRB.out.mono hb5)
              have HB5 := Lib.hid (hbi.trans hb5)
              have HBUT5 := Lib.hid (HBUT.out.bel hb5)
              clear s5 hfr hb5 hbi HSr k0 k1 k6 rcb rci
              go_wp2_with fail
              go_loopw [13] (fun v wr => ∃ k : Nat, v = .int .i64 k ∧ k ≤ ts.length ∧ Row (Value.int .i64) 3 wr g ((ts.take k).foldl (upd n x) b) ∧ IntsAt A5 g ts wr ∧ But g W3 wr ∧ Bel w wr) (fun v _ => ts.length - (intOf v).toNat)
              case atStart => exact ⟨0, rfl, Nat.zero_le _, by simpa using HR5.out, IA.out, HBUT5.out, HB5.out⟩
              case round =>
                obtain ⟨k, rfl, hk, hrow, hia, hbut, hbk⟩ := hrel
                by_cases hkt : k = ts.length
                · subst hkt
                  rw [List.take_length] at hrow
                  have HRW2 := Lib.hid hrow
                  have HBUT6 := Lib.hid hbut
                  have HB6 := Lib.hid hbk
                  have ei := HEI.out
                  clear hrow hia hbut hbk hk
                  go_wp2
                  go_roundw
                  case rel => exact ⟨i + 1, by simp, by omega, by rw [HNX.out], by rw [HNX.out]; exact HRW2.out, HBUT6.out, HB6.out⟩
                  case measure => simp [intOf]; omega
                · have hk1 : k < ts.length := by omega
                  have hk2 : (k : Int) < ts.length := by omega
                  have k0 : 0 ≤ (k : Int) := by omega
                  have HIA := Lib.hid hia
                  have HRK := Lib.hid hrow
                  have hPl : ((ts.take k).foldl (upd n x) b).length = n := by rw [upds_length]; exact HBL.out
                  obtain ⟨b2, o2, rfl, hne, hcj⟩ := hia k hk1
                  have hfs := Lib.hid (foldl_take_succ (upd n x) b ts hk1)
                  have ek : IntKind.i64.wrap ((k : Int) + 1) = (k : Int) + 1 := wrap_i64 (by omega) (by omega)
                  generalize ts[k] = t at *
                  obtain ⟨P, hP⟩ : ∃ P, Hid ((ts.take k).foldl (upd n x) b = P) := ⟨_, Lib.hid rfl⟩
                  rw [hP.out] at HRK hfs hPl
                  have HPL := Lib.hid hPl
                  have t0 : 0 ≤ (t : Int) := by omega
                  clear hia hrow hkt hPl
                  by_cases htn : t < n
                  · have htn' : (t : Int) < (n : Int) := by omega
                    have rct := HRK.out.cell (i := t) (by rw [HPL.out]; exact htn)
                    have rft := HRK.out.frozen t
                    have hval : P[t]'(by rw [HPL.out]; exact htn) = P.getD t 0 := by rw [List.getD_eq_getElem?_getD, List.getElem?_eq_getElem (by rw [HPL.out]; exact htn)]; rfl
                    rw [hval] at rct
                    clear hval
                    have HSET := Lib.hid (HRK.out.set (i := t) (by rw [HPL.out]; exact htn) x)
                    have hb3 : Bel w (wr.setCell ⟨g, t, none⟩ (.int .i64 x)) := hbk.setCell hgs _
                    have hbut3 := hbut.set t (.int .i64 x)
                    have HIA2 := Lib.hid (HIA.out.set t (.int .i64 x))
                    obtain ⟨y, hy⟩ : ∃ y, Hid (P.getD t 0 = y) := ⟨_, Lib.hid rfl⟩
                    rw [hy.out] at rct
                    by_cases hyx : y < x
                    · have hup : Hid (upd n x P t = P.set t x) := Lib.hid (if_pos ⟨htn, by rw [hy.out]; exact hyx⟩)
                      go_wp2
                      go_roundw
                      case rel => exact ⟨k + 1, by simp, by omega, by rw [hfs.out, hup.out]; exact HSET.out, HIA2.out, hbut3, hb3⟩
                      case measure => simp [intOf]; omega
                    · have hup : Hid (upd n x P t = P) := Lib.hid (if_neg (fun h => hyx (by rw [← hy.out]; exact h.2)))
                      go_wp2
                      go_roundw
                      case rel => exact ⟨k + 1, by simp, by omega, by rw [hfs.out, hup.out]; exact HRK.out, HIA.out, hbut, hbk⟩
                      case measure => simp [intOf]; omega
                  · have htn' : ¬ (t : Int) < (n : Int) := by omega
                    have hup : Hid (upd n x P t = P) := Lib.hid (if_neg (fun h => htn h.1))
                    go_wp2
                    go_roundw
                    case rel => exact ⟨k + 1, by simp, by omega, by rw [hfs.out, hup.out]; exact HRK.out, HIA.out, hbut, hbk⟩
                    case measure => simp [intOf]; omega
            · have hmx : max ou x = ou := by omega
              rw [hmx] at HNX
              clear hmx
              go_wp2_with fail
              refine (refNext_any _ _ _ l i ts _ HSr hn (Lib.hid ((nextR_in hm.out HIL.out).trans hts.out))).mono ?_
              rintro e w5 ⟨A5, c5, rfl, s5, hfr, hb5⟩
              have IA := Lib.hid (IntsAt.of s5 hfr HRB.out.lt)
              have HR5 := Lib.hid (HRB.out.mono hb5)
              have HB5 := Lib.hid (hbi.trans hb5)
              have HBUT5 := Lib.hid (HBUT.out.bel hb5)
              clear s5 hfr hb5 hbi HSr k0 k1 k6 rcb rci
              go_wp2_with fail
              go_loopw [13] (fun v wr => ∃ k : Nat, v = .int .i64 k ∧ k ≤ ts.length ∧ Row (Value.int .i64) 3 wr g ((ts.take k).foldl (upd n x) b) ∧ IntsAt A5 g ts wr ∧ But g W3 wr ∧ Bel w wr) (fun v _ => ts.length - (intOf v).toNat)
              case atStart => exact ⟨0, rfl, Nat.zero_le _, by simpa using HR5.out, IA.out, HBUT5.out, HB5.out⟩
              case round =>
                obtain ⟨k, rfl, hk, hrow, hia, hbut, hbk⟩ := hrel
                by_cases hkt : k = ts.length
                · subst hkt
                  rw [List.take_length] at hrow
                  have HRW2 := Lib.hid hrow
                  have HBUT6 := Lib.hid hbut
                  have HB6 := Lib.hid hbk
                  have ei := HEI.out
                  clear hrow hia hbut hbk hk
                  go_wp2
                  go_roundw
                  case rel => exact ⟨i + 1, by simp, by omega, by rw [HNX.out], by rw [HNX.out]; exact HRW2.out, HBUT6.out, HB6.out⟩
                  case measure => simp [intOf]; omega
                · have hk1 : k < ts.length := by omega
                  have hk2 : (k : Int) < ts.length := by omega
                  have k0 : 0 ≤ (k : Int) := by omega
                  have HIA := Lib.hid hia
                  have HRK := Lib.hid hrow
                  have hPl : ((ts.take k).foldl (upd n x) b).length = n := by rw [upds_length]; exact HBL.out
                  obtain ⟨b2, o2, rfl, hne, hcj⟩ := hia k hk1
                  have hfs := Lib.hid (foldl_take_succ (upd n x) b ts hk1)
                  have ek : IntKind.i64.wrap ((k : Int) + 1) = (k : Int) + 1 := wrap_i64 (by omega) (by omega)
                  generalize ts[k] = t at *
                  obtain ⟨P, hP⟩ : ∃ P, Hid ((ts.take k).foldl (upd n x) b = P) := ⟨_, Lib.hid rfl⟩
                  rw [hP.out] at HRK hfs hPl
                  have HPL := Lib.hid hPl
                  have t0 : 0 ≤ (t : Int) := by omega
                  clear hia hrow hkt hPl
                  by_cases htn : t < n
                  · have htn' : (t : Int) < (n : Int) := by omega
                    have rct := HRK.out.cell (i := t) (by rw [HPL.out]; exact htn)
                    have rft := HRK.out.frozen t
                    have hval : P[t]'(by rw [HPL.out]; exact htn) = P.getD t 0 := by rw [List.getD_eq_getElem?_getD, List.getElem?_eq_getElem (by rw [HPL.out]; exact htn)]; rfl
                    rw [hval] at rct
                    clear hval
                    have HSET := Lib.hid (HRK.out.set (i := t) (by rw [HPL.out]; exact htn) x)
                    have hb3 : Bel w (wr.setCell ⟨g, t, none⟩ (.int .i64 x)) := hbk.setCell hgs _
                    have hbut3 := hbut.set t (.int .i64 x)
                    have HIA2 := Lib.hid (HIA.out.set t (.int .i64 x))
                    obtain ⟨y, hy⟩ : ∃ y, Hid (P.getD t 0 = y) := ⟨_, Lib.hid rfl⟩
                    rw [hy.out] at rct
                    by_cases hyx : y < x
                    · have hup : Hid (upd n x P t = P.set t x) := Lib.hid (if_pos ⟨htn, by rw [hy.out]; exact hyx⟩)
                      go_wp2
                      go_roundw
                      case rel => exact ⟨k + 1, by simp, by omega, by rw [hfs.out, hup.out]; exact HSET.out, HIA2.out, hbut3, hb3⟩
                      case measure => simp [intOf]; omega
                    · have hup : Hid (upd n x P t = P) := Lib.hid (if_neg (fun h => hyx (by rw [← hy.out]; exact h.2)))
                      go_wp2
                      go_roundw
                      case rel => exact ⟨k + 1, by simp, by omega, by rw [hfs.out, hup.out]; exact HRK.out, HIA.out, hbut, hbk⟩
                      case measure => simp [intOf]; omega
                  · have htn' : ¬ (t : Int) < (n : Int) := by omega
                    have hup : Hid (upd n x P t = P) := Lib.hid (if_neg (fun h => htn h.1))
                    go_wp2
                    go_roundw
                    case rel => exact ⟨k + 1, by simp, by omega, by rw [hfs.out, hup.out]; exact HRK.out, HIA.out, hbut, hbk⟩
                    case measure => simp [intOf]; omega
        · have h6' : (op == 6) = false := by simpa using h6
          clear um0 um1
          have OWNF : ownC ⟨op, fn, dst, src, reg, off, imm⟩ cs = 1 := own_6 h6
          have hown := own_le2 _ cs hII.out
          rw [OWNF] at hown
          obtain ⟨x, hx⟩ : ∃ x, Hid (bi + 1 = x) := ⟨_, Lib.hid rfl⟩
          have HNX : Hid (fwd l cs (i + 1) = (ts.foldl (upd n x) b, max ou x)) := Lib.hid (by
            rw [fwd, hfw.out]
            unfold fstep
            rw [if_pos hrv.out]
            simp only
            rw [hts.out, hII.out, OWNF, hbi2.out, hx.out, hn.out])
          have es : IntKind.i64.wrap (bi + 1) = x := (wrap_i64 (by omega) (by omega)).trans hx.out
          clear OWNF hown
          by_cases hox : ou < x
          · have hmx : max ou x = x := by omega
            rw [hmx] at HNX
            clear hmx
            go_wp2_with fail
            refine (refNext_any _ _ _ l i ts _ HSr hn (Lib.hid ((nextR_in hm.out HIL.out).trans hts.out))).mono ?_
            rintro e w5 ⟨A5, c5, rfl, s5, hfr, hb5⟩
            have IA := Lib.hid (IntsAt.of s5 hfr HRB.out.lt)
            have HR5 := Lib.hid (HRB.out.mono hb5)
            have HB5 := Lib.hid (hbi.trans hb5)
            have HBUT5 := Lib.hid (HBUT.out.bel hb5)
            clear s5 hfr hb5 hbi HSr k0 k1 k6 rcb rci
            go_wp2_with fail
            go_loopw [13] (fun v wr => ∃ k : Nat, v = .int .i64 k ∧ k ≤ ts.length ∧ Row (Value.int .i64) 3 wr g ((ts.take k).foldl (upd n x) b) ∧ IntsAt A5 g ts wr ∧ But g W3 wr ∧ Bel w wr) (fun v _ => ts.length - (intOf v).toNat)
            case atStart => exact ⟨0, rfl, Nat.zero_le _, by simpa using HR5.out, IA.out, HBUT5.out, HB5.out⟩
            case round =>
              obtain ⟨k, rfl, hk, hrow, hia, hbut, hbk⟩ := hrel
              by_cases hkt : k = ts.length
              · subst hkt
                rw [List.take_length] at hrow
                have HRW2 := Lib.hid hrow
                have HBUT6 := Lib.hid hbut
                have HB6 := Lib.hid hbk
                have ei := HEI.out
                clear hrow hia hbut hbk hk
                go_wp2
                go_roundw
                case rel => exact ⟨i + 1, by simp, by omega, by rw [HNX.out], by rw [HNX.out]; exact HRW2.out, HBUT6.out, HB6.out⟩
                case measure => simp [intOf]; omega
              · have hk1 : k < ts.length := by omega
                have hk2 : (k : Int) < ts.length := by omega
                have k0 : 0 ≤ (k : Int) := by omega
                have HIA := Lib.hid hia
                have HRK := Lib.hid hrow
                have hPl : ((ts.take k).foldl (upd n x) b).length = n := by rw [upds_length]; exact HBL.out
                obtain ⟨b2, o2, rfl, hne, hcj⟩ := hia k hk1
                have hfs := Lib.hid (foldl_take_succ (upd n x) b ts hk1)
                have ek : IntKind.i64.wrap ((k : Int) + 1) = (k : Int) + 1 := wrap_i64 (by omega) (by omega)
                generalize ts[k] = t at *
                obtain ⟨P, hP⟩ : ∃ P, Hid ((ts.take k).foldl (upd n x) b = P) := ⟨_, Lib.hid rfl⟩
                rw [hP.out] at HRK hfs hPl
                have HPL := Lib.hid hPl
                have t0 : 0 ≤ (t : Int) := by omega
                clear hia hrow hkt hPl
                by_cases htn : t < n
                · have htn' : (t : Int) < (n : Int) := by omega
                  have rct := HRK.out.cell (i := t) (by rw [HPL.out]; exact htn)
                  have rft := HRK.out.frozen t
                  have hval : P[t]'(by rw [HPL.out]; exact htn) = P.getD t 0 := by rw [List.getD_eq_getElem?_getD, List.getElem?_eq_getElem (by rw [HPL.out]; exact htn)]; rfl
                  rw [hval] at rct
                  clear hval
                  have HSET := Lib.hid (HRK.out.set (i := t) (by rw [HPL.out]; exact htn) x)
                  have hb3 : Bel w (wr.setCell ⟨g, t, none⟩ (.int .i64 x)) := hbk.setCell hgs _
                  have hbut3 := hbut.set t (.int .i64 x)
                  have HIA2 := Lib.hid (HIA.out.set t (.int .i64 x))
                  obtain ⟨y, hy⟩ : ∃ y, Hid (P.getD t 0 = y) := ⟨_, Lib.hid rfl⟩
                  rw [hy.out] at rct
                  by_cases hyx : y < x
                  · have hup : Hid (upd n x P t = P.set t x) := Lib.hid (if_pos ⟨htn, by rw [hy.out]; exact hyx⟩)
                    go_wp2
                    go_roundw
                    case rel => exact ⟨k + 1, by simp, by omega, by rw [hfs.out, hup.out]; exact HSET.out, HIA2.out, hbut3, hb3⟩
                    case measure => simp [intOf]; omega
                  · have hup : Hid (upd n x P t = P) := Lib.hid (if_neg (fun h => hyx (by rw [← hy.out]; exact h.2)))
                    go_wp2
                    go_roundw
                    case rel => exact ⟨k + 1, by simp, by omega, by rw [hfs.out, hup.out]; exact HRK.out, HIA.out, hbut, hbk⟩
                    case measure => simp [intOf]; omega
                · have htn' : ¬ (t : Int) < (n : Int) := by omega
                  have hup : Hid (upd n x P t = P) := Lib.hid (if_neg (fun h => htn h.1))
                  go_wp2
                  go_roundw
                  case rel => exact ⟨k + 1, by simp, by omega, by rw [hfs.out, hup.out]; exact HRK.out, HIA.out, hbut, hbk⟩
                  case measure => simp [intOf]; omega
          · have hmx : max ou x = ou := by omega
            rw [hmx] at HNX
            clear hmx
            go_wp2_with fail
            refine (refNext_any _ _ _ l i ts _ HSr hn (Lib.hid ((nextR_in hm.out HIL.out).trans hts.out))).mono ?_
            rintro e w5 ⟨A5, c5, rfl, s5, hfr, hb5⟩
            have IA := Lib.hid (IntsAt.of s5 hfr HRB.out.lt)
            have HR5 := Lib.hid (HRB.out.mono hb5)
            have HB5 := Lib.hid (hbi.trans hb5)
            have HBUT5 := Lib.hid (HBUT.out.bel hb5)
            clear s5 hfr hb5 hbi HSr k0 k1 k6 rcb rci
            go_wp2_with fail
            go_loopw [13] (fun v wr => ∃ k : Nat, v = .int .i64 k ∧ k ≤ ts.length ∧ Row (Value.int .i64) 3 wr g ((ts.take k).foldl (upd n x) b) ∧ IntsAt A5 g ts wr ∧ But g W3 wr ∧ Bel w wr) (fun v _ => ts.length - (intOf v).toNat)
            case atStart => exact ⟨0, rfl, Nat.zero_le _, by simpa using HR5.out, IA.out, HBUT5.out, HB5.out⟩
            case round =>
              obtain ⟨k, rfl, hk, hrow, hia, hbut, hbk⟩ := hrel
              by_cases hkt : k = ts.length
              · subst hkt
                rw [List.take_length] at hrow
                have HRW2 := Lib.hid hrow
                have HBUT6 := Lib.hid hbut
                have HB6 := Lib.hid hbk
                have ei := HEI.out
                clear hrow hia hbut hbk hk
                go_wp2
                go_roundw
                case rel => exact ⟨i + 1, by simp, by omega, by rw [HNX.out], by rw [HNX.out]; exact HRW2.out, HBUT6.out, HB6.out⟩
                case measure => simp [intOf]; omega
              · have hk1 : k < ts.length := by omega
                have hk2 : (k : Int) < ts.length := by omega
                have k0 : 0 ≤ (k : Int) := by omega
                have HIA := Lib.hid hia
                have HRK := Lib.hid hrow
                have hPl : ((ts.take k).foldl (upd n x) b).length = n := by rw [upds_length]; exact HBL.out
                obtain ⟨b2, o2, rfl, hne, hcj⟩ := hia k hk1
                have hfs := Lib.hid (foldl_take_succ (upd n x) b ts hk1)
                have ek : IntKind.i64.wrap ((k : Int) + 1) = (k : Int) + 1 := wrap_i64 (by omega) (by omega)
                generalize ts[k] = t at *
                obtain ⟨P, hP⟩ : ∃ P, Hid ((ts.take k).foldl (upd n x) b = P) := ⟨_, Lib.hid rfl⟩
                rw [hP.out] at HRK hfs hPl
                have HPL := Lib.hid hPl
                have t0 : 0 ≤ (t : Int) := by omega
                clear hia hrow hkt hPl
                by_cases htn : t < n
                · have htn' : (t : Int) < (n : Int) := by omega
                  have rct := HRK.out.cell (i := t) (by rw [HPL.out]; exact htn)
                  have rft := HRK.out.frozen t
                  have hval : P[t]'(by rw [HPL.out]; exact htn) = P.getD t 0 := by rw [List.getD_eq_getElem?_getD, List.getElem?_eq_getElem (by rw [HPL.out]; exact htn)]; rfl
                  rw [hval] at rct
                  clear hval
                  have HSET := Lib.hid (HRK.out.set (i := t) (by rw [HPL.out]; exact htn) x)
                  have hb3 : Bel w (wr.setCell ⟨g, t, none⟩ (.int .i64 x)) := hbk.setCell hgs _
                  have hbut3 := hbut.set t (.int .i64 x)
                  have HIA2 := Lib.hid (HIA.out.set t (.int .i64 x))
                  obtain ⟨y, hy⟩ : ∃ y, Hid (P.getD t 0 = y) := ⟨_, Lib.hid rfl⟩
                  rw [hy.out] at rct
                  by_cases hyx : y < x
                  · have hup : Hid (upd n x P t = P.set t x) := Lib.hid (if_pos ⟨htn, by rw [hy.out]; exact hyx⟩)
                    go_wp2
                    go_roundw
                    case rel => exact ⟨k + 1, by simp, by omega, by rw [hfs.out, hup.out]; exact HSET.out, HIA2.out, hbut3, hb3⟩
                    case measure => simp [intOf]; omega
                  · have hup : Hid (upd n x P t = P) := Lib.hid (if_neg (fun h => hyx (by rw [← hy.out]; exact h.2)))
                    go_wp2
                    go_roundw
                    case rel => exact ⟨k + 1, by simp, by omega, by rw [hfs.out, hup.out]; exact HRK.out, HIA.out, hbut, hbk⟩
                    case measure => simp [intOf]; omega
                · have htn' : ¬ (t : Int) < (n : Int) := by omega
                  have hup : Hid (upd n x P t = P) := Lib.hid (if_neg (fun h => htn h.1))
                  go_wp2
                  go_roundw
                  case rel => exact ⟨k + 1, by simp, by omega, by rw [hfs.out, hup.out]; exact HRK.out, HIA.out, hbut, hbk⟩
                  case measure => simp [intOf]; omega
set_option maxHeartbeats 1000000 in
theorem refLongest_any (A A1 : Option Addr) (c n c1 n1 : Nat) (l : List InstD) (cs : List Int) (r : Int) (w : World) (h : Sl InstR 7 w A c l) (hn : Hid (l.length = n)) (h1 : Sl (IntR .i64) 1 w A1 c1 cs) (hn1 : Hid (cs.length = n1)) (hr : Hid (longR l cs = r)) :
    Calls Try.prog 18 #[.slice A n c, .slice A1 n1 c1] w fun e w' => e = .returned (.int .i64 r) ∧ Bel w w' := by
  rw [← hr.out]
  unfold longR
  by_cases hm : crsMay l = true
  · rw [if_pos hm]
    obtain ⟨m0, m1, m2⟩ := crsMay_facts hm
    exact reflong_ok A A1 c n c1 n1 l cs w h hn h1 hn1 (Lib.hid hm) (by rw [← hn.out]; exact m0) (by rw [← hn.out]; exact m1)
  · rw [if_neg hm]
    have HM : Hid (crsMay l = false) := Lib.hid (by simpa using hm)
    have HS := Lib.hid h
    clear hm h hr h1 hn1
    go_enter Try.func18, Try.ntmps18
    go_wp2_with fail
    refine (refCrsMay_any _ _ _ l false _ HS.out hn HM).mono ?_
    rintro e w1 ⟨rfl, hb⟩
    go_wp2_with fail
    go_ret
    exact ⟨rfl, hb⟩
end Go.Proofs.Ytpfnjbebfihkeaa
