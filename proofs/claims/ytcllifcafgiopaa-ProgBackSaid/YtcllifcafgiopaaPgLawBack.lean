/- ProgBack's walk. -/
import Derived.Test.YtcllifcafgiopaaPg14
set_option linter.unusedVariables false
set_option linter.unusedSimpArgs false
namespace Go.Proofs.Ytcllifcafgiopaa
open Go.RowKit

theorem back_case {w : World} {A : Option Addr} {c : Nat} {L : List FnD} (h : Sl FnR 2 w A c L) {bs : List Int} {e0 : Int} (hr : putP L = (bs, e0)) {Lx : List FnD} {ex : Int} (hx : getP bs = (Lx, ex)) : (e0 = 0 ∧ ex = 0 ∧ decide (Lx = L) = true) ∨ (e0 = 1 ∧ bs.length = 0) := by
  by_cases hp : progMay L = true
  · have h1 : putP L = (progBytes L, 0) := if_pos hp
    rw [hr] at h1
    obtain ⟨rfl, rfl⟩ := Prod.mk.inj h1
    have h2 := getP_put (prog_ins h hp) []
    rw [List.append_nil, if_pos ⟨rfl, hp⟩, hx] at h2
    obtain ⟨rfl, rfl⟩ := Prod.mk.inj h2
    exact .inl ⟨rfl, rfl, decide_eq_true rfl⟩
  · have h1 : putP L = ([], 1) := if_neg hp
    rw [hr] at h1
    obtain ⟨rfl, rfl⟩ := Prod.mk.inj h1
    exact .inr ⟨rfl, rfl⟩
set_option maxHeartbeats 8000000 in
set_option maxRecDepth 100000 in
theorem ProgBack_walk (C : Array Value) (L : List FnD) (B : Option Addr) (cb : Nat) (l : List Int) (W : World) (hp : ProgR W C.toList L) (hl : Sl (IntR .u8) 1 W B cb l) :
    Calls Try.prog 3 #[.agg C, .slice B l.length cb] W fun e w' => e = .returned (.bool true) ∧ Bel W w' := by
  obtain ⟨A, c, hC, hsl⟩ := hp
  obtain rfl : C = #[.slice A L.length c] := by cases C; simpa using hC
  clear hC
  obtain ⟨n, hn0⟩ : ∃ n, L.length = n := ⟨_, rfl⟩
  have hn := Lib.hid hn0
  obtain ⟨q, hq0⟩ : ∃ q, l.length = q := ⟨_, rfl⟩
  have hq := Lib.hid hq0
  rw [hn0, hq0]
  have HBa := Lib.hid ((Bel.refl W).alloc (.cells #[.slice A n c] 24))
  have HS := Lib.hid (hsl.mono FnR.mono HBa.out)
  have HL := Lib.hid (hl.mono (IntR.mono _) HBa.out)
  have K := Lib.hid (Blk.new W 24 #[.slice A n c])
  obtain ⟨fv, hfv⟩ : ∃ fv, Hid (fewB L = fv) := ⟨_, Lib.hid rfl⟩
  clear hsl hl hn0 hq0
  go_enter Try.func3, Try.ntmps3
  go_wp2_with fail
  generalize W.alloc (.cells #[.slice A n c] 24) = W1 at *
  generalize W.heap.size = g at *
  refine (awake_any _).mono ?_
  rintro e w1 ⟨rfl, hb⟩
  have HB := Lib.hid hb
  clear hb
  have q1 := (K.out.bel HB.out).cell 0 rfl
  go_wp2_with fail
  refine (refFew_any A c n L fv _ (HS.out.mono FnR.mono HB.out) hn hfv).mono ?_
  rintro e w2 ⟨rfl, hb⟩
  have HB := Lib.hid (HB.out.trans hb)
  clear hb q1
  cases fv
  · go_wp2_with fail
    go_ret
    exact ⟨rfl, HBa.out.trans HB.out⟩
  by_cases h5 : (5000 : Int) < q
  · go_wp2_with fail
    go_ret
    exact ⟨rfl, HBa.out.trans HB.out⟩
  have q2 := (K.out.bel HB.out).cell 0 rfl
  go_wp2_with fail
  clear h5
  obtain ⟨bs, e0, hput⟩ : ∃ bs e0, Hid (putP L = (bs, e0)) := ⟨_, _, Lib.hid rfl⟩
  obtain ⟨m, hm⟩ : ∃ m, Hid (bs.length = m) := ⟨_, Lib.hid rfl⟩
  refine (progPut_any A c n L _ bs m e0 (HS.out.mono FnR.mono HB.out) hn hput hm).mono ?_
  rintro e w3 ⟨A3, c3, rfl, s3, hb⟩
  have HB := Lib.hid (HB.out.trans hb)
  have S3 := Lib.hid s3
  clear hb q2 s3
  go_wp2_with fail
  obtain ⟨Lx, ex, hget⟩ : ∃ Lx ex, Hid (getP bs = (Lx, ex)) := ⟨_, _, Lib.hid rfl⟩
  obtain ⟨p, hp⟩ : ∃ p, Hid (Lx.length = p) := ⟨_, Lib.hid rfl⟩
  refine (progGet_any A3 c3 m bs _ S3.out hm Lx ex p hget hp).mono ?_
  rintro e w4 ⟨A4, c4, rfl, s4, hb⟩
  have hb4 := (Bel.refl w4).alloc (.cells #[.slice A4 p c4] 24)
  have HB := Lib.hid (HB.out.trans (hb.trans hb4))
  have S4 := Lib.hid (s4.mono FnR.mono hb4)
  have r4 := cell_fresh w4 #[.slice A4 p c4] 24 0 _ rfl
  have q4 := (K.out.bel HB.out).cell 0 rfl
  clear hb hb4 s4 S3
  go_wp2_with fail
  obtain ⟨sm, hsm⟩ : ∃ sm, Hid (decide (Lx = L) = sm) := ⟨_, Lib.hid rfl⟩
  refine (refSame_any A4 A p n c4 c Lx L sm _ S4.out (HS.out.mono FnR.mono HB.out) hp hn hsm).mono ?_
  rintro e w5 ⟨rfl, hb⟩
  have HB := Lib.hid (HB.out.trans hb)
  clear hb r4 q4 S4
  have hcase : (e0 = 0 ∧ ex = 0 ∧ sm = true) ∨ (e0 = 1 ∧ m = 0) := by
    have := back_case HS.out hput.out hget.out
    rw [hsm.out, hm.out] at this
    exact this
  have XX : Calls Try.prog 12 #[.slice B q cb] w5 fun e w6 => ∃ (A6 : Option Addr) (c6 : Nat) (Ly : List FnD) (g6 : Int) (p6 : Nat), e = .returned (.tuple #[.agg #[.slice A6 p6 c6], .int .i64 g6]) ∧ Hid (getP l = (Ly, g6)) ∧ Hid (Ly.length = p6) ∧ Hid (Sl FnR 2 w6 A6 c6 Ly) ∧ Hid (Bel w5 w6) := by
    obtain ⟨Ly, g6, hgl⟩ : ∃ Ly g6, Hid (getP l = (Ly, g6)) := ⟨_, _, Lib.hid rfl⟩
    refine (progGet_any B cb q l _ (HL.out.mono (IntR.mono _) HB.out) hq Ly g6 Ly.length hgl (Lib.hid rfl)).mono ?_
    rintro e w6 ⟨A6, c6, rfl, s6, hb⟩
    exact ⟨A6, c6, Ly, g6, Ly.length, rfl, hgl, Lib.hid rfl, Lib.hid s6, Lib.hid hb⟩
  have XX := Lib.hid XX
  rcases hcase with ⟨rfl, rfl, rfl⟩ | ⟨rfl, rfl⟩
  all_goals
    go_wp2_with fail
    refine XX.out.mono ?_
    rintro e w6 ⟨A6, c6, Ly, g6, p6, rfl, hgl, hp6, S6, hb6⟩
    have hb := (Bel.refl w6).alloc (.cells #[.slice A6 p6 c6] 24)
    have HB := Lib.hid (HB.out.trans (hb6.out.trans hb))
    have S6 := Lib.hid (S6.out.mono FnR.mono hb)
    have K6 := Lib.hid (Blk.new w6 24 #[.slice A6 p6 c6])
    have r6 := K6.out.cell 0 rfl
    clear hb hb6
    by_cases hg6 : g6 = 0
    case neg =>
      obtain ⟨rfl, rfl⟩ : g6 = 7 ∧ p6 = 0 := by
        rcases getP_err l with h | h
        · rw [hgl.out] at h
          exact absurd h hg6
        · rw [hgl.out] at h
          obtain ⟨rfl, rfl⟩ := Prod.mk.inj h
          exact ⟨rfl, hp6.out.symm⟩
      clear hg6
      go_wp2_with fail
      go_ret
      exact ⟨rfl, HBa.out.trans HB.out⟩
    subst hg6
    have hback := getP_back HL.out.u8 hgl.out
    have HMY := Lib.hid hback.1
    have HPY : Hid (putP Ly = (l, 0)) := Lib.hid (by rw [hback.2.1]; exact if_pos hback.1)
    clear hback
    go_wp2_with fail
    generalize w6.alloc (.cells #[.slice A6 p6 c6] 24) = W6 at *
    generalize w6.heap.size = g6 at *
    clear r6
    refine (progPut_any A6 c6 p6 Ly _ l q 0 S6.out hp6 HPY hq).mono ?_
    rintro e w7 ⟨A7, c7, rfl, s7, hb⟩
    have HB := Lib.hid (HB.out.trans hb)
    have S7 := Lib.hid s7
    have S6 := Lib.hid (S6.out.mono FnR.mono hb)
    have K6 := Lib.hid (K6.out.bel hb)
    clear s7 hb
    go_wp2_with fail
    refine (bytes_at A7 B q q c7 cb l l _ S7.out (HL.out.mono (IntR.mono _) HB.out) hq hq true (Lib.hid (by simp))).mono ?_
    rintro e w8 ⟨rfl, hb⟩
    have HB := Lib.hid (HB.out.trans hb)
    have S6 := Lib.hid (S6.out.mono FnR.mono hb)
    have r8 := (K6.out.bel hb).cell 0 rfl
    clear hb
    go_wp2_with fail
    refine (progmay_any A6 c6 p6 Ly true _ S6.out hp6 HMY).mono ?_
    rintro e w9 ⟨rfl, hb⟩
    have HB := Lib.hid (HB.out.trans hb)
    go_wp2_with fail
    go_ret
    exact ⟨rfl, HBa.out.trans HB.out⟩
end Go.Proofs.Ytcllifcafgiopaa
