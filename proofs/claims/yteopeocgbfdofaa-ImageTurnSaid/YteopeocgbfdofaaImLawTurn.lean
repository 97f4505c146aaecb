/- ImageTurn: its walk. -/
import Derived.Test.YteopeocgbfdofaaImTn
import Derived.Test.YteopeocgbfdofaaArLaw3
set_option linter.unusedVariables false
set_option linter.unusedSimpArgs false
namespace Go.Proofs.Yteopeocgbfdofaa
open Go.RowKit

set_option maxHeartbeats 8000000 in
set_option maxRecDepth 100000 in
theorem ImageTurn_walk (C0 : Array Value) (m : MemD) (base fn t other : Int) (w : World) (r0 : MemR w C0.toList m) (wf1 : (Lit.int .i64 base).wf = true) (wf2 : (Lit.int .i64 fn).wf = true) (wf3 : (Lit.int .i64 t).wf = true) (wf4 : (Lit.int .i64 other).wf = true) :
    Calls Try.prog 5 #[.agg C0, .int .i64 base, .int .i64 fn, .int .i64 t, .int .i64 other] w fun e w' => e = .returned (.bool true) ∧ Bel w w' := by
  obtain ⟨cap, l⟩ := m
  obtain ⟨A, c, hcs, hs, hwf0⟩ := r0
  obtain rfl : C0 = #[.int .i64 cap, .slice A l.length c] := Array.toList_inj.1 hcs
  obtain ⟨nn, hn⟩ : ∃ nn, Hid (l.length = nn) := ⟨_, Lib.hid rfl⟩
  rw [hn.out]
  have q0 := cell_fresh w #[.int .i64 cap, .slice A nn c] 45 0 _ rfl
  have q1 := cell_fresh w #[.int .i64 cap, .slice A nn c] 45 1 _ rfl
  have HBW := Lib.hid ((Bel.refl w).alloc (.cells #[.int .i64 cap, .slice A nn c] 45))
  have HS := Lib.hid (hs.mono BlkR.mono HBW.out)
  obtain ⟨fb, hfb⟩ : ∃ fb, Hid (fewM ⟨cap, l⟩ = fb) := ⟨_, Lib.hid rfl⟩
  clear hs hcs wf1 wf2 wf3 wf4 hwf0
  go_enter Try.func5, Try.ntmps5
  go_wp2_with fail
  refine (awake_any _).mono ?_
  rintro e w1 ⟨rfl, hb⟩
  have HBW := Lib.hid (HBW.out.trans hb)
  have q0 := (hb).cell q0
  have q1 := (hb).cell q1
  have HS := Lib.hid (HS.out.mono BlkR.mono (hb))
  clear hb
  obtain ⟨g, hg⟩ : ∃ g, w.heap.size = g := ⟨_, rfl⟩
  rw [hg] at q0 q1 ⊢
  clear hg
  go_wp2_with fail
  refine (fewM_any cap A nn c l fb _ HS.out hn hfb).mono ?_
  rintro e w2 ⟨rfl, hb⟩
  have HBW := Lib.hid (HBW.out.trans hb)
  have q0 := (hb).cell q0
  have q1 := (hb).cell q1
  have HS := Lib.hid (HS.out.mono BlkR.mono (hb))
  clear hb
  cases fb
  · go_wp2_with fail
    go_ret
    exact ⟨by first | rfl | simp, HBW.out⟩
  by_cases b0 : base < 0
  · go_wp2_with fail
    go_ret
    exact ⟨by first | rfl | simp, HBW.out⟩
  by_cases b1 : 2000 < base
  · go_wp2_with fail
    go_ret
    exact ⟨by first | rfl | simp, HBW.out⟩
  obtain ⟨pl, ew⟩ : ∃ pl, IntKind.i64.wrap (base + fn) = pl := ⟨_, rfl⟩
  by_cases bo : other = pl
  · have to1 : (other == pl) = true := by simpa using bo
    have to2 : decide (other = pl) = true := decide_eq_true bo
    clear bo
    go_wp2_with fail
    go_ret
    exact ⟨by first | rfl | simp, HBW.out⟩
  have to1 : (other == pl) = false := by simpa using bo
  have to2 : decide (other = pl) = false := decide_eq_false bo
  by_cases hbad : fn < 0 ∨ 8 ≤ fn ∨ t < 0 ∨ 1023 < t
  · clear bo
    by_cases h1 : fn < 0
    · go_wp2_with fail
      refine (turn_bad cap A nn c l base fn t _ hbad).mono ?_
      rintro e v3 ⟨A3, c3, rfl, s3, hb⟩
      have hx := (Bel.refl v3).alloc (.cells #[.int .i64 0, .slice A3 0 c3] 45)
      have HN := Lib.hid (s3.mono BlkR.mono hx)
      have p0 := cell_fresh v3 #[.int .i64 0, .slice A3 0 c3] 45 0 _ rfl
      have p1 := cell_fresh v3 #[.int .i64 0, .slice A3 0 c3] 45 1 _ rfl
      have hb' := hb.trans hx
      have HBW := Lib.hid (HBW.out.trans hb')
      have q0 := (hb').cell q0
      have q1 := (hb').cell q1
      have HS := Lib.hid (HS.out.mono BlkR.mono (hb'))
      clear hb hx hb' s3
      go_wp2_with fail
      generalize v3.alloc (.cells #[.int .i64 0, .slice A3 0 c3] 45) = V3 at *
      generalize v3.heap.size = gn at *
      clear p0 p1

      obtain ⟨vv, who, has, hft⟩ : ∃ vv who has, Hid (fetchM ⟨cap, l⟩ pl = (vv, who, has)) := ⟨_, _, _, Lib.hid rfl⟩
      refine (Fetch_any cap A nn c l pl vv who has _ HS.out hn hft).mono ?_
      rintro e v4 ⟨rfl, hb⟩
      have HBW := Lib.hid (HBW.out.trans hb)
      have q0 := (hb).cell q0
      have q1 := (hb).cell q1
      have HS := Lib.hid (HS.out.mono BlkR.mono (hb))
      clear hb
      cases has
      · go_wp2_with fail
        all_goals
          go_ret
          exact ⟨by first | rfl | simp, HBW.out⟩
      · go_wp2_with fail
        all_goals
          go_ret
          exact ⟨by first | rfl | simp, HBW.out⟩
    by_cases h2 : 8 ≤ fn
    · have h2' : 7 < fn := by omega
      go_wp2_with fail
      refine (turn_bad cap A nn c l base fn t _ hbad).mono ?_
      rintro e v3 ⟨A3, c3, rfl, s3, hb⟩
      have hx := (Bel.refl v3).alloc (.cells #[.int .i64 0, .slice A3 0 c3] 45)
      have HN := Lib.hid (s3.mono BlkR.mono hx)
      have p0 := cell_fresh v3 #[.int .i64 0, .slice A3 0 c3] 45 0 _ rfl
      have p1 := cell_fresh v3 #[.int .i64 0, .slice A3 0 c3] 45 1 _ rfl
      have hb' := hb.trans hx
      have HBW := Lib.hid (HBW.out.trans hb')
      have q0 := (hb').cell q0
      have q1 := (hb').cell q1
      have HS := Lib.hid (HS.out.mono BlkR.mono (hb'))
      clear hb hx hb' s3
      go_wp2_with fail
      generalize v3.alloc (.cells #[.int .i64 0, .slice A3 0 c3] 45) = V3 at *
      generalize v3.heap.size = gn at *
      clear p0 p1

      obtain ⟨vv, who, has, hft⟩ : ∃ vv who has, Hid (fetchM ⟨cap, l⟩ pl = (vv, who, has)) := ⟨_, _, _, Lib.hid rfl⟩
      refine (Fetch_any cap A nn c l pl vv who has _ HS.out hn hft).mono ?_
      rintro e v4 ⟨rfl, hb⟩
      have HBW := Lib.hid (HBW.out.trans hb)
      have q0 := (hb).cell q0
      have q1 := (hb).cell q1
      have HS := Lib.hid (HS.out.mono BlkR.mono (hb))
      clear hb
      cases has
      · go_wp2_with fail
        all_goals
          go_ret
          exact ⟨by first | rfl | simp, HBW.out⟩
      · go_wp2_with fail
        all_goals
          go_ret
          exact ⟨by first | rfl | simp, HBW.out⟩
    by_cases h3 : t < 0
    · have h2' : ¬ 7 < fn := by omega
      go_wp2_with fail
      refine (turn_bad cap A nn c l base fn t _ hbad).mono ?_
      rintro e v3 ⟨A3, c3, rfl, s3, hb⟩
      have hx := (Bel.refl v3).alloc (.cells #[.int .i64 0, .slice A3 0 c3] 45)
      have HN := Lib.hid (s3.mono BlkR.mono hx)
      have p0 := cell_fresh v3 #[.int .i64 0, .slice A3 0 c3] 45 0 _ rfl
      have p1 := cell_fresh v3 #[.int .i64 0, .slice A3 0 c3] 45 1 _ rfl
      have hb' := hb.trans hx
      have HBW := Lib.hid (HBW.out.trans hb')
      have q0 := (hb').cell q0
      have q1 := (hb').cell q1
      have HS := Lib.hid (HS.out.mono BlkR.mono (hb'))
      clear hb hx hb' s3
      go_wp2_with fail
      generalize v3.alloc (.cells #[.int .i64 0, .slice A3 0 c3] 45) = V3 at *
      generalize v3.heap.size = gn at *
      clear p0 p1

      obtain ⟨vv, who, has, hft⟩ : ∃ vv who has, Hid (fetchM ⟨cap, l⟩ pl = (vv, who, has)) := ⟨_, _, _, Lib.hid rfl⟩
      refine (Fetch_any cap A nn c l pl vv who has _ HS.out hn hft).mono ?_
      rintro e v4 ⟨rfl, hb⟩
      have HBW := Lib.hid (HBW.out.trans hb)
      have q0 := (hb).cell q0
      have q1 := (hb).cell q1
      have HS := Lib.hid (HS.out.mono BlkR.mono (hb))
      clear hb
      cases has
      · go_wp2_with fail
        all_goals
          go_ret
          exact ⟨by first | rfl | simp, HBW.out⟩
      · go_wp2_with fail
        all_goals
          go_ret
          exact ⟨by first | rfl | simp, HBW.out⟩
    have h4 : 1023 < t := by omega
    have h2' : ¬ 7 < fn := by omega
    go_wp2_with fail
    refine (turn_bad cap A nn c l base fn t _ hbad).mono ?_
    rintro e v3 ⟨A3, c3, rfl, s3, hb⟩
    have hx := (Bel.refl v3).alloc (.cells #[.int .i64 0, .slice A3 0 c3] 45)
    have HN := Lib.hid (s3.mono BlkR.mono hx)
    have p0 := cell_fresh v3 #[.int .i64 0, .slice A3 0 c3] 45 0 _ rfl
    have p1 := cell_fresh v3 #[.int .i64 0, .slice A3 0 c3] 45 1 _ rfl
    have hb' := hb.trans hx
    have HBW := Lib.hid (HBW.out.trans hb')
    have q0 := (hb').cell q0
    have q1 := (hb').cell q1
    have HS := Lib.hid (HS.out.mono BlkR.mono (hb'))
    clear hb hx hb' s3
    go_wp2_with fail
    generalize v3.alloc (.cells #[.int .i64 0, .slice A3 0 c3] 45) = V3 at *
    generalize v3.heap.size = gn at *
    clear p0 p1

    obtain ⟨vv, who, has, hft⟩ : ∃ vv who has, Hid (fetchM ⟨cap, l⟩ pl = (vv, who, has)) := ⟨_, _, _, Lib.hid rfl⟩
    refine (Fetch_any cap A nn c l pl vv who has _ HS.out hn hft).mono ?_
    rintro e v4 ⟨rfl, hb⟩
    have HBW := Lib.hid (HBW.out.trans hb)
    have q0 := (hb).cell q0
    have q1 := (hb).cell q1
    have HS := Lib.hid (HS.out.mono BlkR.mono (hb))
    clear hb
    cases has
    · go_wp2_with fail
      all_goals
        go_ret
        exact ⟨by first | rfl | simp, HBW.out⟩
    · go_wp2_with fail
      all_goals
        go_ret
        exact ⟨by first | rfl | simp, HBW.out⟩
  have h1 : ¬ fn < 0 := fun h => hbad (.inl h)
  have h2 : ¬ 8 ≤ fn := fun h => hbad (.inr (.inl h))
  have h3 : ¬ t < 0 := fun h => hbad (.inr (.inr (.inl h)))
  have h4 : ¬ 1023 < t := fun h => hbad (.inr (.inr (.inr h)))
  have eb : IntKind.i64.wrap (base + fn) = base + fn := wrap_i64 (by omega) (by omega)
  have HPL : Hid (base + fn = pl) := Lib.hid (by rw [← eb, ew])
  clear eb
  obtain ⟨dv, hdv⟩ : ∃ dv, Hid (wput 1 0 0 0 false 0 0 t = (dv, 0)) := ⟨wordI (codeN 1 0 false) 0 0 t (if (1 : Int) = 6 then 0 else 0), Lib.hid (if_pos ⟨door_ok, by omega, by omega, fun _ => .inl rfl⟩)⟩
  have HDG := wget_wput (u32_lit 0 (by decide)) hdv.out
  have hdr : 0 ≤ dv ∧ dv < 18446744073709551616 := by have := HDG.2; omega
  have HDR := Lib.hid hdr
  have HDW : Hid ((Lit.int .u64 dv).wf = true) := Lib.hid (wf_u64R hdr)
  have HGET : Hid (wget dv = (⟨1, 0, 0, 0, false, 0, 0⟩, t, 0)) := Lib.hid (by rw [HDG.1]; rfl)
  clear HDG hdr hbad
  have u7 : ¬ 7 < fn := by omega
  by_cases hgood : mayM ⟨cap, l⟩ = true ∧ ∃ i, blkOf l pl = some i
  case neg =>
    have HF : Hid (fetchM ⟨cap, l⟩ pl = (0, 0, false)) := Lib.hid (by
      unfold fetchM
      by_cases hm : mayM ⟨cap, l⟩ = true
      · rw [if_pos hm]
        cases hb : blkOf l pl with
        | none => rfl
        | some i => exact absurd ⟨hm, i, hb⟩ hgood
      · rw [if_neg hm])
    obtain ⟨er, hP, her⟩ : ∃ er, Hid (patchM ⟨cap, l⟩ pl dv = (⟨0, []⟩, er)) ∧ er ≠ 0 := by
      unfold patchM
      by_cases hm : mayM ⟨cap, l⟩ = true
      · rw [if_pos hm]
        cases hb : blkOf l pl with
        | none => exact ⟨3, Lib.hid rfl, by decide⟩
        | some i => exact absurd ⟨hm, i, hb⟩ hgood
      · rw [if_neg hm]
        exact ⟨1, Lib.hid rfl, by decide⟩
    clear hgood
    go_wp2_with fail
    refine (turn_in cap A nn c l base fn t _ HS.out hn ⟨by omega, by omega⟩ (by omega) (by omega) (by omega) (by omega) dv 0 hdv HDW 0 [] 0 er (by rw [HPL.out]; exact hP) (Lib.hid rfl)).mono ?_
    rintro e v3 ⟨A3, c3, rfl, s3, hb⟩
    have hx := (Bel.refl v3).alloc (.cells #[.int .i64 0, .slice A3 0 c3] 45)
    have HN := Lib.hid (s3.mono BlkR.mono hx)
    have p0 := cell_fresh v3 #[.int .i64 0, .slice A3 0 c3] 45 0 _ rfl
    have p1 := cell_fresh v3 #[.int .i64 0, .slice A3 0 c3] 45 1 _ rfl
    have hb' := hb.trans hx
    have HBW := Lib.hid (HBW.out.trans hb')
    have q0 := (hb').cell q0
    have q1 := (hb').cell q1
    have HS := Lib.hid (HS.out.mono BlkR.mono (hb'))
    clear hb hx hb' s3
    go_wp2_with fail
    generalize v3.alloc (.cells #[.int .i64 0, .slice A3 0 c3] 45) = V3 at *
    generalize v3.heap.size = gn at *
    clear p0 p1
    refine (Fetch_any cap A nn c l pl 0 0 false _ HS.out hn HF).mono ?_
    rintro e v4 ⟨rfl, hb⟩
    have HBW := Lib.hid (HBW.out.trans hb)
    have q0 := (hb).cell q0
    have q1 := (hb).cell q1
    have HS := Lib.hid (HS.out.mono BlkR.mono (hb))
    clear hb
    go_wp2_with fail
    all_goals
      go_ret
      exact ⟨by first | rfl | simp, HBW.out⟩
  obtain ⟨hmay, i, hbo⟩ := hgood
  have HOK : Hid (Ok ⟨cap, l⟩) := Lib.hid (mayM_iff.1 hmay)
  obtain ⟨was, hwv⟩ : ∃ was, (fetchM ⟨cap, l⟩ pl).1 = was := ⟨_, rfl⟩
  obtain ⟨id, hid⟩ : ∃ id, (l[i]!).id = id := ⟨_, rfl⟩
  obtain ⟨l', z1, z2, z3, z4, -, -, -⟩ := patch_law (m := ⟨cap, l⟩) (p := pl) (v := dv) (q := other) HOK.out hbo
  simp only [hid] at z1 z2 z3 z4
  have HP := Lib.hid z1
  have hnl : Hid (l'.length = nn) := Lib.hid (z2.trans hn.out)
  have HF2 := Lib.hid z3
  have HFM : Hid (fetchM ⟨cap, l⟩ pl = (was, id, true)) := Lib.hid (by
    have := fetch_some HOK.out hbo
    rw [this] at hwv ⊢
    simp only at hwv ⊢
    rw [hwv, hid])
  obtain ⟨x1, x2, x3, hfo⟩ : ∃ x1 x2 x3, Hid (fetchM ⟨cap, l⟩ other = (x1, x2, x3)) := ⟨_, _, _, Lib.hid rfl⟩
  have HFO : Hid (fetchM ⟨cap, l'⟩ other = (x1, x2, x3)) := Lib.hid ((z4.resolve_left bo).trans hfo.out)
  clear z1 z2 z3 z4 hwv hid hbo hmay bo
  go_wp2_with fail
  refine (turn_in cap A nn c l base fn t _ HS.out hn ⟨by omega, by omega⟩ (by omega) (by omega) (by omega) (by omega) dv 0 hdv HDW cap l' nn 0 (by rw [HPL.out]; exact HP) hnl).mono ?_
  rintro e v3 ⟨A3, c3, rfl, s3, hb⟩
  have hx := (Bel.refl v3).alloc (.cells #[.int .i64 cap, .slice A3 nn c3] 45)
  have HN := Lib.hid (s3.mono BlkR.mono hx)
  have p0 := cell_fresh v3 #[.int .i64 cap, .slice A3 nn c3] 45 0 _ rfl
  have p1 := cell_fresh v3 #[.int .i64 cap, .slice A3 nn c3] 45 1 _ rfl
  have hb' := hb.trans hx
  have HBW := Lib.hid (HBW.out.trans hb')
  have q0 := (hb').cell q0
  have q1 := (hb').cell q1
  have HS := Lib.hid (HS.out.mono BlkR.mono (hb'))
  clear hb hx hb' s3
  go_wp2_with fail
  generalize v3.alloc (.cells #[.int .i64 cap, .slice A3 nn c3] 45) = V3 at *
  generalize v3.heap.size = gn at *
  refine (Fetch_any cap A nn c l pl was id true _ HS.out hn HFM).mono ?_
  rintro e v4 ⟨rfl, hb⟩
  have HBW := Lib.hid (HBW.out.trans hb)
  have q0 := (hb).cell q0
  have q1 := (hb).cell q1
  have HS := Lib.hid (HS.out.mono BlkR.mono (hb))
  have HN := Lib.hid (HN.out.mono BlkR.mono hb)
  have p0 := hb.cell p0
  have p1 := hb.cell p1
  clear hb
  go_wp2_with fail
  refine (Fetch_any cap A3 nn c3 l' pl dv id true _ HN.out hnl HF2).mono ?_
  rintro e v5 ⟨rfl, hb⟩
  have HBW := Lib.hid (HBW.out.trans hb)
  have q0 := (hb).cell q0
  have q1 := (hb).cell q1
  have HS := Lib.hid (HS.out.mono BlkR.mono (hb))
  have HN := Lib.hid (HN.out.mono BlkR.mono hb)
  have p0 := hb.cell p0
  have p1 := hb.cell p1
  clear hb
  go_wp2_with fail
  refine (get_at dv 1 0 0 0 false 0 0 t 0 _ HDR HGET).mono ?_
  rintro e v6 ⟨rfl, hb⟩
  have hx := (Bel.refl v6).alloc (.cells #[.int .i64 1, .int .i64 0, .int .i64 0, .int .i64 0, .bool false, .int .i64 0, .int .u32 0] 34)
  have hb' := hb.trans hx
  have HBW := Lib.hid (HBW.out.trans hb')
  have q0 := (hb').cell q0
  have q1 := (hb').cell q1
  have HS := Lib.hid (HS.out.mono BlkR.mono (hb'))
  have HN := Lib.hid (HN.out.mono BlkR.mono hb')
  have p0 := hb'.cell p0
  have p1 := hb'.cell p1
  have i0 := cell_fresh v6 #[.int .i64 1, .int .i64 0, .int .i64 0, .int .i64 0, .bool false, .int .i64 0, .int .u32 0] 34 0 _ rfl
  have i1 := cell_fresh v6 #[.int .i64 1, .int .i64 0, .int .i64 0, .int .i64 0, .bool false, .int .i64 0, .int .u32 0] 34 1 _ rfl
  clear hb hx hb'
  go_wp2_with fail
  generalize v6.alloc (.cells #[.int .i64 1, .int .i64 0, .int .i64 0, .int .i64 0, .bool false, .int .i64 0, .int .u32 0] 34) = V6 at *
  generalize v6.heap.size = gi at *
  refine (Fetch_any cap A nn c l other x1 x2 x3 _ HS.out hn hfo).mono ?_
  rintro e v7 ⟨rfl, hb⟩
  have HBW := Lib.hid (HBW.out.trans hb)
  have q0 := (hb).cell q0
  have q1 := (hb).cell q1
  have HS := Lib.hid (HS.out.mono BlkR.mono (hb))
  have HN := Lib.hid (HN.out.mono BlkR.mono hb)
  have p0 := hb.cell p0
  have p1 := hb.cell p1
  have i0 := hb.cell i0
  have i1 := hb.cell i1
  clear hb
  go_wp2_with fail
  refine (Fetch_any cap A3 nn c3 l' other x1 x2 x3 _ HN.out hnl HFO).mono ?_
  rintro e v8 ⟨rfl, hb⟩
  have HBW := Lib.hid (HBW.out.trans hb)
  have q0 := (hb).cell q0
  have q1 := (hb).cell q1
  have HS := Lib.hid (HS.out.mono BlkR.mono (hb))
  have i0 := hb.cell i0
  have i1 := hb.cell i1
  clear hb
  have e1 : (id == id) = true := by simp
  have e2 : (t == t) = true := by simp
  have e3 : (x1 == x1) = true := by simp
  have e4 : (x2 == x2) = true := by simp
  have e5 : (x3 == x3) = true := by simp
  go_wp2_with fail
  go_ret
  exact ⟨by first | rfl | simp, HBW.out⟩
end Go.Proofs.Yteopeocgbfdofaa
