/- ProgSwap: its walk. -/
import Derived.Test.YtcllifcafgiopaaPgSwP
import Derived.Deep.RegionHeld3
set_option linter.unusedVariables false
set_option linter.unusedSimpArgs false
namespace Go.Proofs.Ytcllifcafgiopaa
open Go.RowKit

set_option maxHeartbeats 8000000 in
set_option maxRecDepth 100000 in
theorem ProgSwap_walk (C : Array Value) (L : List FnD) (i : Int) (Cf : Array Value) (f : FnD) (W : World) (hp : ProgR W C.toList L) (hi : (Lit.int .i64 i).wf = true) (hf : FnR W Cf.toList f) :
    Calls Try.prog 7 #[.agg C, .int .i64 i, .agg Cf] W fun e w' => e = .returned (.bool true) ∧ Bel W w' := by
  obtain ⟨A, c, hC, hsl⟩ := hp
  obtain rfl : C = #[.slice A L.length c] := by cases C; simpa using hC
  obtain ⟨B, cf, hCf, hsf, hwf⟩ := hf
  obtain rfl : Cf = #[.int .i64 f.args, .slice B f.code.length cf] := by cases Cf; simpa using hCf
  clear hC hCf hi
  obtain ⟨fa, code⟩ := f
  simp only at hsf hwf ⊢
  have HFA := Lib.hid hwf
  obtain ⟨n, hn0⟩ : ∃ n, L.length = n := ⟨_, rfl⟩
  have hn := Lib.hid hn0
  obtain ⟨nf, hnf0⟩ : ∃ n, code.length = n := ⟨_, rfl⟩
  have hnf := Lib.hid hnf0
  rw [hn0, hnf0]
  have HBa := Lib.hid (((Bel.refl W).alloc (.cells #[.slice A n c] 24)).alloc (.cells #[.int .i64 fa, .slice B nf cf] 38))
  have HS := Lib.hid (hsl.mono FnR.mono HBa.out)
  have HF := Lib.hid (hsf.mono InstR.mono HBa.out)
  have K0 := Lib.hid ((Blk.new W 24 #[.slice A n c]).alloc (.cells #[.int .i64 fa, .slice B nf cf] 38))
  have K1 : Hid (Blk ((W.alloc (.cells #[.slice A n c] 24)).alloc (.cells #[.int .i64 fa, .slice B nf cf] 38)) (W.heap.size + 1) 38 #[.int .i64 fa, .slice B nf cf]) := Lib.hid (by
    have := Blk.new (W.alloc (.cells #[.slice A n c] 24)) 38 #[.int .i64 fa, .slice B nf cf]
    simpa using this)
  obtain ⟨fv, hfv⟩ : ∃ fv, Hid (fewB L = fv) := ⟨_, Lib.hid rfl⟩
  clear hsl hn0 hsf hnf0 hwf
  go_enter Try.func7, Try.ntmps7
  go_wp2_with fail
  generalize (W.alloc (.cells #[.slice A n c] 24)).alloc (.cells #[.int .i64 fa, .slice B nf cf] 38) = W1 at *
  generalize W.heap.size = g at *
  refine (awake_any _).mono ?_
  rintro e w1 ⟨rfl, hb⟩
  have HB := Lib.hid hb
  clear hb
  have q1 := (K0.out.bel HB.out).cell 0 rfl
  go_wp2_with fail
  refine (refFew_any A c n L fv _ (HS.out.mono FnR.mono HB.out) hn hfv).mono ?_
  rintro e w2 ⟨rfl, hb⟩
  have HB := Lib.hid (HB.out.trans hb)
  clear hb q1
  cases fv
  · go_wp2_with fail
    go_ret
    exact ⟨rfl, HBa.out.trans HB.out⟩
  have q2 := (K0.out.bel HB.out).cell 0 rfl
  have f20 := (K1.out.bel HB.out).cell 0 rfl
  have f21 := (K1.out.bel HB.out).cell 1 rfl
  by_cases h8 : (80 : Int) < nf
  · go_wp2_with fail
    go_ret
    exact ⟨rfl, HBa.out.trans HB.out⟩
  go_wp2_with fail
  clear h8
  obtain ⟨Q, er, hsw⟩ : ∃ Q er, Hid (swapP L i ⟨fa, code⟩ = (Q, er)) := ⟨_, _, Lib.hid rfl⟩
  obtain ⟨m, hm⟩ : ∃ m, Hid (Q.length = m) := ⟨_, Lib.hid rfl⟩
  refine (swap_any A c n L i fa B cf nf code _ _ (Lib.hid (Bel.refl _)) (HS.out.mono FnR.mono HB.out) (HF.out.mono InstR.mono HB.out) hn hnf HFA Q er m hsw hm).mono ?_
  rintro e w3 ⟨A3, c3, rfl, s3, -, hb⟩
  have hb3 := hb.alloc (.cells #[.slice A3 m c3] 24)
  have HB := Lib.hid (HB.out.trans hb3)
  have S3 := Lib.hid (s3.mono FnR.mono ((Bel.refl w3).alloc (.cells #[.slice A3 m c3] 24)))
  have K3 := Lib.hid (Blk.new w3 24 #[.slice A3 m c3])
  have q3 := (K0.out.bel HB.out).cell 0 rfl
  have f30 := (K1.out.bel HB.out).cell 0 rfl
  have r3 := K3.out.cell 0 rfl
  clear hb hb3 s3 q2 f20 f21
  by_cases he : er = 0
  case neg =>
    obtain rfl : m = 0 := by
      rcases swap_err L i ⟨fa, code⟩ with h | h
      · rw [hsw.out] at h
        exact absurd h he
      · rw [hsw.out] at h
        have : Q = [] := h
        rw [← hm.out, this]
        rfl
    go_wp2_with fail
    go_ret
    exact ⟨by first | rfl | simp, HBa.out.trans HB.out⟩
  subst he
  obtain ⟨hmay, hfine, k, hk, rfl, hargs, rfl⟩ := swap_ok hsw.out
  obtain rfl : m = n := by rw [← hm.out, ← hn.out, List.length_set]
  have HM := Lib.hid hmay
  have HFI := Lib.hid hfine
  have HBK := Lib.hid (swap_back hk hmay hfine hargs)
  have hk1 : k < m := by rw [← hn.out]; exact hk
  have hk2 : (k : Int) < m := by omega
  have k0 : 0 ≤ (k : Int) := by omega
  have hk3 : ¬ (k : Int) < 0 := by omega
  have hk4 : ¬ (m : Int) ≤ k := by omega
  obtain ⟨b, o, rfl⟩ := HS.out.addr (by omega)
  obtain ⟨Ak, ck, d0, -, -⟩ := fn_cells (HS.out.mono FnR.mono HB.out) k hk
  rw [hargs] at d0
  simp only at d0
  have t0 : (fa != fa) = false := by simp
  have t1 : ((m : Int) != (m : Int)) = false := by simp
  clear hmay hfine
  go_wp2_with fail
  go_quiet (fail)
  go_wp2_with fail
  have hbz := (Bel.refl (w3.alloc (.cells #[.slice A3 m c3] 24))).drewN nq
  have HB' := Lib.hid (HB.out.trans hbz)
  clear HB
  have HB := HB'
  clear HB'
  have S3 := Lib.hid (S3.out.mono FnR.mono hbz)
  have K3 := Lib.hid (K3.out.bel hbz)
  clear hbz d0 q3 f30 r3 t0 t1
  generalize (w3.alloc (.cells #[.slice A3 m c3] 24)).drewN nq = W0 at *
  generalize w3.heap.size = g3 at *
  obtain ⟨Ak, ck, d0, d1, hsk⟩ := fn_cells (HS.out.mono FnR.mono HB.out) k hk
  have hLk : L[k] = ⟨fa, (L[k]).code⟩ := by
    have : L[k] = ⟨(L[k]).args, (L[k]).code⟩ := rfl
    rw [hargs] at this
    exact this
  obtain ⟨lk, HLK⟩ : ∃ lk, Hid ((L[k]).code.length = lk) := ⟨_, Lib.hid rfl⟩
  rw [hargs] at d0
  rw [HLK.out] at d1
  have HSK := Lib.hid hsk
  have HBK2 : Hid (swapP (L.set k ⟨fa, code⟩) k ⟨fa, (L[k]).code⟩ = (L, 0)) := Lib.hid (by rw [← hLk]; exact HBK.out)
  have P0 : ∀ w', Bel W0 w' → w'.cell? ⟨g, 0, none⟩ = some (.slice (some ⟨b, o, none⟩) m c) := fun w' h => h.cell ((K0.out.bel HB.out).cell 0 rfl)
  have P3 : ∀ w', Bel W0 w' → w'.cell? ⟨g3, 0, none⟩ = some (.slice A3 m c3) := fun w' h => h.cell (K3.out.cell 0 rfl)
  have D0 : ∀ w', Bel W0 w' → w'.cell? ⟨b, o + k * 2, none⟩ = some (.int .i64 fa) := fun w' h => h.cell d0
  have D1 : ∀ w', Bel W0 w' → w'.cell? ⟨b, o + k * 2 + 1, none⟩ = some (.slice Ak lk ck) := fun w' h => h.cell d1
  have HR := Bel.refl W0
  clear d0 d1 hsk hLk
  go_region_held3 (fun w' => Bel W0 w') (repeat (first | (with_reducible assumption) | (with_reducible exact Bel.refl _) | (with_reducible refine Bel.drew ?_) | (with_reducible refine Bel.alloc ?_ _) | (with_reducible refine Bel.setCell ?_ (by simp) _))) (first | (go_at_call 18; refine (swap_any A3 c3 m (L.set k ⟨fa, code⟩) k fa Ak ck lk (L[k]).code W0 _ (Lib.hid (by repeat (first | exact Bel.refl _ | apply Bel.drew | apply Bel.drewN | apply Bel.alloc))) S3.out HSK.out hm HLK HFA L 0 m HBK2 hn).mono ?_; rintro e w4 ⟨A4, c4, rfl, s4, s4s, hb4'⟩; have hb4 := Bel.trans (a := W0) (by repeat (first | exact Bel.refl _ | apply Bel.drew | apply Bel.drewN | apply Bel.alloc)) hb4'; try (have bz := (Blk.new W0 24 #[.slice none 0 0]).bel (Bel.trans (by first | exact Bel.refl _ | exact (Bel.refl _).drew) hb4'); have z0 := bz.cell 0 (v := .slice none 0 0) rfl; have z1 := bz.frozen 0)))
  all_goals
    first
    | (have SR := Lib.hid (s4s W0.heap.size _ (.slice A4 m c4) bz (Nat.le_refl _))
       have HW := Lib.hid (hb4.setCell (p := ⟨W0.heap.size, 0, none⟩) (Nat.le_refl _) (.slice A4 m c4))
       have KR : Hid (Blk (w4.setCell ⟨W0.heap.size, 0, none⟩ (.slice A4 m c4)) W0.heap.size 24 #[.slice A4 m c4]) := Lib.hid (Blk.set bz 0 _)
       clear bz z0 z1 s4 s4s hb4 hb4' HR P0 P3 D0 D1
       generalize w4.setCell ⟨W0.heap.size, 0, none⟩ (.slice A4 m c4) = W5 at *
       generalize W0.heap.size = gr at *)
    | (have SR := Lib.hid (s4.mono FnR.mono ((Bel.refl w4).alloc (.cells #[.slice A4 m c4] 24)))
       have HW := Lib.hid (hb4.alloc (.cells #[.slice A4 m c4] 24))
       have KR := Lib.hid (Blk.new w4 24 #[.slice A4 m c4])
       clear s4 s4s hb4 hb4' HR P0 P3 D0 D1
       generalize w4.alloc (.cells #[.slice A4 m c4] 24) = W5 at *
       generalize w4.heap.size = gr at *)
  all_goals
    have HBn := Lib.hid (HB.out.trans HW.out)
    have S3n := Lib.hid (S3.out.mono FnR.mono HW.out)
    have K3n := Lib.hid (K3.out.bel HW.out)
    clear HW HSK HB S3 K3
    have hck : ¬ c3 = k := by have := S3n.out.le; rw [hm.out] at this; omega
    obtain ⟨b3, o3, rfl⟩ := S3n.out.addr (by rw [hm.out]; omega)
    have hmc : m ≤ c3 := by rw [← hm.out]; exact S3n.out.le
    have hmx : c3 ≤ 9223372036854775807 := by have := S3n.out.big; simp only [maxLen] at this; omega
    have ek : IntKind.i64.wrap ((k : Int) + 1) = (k : Int) + 1 := wrap_i64 (by omega) (by omega)
    have t1 : (k : Int) ≤ (k : Int) + 1 := by omega
    have t2 : (k : Int) + 1 ≤ c3 := by omega
    have t3 : 0 ≤ (k : Int) + 1 := by omega
    have t4 : (k : Int) ≤ c3 := by omega
    have t5 : (m : Int) ≤ c3 := by omega
    have P3 : ∀ w', Bel W5 w' → w'.cell? ⟨g3, 0, none⟩ = some (.slice (some ⟨b3, o3, none⟩) m c3) := fun w' h => h.cell (K3n.out.cell 0 rfl)
    have F0 : ∀ w', Bel W5 w' → w'.cell? ⟨g + 1, 0, none⟩ = some (.int .i64 fa) := fun w' h => h.cell ((K1.out.bel HBn.out).cell 0 rfl)
    have F1 : ∀ w', Bel W5 w' → w'.cell? ⟨g + 1, 1, none⟩ = some (.slice B nf cf) := fun w' h => h.cell ((K1.out.bel HBn.out).cell 1 rfl)
    have HR := Bel.refl W5
    have SONE : Hid (Sl FnR 2 W5 (some ⟨b3, o3 + k * 2, none⟩) (c3 - k) [⟨fa, code⟩]) := Lib.hid (by
      have h := (S3n.out.takeR (k + 1)).dropR k (by rw [List.length_take, hm.out]; omega)
      rwa [set_one hk] at h)
    have SF : Hid (Sl FnR 2 (W5.alloc (.cells #[.int .i64 fa, .slice B nf cf] 38)) (some ⟨W5.heap.size, 0, none⟩) 1 [⟨fa, code⟩]) := Lib.hid (fn_one_sl W5 _ fa B cf nf code hnf.out HFA.out (HF.out.mono InstR.mono HBn.out))
    go_wp2_with fail
    go_region_held3 (fun w' => Bel W5 w') (repeat (first | (with_reducible assumption) | (with_reducible exact Bel.refl _) | (with_reducible refine Bel.drew ?_) | (with_reducible refine Bel.alloc ?_ _))) (first | (go_at_call 13; refine (refSame_any _ _ 1 1 (c3 - k) 1 [⟨fa, code⟩] [⟨fa, code⟩] true _ (SONE.out.mono FnR.mono (by repeat (first | exact Bel.refl _ | apply Bel.drew | apply Bel.drewN | apply Bel.alloc))) (SF.out.mono FnR.mono (by repeat (first | exact Bel.refl _ | apply Bel.drew | apply Bel.drewN | apply Bel.alloc))) (Lib.hid rfl) (Lib.hid rfl) (Lib.hid (by simp))).mono ?_; rintro e w6 ⟨rfl, hb6'⟩; have hb6 := Bel.trans (a := W5) (by repeat (first | exact Bel.refl _ | apply Bel.drew | apply Bel.drewN | apply Bel.alloc)) hb6'))
  all_goals
    have HB6 := Lib.hid (HBn.out.trans hb6)
    have S6 := Lib.hid (S3n.out.mono FnR.mono hb6)
    have K6 := Lib.hid (K3n.out.bel hb6)
    have KR6 := Lib.hid (KR.out.bel hb6)
    have SR6 := Lib.hid (SR.out.mono FnR.mono hb6)
    try clear hb6'
    clear hb6 P3 F0 F1 HR SONE SF S3n K3n S3 K3 KR SR HBn t1 t2 t3 t5 hck
    have hmc0 : m ≤ c := by rw [← hn.out]; exact HS.out.le
    have hmx0 : c ≤ 9223372036854775807 := by have := HS.out.big; simp only [maxLen] at this; omega
    have u4 : (k : Int) ≤ c := by omega
    have P0 : ∀ w', Bel w6 w' → w'.cell? ⟨g, 0, none⟩ = some (.slice (some ⟨b, o, none⟩) m c) := fun w' h => h.cell ((K0.out.bel HB6.out).cell 0 rfl)
    have P3 : ∀ w', Bel w6 w' → w'.cell? ⟨g3, 0, none⟩ = some (.slice (some ⟨b3, o3, none⟩) m c3) := fun w' h => h.cell (K6.out.cell 0 rfl)
    have HR := Bel.refl w6
    have SA : Hid (Sl FnR 2 w6 (some ⟨b3, o3, none⟩) c3 (L.take k)) := Lib.hid (by
      have h := S6.out.takeR k
      rwa [set_take] at h)
    have SB : Hid (Sl FnR 2 w6 (some ⟨b, o, none⟩) c (L.take k)) := Lib.hid ((HS.out.mono FnR.mono HB6.out).takeR k)
    have HTL : Hid ((L.take k).length = k) := Lib.hid (by rw [List.length_take, hn.out]; omega)
    go_wp2_with fail
    go_region_held3 (fun w' => Bel w6 w') (repeat (first | (with_reducible assumption) | (with_reducible exact Bel.refl _) | (with_reducible refine Bel.drew ?_) | (with_reducible refine Bel.alloc ?_ _))) (first | (go_at_call 13; refine (refSame_any _ _ k k c3 c (L.take k) (L.take k) true _ (SA.out.mono FnR.mono (by repeat (first | exact Bel.refl _ | apply Bel.drew | apply Bel.drewN | apply Bel.alloc))) (SB.out.mono FnR.mono (by repeat (first | exact Bel.refl _ | apply Bel.drew | apply Bel.drewN | apply Bel.alloc))) HTL HTL (Lib.hid (by simp))).mono ?_; rintro e w7 ⟨rfl, hb7'⟩; have hb7 := Bel.trans (a := w6) (by repeat (first | exact Bel.refl _ | apply Bel.drew | apply Bel.drewN | apply Bel.alloc)) hb7'))
  all_goals
    have HB7 := Lib.hid (HB6.out.trans hb7)
    have S7 := Lib.hid (S6.out.mono FnR.mono hb7)
    have K7 := Lib.hid (K6.out.bel hb7)
    have KR7 := Lib.hid (KR6.out.bel hb7)
    have SR7 := Lib.hid (SR6.out.mono FnR.mono hb7)
    try clear hb7'
    clear hb7 P0 P3 HR SA SB HTL S6 K6 KR6 SR6 HB6 t4 u4
    have t1 : (k : Int) + 1 ≤ m := by omega
    have t2 : (k : Int) + 1 ≤ c3 := by omega
    have t3 : 0 ≤ (k : Int) + 1 := by omega
    have t4 : (k : Int) + 1 ≤ c := by omega
    have t5 : (m : Int) ≤ c3 := by omega
    have t6 : (m : Int) ≤ c := by omega
    have P0 : ∀ w', Bel w7 w' → w'.cell? ⟨g, 0, none⟩ = some (.slice (some ⟨b, o, none⟩) m c) := fun w' h => h.cell ((K0.out.bel HB7.out).cell 0 rfl)
    have P3 : ∀ w', Bel w7 w' → w'.cell? ⟨g3, 0, none⟩ = some (.slice (some ⟨b3, o3, none⟩) m c3) := fun w' h => h.cell (K7.out.cell 0 rfl)
    have HR := Bel.refl w7
    have SA : Hid (∀ A', (¬ c3 = k + 1 → A' = some ⟨b3, o3 + (k + 1) * 2, none⟩) → Sl FnR 2 w7 A' (c3 - (k + 1)) (L.drop (k + 1))) := Lib.hid (by
      have h := S7.out.dropIf (k + 1) (by rw [hm.out]; omega)
      rwa [set_drop] at h)
    have SB : Hid (∀ A', (¬ c = k + 1 → A' = some ⟨b, o + (k + 1) * 2, none⟩) → Sl FnR 2 w7 A' (c - (k + 1)) (L.drop (k + 1))) := Lib.hid ((HS.out.mono FnR.mono HB7.out).dropIf (k + 1) (by rw [hn.out]; omega))
    have HTL : Hid ((L.drop (k + 1)).length = m - (k + 1)) := Lib.hid (by rw [List.length_drop, hn.out])
    go_wp2_with fail
    go_region_held3 (fun w' => Bel w7 w') (repeat (first | (with_reducible assumption) | (with_reducible exact Bel.refl _) | (with_reducible refine Bel.drew ?_) | (with_reducible refine Bel.alloc ?_ _))) (first | (go_at_call 13; generalize hA13 : (if c3 = k + 1 then some (⟨b3, o3, none⟩ : Addr) else some ⟨b3, o3 + (k + 1) * 2, none⟩) = A13; generalize hB13 : (if c = k + 1 then some (⟨b, o, none⟩ : Addr) else some ⟨b, o + (k + 1) * 2, none⟩) = B13; have SA := Lib.hid (SA.out A13 (fun h => by rw [← hA13, if_neg h])); have SB := Lib.hid (SB.out B13 (fun h => by rw [← hB13, if_neg h])); clear hA13 hB13; refine (refSame_any A13 B13 (m - (k + 1)) (m - (k + 1)) (c3 - (k + 1)) (c - (k + 1)) (L.drop (k + 1)) (L.drop (k + 1)) true _ (SA.out.mono FnR.mono (by repeat (first | exact Bel.refl _ | apply Bel.drew | apply Bel.drewN | apply Bel.alloc))) (SB.out.mono FnR.mono (by repeat (first | exact Bel.refl _ | apply Bel.drew | apply Bel.drewN | apply Bel.alloc))) HTL HTL (Lib.hid (by simp))).mono ?_; rintro e w8 ⟨rfl, hb8'⟩; have hb8 := Bel.trans (a := w7) (by repeat (first | exact Bel.refl _ | apply Bel.drew | apply Bel.drewN | apply Bel.alloc)) hb8'))
  all_goals
    have HB8 := Lib.hid (HB7.out.trans hb8)
    have S8 := Lib.hid (S7.out.mono FnR.mono hb8)
    have K8 := Lib.hid (K7.out.bel hb8)
    have KR8 := Lib.hid (KR7.out.bel hb8)
    have SR8 := Lib.hid (SR7.out.mono FnR.mono hb8)
    try clear hb8'
    clear hb8 P0 P3 HR SA SB HTL S7 K7 KR7 SR7 HB7 t1 t2 t3 t4 t5 t6
    have r0 := KR8.out.cell 0 (v := .slice A4 m c4) rfl
    have p0 := (K0.out.bel HB8.out).cell 0 (v := .slice (some ⟨b, o, none⟩) m c) rfl
    have q0 := K8.out.cell 0 (v := .slice (some ⟨b3, o3, none⟩) m c3) rfl
    go_wp2_with fail
    refine (refSame_any _ _ m m c4 c L L true _ SR8.out (HS.out.mono FnR.mono HB8.out) hn hn (Lib.hid (by simp))).mono ?_
    rintro e w9 ⟨rfl, hb9⟩
    have q0 := hb9.cell q0
    go_wp2_with fail
    refine (progmay_any _ c3 m (L.set k ⟨fa, code⟩) true _ (S8.out.mono FnR.mono hb9) hm (Lib.hid (progMay_set hk HM.out HFI.out hargs))).mono ?_
    rintro e w10 ⟨rfl, hb10⟩
    go_wp2_with fail
    go_ret
    exact ⟨by first | rfl | simp, HBa.out.trans ((HB8.out.trans hb9).trans hb10)⟩
end Go.Proofs.Ytcllifcafgiopaa
