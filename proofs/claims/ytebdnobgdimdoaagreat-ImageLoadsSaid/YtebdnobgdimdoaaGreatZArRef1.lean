/- The document's 'Few' and 'Same' of memories by their contracts. -/
import Derived.Test.YtebdnobgdimdoaaGreatGT
set_option linter.unusedVariables false
set_option linter.unusedSimpArgs false
namespace Go.Proofs.YtebdnobgdimdoaaGreat
open Go.RowKit
def fewM (m : MemD) : Bool := decide (m.l.length ≤ 40) && m.l.all fun b => decide (b.w.length ≤ 700)
theorem fewM_not {cap : Int} {l : List BlkD} {j : Nat} (hj : j < l.length) (h : ¬ (l[j]!).w.length ≤ 700) : fewM ⟨cap, l⟩ = false := by
  unfold fewM
  rw [Bool.and_eq_false_iff]
  refine .inr (Bool.eq_false_iff.2 fun hh => ?_)
  rw [List.all_eq_true] at hh
  rw [getElem!_pos l j hj] at h
  exact h (of_decide_eq_true (hh _ (List.getElem_mem hj)))
theorem fewM_all {cap : Int} {l : List BlkD} (h0 : l.length ≤ 40) (h : ∀ j, j < l.length → (l[j]!).w.length ≤ 700) : fewM ⟨cap, l⟩ = true := by
  unfold fewM
  rw [decide_eq_true h0, Bool.true_and, List.all_eq_true]
  intro f hf
  obtain ⟨j, hj, rfl⟩ := List.mem_iff_getElem.1 hf
  have := h j hj
  rw [getElem!_pos l j hj] at this
  exact decide_eq_true this
set_option maxHeartbeats 4000000 in
set_option maxRecDepth 100000 in
theorem fewM_any (cap : Int) (A : Option Addr) (n c : Nat) (l : List BlkD) (r : Bool) (w : World) (h : Sl BlkR 3 w A c l) (hn : Hid (l.length = n)) (hr : Hid (fewM ⟨cap, l⟩ = r)) :
    Calls Tryz.prog 27 #[.agg #[.int .i64 cap, .slice A n c]] w fun e w' => e = .returned (.bool r) ∧ Bel w w' := by
  have HS0 := Lib.hid h
  have HBIG : Hid (n ≤ 9223372036854775807) := Lib.hid (by rw [← hn.out]; have := h.le; have := h.big; simp only [maxLen] at this; omega)
  clear h
  have hq1 := cell_fresh w #[.int .i64 cap, .slice A n c] 79 1 (.slice A n c) rfl
  have HQ0 := Lib.hid hq1
  have HBa := Lib.hid ((Bel.refl w).alloc (.cells #[.int .i64 cap, .slice A n c] 79))
  by_cases h12 : n ≤ 40
  · have h12' : (n : Int) ≤ 40 := by omega
    go_enter Tryz.func27, Tryz.ntmps27
    go_wp2_with fail
    generalize w.alloc (.cells #[.int .i64 cap, .slice A n c] 79) = W1 at *
    generalize w.heap.size = g at *
    clear hq1
    go_loopw [3, 4] (fun fv v wr => ∃ (k : Nat) (f : Bool), v = .int .i64 k ∧ fv = .bool f ∧ k ≤ n ∧ Hid (f = true → ∀ j, j < l.length → j < k → (l[j]!).w.length ≤ 700) ∧ Hid (f = false → r = false) ∧ wr = W1) (fun _ v _ => n - (intOf v).toNat)
    case atStart => exact ⟨0, true, rfl, by simp, Nat.zero_le _, Lib.hid (fun _ j hj hk => absurd hk (Nat.not_lt_zero _)), Lib.hid (fun h => by cases h), rfl⟩
    case round =>
      obtain ⟨k, f, rfl, rfl, hk, HT, HF, rfl⟩ := hrel
      have q0 := HQ0.out
      cases f
      · have HR := Lib.hid (HF.out rfl)
        rw [HR.out]
        by_cases hkn : (k : Int) < n
        · go_wp2_with fail
          go_ret
          exact ⟨by rw [HR.out]; simp, HBa.out⟩
        · go_wp2_with fail
          go_ret
          exact ⟨by rw [HR.out]; simp, HBa.out⟩
      · by_cases hkn : k = n
        · subst hkn
          have HR : Hid (r = true) := Lib.hid (by rw [← hr.out]; exact fewM_all (by rw [hn.out]; exact h12) (fun j hj => HT.out rfl j hj (by rw [← hn.out]; exact hj)))
          go_wp2_with fail
          go_ret
          rw [HR.out]
          exact ⟨by simp, HBa.out⟩
        · have hk1 : k < n := by omega
          have hk2 : (k : Int) < n := by omega
          have k0 : 0 ≤ (k : Int) := by omega
          have hkl : k < l.length := by rw [hn.out]; exact hk1
          have ek : IntKind.i64.wrap ((k : Int) + 1) = (k : Int) + 1 := wrap_i64 (by omega) (by omega)
          obtain ⟨b, o, rfl⟩ := HS0.out.addr (by rw [hn.out]; omega)
          obtain ⟨A', c', -, -, d2, -, -, -⟩ := blk_cells (HS0.out.mono BlkR.mono HBa.out) k hkl
          obtain ⟨m, hm⟩ : ∃ m, Hid ((l[k]!).w.length = m) := ⟨_, Lib.hid rfl⟩
          rw [hm.out] at d2
          have HKL := Lib.hid hkl
          clear hkn
          by_cases m80 : m ≤ 700
          · have m80' : (m : Int) ≤ 700 := by omega
            have HT' : Hid (true = true → ∀ j, j < l.length → j < k + 1 → (l[j]!).w.length ≤ 700) := Lib.hid (fun _ j hj hk => by
              by_cases e : j = k
              · subst e; rw [hm.out]; exact m80
              · exact HT.out rfl j hj (by omega))
            go_wp2
            go_roundw
            case rel => exact ⟨k + 1, true, by simp, by simp, by omega, HT', Lib.hid (fun h => by cases h), by first | rfl | trivial⟩
            case measure => simp [intOf]; omega
          · have m80' : ¬ (m : Int) ≤ 700 := by omega
            have HF' : Hid (false = false → r = false) := Lib.hid (fun _ => by rw [← hr.out]; exact fewM_not HKL.out (by rw [hm.out]; exact m80))
            go_wp2
            go_roundw
            case rel => exact ⟨k + 1, false, by simp, by simp, by omega, Lib.hid (fun h => by cases h), HF', by first | rfl | trivial⟩
            case measure => simp [intOf]; omega
  · have h12' : ¬ (n : Int) ≤ 40 := by omega
    have h0' : (0 : Int) < n := by omega
    have HR : Hid (r = false) := Lib.hid (by rw [← hr.out]; unfold fewM; simp only; rw [decide_eq_false (by rw [hn.out]; exact h12), Bool.false_and])
    rw [HR.out]
    go_enter Tryz.func27, Tryz.ntmps27
    go_wp2_with fail
    generalize w.alloc (.cells #[.int .i64 cap, .slice A n c] 79) = W1 at *
    generalize w.heap.size = g at *
    clear hq1
    go_loopw [3, 4] (fun fv v wr => v = .int .i64 0 ∧ fv = .bool false ∧ wr = W1) (fun _ v _ => 0)
    case atStart => exact ⟨rfl, by simp, rfl⟩
    case round =>
      obtain ⟨rfl, rfl, rfl⟩ := hrel
      have q0 := HQ0.out
      go_wp2_with fail
      go_ret
      exact ⟨by simp, HBa.out⟩
/-! ### Same -/
theorem same_ne {a b : MemD} {r : Bool} (hr : decide (a = b) = r) (h : a = b → False) : r = false := by rw [← hr]; exact decide_eq_false h
theorem blkD_ext {x y : BlkD} (h1 : x.id = y.id) (h2 : x.at' = y.at') (h3 : x.w.length = y.w.length) (h4 : ∀ j, j < x.w.length → x.w.getD j 0 = y.w.getD j 0) : x = y := by
  obtain ⟨a, b, c⟩ := x
  obtain ⟨a', b', c'⟩ := y
  simp only at h1 h2 h3 h4
  subst h1 h2
  congr 1
  refine List.ext_getElem h3 fun i hi hj => ?_
  have := h4 i hi
  rwa [List.getD_eq_getElem?_getD, List.getD_eq_getElem?_getD, List.getElem?_eq_getElem hi, List.getElem?_eq_getElem hj] at this
theorem blkL_ext {l k : List BlkD} (h : l.length = k.length) (h2 : ∀ j, j < l.length → l[j]! = k[j]!) : l = k :=
  List.ext_getElem h fun i hi hj => by
    have := h2 i hi
    rwa [getElem!_pos l i hi, getElem!_pos k i hj] at this
set_option maxHeartbeats 8000000 in
set_option maxRecDepth 100000 in
theorem refSame_any (p q : Int) (A B : Option Addr) (n m c d : Nat) (l k : List BlkD) (r : Bool) (w : World) (h1 : Sl BlkR 3 w A c l) (h2 : Sl BlkR 3 w B d k) (hn : Hid (l.length = n)) (hm : Hid (k.length = m)) (hr : Hid (decide ((⟨p, l⟩ : MemD) = ⟨q, k⟩) = r)) :
    Calls Tryz.prog 31 #[.agg #[.int .i64 p, .slice A n c], .agg #[.int .i64 q, .slice B m d]] w fun e w' => e = .returned (.bool r) ∧ Bel w w' := by
  have HS1 := Lib.hid h1
  have HS2 := Lib.hid h2
  have HBIG : Hid (n ≤ 9223372036854775807) := Lib.hid (by rw [← hn.out]; have := h1.le; have := h1.big; simp only [maxLen] at this; omega)
  clear h1 h2
  have bA := (Blk.new w 79 #[.int .i64 p, .slice A n c]).alloc (.cells #[.int .i64 q, .slice B m d] 79)
  have bB := Blk.new (w.alloc (.cells #[.int .i64 p, .slice A n c] 79)) 79 #[.int .i64 q, .slice B m d]
  rw [World.size_alloc] at bB
  have HBa := Lib.hid (((Bel.refl w).alloc (.cells #[.int .i64 p, .slice A n c] 79)).alloc (.cells #[.int .i64 q, .slice B m d] 79))
  have q0 := bA.cell 0 (v := .int .i64 p) rfl
  have q1 := bA.cell 1 (v := .slice A n c) rfl
  have q2 := bB.cell 0 (v := .int .i64 q) rfl
  have q3 := bB.cell 1 (v := .slice B m d) rfl
  by_cases hpq : p = q
  · by_cases hnm : n = m
    · subst hpq hnm
      have t0 : (p != p) = false := by simp
      have t1 : ((n : Int) != (n : Int)) = false := by simp
      go_enter Tryz.func31, Tryz.ntmps31
      go_wp2_with fail
      generalize (w.alloc (.cells #[.int .i64 p, .slice A n c] 79)).alloc (.cells #[.int .i64 p, .slice B n d] 79) = W1 at *
      obtain ⟨g, hg⟩ : ∃ g, w.heap.size = g := ⟨_, rfl⟩
      rw [hg] at bA bB ⊢
      have BA := Lib.hid bA
      have BB := Lib.hid bB
      clear q0 q1 q2 q3 bA bB hg
      go_loopw [5] (fun kv wr => ∃ i : Nat, kv = .int .i64 i ∧ i ≤ n ∧ Hid (∀ j, j < i → l[j]! = k[j]!) ∧ Bel W1 wr) (fun kv _ => n - (intOf kv).toNat)
      case atStart => exact ⟨0, rfl, Nat.zero_le _, Lib.hid (fun j hj => absurd hj (Nat.not_lt_zero _)), Bel.refl _⟩
      case round =>
        obtain ⟨i, rfl, hi, HT, hbk⟩ := hrel
        have HBw := Lib.hid (HBa.out.trans hbk)
        have HBK := Lib.hid hbk
        have q1 : wr.cell? ⟨g, 1, none⟩ = some (.slice A n c) := (BA.out.bel hbk).cell 1 rfl
        have q3 : wr.cell? ⟨g + 1, 1, none⟩ = some (.slice B n d) := (BB.out.bel hbk).cell 1 rfl
        have hg1 := (BB.out.bel hbk).lt
        have ng : ¬ g = wr.heap.size := by omega
        have ng1 : ¬ g + 1 = wr.heap.size := by omega
        clear hbk
        by_cases hin : i = n
        · subst hin
          have HR : Hid (r = true) := Lib.hid (by
            rw [← hr.out]
            refine decide_eq_true ?_
            rw [blkL_ext (hn.out.trans hm.out.symm) (fun j hj => HT.out j (by rw [← hn.out]; exact hj))])
          go_wp2_with fail
          go_ret
          exact ⟨by rw [HR.out]; rfl, HBw.out⟩
        · have hi1 : i < n := by omega
          have hi2 : (i : Int) < n := by omega
          have i0 : 0 ≤ (i : Int) := by omega
          have HIL : Hid (i < l.length) := Lib.hid (by rw [hn.out]; exact hi1)
          have HIK : Hid (i < k.length) := Lib.hid (by rw [hm.out]; exact hi1)
          have HEK : Hid (IntKind.i64.wrap ((i : Int) + 1) = (i : Int) + 1) := Lib.hid (wrap_i64 (by omega) (by have := HBIG.out; omega))
          have NOT : Hid (l[i]! ≠ k[i]! → r = false) := Lib.hid (fun h => same_ne hr.out (fun e => h (by simp only [MemD.mk.injEq, true_and] at e; rw [e])))
          have NXT : Hid (l[i]! = k[i]! → ∀ j, j < i + 1 → l[j]! = k[j]!) := Lib.hid (fun h j hj => by
            by_cases e : j = i
            · subst e; exact h
            · exact HT.out j (by omega))
          have HSr1 := HS1.out.mono BlkR.mono HBw.out
          have HSr2 := HS2.out.mono BlkR.mono HBw.out
          obtain ⟨b1, o1, rfl⟩ := HSr1.addr (by rw [hn.out]; omega)
          obtain ⟨b2, o2, rfl⟩ := HSr2.addr (by rw [hm.out]; omega)
          obtain ⟨A', c', d0, d1, d2, hs1, -, -⟩ := blk_cells HSr1 i HIL.out
          obtain ⟨B', c2', e0, e1, e2, hs2, -, -⟩ := blk_cells HSr2 i HIK.out
          generalize l[i]! = X at *
          generalize k[i]! = Y at *
          obtain ⟨id, a, ws⟩ := X
          obtain ⟨id2, a2, ws2⟩ := Y
          simp only at d0 d1 d2 e0 e1 e2 hs1 hs2
          obtain ⟨m1, hm1⟩ : ∃ m1, Hid (ws.length = m1) := ⟨_, Lib.hid rfl⟩
          obtain ⟨m2, hm2⟩ : ∃ m2, Hid (ws2.length = m2) := ⟨_, Lib.hid rfl⟩
          rw [hm1.out] at d2
          rw [hm2.out] at e2
          have HW1 := Lib.hid hs1
          have HW2 := Lib.hid hs2
          have hbx := (Blk.new wr 144 #[.int .i64 id, .int .i64 a, .slice A' m1 c']).alloc (.cells #[.int .i64 id2, .int .i64 a2, .slice B' m2 c2'] 144)
          have hby := Blk.new (wr.alloc (.cells #[.int .i64 id, .int .i64 a, .slice A' m1 c'] 144)) 144 #[.int .i64 id2, .int .i64 a2, .slice B' m2 c2']
          rw [World.size_alloc] at hby
          have HB2 := Lib.hid (((Bel.refl wr).alloc (.cells #[.int .i64 id, .int .i64 a, .slice A' m1 c'] 144)).alloc (.cells #[.int .i64 id2, .int .i64 a2, .slice B' m2 c2'] 144))
          have q1' := ((Bel.refl wr).alloc (.cells #[.int .i64 id, .int .i64 a, .slice A' m1 c'] 144)).cell q1
          have q3' := ((Bel.refl wr).alloc (.cells #[.int .i64 id, .int .i64 a, .slice A' m1 c'] 144)).cell q3
          have e0' := ((Bel.refl wr).alloc (.cells #[.int .i64 id, .int .i64 a, .slice A' m1 c'] 144)).cell e0
          have e1' := ((Bel.refl wr).alloc (.cells #[.int .i64 id, .int .i64 a, .slice A' m1 c'] 144)).cell e1
          have e2' := ((Bel.refl wr).alloc (.cells #[.int .i64 id, .int .i64 a, .slice A' m1 c'] 144)).cell e2
          have BX := Lib.hid hbx
          have BY := Lib.hid hby
          have x0 := hbx.cell 0 (v := .int .i64 id) rfl
          have x1 := hbx.cell 1 (v := .int .i64 a) rfl
          have x2 := hbx.cell 2 (v := .slice A' m1 c') rfl
          have y0 := hby.cell 0 (v := .int .i64 id2) rfl
          have y1 := hby.cell 1 (v := .int .i64 a2) rfl
          have y2 := hby.cell 2 (v := .slice B' m2 c2') rfl
          have hsW : (wr.alloc (.cells #[.int .i64 id, .int .i64 a, .slice A' m1 c'] 144)).heap.size = wr.heap.size + 1 := by simp
          clear hin hbx hby hs1 hs2 HSr1 HSr2
          by_cases h3 : id = id2 ∧ a = a2 ∧ m1 = m2
          · obtain ⟨rfl, rfl, rfl⟩ := h3
            have u0 : (id != id) = false := by simp
            have u1 : (a != a) = false := by simp
            have u2 : ((m1 : Int) != (m1 : Int)) = false := by simp
            go_wp2_with fail
            generalize (wr.alloc (.cells #[.int .i64 id, .int .i64 a, .slice A' m1 c'] 144)).alloc (.cells #[.int .i64 id, .int .i64 a, .slice B' m1 c2'] 144) = W2 at *
            obtain ⟨G, hG⟩ : ∃ G, wr.heap.size = G := ⟨_, rfl⟩
            rw [hG] at BX BY ⊢
            clear x0 x1 x2 y0 y1 y2 q1' q3' e0' e1' e2' d0 d1 d2 e0 e1 e2 hsW hG
            have hWR : Hid (Bel wr W2) := HB2
            have HBt : Hid (Bel w W2) := Lib.hid (HBw.out.trans hWR.out)
            have HBKt : Hid (Bel W1 W2) := Lib.hid (HBK.out.trans hWR.out)
            have HW1' := Lib.hid (HW1.out.mono (IntR.mono _) hWR.out)
            have HW2' := Lib.hid (HW2.out.mono (IntR.mono _) hWR.out)
            have HM1 : Hid (m1 ≤ 9223372036854775807) := Lib.hid (by rw [← hm1.out]; have := HW1.out.le; have := HW1.out.big; simp only [maxLen] at this; omega)
            clear q1 q3 hWR HB2
            go_loopw [8] (fun kv wr => ∃ j : Nat, kv = .int .i64 j ∧ j ≤ m1 ∧ Hid (∀ q, q < j → ws.getD q 0 = ws2.getD q 0) ∧ Bel W2 wr) (fun kv _ => m1 - (intOf kv).toNat)
            case atStart => exact ⟨0, rfl, Nat.zero_le _, Lib.hid (fun j hj => absurd hj (Nat.not_lt_zero _)), Bel.refl _⟩
            case round =>
              obtain ⟨j, rfl, hj, HJ, hbj⟩ := hrel
              have x2 : wr.cell? ⟨G, 2, none⟩ = some (.slice A' m1 c') := (BX.out.bel hbj).cell 2 rfl
              have y2 : wr.cell? ⟨G + 1, 2, none⟩ = some (.slice B' m1 c2') := (BY.out.bel hbj).cell 2 rfl
              have HBj := Lib.hid (HBt.out.trans hbj)
              have HBKj := Lib.hid (HBKt.out.trans hbj)
              by_cases hjm : j = m1
              · subst hjm
                have HN := Lib.hid (NXT.out (blkD_ext rfl rfl (hm1.out.trans hm2.out.symm) (fun q hq => HJ.out q (by rw [← hm1.out]; exact hq))))
                have ek := HEK.out
                clear hbj
                go_wp2
                go_roundw
                case rel => exact ⟨i + 1, by simp, by omega, HN, HBKj.out⟩
                case measure => simp [intOf]; omega
              · have hj1 : j < m1 := by omega
                have hj2 : (j : Int) < m1 := by omega
                have j0 : 0 ≤ (j : Int) := by omega
                have ej : IntKind.i64.wrap ((j : Int) + 1) = (j : Int) + 1 := wrap_i64 (by omega) (by have := HM1.out; omega)
                obtain ⟨bw, ow, rfl, hcw⟩ := (HW1'.out.mono (IntR.mono _) hbj).int_cell (by rw [hm1.out]; omega)
                obtain ⟨bv, ov, rfl, hcv⟩ := (HW2'.out.mono (IntR.mono _) hbj).int_cell (by rw [hm2.out]; omega)
                have f0 := (hcw j (by rw [hm1.out]; exact hj1)).1
                have f1 := (hcv j (by rw [hm2.out]; exact hj1)).1
                have NJ : Hid (ws.getD j 0 ≠ ws2.getD j 0 → r = false) := Lib.hid (fun h => NOT.out (fun e => h (by simp only [BlkD.mk.injEq, true_and] at e; rw [e])))
                have XJ : Hid (ws.getD j 0 = ws2.getD j 0 → ∀ q, q < j + 1 → ws.getD q 0 = ws2.getD q 0) := Lib.hid (fun h q hq => by
                  by_cases e : q = j
                  · subst e; exact h
                  · exact HJ.out q (by omega))
                have HBJ := Lib.hid hbj
                generalize ws.getD j 0 = s1 at *
                generalize ws2.getD j 0 = s2 at *
                clear hcw hcv hbj hjm
                by_cases hs : s1 = s2
                · subst hs
                  have v0 : (s1 != s1) = false := by simp
                  have XN := Lib.hid (XJ.out rfl)
                  go_wp2_with fail
                  go_quiet (fail)
                  go_wp2
                  go_roundw
                  case rel => exact ⟨j + 1, by simp, by omega, XN, by repeat (first | exact HBJ.out | apply Bel.drew | apply Bel.drewN)⟩
                  case measure => simp [intOf]; omega
                · have v0 : (s1 != s2) = true := by simpa using hs
                  have HR := Lib.hid (NJ.out hs)
                  clear hs
                  go_wp2_with fail
                  go_quiet (fail)
                  go_wp2_with fail
                  go_ret
                  exact ⟨by rw [HR.out]; rfl, by repeat (first | exact HBj.out | apply Bel.drew | apply Bel.drewN)⟩
          · have HR : Hid (r = false) := Lib.hid (NOT.out (fun e => h3 (by simp only [BlkD.mk.injEq] at e; exact ⟨e.1, e.2.1, by rw [← hm1.out, ← hm2.out, e.2.2]⟩)))
            have HBt : Hid (Bel w _) := Lib.hid (HBw.out.trans HB2.out)
            by_cases u0 : id = id2
            · subst u0
              have u0 : (id != id) = false := by simp
              by_cases u1 : a = a2
              · subst u1
                have u1 : (a != a) = false := by simp
                have u2 : ((m1 : Int) != (m2 : Int)) = true := by
                  have : ¬ m1 = m2 := fun e => h3 ⟨rfl, rfl, e⟩
                  simp only [bne_iff_ne, ne_eq]
                  omega
                clear h3
                go_wp2_with fail
                go_ret
                exact ⟨by rw [HR.out]; rfl, HBt.out⟩
              · have u1 : (a != a2) = true := by simpa using u1
                clear h3
                go_wp2_with fail
                go_ret
                exact ⟨by rw [HR.out]; rfl, HBt.out⟩
            · have u0 : (id != id2) = true := by simpa using u0
              clear h3
              go_wp2_with fail
              go_ret
              exact ⟨by rw [HR.out]; rfl, HBt.out⟩
    · subst hpq
      have t0 : (p != p) = false := by simp
      have t1 : ((n : Int) != (m : Int)) = true := by simp only [bne_iff_ne, ne_eq]; omega
      have HR : Hid (r = false) := Lib.hid (same_ne hr.out (fun e => hnm (by simp only [MemD.mk.injEq] at e; rw [← hn.out, ← hm.out, e.2])))
      clear hnm
      go_enter Tryz.func31, Tryz.ntmps31
      go_wp2_with fail
      go_ret
      exact ⟨by rw [HR.out]; rfl, HBa.out⟩
  · have t0 : (p != q) = true := by simpa using hpq
    have HR : Hid (r = false) := Lib.hid (same_ne hr.out (fun e => hpq (by simp only [MemD.mk.injEq] at e; exact e.1)))
    clear hpq
    go_enter Tryz.func31, Tryz.ntmps31
    go_wp2_with fail
    go_ret
    exact ⟨by rw [HR.out]; rfl, HBa.out⟩
end Go.Proofs.YtebdnobgdimdoaaGreat
