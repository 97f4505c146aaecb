/- course.Longest by its contract. -/
import Derived.Test.YtebdnobgdimdoaaGreatGB
set_option linter.unusedVariables false
set_option linter.unusedSimpArgs false
namespace Go.Proofs.YtebdnobgdimdoaaGreat
open Go.RowKit
def bstep (n : Nat) (C : List Int) (b : Int) (t : Nat) : Int := if t < n then max b (C.getD t 0) else b
theorem costFrom_range (l : List InstD) (cs : List Int) : ∀ m t, 0 ≤ (costFrom l cs m).getD t 0 ∧ (costFrom l cs m).getD t 0 ≤ 1000000
  | 0, t => by
    simp only [costFrom, List.getD_eq_getElem?_getD, List.getElem?_replicate]
    split <;> simp
  | m + 1, t => by
    have ih := costFrom_range l cs m
    rw [costFrom, cstep]
    have hb := behindC_bounds (n := l.length) (C := costFrom l cs m) (M := 1000000) (nxt l[l.length - 1 - m]! (l.length - 1 - m)) 0 (by omega) (by omega) (fun t _ _ => (ih t).2)
    have ho := ownC_pos l[l.length - 1 - m]! cs
    simp only [List.getD_eq_getElem?_getD, List.getElem?_set]
    split
    · split
      · simp only [Option.getD_some]
        unfold behindC
        omega
      · simp
    · have := ih t
      simpa [List.getD_eq_getElem?_getD] using this
theorem bfold_range {n : Nat} {C : List Int} (h : ∀ t, 0 ≤ C.getD t 0 ∧ C.getD t 0 ≤ 1000000) (ts : List Nat) : 0 ≤ ts.foldl (bstep n C) 0 ∧ ts.foldl (bstep n C) 0 ≤ 1000000 :=
  behindC_bounds (n := n) (C := C) (M := 1000000) ts 0 (by omega) (by omega) (fun t _ _ => (h t).2)
theorem z65 (w : World) : (zeroValue 153).run Tryz.prog w = .ok (.agg ((List.replicate 65 (0 : Int)).map (Value.int .i64)).toArray) w := by kernel_rfl
theorem own_6 {op fn dst src : Int} {reg : Bool} {off imm : Int} {cs : List Int} (h : op ≠ 6) : ownC ⟨op, fn, dst, src, reg, off, imm⟩ cs = 1 := if_neg (fun hh => h hh.1)
theorem own_short {op fn dst src : Int} {reg : Bool} {off imm : Int} {cs : List Int} (h : ¬ imm.toNat < cs.length) : ownC ⟨op, fn, dst, src, reg, off, imm⟩ cs = 1 := if_neg (fun hh => h hh.2.1)
theorem own_bad {op fn dst src : Int} {reg : Bool} {off imm : Int} {cs : List Int} (h : cs.getD imm.toNat 0 < 0 ∨ 1000000 < cs.getD imm.toNat 0) : ownC ⟨op, fn, dst, src, reg, off, imm⟩ cs = 1 := if_neg (fun hh => by have := hh.2.2; simp only at this; omega)
theorem own_good {fn dst src : Int} {reg : Bool} {off imm : Int} {cs : List Int} (h1 : imm.toNat < cs.length) (h2 : 0 ≤ cs.getD imm.toNat 0) (h3 : cs.getD imm.toNat 0 ≤ 1000000) : ownC ⟨6, fn, dst, src, reg, off, imm⟩ cs = 1 + cs.getD imm.toNat 0 := if_pos ⟨rfl, h1, h2, h3⟩
theorem cost_step {l : List InstD} {cs C : List Int} {n q : Nat} {ts : List Nat} (hn : l.length = n) (hq : q < n) (hC : costFrom l cs (n - 1 - q) = C) (ht : nxt l[q]! q = ts) {i : InstD} (hi : l[q]! = i) : costFrom l cs (n - q) = C.set q (min (ownC i cs + ts.foldl (bstep n C) 0) 1000000) := by
  have e : n - q = (n - 1 - q) + 1 := by omega
  rw [e, costFrom, hC, cstep, hn]
  have e2 : n - 1 - (n - 1 - q) = q := by omega
  rw [e2, ht, hi]
  rfl
set_option maxRecDepth 100000 in
theorem arr78 (a : Array Value) (h : a.size = 78) : a = #[a.getD 0 undef, a.getD 1 undef, a.getD 2 undef, a.getD 3 undef, a.getD 4 undef, a.getD 5 undef, a.getD 6 undef, a.getD 7 undef, a.getD 8 undef, a.getD 9 undef, a.getD 10 undef, a.getD 11 undef, a.getD 12 undef, a.getD 13 undef, a.getD 14 undef, a.getD 15 undef, a.getD 16 undef, a.getD 17 undef, a.getD 18 undef, a.getD 19 undef, a.getD 20 undef, a.getD 21 undef, a.getD 22 undef, a.getD 23 undef, a.getD 24 undef, a.getD 25 undef, a.getD 26 undef, a.getD 27 undef, a.getD 28 undef, a.getD 29 undef, a.getD 30 undef, a.getD 31 undef, a.getD 32 undef, a.getD 33 undef, a.getD 34 undef, a.getD 35 undef, a.getD 36 undef, a.getD 37 undef, a.getD 38 undef, a.getD 39 undef, a.getD 40 undef, a.getD 41 undef, a.getD 42 undef, a.getD 43 undef, a.getD 44 undef, a.getD 45 undef, a.getD 46 undef, a.getD 47 undef, a.getD 48 undef, a.getD 49 undef, a.getD 50 undef, a.getD 51 undef, a.getD 52 undef, a.getD 53 undef, a.getD 54 undef, a.getD 55 undef, a.getD 56 undef, a.getD 57 undef, a.getD 58 undef, a.getD 59 undef, a.getD 60 undef, a.getD 61 undef, a.getD 62 undef, a.getD 63 undef, a.getD 64 undef, a.getD 65 undef, a.getD 66 undef, a.getD 67 undef, a.getD 68 undef, a.getD 69 undef, a.getD 70 undef, a.getD 71 undef, a.getD 72 undef, a.getD 73 undef, a.getD 74 undef, a.getD 75 undef, a.getD 76 undef, a.getD 77 undef] := by
  have e : a = ((List.range 78).map fun k => a.getD k undef).toArray := by
    apply Array.ext
    · simp [h]
    · intro i h1 h2
      simp [Array.getD, h1]
  exact e
/-- What holds at the label. -/
def LJ (b0 o0 n c : Nat) (A1 : Option Addr) (n1 c1 : Nat) (l : List InstD) (cs : List Int) (w : World) : Act → World → Prop := fun a' wr => ∃ (g q : Nat) (u : Nat → Value), a' = { tmps := #[.slice (some ⟨b0, o0, none⟩) n c, .slice A1 n1 c1, u 2, u 3, .int .i64 0, .pointer (some ⟨g, 0, none⟩), .int .i64 q, u 7, u 8, u 9, u 10, u 11, u 12, u 13, u 14, u 15, u 16, u 17, u 18, u 19, u 20, u 21, u 22, u 23, u 24, u 25, u 26, u 27, u 28, u 29, u 30, u 31, u 32, u 33, u 34, u 35, u 36, u 37, u 38, u 39, u 40, u 41, u 42, u 43, u 44, u 45, u 46, u 47, u 48, u 49, u 50, u 51, u 52, u 53, u 54, u 55, u 56, u 57, u 58, u 59, u 60, u 61, u 62, u 63, u 64, u 65, u 66, u 67, u 68, u 69, u 70, u 71, u 72, u 73, u 74, u 75, u 76, u 77], defers := [] } ∧ q < n ∧ Row (Value.int .i64) 153 wr g (costFrom l cs (n - 1 - q)) ∧ w.heap.size ≤ g ∧ Bel w wr
theorem lj_of {b0 o0 n c : Nat} {A1 : Option Addr} {n1 c1 : Nat} {l : List InstD} {cs : List Int} {w : World} {a' : Act} {wr : World} (g q : Nat) (hs : a'.tmps.size = 78) (hd : a'.defers = []) (h0 : a'.tmps.getD 0 undef = .slice (some ⟨b0, o0, none⟩) n c) (h1 : a'.tmps.getD 1 undef = .slice A1 n1 c1) (h4 : a'.tmps.getD 4 undef = .int .i64 0) (h5 : a'.tmps.getD 5 undef = .pointer (some ⟨g, 0, none⟩)) (h6 : a'.tmps.getD 6 undef = .int .i64 q) (hq : q < n) (hr : Row (Value.int .i64) 153 wr g (costFrom l cs (n - 1 - q))) (hg : w.heap.size ≤ g) (hb : Bel w wr) : LJ b0 o0 n c A1 n1 c1 l cs w a' wr := by
  refine ⟨g, q, fun k => a'.tmps.getD k undef, ?_, hq, hr, hg, hb⟩
  obtain ⟨tmps, defers⟩ := a'
  simp only at hs hd h0 h1 h4 h5 h6 ⊢
  rw [hd, ← h0, ← h1, ← h4, ← h5, ← h6]
  exact congrArg (fun t => ({ tmps := t, defers := [] } : Act)) (arr78 tmps hs)
set_option maxHeartbeats 16000000 in
set_option maxRecDepth 100000 in
theorem longest_ok (A A1 : Option Addr) (c n c1 n1 : Nat) (l : List InstD) (cs : List Int) (w : World) (h : Sl InstR 7 w A c l) (hn : Hid (l.length = n)) (h1 : Sl (IntR .i64) 1 w A1 c1 cs) (hn1 : Hid (cs.length = n1)) (hm : Hid (crsMay l = true)) (hn0 : 0 < n) (hn64 : n ≤ 64) (hok : Hid (∀ k, k < l.length → (l[k]!).okB = true)) :
    Calls Tryz.prog 40 #[.slice A n c, .slice A1 n1 c1] w fun e w' => e = .returned (.int .i64 (cost l cs 0)) ∧ Bel w w' := by
  obtain ⟨b0, o0, rfl⟩ := h.addr (by rw [hn.out]; exact hn0)
  have HS0 := Lib.hid h
  have HC := Lib.hid h1
  clear h h1
  have hz := z65
  generalize hZ : ((List.replicate 65 (0 : Int)).map (Value.int .i64)).toArray = Z at hz
  replace hZ := Lib.hid hZ
  have hns : (n : Int) ≤ 64 := by omega
  obtain ⟨q, hq⟩ : ∃ q : Nat, n = q + 1 := ⟨n - 1, by omega⟩
  have e0 : IntKind.i64.wrap ((n : Int) - 1) = (q : Int) := by rw [wrap_i64 (by omega) (by omega)]; omega
  have hqn : q < n := by omega
  have hqn' : (q : Int) < n := by omega
  have q0 : 0 ≤ (q : Int) := by omega
  have q65 : (q : Int) < 65 := by omega
  have HQ := Lib.hid hq
  clear hq
  go_enter Tryz.func40, Tryz.ntmps40
  go_wp2
  refine wp_scope_jumps 0 (LJ b0 o0 n c A1 n1 c1 l cs w) (fun a' _ => (intOf (a'.tmps.getD 6 undef)).toNat) rfl ?_ ?_
  · go_wp2_with fail
    refine (crsmay_at _ _ _ _ _ _ HS0.out hn hm).mono ?_
    rintro e w1 ⟨rfl, hb⟩
    have HB := (Bel.refl w).trans hb
    clear hb
    go_wp2_with fail
    go_step3
    go_wp2_with fail
    have R0 : Row (Value.int .i64) 153 (w1.alloc (.cells Z 153)) w1.heap.size (List.replicate 65 (0 : Int)) := by rw [← hZ.out]; exact Row.new _ _ _
    have hgs : w.heap.size ≤ w1.heap.size := HB.size
    have HB := HB.alloc (.cells Z 153)
    generalize w1.alloc (.cells Z 153) = W3 at *
    generalize w1.heap.size = g at *
    obtain ⟨C, hC⟩ : ∃ C, Hid (costFrom l cs (n - 1 - q) = C) := ⟨_, Lib.hid rfl⟩
    have HR := Lib.hid (show Row (Value.int .i64) 153 W3 g C by rw [← hC.out, show n - 1 - q = 0 by have := HQ.out; omega]; exact R0)
    have hCl : Hid (C.length = 65) := Lib.hid (by rw [← hC.out, costFrom_length])
    clear R0
    obtain ⟨ts, hts⟩ : ∃ ts, Hid (nxt l[q]! q = ts) := ⟨_, Lib.hid rfl⟩
    have htl : ts.length ≤ 2 := by rw [← hts.out]; exact nxt_two _ _
    have HSq := Lib.hid (HS0.out.mono InstR.mono HB)
    refine (next_any _ _ _ _ q ts _ HSq.out hn hqn (by omega) (hok.out q (by rw [hn.out]; exact hqn)) hts).mono ?_
    rintro e w4 ⟨A2, c2, rfl, s2, hfr, hb2⟩
    have IA := Lib.hid (IntsAt.of s2 hfr HR.out.lt)
    have HR := Lib.hid (HR.out.mono hb2)
    have hB0 := HB.trans hb2
    clear s2 hb2 hfr HSq
    have hCr : Hid (∀ t, 0 ≤ C.getD t 0 ∧ C.getD t 0 ≤ 1000000) := Lib.hid (by rw [← hC.out]; exact costFrom_range l cs _)
    go_wp2_with fail
    go_loopw [7, 23] (fun b v wr => ∃ j : Nat, v = .int .i64 j ∧ j ≤ ts.length ∧ b = .int .i64 ((ts.take j).foldl (bstep n C) 0) ∧ wr = w4) (fun _ v _ => ts.length - (intOf v).toNat)
    case atStart => exact ⟨0, rfl, Nat.zero_le _, rfl, rfl⟩
    case round =>
      obtain ⟨j, rfl, hj, rfl, rfl⟩ := hrel
      by_cases hjt : j = ts.length
      · subst hjt
        rw [List.take_length]
        have hbr := bfold_range (n := n) hCr.out ts
        obtain ⟨B, hB⟩ : ∃ B, Hid (ts.foldl (bstep n C) 0 = B) := ⟨_, Lib.hid rfl⟩
        rw [hB.out] at hbr ⊢
        obtain ⟨hb1, hb2⟩ := hbr
        have hcells := inst_cells (HS0.out.mono InstR.mono hB0) q (by rw [hn.out]; exact hqn)
        obtain ⟨b9, o9, cs9, -, -, ⟨-, hwf⟩, -⟩ := HS0.out.get q (by rw [hn.out]; exact hqn)
        rw [← getElem!_pos l q (by rw [hn.out]; exact hqn)] at hwf
        obtain ⟨I, hIi⟩ : ∃ I, Hid (l[q]! = I) := ⟨_, Lib.hid rfl⟩
        rw [hIi.out] at hcells hwf
        obtain ⟨op, fn, dst, src, reg, off, imm⟩ := I
        have k0 := hcells 0 _ rfl
        have k1 := hcells 1 _ rfl
        have k2 := hcells 2 _ rfl
        have k3 := hcells 3 _ rfl
        have k4 := hcells 4 _ rfl
        have k5 := hcells 5 _ rfl
        have k6 := hcells 6 _ rfl
        rw [Nat.add_zero] at k0
        have um : U32 imm := hwf.imm
        obtain ⟨um0, um1⟩ := um
        clear hcells hwf IA hj
        have HCk := Lib.hid (HC.out.mono (IntR.mono _) hB0)
        have ei : IntKind.i64.wrap imm = imm := wrap_i64 (by omega) (by omega)
        by_cases h6 : op = 6
        · subst h6
          obtain ⟨m, rfl⟩ : ∃ m : Nat, imm = m := ⟨imm.toNat, by omega⟩
          clear um0 um1
          by_cases hm1 : m < n1
          · have hm1' : (m : Int) < (n1 : Int) := by omega
            obtain ⟨b7, o7, rfl, hc7⟩ := HCk.out.int_cell (by rw [hn1.out]; omega)
            have k7 := (hc7 m (by rw [hn1.out]; exact hm1)).1
            obtain ⟨kv, hkv⟩ : ∃ kv, Hid (cs.getD m 0 = kv) := ⟨_, Lib.hid rfl⟩
            rw [hkv.out] at k7
            have nb7 : b7 < wr.heap.size := World.block_lt_of_cell? _ _ k7
            have nb7a : ¬ b7 = wr.heap.size := by omega
            have nb7b : ¬ wr.heap.size = b7 := by omega
            have m0 : 0 ≤ (m : Int) := by omega
            clear hc7
            by_cases kn : kv < 0
            · have kn' : ¬ 0 ≤ kv := by omega
              have OWNF : ownC ⟨6, fn, dst, src, reg, off, m⟩ cs = 1 := own_bad (.inl (by rw [Int.toNat_natCast, hkv.out]; exact kn))
              have HCS := Lib.hid (cost_step hn.out hqn hC.out hts.out hIi.out)
              rw [OWNF, hB.out] at HCS
              have es : IntKind.i64.wrap (1 + B) = 1 + B := wrap_i64 (by omega) (by omega)
              have HRW := Lib.hid ((HR.out.set (i := q) (by rw [hCl.out]; omega) (min (1 + B) 1000000)).alloc (.cells #[.int .i64 6, .int .i64 fn, .int .i64 dst, .int .i64 src, .bool reg, .int .i64 off, .int .u32 m] 95))
              have rcq := HR.out.cell (i := q) (by rw [hCl.out]; omega)
              have rfq := HR.out.frozen q
              have ng : g < wr.heap.size := HR.out.lt
              have nga : ¬ g = wr.heap.size := by omega
              have ngb : ¬ wr.heap.size = g := by omega
              have HBW := (hB0.setCell (p := ⟨g, q, none⟩) hgs (.int .i64 (min (1 + B) 1000000))).alloc (.cells #[.int .i64 6, .int .i64 fn, .int .i64 dst, .int .i64 src, .bool reg, .int .i64 off, .int .u32 m] 95)
              by_cases hq0 : q = 0
              · subst hq0
                have hfin : cost l cs 0 = min (1 + B) 1000000 := by
                  have h := HCS.out
                  rw [Nat.sub_zero] at h
                  unfold cost
                  rw [hn.out, h, List.getD_eq_getElem?_getD, List.getElem?_set, if_pos rfl, if_pos (by rw [hCl.out]; decide)]
                  rfl
                have HFIN := Lib.hid hfin
                clear hfin
                simp only [Nat.zero_mul, Nat.add_zero, Nat.zero_add] at k0 k1 k2 k3 k4 k5 k6 rcq rfq
                go_wp2_with fail
                simp only [Exit.jump]
                go_ret
                rw [HFIN.out]
                exact ⟨rfl, HBW⟩
              · obtain ⟨p, hp⟩ : ∃ p : Nat, q = p + 1 := ⟨q - 1, by omega⟩
                have e2 : IntKind.i64.wrap ((q : Int) - 1) = (p : Int) := by rw [wrap_i64 (by omega) (by omega)]; omega
                have HCP : Hid (costFrom l cs (n - 1 - p) = C.set q (min (1 + B) 1000000)) := Lib.hid (by rw [show n - 1 - p = n - q by omega]; exact HCS.out)
                have p0 : 0 ≤ (p : Int) := by omega
                have hpn : p < n := by omega
                have hpq : p < q := by omega
                clear hp hq0
                go_wp2_with fail
                go_step3
                exact ⟨rfl, lj_of g p rfl rfl rfl rfl rfl rfl rfl hpn (by rw [HCP.out]; exact HRW.out) hgs HBW⟩
            · have kn' : 0 ≤ kv := by omega
              by_cases kh : kv ≤ 1000000
              · have OWNF : ownC ⟨6, fn, dst, src, reg, off, m⟩ cs = 1 + kv := by rw [own_good (by rw [Int.toNat_natCast, hn1.out]; exact hm1) (by rw [Int.toNat_natCast, hkv.out]; exact kn') (by rw [Int.toNat_natCast, hkv.out]; exact kh), Int.toNat_natCast, hkv.out]
                have ek : IntKind.i64.wrap (1 + kv) = 1 + kv := wrap_i64 (by omega) (by omega)
                have HCS := Lib.hid (cost_step hn.out hqn hC.out hts.out hIi.out)
                rw [OWNF, hB.out] at HCS
                have es : IntKind.i64.wrap ((1 + kv) + B) = (1 + kv) + B := wrap_i64 (by omega) (by omega)
                have HRW := Lib.hid ((HR.out.set (i := q) (by rw [hCl.out]; omega) (min ((1 + kv) + B) 1000000)).alloc (.cells #[.int .i64 6, .int .i64 fn, .int .i64 dst, .int .i64 src, .bool reg, .int .i64 off, .int .u32 m] 95))
                have rcq := HR.out.cell (i := q) (by rw [hCl.out]; omega)
                have rfq := HR.out.frozen q
                have ng : g < wr.heap.size := HR.out.lt
                have nga : ¬ g = wr.heap.size := by omega
                have ngb : ¬ wr.heap.size = g := by omega
                have HBW := (hB0.setCell (p := ⟨g, q, none⟩) hgs (.int .i64 (min ((1 + kv) + B) 1000000))).alloc (.cells #[.int .i64 6, .int .i64 fn, .int .i64 dst, .int .i64 src, .bool reg, .int .i64 off, .int .u32 m] 95)
                by_cases hq0 : q = 0
                · subst hq0
                  have hfin : cost l cs 0 = min ((1 + kv) + B) 1000000 := by
                    have h := HCS.out
                    rw [Nat.sub_zero] at h
                    unfold cost
                    rw [hn.out, h, List.getD_eq_getElem?_getD, List.getElem?_set, if_pos rfl, if_pos (by rw [hCl.out]; decide)]
                    rfl
                  have HFIN := Lib.hid hfin
                  clear hfin
                  simp only [Nat.zero_mul, Nat.add_zero, Nat.zero_add] at k0 k1 k2 k3 k4 k5 k6 rcq rfq
                  go_wp2_with fail
                  simp only [Exit.jump]
                  go_ret
                  rw [HFIN.out]
                  exact ⟨rfl, HBW⟩
                · obtain ⟨p, hp⟩ : ∃ p : Nat, q = p + 1 := ⟨q - 1, by omega⟩
                  have e2 : IntKind.i64.wrap ((q : Int) - 1) = (p : Int) := by rw [wrap_i64 (by omega) (by omega)]; omega
                  have HCP : Hid (costFrom l cs (n - 1 - p) = C.set q (min ((1 + kv) + B) 1000000)) := Lib.hid (by rw [show n - 1 - p = n - q by omega]; exact HCS.out)
                  have p0 : 0 ≤ (p : Int) := by omega
                  have hpn : p < n := by omega
                  have hpq : p < q := by omega
                  clear hp hq0
                  go_wp2_with fail
                  go_step3
                  exact ⟨rfl, lj_of g p rfl rfl rfl rfl rfl rfl rfl hpn (by rw [HCP.out]; exact HRW.out) hgs HBW⟩
              · have OWNF : ownC ⟨6, fn, dst, src, reg, off, m⟩ cs = 1 := own_bad (.inr (by rw [Int.toNat_natCast, hkv.out]; omega))
                have HCS := Lib.hid (cost_step hn.out hqn hC.out hts.out hIi.out)
                rw [OWNF, hB.out] at HCS
                have es : IntKind.i64.wrap (1 + B) = 1 + B := wrap_i64 (by omega) (by omega)
                have HRW := Lib.hid ((HR.out.set (i := q) (by rw [hCl.out]; omega) (min (1 + B) 1000000)).alloc (.cells #[.int .i64 6, .int .i64 fn, .int .i64 dst, .int .i64 src, .bool reg, .int .i64 off, .int .u32 m] 95))
                have rcq := HR.out.cell (i := q) (by rw [hCl.out]; omega)
                have rfq := HR.out.frozen q
                have ng : g < wr.heap.size := HR.out.lt
                have nga : ¬ g = wr.heap.size := by omega
                have ngb : ¬ wr.heap.size = g := by omega
                have HBW := (hB0.setCell (p := ⟨g, q, none⟩) hgs (.int .i64 (min (1 + B) 1000000))).alloc (.cells #[.int .i64 6, .int .i64 fn, .int .i64 dst, .int .i64 src, .bool reg, .int .i64 off, .int .u32 m] 95)
                by_cases hq0 : q = 0
                · subst hq0
                  have hfin : cost l cs 0 = min (1 + B) 1000000 := by
                    have h := HCS.out
                    rw [Nat.sub_zero] at h
                    unfold cost
                    rw [hn.out, h, List.getD_eq_getElem?_getD, List.getElem?_set, if_pos rfl, if_pos (by rw [hCl.out]; decide)]
                    rfl
                  have HFIN := Lib.hid hfin
                  clear hfin
                  simp only [Nat.zero_mul, Nat.add_zero, Nat.zero_add] at k0 k1 k2 k3 k4 k5 k6 rcq rfq
                  go_wp2_with fail
                  simp only [Exit.jump]
                  go_ret
                  rw [HFIN.out]
                  exact ⟨rfl, HBW⟩
                · obtain ⟨p, hp⟩ : ∃ p : Nat, q = p + 1 := ⟨q - 1, by omega⟩
                  have e2 : IntKind.i64.wrap ((q : Int) - 1) = (p : Int) := by rw [wrap_i64 (by omega) (by omega)]; omega
                  have HCP : Hid (costFrom l cs (n - 1 - p) = C.set q (min (1 + B) 1000000)) := Lib.hid (by rw [show n - 1 - p = n - q by omega]; exact HCS.out)
                  have p0 : 0 ≤ (p : Int) := by omega
                  have hpn : p < n := by omega
                  have hpq : p < q := by omega
                  clear hp hq0
                  go_wp2_with fail
                  go_step3
                  exact ⟨rfl, lj_of g p rfl rfl rfl rfl rfl rfl rfl hpn (by rw [HCP.out]; exact HRW.out) hgs HBW⟩
          · have hm1' : ¬ (m : Int) < (n1 : Int) := by omega
            have OWNF : ownC ⟨6, fn, dst, src, reg, off, m⟩ cs = 1 := own_short (by rw [Int.toNat_natCast, hn1.out]; exact hm1)
            have HCS := Lib.hid (cost_step hn.out hqn hC.out hts.out hIi.out)
            rw [OWNF, hB.out] at HCS
            have es : IntKind.i64.wrap (1 + B) = 1 + B := wrap_i64 (by omega) (by omega)
            have HRW := Lib.hid ((HR.out.set (i := q) (by rw [hCl.out]; omega) (min (1 + B) 1000000)).alloc (.cells #[.int .i64 6, .int .i64 fn, .int .i64 dst, .int .i64 src, .bool reg, .int .i64 off, .int .u32 m] 95))
            have rcq := HR.out.cell (i := q) (by rw [hCl.out]; omega)
            have rfq := HR.out.frozen q
            have ng : g < wr.heap.size := HR.out.lt
            have nga : ¬ g = wr.heap.size := by omega
            have ngb : ¬ wr.heap.size = g := by omega
            have HBW := (hB0.setCell (p := ⟨g, q, none⟩) hgs (.int .i64 (min (1 + B) 1000000))).alloc (.cells #[.int .i64 6, .int .i64 fn, .int .i64 dst, .int .i64 src, .bool reg, .int .i64 off, .int .u32 m] 95)
            by_cases hq0 : q = 0
            · subst hq0
              have hfin : cost l cs 0 = min (1 + B) 1000000 := by
                have h := HCS.out
                rw [Nat.sub_zero] at h
                unfold cost
                rw [hn.out, h, List.getD_eq_getElem?_getD, List.getElem?_set, if_pos rfl, if_pos (by rw [hCl.out]; decide)]
                rfl
              have HFIN := Lib.hid hfin
              clear hfin
              simp only [Nat.zero_mul, Nat.add_zero, Nat.zero_add] at k0 k1 k2 k3 k4 k5 k6 rcq rfq
              go_wp2_with fail
              simp only [Exit.jump]
              go_ret
              rw [HFIN.out]
              exact ⟨rfl, HBW⟩
            · obtain ⟨p, hp⟩ : ∃ p : Nat, q = p + 1 := ⟨q - 1, by omega⟩
              have e2 : IntKind.i64.wrap ((q : Int) - 1) = (p : Int) := by rw [wrap_i64 (by omega) (by omega)]; omega
              have HCP : Hid (costFrom l cs (n - 1 - p) = C.set q (min (1 + B) 1000000)) := Lib.hid (by rw [show n - 1 - p = n - q by omega]; exact HCS.out)
              have p0 : 0 ≤ (p : Int) := by omega
              have hpn : p < n := by omega
              have hpq : p < q := by omega
              clear hp hq0
              go_wp2_with fail
              go_step3
              exact ⟨rfl, lj_of g p rfl rfl rfl rfl rfl rfl rfl hpn (by rw [HCP.out]; exact HRW.out) hgs HBW⟩
        · have h6' : (op == 6) = false := by simpa using h6
          clear um0 um1
          have OWNF : ownC ⟨op, fn, dst, src, reg, off, imm⟩ cs = 1 := own_6 h6
          have HCS := Lib.hid (cost_step hn.out hqn hC.out hts.out hIi.out)
          rw [OWNF, hB.out] at HCS
          have es : IntKind.i64.wrap (1 + B) = 1 + B := wrap_i64 (by omega) (by omega)
          have HRW := Lib.hid ((HR.out.set (i := q) (by rw [hCl.out]; omega) (min (1 + B) 1000000)).alloc (.cells #[.int .i64 op, .int .i64 fn, .int .i64 dst, .int .i64 src, .bool reg, .int .i64 off, .int .u32 imm] 95))
          have rcq := HR.out.cell (i := q) (by rw [hCl.out]; omega)
          have rfq := HR.out.frozen q
          have ng : g < wr.heap.size := HR.out.lt
          have nga : ¬ g = wr.heap.size := by omega
          have ngb : ¬ wr.heap.size = g := by omega
          have HBW := (hB0.setCell (p := ⟨g, q, none⟩) hgs (.int .i64 (min (1 + B) 1000000))).alloc (.cells #[.int .i64 op, .int .i64 fn, .int .i64 dst, .int .i64 src, .bool reg, .int .i64 off, .int .u32 imm] 95)
          by_cases hq0 : q = 0
          · subst hq0
            have hfin : cost l cs 0 = min (1 + B) 1000000 := by
              have h := HCS.out
              rw [Nat.sub_zero] at h
              unfold cost
              rw [hn.out, h, List.getD_eq_getElem?_getD, List.getElem?_set, if_pos rfl, if_pos (by rw [hCl.out]; decide)]
              rfl
            have HFIN := Lib.hid hfin
            clear hfin
            simp only [Nat.zero_mul, Nat.add_zero, Nat.zero_add] at k0 k1 k2 k3 k4 k5 k6 rcq rfq
            go_wp2_with fail
            simp only [Exit.jump]
            go_ret
            rw [HFIN.out]
            exact ⟨rfl, HBW⟩
          · obtain ⟨p, hp⟩ : ∃ p : Nat, q = p + 1 := ⟨q - 1, by omega⟩
            have e2 : IntKind.i64.wrap ((q : Int) - 1) = (p : Int) := by rw [wrap_i64 (by omega) (by omega)]; omega
            have HCP : Hid (costFrom l cs (n - 1 - p) = C.set q (min (1 + B) 1000000)) := Lib.hid (by rw [show n - 1 - p = n - q by omega]; exact HCS.out)
            have p0 : 0 ≤ (p : Int) := by omega
            have hpn : p < n := by omega
            have hpq : p < q := by omega
            clear hp hq0
            go_wp2_with fail
            go_step3
            exact ⟨rfl, lj_of g p rfl rfl rfl rfl rfl rfl rfl hpn (by rw [HCP.out]; exact HRW.out) hgs HBW⟩
      · have hj' : j < ts.length := by omega
        have hj2 : (j : Int) < (ts.length : Int) := by omega
        obtain ⟨b2, o2, rfl, hne, hcj⟩ := IA.out j hj'
        have hfs := Lib.hid (foldl_take_succ (bstep n C) (0 : Int) ts hj')
        have hbr := bfold_range (n := n) hCr.out (ts.take j)
        have ej : IntKind.i64.wrap ((j : Int) + 1) = (j : Int) + 1 := wrap_i64 (by omega) (by omega)
        generalize ts[j] = t at *
        generalize (ts.take j).foldl (bstep n C) 0 = b at *
        have t0 : 0 ≤ (t : Int) := by omega
        by_cases htn : t < n
        · have htn' : (t : Int) < (n : Int) := by omega
          have t65 : (t : Int) < 65 := by omega
          have hwc := HR.out.cell (i := t) (by rw [hCl.out]; omega)
          have hval : C[t]'(by rw [hCl.out]; omega) = C.getD t 0 := by rw [List.getD_eq_getElem?_getD, List.getElem?_eq_getElem (by rw [hCl.out]; omega)]; rfl
          rw [hval] at hwc
          have hcr := hCr.out t
          have hm : bstep n C b t = max b (C.getD t 0) := if_pos htn
          generalize C.getD t 0 = x at *
          rw [hm] at hfs
          go_wp2
          go_roundw
          case rel => exact ⟨j + 1, by simp, by omega, by rw [hfs.out], by first | rfl | trivial⟩
          case measure => simp [intOf]; omega
        · have htn' : ¬ (t : Int) < (n : Int) := by omega
          have hm : bstep n C b t = b := if_neg htn
          rw [hm] at hfs
          go_wp2
          go_roundw
          case rel => exact ⟨j + 1, by simp, by omega, by rw [hfs.out], by first | rfl | trivial⟩
          case measure => simp [intOf]; omega
  · rintro a' wr0 ⟨g, q, u, rfl, hqn, hrow, hgs, HB⟩
    clear e0 HQ hz hZ 
    have hqn' : (q : Int) < n := by omega
    have q0 : 0 ≤ (q : Int) := by omega
    have q65 : (q : Int) < 65 := by omega
    obtain ⟨C, hC⟩ : ∃ C, Hid (costFrom l cs (n - 1 - q) = C) := ⟨_, Lib.hid rfl⟩
    rw [hC.out] at hrow
    have HR := Lib.hid hrow
    have hCl : Hid (C.length = 65) := Lib.hid (by rw [← hC.out, costFrom_length])
    clear hrow
    go_wp2_with fail
    obtain ⟨ts, hts⟩ : ∃ ts, Hid (nxt l[q]! q = ts) := ⟨_, Lib.hid rfl⟩
    have htl : ts.length ≤ 2 := by rw [← hts.out]; exact nxt_two _ _
    have HSq := Lib.hid (HS0.out.mono InstR.mono HB)
    refine (next_any _ _ _ _ q ts _ HSq.out hn hqn (by omega) (hok.out q (by rw [hn.out]; exact hqn)) hts).mono ?_
    rintro e w4 ⟨A2, c2, rfl, s2, hfr, hb2⟩
    have IA := Lib.hid (IntsAt.of s2 hfr HR.out.lt)
    have HR := Lib.hid (HR.out.mono hb2)
    have hB0 := HB.trans hb2
    clear s2 hb2 hfr HSq
    have hCr : Hid (∀ t, 0 ≤ C.getD t 0 ∧ C.getD t 0 ≤ 1000000) := Lib.hid (by rw [← hC.out]; exact costFrom_range l cs _)
    go_wp2_with fail
    go_loopw [7, 23] (fun b v wr => ∃ j : Nat, v = .int .i64 j ∧ j ≤ ts.length ∧ b = .int .i64 ((ts.take j).foldl (bstep n C) 0) ∧ wr = w4) (fun _ v _ => ts.length - (intOf v).toNat)
    case atStart => exact ⟨0, rfl, Nat.zero_le _, rfl, rfl⟩
    case round =>
      obtain ⟨j, rfl, hj, rfl, rfl⟩ := hrel
      by_cases hjt : j = ts.length
      · subst hjt
        rw [List.take_length]
        have hbr := bfold_range (n := n) hCr.out ts
        obtain ⟨B, hB⟩ : ∃ B, Hid (ts.foldl (bstep n C) 0 = B) := ⟨_, Lib.hid rfl⟩
        rw [hB.out] at hbr ⊢
        obtain ⟨hb1, hb2⟩ := hbr
        have hcells := inst_cells (HS0.out.mono InstR.mono hB0) q (by rw [hn.out]; exact hqn)
        obtain ⟨b9, o9, cs9, -, -, ⟨-, hwf⟩, -⟩ := HS0.out.get q (by rw [hn.out]; exact hqn)
        rw [← getElem!_pos l q (by rw [hn.out]; exact hqn)] at hwf
        obtain ⟨I, hIi⟩ : ∃ I, Hid (l[q]! = I) := ⟨_, Lib.hid rfl⟩
        rw [hIi.out] at hcells hwf
        obtain ⟨op, fn, dst, src, reg, off, imm⟩ := I
        have k0 := hcells 0 _ rfl
        have k1 := hcells 1 _ rfl
        have k2 := hcells 2 _ rfl
        have k3 := hcells 3 _ rfl
        have k4 := hcells 4 _ rfl
        have k5 := hcells 5 _ rfl
        have k6 := hcells 6 _ rfl
        rw [Nat.add_zero] at k0
        have um : U32 imm := hwf.imm
        obtain ⟨um0, um1⟩ := um
        clear hcells hwf IA hj
        have HCk := Lib.hid (HC.out.mono (IntR.mono _) hB0)
        have ei : IntKind.i64.wrap imm = imm := wrap_i64 (by omega) (by omega)
        by_cases h6 : op = 6
        · subst h6
          obtain ⟨m, rfl⟩ : ∃ m : Nat, imm = m := ⟨imm.toNat, by omega⟩
          clear um0 um1
          by_cases hm1 : m < n1
          · have hm1' : (m : Int) < (n1 : Int) := by omega
            obtain ⟨b7, o7, rfl, hc7⟩ := HCk.out.int_cell (by rw [hn1.out]; omega)
            have k7 := (hc7 m (by rw [hn1.out]; exact hm1)).1
            obtain ⟨kv, hkv⟩ : ∃ kv, Hid (cs.getD m 0 = kv) := ⟨_, Lib.hid rfl⟩
            rw [hkv.out] at k7
            have nb7 : b7 < wr.heap.size := World.block_lt_of_cell? _ _ k7
            have nb7a : ¬ b7 = wr.heap.size := by omega
            have nb7b : ¬ wr.heap.size = b7 := by omega
            have m0 : 0 ≤ (m : Int) := by omega
            clear hc7
            by_cases kn : kv < 0
            · have kn' : ¬ 0 ≤ kv := by omega
              have OWNF : ownC ⟨6, fn, dst, src, reg, off, m⟩ cs = 1 := own_bad (.inl (by rw [Int.toNat_natCast, hkv.out]; exact kn))
              have HCS := Lib.hid (cost_step hn.out hqn hC.out hts.out hIi.out)
              rw [OWNF, hB.out] at HCS
              have es : IntKind.i64.wrap (1 + B) = 1 + B := wrap_i64 (by omega) (by omega)
              have HRW := Lib.hid ((HR.out.set (i := q) (by rw [hCl.out]; omega) (min (1 + B) 1000000)).alloc (.cells #[.int .i64 6, .int .i64 fn, .int .i64 dst, .int .i64 src, .bool reg, .int .i64 off, .int .u32 m] 95))
              have rcq := HR.out.cell (i := q) (by rw [hCl.out]; omega)
              have rfq := HR.out.frozen q
              have ng : g < wr.heap.size := HR.out.lt
              have nga : ¬ g = wr.heap.size := by omega
              have ngb : ¬ wr.heap.size = g := by omega
              have HBW := (hB0.setCell (p := ⟨g, q, none⟩) hgs (.int .i64 (min (1 + B) 1000000))).alloc (.cells #[.int .i64 6, .int .i64 fn, .int .i64 dst, .int .i64 src, .bool reg, .int .i64 off, .int .u32 m] 95)
              by_cases hq0 : q = 0
              · subst hq0
                have hfin : cost l cs 0 = min (1 + B) 1000000 := by
                  have h := HCS.out
                  rw [Nat.sub_zero] at h
                  unfold cost
                  rw [hn.out, h, List.getD_eq_getElem?_getD, List.getElem?_set, if_pos rfl, if_pos (by rw [hCl.out]; decide)]
                  rfl
                have HFIN := Lib.hid hfin
                clear hfin
                simp only [Nat.zero_mul, Nat.add_zero, Nat.zero_add] at k0 k1 k2 k3 k4 k5 k6 rcq rfq
                go_wp2_with fail
                simp only [Exit.jump]
                go_ret
                rw [HFIN.out]
                exact ⟨rfl, HBW⟩
              · obtain ⟨p, hp⟩ : ∃ p : Nat, q = p + 1 := ⟨q - 1, by omega⟩
                have e2 : IntKind.i64.wrap ((q : Int) - 1) = (p : Int) := by rw [wrap_i64 (by omega) (by omega)]; omega
                have HCP : Hid (costFrom l cs (n - 1 - p) = C.set q (min (1 + B) 1000000)) := Lib.hid (by rw [show n - 1 - p = n - q by omega]; exact HCS.out)
                have p0 : 0 ≤ (p : Int) := by omega
                have hpn : p < n := by omega
                have hpq : p < q := by omega
                clear hp hq0
                go_wp2_with fail
                go_step3
                exact ⟨rfl, lj_of g p rfl rfl rfl rfl rfl rfl rfl hpn (by rw [HCP.out]; exact HRW.out) hgs HBW, by simp [intOf]; omega⟩
            · have kn' : 0 ≤ kv := by omega
              by_cases kh : kv ≤ 1000000
              · have OWNF : ownC ⟨6, fn, dst, src, reg, off, m⟩ cs = 1 + kv := by rw [own_good (by rw [Int.toNat_natCast, hn1.out]; exact hm1) (by rw [Int.toNat_natCast, hkv.out]; exact kn') (by rw [Int.toNat_natCast, hkv.out]; exact kh), Int.toNat_natCast, hkv.out]
                have ek : IntKind.i64.wrap (1 + kv) = 1 + kv := wrap_i64 (by omega) (by omega)
                have HCS := Lib.hid (cost_step hn.out hqn hC.out hts.out hIi.out)
                rw [OWNF, hB.out] at HCS
                have es : IntKind.i64.wrap ((1 + kv) + B) = (1 + kv) + B := wrap_i64 (by omega) (by omega)
                have HRW := Lib.hid ((HR.out.set (i := q) (by rw [hCl.out]; omega) (min ((1 + kv) + B) 1000000)).alloc (.cells #[.int .i64 6, .int .i64 fn, .int .i64 dst, .int .i64 src, .bool reg, .int .i64 off, .int .u32 m] 95))
                have rcq := HR.out.cell (i := q) (by rw [hCl.out]; omega)
                have rfq := HR.out.frozen q
                have ng : g < wr.heap.size := HR.out.lt
                have nga : ¬ g = wr.heap.size := by omega
                have ngb : ¬ wr.heap.size = g := by omega
                have HBW := (hB0.setCell (p := ⟨g, q, none⟩) hgs (.int .i64 (min ((1 + kv) + B) 1000000))).alloc (.cells #[.int .i64 6, .int .i64 fn, .int .i64 dst, .int .i64 src, .bool reg, .int .i64 off, .int .u32 m] 95)
                by_cases hq0 : q = 0
                · subst hq0
                  have hfin : cost l cs 0 = min ((1 + kv) + B) 1000000 := by
                    have h := HCS.out
                    rw [Nat.sub_zero] at h
                    unfold cost
                    rw [hn.out, h, List.getD_eq_getElem?_getD, List.getElem?_set, if_pos rfl, if_pos (by rw [hCl.out]; decide)]
                    rfl
                  have HFIN := Lib.hid hfin
                  clear hfin
                  simp only [Nat.zero_mul, Nat.add_zero, Nat.zero_add] at k0 k1 k2 k3 k4 k5 k6 rcq rfq
                  go_wp2_with fail
                  simp only [Exit.jump]
                  go_ret
                  rw [HFIN.out]
                  exact ⟨rfl, HBW⟩
                · obtain ⟨p, hp⟩ : ∃ p : Nat, q = p + 1 := ⟨q - 1, by omega⟩
                  have e2 : IntKind.i64.wrap ((q : Int) - 1) = (p : Int) := by rw [wrap_i64 (by omega) (by omega)]; omega
                  have HCP : Hid (costFrom l cs (n - 1 - p) = C.set q (min ((1 + kv) + B) 1000000)) := Lib.hid (by rw [show n - 1 - p = n - q by omega]; exact HCS.out)
                  have p0 : 0 ≤ (p : Int) := by omega
                  have hpn : p < n := by omega
                  have hpq : p < q := by omega
                  clear hp hq0
                  go_wp2_with fail
                  go_step3
                  exact ⟨rfl, lj_of g p rfl rfl rfl rfl rfl rfl rfl hpn (by rw [HCP.out]; exact HRW.out) hgs HBW, by simp [intOf]; omega⟩
              · have OWNF : ownC ⟨6, fn, dst, src, reg, off, m⟩ cs = 1 := own_bad (.inr (by rw [Int.toNat_natCast, hkv.out]; omega))
                have HCS := Lib.hid (cost_step hn.out hqn hC.out hts.out hIi.out)
                rw [OWNF, hB.out] at HCS
                have es : IntKind.i64.wrap (1 + B) = 1 + B := wrap_i64 (by omega) (by omega)
                have HRW := Lib.hid ((HR.out.set (i := q) (by rw [hCl.out]; omega) (min (1 + B) 1000000)).alloc (.cells #[.int .i64 6, .int .i64 fn, .int .i64 dst, .int .i64 src, .bool reg, .int .i64 off, .int .u32 m] 95))
                have rcq := HR.out.cell (i := q) (by rw [hCl.out]; omega)
                have rfq := HR.out.frozen q
                have ng : g < wr.heap.size := HR.out.lt
                have nga : ¬ g = wr.heap.size := by omega
                have ngb : ¬ wr.heap.size = g := by omega
                have HBW := (hB0.setCell (p := ⟨g, q, none⟩) hgs (.int .i64 (min (1 + B) 1000000))).alloc (.cells #[.int .i64 6, .int .i64 fn, .int .i64 dst, .int .i64 src, .bool reg, .int .i64 off, .int .u32 m] 95)
                by_cases hq0 : q = 0
                · subst hq0
                  have hfin : cost l cs 0 = min (1 + B) 1000000 := by
                    have h := HCS.out
                    rw [Nat.sub_zero] at h
                    unfold cost
                    rw [hn.out, h, List.getD_eq_getElem?_getD, List.getElem?_set, if_pos rfl, if_pos (by rw [hCl.out]; decide)]
                    rfl
                  have HFIN := Lib.hid hfin
                  clear hfin
                  simp only [Nat.zero_mul, Nat.add_zero, Nat.zero_add] at k0 k1 k2 k3 k4 k5 k6 rcq rfq
                  go_wp2_with fail
                  simp only [Exit.jump]
                  go_ret
                  rw [HFIN.out]
                  exact ⟨rfl, HBW⟩
                · obtain ⟨p, hp⟩ : ∃ p : Nat, q = p + 1 := ⟨q - 1, by omega⟩
                  have e2 : IntKind.i64.wrap ((q : Int) - 1) = (p : Int) := by rw [wrap_i64 (by omega) (by omega)]; omega
                  have HCP : Hid (costFrom l cs (n - 1 - p) = C.set q (min (1 + B) 1000000)) := Lib.hid (by rw [show n - 1 - p = n - q by omega]; exact HCS.out)
                  have p0 : 0 ≤ (p : Int) := by omega
                  have hpn : p < n := by omega
                  have hpq : p < q := by omega
                  clear hp hq0
                  go_wp2_with fail
                  go_step3
                  exact ⟨rfl, lj_of g p rfl rfl rfl rfl rfl rfl rfl hpn (by rw [HCP.out]; exact HRW.out) hgs HBW, by simp [intOf]; omega⟩
          · have hm1' : ¬ (m : Int) < (n1 : Int) := by omega
            have OWNF : ownC ⟨6, fn, dst, src, reg, off, m⟩ cs = 1 := own_short (by rw [Int.toNat_natCast, hn1.out]; exact hm1)
            have HCS := Lib.hid (cost_step hn.out hqn hC.out hts.out hIi.out)
            rw [OWNF, hB.out] at HCS
            have es : IntKind.i64.wrap (1 + B) = 1 + B := wrap_i64 (by omega) (by omega)
            have HRW := Lib.hid ((HR.out.set (i := q) (by rw [hCl.out]; omega) (min (1 + B) 1000000)).alloc (.cells #[.int .i64 6, .int .i64 fn, .int .i64 dst, .int .i64 src, .bool reg, .int .i64 off, .int .u32 m] 95))
            have rcq := HR.out.cell (i := q) (by rw [hCl.out]; omega)
            have rfq := HR.out.frozen q
            have ng : g < wr.heap.size := HR.out.lt
            have nga : ¬ g = wr.heap.size := by omega
            have ngb : ¬ wr.heap.size = g := by omega
            have HBW := (hB0.setCell (p := ⟨g, q, none⟩) hgs (.int .i64 (min (1 + B) 1000000))).alloc (.cells #[.int .i64 6, .int .i64 fn, .int .i64 dst, .int .i64 src, .bool reg, .int .i64 off, .int .u32 m] 95)
            by_cases hq0 : q = 0
            · subst hq0
              have hfin : cost l cs 0 = min (1 + B) 1000000 := by
                have h := HCS.out
                rw [Nat.sub_zero] at h
                unfold cost
                rw [hn.out, h, List.getD_eq_getElem?_getD, List.getElem?_set, if_pos rfl, if_pos (by rw [hCl.out]; decide)]
                rfl
              have HFIN := Lib.hid hfin
              clear hfin
              simp only [Nat.zero_mul, Nat.add_zero, Nat.zero_add] at k0 k1 k2 k3 k4 k5 k6 rcq rfq
              go_wp2_with fail
              simp only [Exit.jump]
              go_ret
              rw [HFIN.out]
              exact ⟨rfl, HBW⟩
            · obtain ⟨p, hp⟩ : ∃ p : Nat, q = p + 1 := ⟨q - 1, by omega⟩
              have e2 : IntKind.i64.wrap ((q : Int) - 1) = (p : Int) := by rw [wrap_i64 (by omega) (by omega)]; omega
              have HCP : Hid (costFrom l cs (n - 1 - p) = C.set q (min (1 + B) 1000000)) := Lib.hid (by rw [show n - 1 - p = n - q by omega]; exact HCS.out)
              have p0 : 0 ≤ (p : Int) := by omega
              have hpn : p < n := by omega
              have hpq : p < q := by omega
              clear hp hq0
              go_wp2_with fail
              go_step3
              exact ⟨rfl, lj_of g p rfl rfl rfl rfl rfl rfl rfl hpn (by rw [HCP.out]; exact HRW.out) hgs HBW, by simp [intOf]; omega⟩
        · have h6' : (op == 6) = false := by simpa using h6
          clear um0 um1
          have OWNF : ownC ⟨op, fn, dst, src, reg, off, imm⟩ cs = 1 := own_6 h6
          have HCS := Lib.hid (cost_step hn.out hqn hC.out hts.out hIi.out)
          rw [OWNF, hB.out] at HCS
          have es : IntKind.i64.wrap (1 + B) = 1 + B := wrap_i64 (by omega) (by omega)
          have HRW := Lib.hid ((HR.out.set (i := q) (by rw [hCl.out]; omega) (min (1 + B) 1000000)).alloc (.cells #[.int .i64 op, .int .i64 fn, .int .i64 dst, .int .i64 src, .bool reg, .int .i64 off, .int .u32 imm] 95))
          have rcq := HR.out.cell (i := q) (by rw [hCl.out]; omega)
          have rfq := HR.out.frozen q
          have ng : g < wr.heap.size := HR.out.lt
          have nga : ¬ g = wr.heap.size := by omega
          have ngb : ¬ wr.heap.size = g := by omega
          have HBW := (hB0.setCell (p := ⟨g, q, none⟩) hgs (.int .i64 (min (1 + B) 1000000))).alloc (.cells #[.int .i64 op, .int .i64 fn, .int .i64 dst, .int .i64 src, .bool reg, .int .i64 off, .int .u32 imm] 95)
          by_cases hq0 : q = 0
          · subst hq0
            have hfin : cost l cs 0 = min (1 + B) 1000000 := by
              have h := HCS.out
              rw [Nat.sub_zero] at h
              unfold cost
              rw [hn.out, h, List.getD_eq_getElem?_getD, List.getElem?_set, if_pos rfl, if_pos (by rw [hCl.out]; decide)]
              rfl
            have HFIN := Lib.hid hfin
            clear hfin
            simp only [Nat.zero_mul, Nat.add_zero, Nat.zero_add] at k0 k1 k2 k3 k4 k5 k6 rcq rfq
            go_wp2_with fail
            simp only [Exit.jump]
            go_ret
            rw [HFIN.out]
            exact ⟨rfl, HBW⟩
          · obtain ⟨p, hp⟩ : ∃ p : Nat, q = p + 1 := ⟨q - 1, by omega⟩
            have e2 : IntKind.i64.wrap ((q : Int) - 1) = (p : Int) := by rw [wrap_i64 (by omega) (by omega)]; omega
            have HCP : Hid (costFrom l cs (n - 1 - p) = C.set q (min (1 + B) 1000000)) := Lib.hid (by rw [show n - 1 - p = n - q by omega]; exact HCS.out)
            have p0 : 0 ≤ (p : Int) := by omega
            have hpn : p < n := by omega
            have hpq : p < q := by omega
            clear hp hq0
            go_wp2_with fail
            go_step3
            exact ⟨rfl, lj_of g p rfl rfl rfl rfl rfl rfl rfl hpn (by rw [HCP.out]; exact HRW.out) hgs HBW, by simp [intOf]; omega⟩
      · have hj' : j < ts.length := by omega
        have hj2 : (j : Int) < (ts.length : Int) := by omega
        obtain ⟨b2, o2, rfl, hne, hcj⟩ := IA.out j hj'
        have hfs := Lib.hid (foldl_take_succ (bstep n C) (0 : Int) ts hj')
        have hbr := bfold_range (n := n) hCr.out (ts.take j)
        have ej : IntKind.i64.wrap ((j : Int) + 1) = (j : Int) + 1 := wrap_i64 (by omega) (by omega)
        generalize ts[j] = t at *
        generalize (ts.take j).foldl (bstep n C) 0 = b at *
        have t0 : 0 ≤ (t : Int) := by omega
        by_cases htn : t < n
        · have htn' : (t : Int) < (n : Int) := by omega
          have t65 : (t : Int) < 65 := by omega
          have hwc := HR.out.cell (i := t) (by rw [hCl.out]; omega)
          have hval : C[t]'(by rw [hCl.out]; omega) = C.getD t 0 := by rw [List.getD_eq_getElem?_getD, List.getElem?_eq_getElem (by rw [hCl.out]; omega)]; rfl
          rw [hval] at hwc
          have hcr := hCr.out t
          have hm : bstep n C b t = max b (C.getD t 0) := if_pos htn
          generalize C.getD t 0 = x at *
          rw [hm] at hfs
          go_wp2
          go_roundw
          case rel => exact ⟨j + 1, by simp, by omega, by rw [hfs.out], by first | rfl | trivial⟩
          case measure => simp [intOf]; omega
        · have htn' : ¬ (t : Int) < (n : Int) := by omega
          have hm : bstep n C b t = b := if_neg htn
          rw [hm] at hfs
          go_wp2
          go_roundw
          case rel => exact ⟨j + 1, by simp, by omega, by rw [hfs.out], by first | rfl | trivial⟩
          case measure => simp [intOf]; omega
end Go.Proofs.YtebdnobgdimdoaaGreat
