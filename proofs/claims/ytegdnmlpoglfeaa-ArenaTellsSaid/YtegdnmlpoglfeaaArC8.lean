/- arena.own: its walk. -/
import Derived.Test.YtegdnmlpoglfeaaArC7
set_option linter.unusedVariables false
set_option linter.unusedSimpArgs false
namespace Go.Proofs.Ytegdnmlpoglfeaa
open Go.RowKit

/-- Two cells hold these values. -/
structure Two (a1 a2 : Addr) (v x : Value) (w' : World) : Prop where
  c1 : w'.cell? a1 = some v
  c2 : w'.cell? a2 = some x
theorem Two.bel {a1 a2 : Addr} {v x : Value} {w' w'' : World} (h : Two a1 a2 v x w') (hb : Bel w' w'') : Two a1 a2 v x w'' := ⟨hb.cell h.c1, hb.cell h.c2⟩
theorem Two.set {a1 a2 : Addr} {v x : Value} {w' : World} (h : Two a1 a2 v x w') {p : Addr} (h1 : a1.block ≠ p.block) (h2 : a2.block ≠ p.block) (y : Value) : Two a1 a2 v x (w'.setCell p y) :=
  ⟨(World.cell?_of_block (setCell_heap_ne w' y h1)).trans h.c1, (World.cell?_of_block (setCell_heap_ne w' y h2)).trans h.c2⟩
set_option maxRecDepth 100000 in
set_option maxHeartbeats 4000000 in
theorem own_some (cap : Int) (b off n c : Nat) (l : List BlkD) (w : World) (h : Sl BlkR 3 w (some ⟨b, off, none⟩) c l) (hn : Hid (l.length = n)) (hp : Hid (0 < n ∧ n ≤ 4096)) (hws : Hid (∀ i, i < l.length → 0 < (l[i]!).w.length ∧ (l[i]!).w.length ≤ 4096)) :
    Calls Try.prog 31 #[.agg #[.int .i64 cap, .slice (some ⟨b, off, none⟩) n c]] w fun e w' => ∃ D c' A cc, e = .returned (.agg #[.int .i64 cap, .slice (some ⟨D, 0, none⟩) n c']) ∧ OwnB w w' D c' l n A cc ∧ Bel w w' := by
  have HS := Lib.hid h
  clear h
  have bM0 := Blk.new w 26 #[.int .i64 cap, .slice (some ⟨b, off, none⟩) n c]
  have bR0 := Blk.new (w.alloc (.cells #[.int .i64 cap, .slice (some ⟨b, off, none⟩) n c] 26)) 26 #[.int .i64 0, .slice none 0 0]
  rw [World.size_alloc] at bR0
  have bM1 := bM0.alloc (.cells #[.int .i64 0, .slice none 0 0] 26)
  have HBa := Lib.hid (((Bel.refl w).alloc (.cells #[.int .i64 cap, .slice (some ⟨b, off, none⟩) n c] 26)).alloc (.cells #[.int .i64 0, .slice none 0 0] 26))
  have hsz : ((w.alloc (.cells #[.int .i64 cap, .slice (some ⟨b, off, none⟩) n c] 26)).alloc (.cells #[.int .i64 0, .slice none 0 0] 26)).heap.size = w.heap.size + 2 := by simp
  have hn4 : n ≤ 4096 := hp.out.2
  go_enter Try.func31, Try.ntmps31
  go_wp2_with fail
  generalize (w.alloc (.cells #[.int .i64 cap, .slice (some ⟨b, off, none⟩) n c] 26)).alloc (.cells #[.int .i64 0, .slice none 0 0] 26) = W1 at *
  refine (cloneB_any b off n c l w _ HBa HS.out hn hp).mono ?_
  rintro e w1 ⟨D, c', A, cc, rfl, hrow, hsl, hb1⟩
  have bM := bM1.bel hb1
  have bR := bR0.bel hb1
  have HB1 := HBa.out.trans hb1
  have hDge := hrow.D0
  rw [hsz] at hDge
  obtain ⟨B, hB⟩ : ∃ B, w.heap.size = B := ⟨_, rfl⟩
  have HI : Hid (OwnI w B cap D c' n l 0 (w1.setCell ⟨B, 1, none⟩ (.slice (some ⟨D, 0, none⟩) n c'))) := Lib.hid (by
    rw [hB] at bM bR
    refine ⟨HB1.setCell (p := ⟨B, 1, none⟩) (by simp only; omega) _, bM.set 1 _, bR.other (by simp) _, A, cc, ?_, fun i _ h => absurd h (Nat.not_lt_zero _)⟩
    refine OwnB.other (W := w1) ⟨⟨by omega, hrow.lt, hrow.le, hrow.big, hrow.frz, hrow.cells⟩, fun i hi _ => hsl i hi, fun i _ h => absurd h (Nat.not_lt_zero _), fun i j _ _ h => absurd h (Nat.not_lt_zero _)⟩ (fun g hg0 hg1 ho => ?_) (by rw [setCell_size]; exact Nat.le_refl _)
    refine setCell_heap_ne _ _ ?_
    rcases ho with rfl | ⟨i, hi, -⟩
    · simp only; omega
    · omega)
  rw [hB] at bM bR ⊢
  have q0 : w1.cell? ⟨B, 0, none⟩ = some (.int .i64 cap) := bM.cell 0 rfl
  have q1 : w1.cell? ⟨B, 1, none⟩ = some (.slice (some ⟨b, off, none⟩) n c) := bM.cell 1 rfl
  have f1 := bM.frozen 1
  clear bM bR bM0 bR0 bM1 hrow hsl hb1 HB1
  have hq0 : w1.cell? ⟨B, 0, none⟩ = some (.int .i64 cap) := q0
  go_wp2_with fail
  generalize w1.setCell ⟨B, 1, none⟩ (.slice (some ⟨D, 0, none⟩) n c') = W2 at *
  clear q0 q1 f1 hq0
  go_loopw [12] (fun kv wr => ∃ k : Nat, kv = .int .i64 k ∧ k ≤ n ∧ OwnI w B cap D c' n l k wr) (fun kv _ => n - (intOf kv).toNat)
  case atStart => exact ⟨0, rfl, Nat.zero_le _, HI.out⟩
  case round =>
    obtain ⟨k, rfl, hk, hI⟩ := hrel
    have HIK := Lib.hid hI
    have q0 : wr.cell? ⟨B, 0, none⟩ = some (.int .i64 cap) := hI.bm.cell 0 rfl
    have q1 : wr.cell? ⟨B, 1, none⟩ = some (.slice (some ⟨D, 0, none⟩) n c') := hI.bm.cell 1 rfl
    have r0 : wr.cell? ⟨B + 1, 0, none⟩ = some (.int .i64 0) := hI.br.cell 0 rfl
    have r1 : wr.cell? ⟨B + 1, 1, none⟩ = some (.slice none 0 0) := hI.br.cell 1 rfl
    have fr0 := hI.br.frozen 0
    have fr1 := hI.br.frozen 1
    have hBlt := hI.br.lt
    obtain ⟨A', cc', hO, hgt⟩ := hI.own
    have hDlt := hO.row.lt
    by_cases hkn : k = n
    · subst hkn
      have hfin : Blk ((wr.setCell ⟨B + 1, 0, none⟩ (.int .i64 cap)).setCell ⟨B + 1, 1, none⟩ (.slice (some ⟨D, 0, none⟩) k c')) (B + 1) 26 #[.int .i64 cap, .slice (some ⟨D, 0, none⟩) k c'] := (hI.br.set 0 _).set 1 _
      have e0 : ((wr.setCell ⟨B + 1, 0, none⟩ (.int .i64 cap)).setCell ⟨B + 1, 1, none⟩ (.slice (some ⟨D, 0, none⟩) k c')).cell? ⟨B + 1, 0, none⟩ = some (.int .i64 cap) := hfin.cell 0 rfl
      have e1 : ((wr.setCell ⟨B + 1, 0, none⟩ (.int .i64 cap)).setCell ⟨B + 1, 1, none⟩ (.slice (some ⟨D, 0, none⟩) k c')).cell? ⟨B + 1, 1, none⟩ = some (.slice (some ⟨D, 0, none⟩) k c') := hfin.cell 1 rfl
      have E0 := Lib.hid e0
      have E1 := Lib.hid e1
      have HFIN : Hid (OwnB w ((wr.setCell ⟨B + 1, 0, none⟩ (.int .i64 cap)).setCell ⟨B + 1, 1, none⟩ (.slice (some ⟨D, 0, none⟩) k c')) D c' l k A' cc' ∧ Bel w ((wr.setCell ⟨B + 1, 0, none⟩ (.int .i64 cap)).setCell ⟨B + 1, 1, none⟩ (.slice (some ⟨D, 0, none⟩) k c'))) := Lib.hid ⟨hO.other (fun g hg0 hg1 ho => by
        have hne : g ≠ B + 1 := by
          rcases ho with rfl | ⟨i, hi, hil, e⟩
          · omega
          · have := hgt i hil hi g e; omega
        exact (setCell_heap_ne _ _ hne).trans (setCell_heap_ne _ _ hne)) (by rw [setCell_size, setCell_size]; exact Nat.le_refl _), (hI.bel.setCell (p := ⟨B + 1, 0, none⟩) (by simp only; omega) _).setCell (p := ⟨B + 1, 1, none⟩) (by simp only; omega) _⟩
      clear hfin e0 e1 hO hI hgt
      go_wp2_with fail
      refine bodyPost_ret (v := .agg #[.int .i64 cap, .slice (some ⟨D, 0, none⟩) k c']) ?_ rfl ⟨D, c', A', cc', rfl, HFIN.out.1, HFIN.out.2⟩
      have e0 := E0.out
      have e1 := E1.out
      simp [results, Try.results31, go_sem, e0, e1]
    · have hk1 : k < n := by omega
      have hk2 : (k : Int) < n := by omega
      have k0 : 0 ≤ (k : Int) := by omega
      have HKL : Hid (k < l.length) := Lib.hid (by rw [hn.out]; exact hk1)
      have HEK : Hid (IntKind.i64.wrap ((k : Int) + 1) = (k : Int) + 1) := Lib.hid (wrap_i64 (by omega) (by omega))
      obtain ⟨d0, d1, d2⟩ := hO.row.cells k HKL.out
      have fd := hO.row.frz (k * 3 + 2)
      have HSW := Lib.hid (hO.rest k HKL.out (Nat.le_refl _))
      obtain ⟨lo, hi⟩ := hws.out k HKL.out
      obtain ⟨ws, hwsk⟩ : ∃ ws, Hid ((l[k]!).w = ws) := ⟨_, Lib.hid rfl⟩
      rw [hwsk.out] at d2 HSW lo hi
      obtain ⟨m, hm⟩ : ∃ m, Hid (ws.length = m) := ⟨_, Lib.hid rfl⟩
      rw [hm.out] at d2 lo hi
      have HM : Hid (0 < m ∧ m ≤ 4096) := Lib.hid ⟨lo, hi⟩
      generalize (l[k]!).id = id at *
      generalize (l[k]!).at' = a at *
      generalize A' k = Ak at *
      generalize cc' k = ck at *
      clear hkn hI lo hi
      have g2 : (wr.alloc (.cells #[.int .i64 id, .int .i64 a, .slice Ak m ck] 33)).cell? ⟨wr.heap.size, 2, none⟩ = some (.slice Ak m ck) := cell_fresh wr #[.int .i64 id, .int .i64 a, .slice Ak m ck] 33 2 (.slice Ak m ck) rfl
      have hq1 := ((Bel.refl wr).alloc (.cells #[.int .i64 id, .int .i64 a, .slice Ak m ck] 33)).cell q1
      have hd2 := ((Bel.refl wr).alloc (.cells #[.int .i64 id, .int .i64 a, .slice Ak m ck] 33)).cell d2
      have hBX := Lib.hid ((Bel.refl wr).alloc (.cells #[.int .i64 id, .int .i64 a, .slice Ak m ck] 33))
      have G2 := Lib.hid g2
      have Q1 := Lib.hid hq1
      have D2 := Lib.hid hd2
      have hgD : wr.heap.size ≠ D := by omega
      have hBD : B ≠ D := by omega
      have hBD1 : B + 1 ≠ D := by omega
      obtain ⟨W0, hW0⟩ : ∃ W0, wr.alloc (.cells #[.int .i64 id, .int .i64 a, .slice Ak m ck] 33) = W0 := ⟨_, rfl⟩
      have FD : Hid (W0.frozen? ⟨D, k * 3 + 2, none⟩ = false) := Lib.hid (by
        have := (((Bel.refl wr).alloc (.cells #[.int .i64 id, .int .i64 a, .slice Ak m ck] 33)).frozen d2)
        rw [← hW0, this]; exact fd)
      rw [hW0] at g2 hq1 hd2
      have hS0 : Two ⟨B, 1, none⟩ ⟨wr.heap.size, 2, none⟩ (.slice (some ⟨D, 0, none⟩) n c') (.slice Ak m ck) W0 := ⟨hq1, g2⟩
      have P0 := fun (w' : World) (h : Two ⟨B, 1, none⟩ ⟨wr.heap.size, 2, none⟩ (.slice (some ⟨D, 0, none⟩) n c') (.slice Ak m ck) w') => h.c1
      have P1 := fun (w' : World) (h : Two ⟨B, 1, none⟩ ⟨wr.heap.size, 2, none⟩ (.slice (some ⟨D, 0, none⟩) n c') (.slice Ak m ck) w') => h.c2
      have HBX : Hid (Bel wr W0) := Lib.hid (by rw [← hW0]; exact (Bel.refl wr).alloc _)
      clear G2 Q1 D2 hBX g2 hq1 hO hgt fd
      have HD0 : Hid (W0.drew.cell? ⟨D, k * 3 + 2, none⟩ = some (.slice Ak m ck)) := Lib.hid (((Bel.refl W0).drew).cell hd2)
      have FD : Hid (W0.drew.frozen? ⟨D, k * 3 + 2, none⟩ = false) := Lib.hid (FD.out)
      go_wp2_with fail
      clear q0 q1 r0 r1 fr0 fr1 d0 d1 d2 hW0
      generalize wr.heap.size = gb at *
      go_region_held3 (fun w' => Two ⟨B, 1, none⟩ ⟨gb, 2, none⟩ (.slice (some ⟨D, 0, none⟩) n c') (.slice Ak m ck) w') (first | (with_reducible assumption) | (with_reducible refine Two.bel ?_ hb5; with_reducible assumption) | (with_reducible refine Two.bel ?_ (Bel.drew (Bel.refl _)); with_reducible assumption) | (refine Two.set ?_ hBD hgD _; with_reducible assumption)) (first | (go_at_call 32; refine (cloneW_any Ak m ck ws _ (HSW.out.mono (IntR.mono _) (HIK.out.bel.trans (HBX.out.trans ((Bel.refl W0).drew)))) hm HM).mono ?_; rintro e w5 ⟨g5, c5, rfl, h51, h52, h53, hb5⟩; have hd5 := hb5.cell HD0.out; have hf5 := (hb5.frozen HD0.out).trans FD.out))
      have HBW : Bel wr w5 := HBX.out.trans (((Bel.refl W0).drew).trans hb5)
      have hge : wr.heap.size ≤ g5 := Nat.le_trans (HBX.out.trans ((Bel.refl W0).drew)).size h51
      have hnext := HIK.out.next hBD hBD1 HKL.out HBW hge h52 (cg := c5) (by rw [hwsk.out]; exact h53)
      rw [hwsk.out, hm.out] at hnext
      have HNEXT := Lib.hid hnext
      have ek := HEK.out
      clear hnext hge HBW hb5 hd5 hf5 h51 h52 h53 P0 P1 hS0
      go_wp2
      go_roundw
      case rel => exact ⟨k + 1, by simp, by omega, HNEXT.out⟩
      case measure => simp [intOf]; omega
/-- What lies two blocks behind B and on is as it was. -/
def Abv0 (B : Nat) (W W' : World) : Prop := W.heap.size ≤ W'.heap.size ∧ ∀ k, B + 2 ≤ k → k < W.heap.size → W'.heap[k]? = W.heap[k]?
theorem Abv0.refl (B : Nat) (W : World) : Abv0 B W W := ⟨Nat.le_refl _, fun _ _ _ => rfl⟩
theorem Abv0.set {B : Nat} {W W' : World} (h : Abv0 B W W') {p : Addr} (hp : p.block < B + 2) (v : Value) : Abv0 B W (W'.setCell p v) :=
  ⟨by rw [setCell_size]; exact h.1, fun k h1 h2 => (setCell_heap_ne W' v (by omega)).trans (h.2 k h1 h2)⟩
set_option maxHeartbeats 1000000 in
theorem own_zero (cap : Int) (A : Option Addr) (c : Nat) (w : World) :
    Calls Try.prog 31 #[.agg #[.int .i64 cap, .slice A 0 c]] w fun e w' => ∃ A' c', e = .returned (.agg #[.int .i64 cap, .slice A' 0 c']) ∧ ((A' = none ∧ c' = 0) ∨ ∃ D A cc, A' = some ⟨D, 0, none⟩ ∧ OwnB w w' D c' [] 0 A cc) ∧ Bel w w' := by
  have bM0 := Blk.new w 26 #[.int .i64 cap, .slice A 0 c]
  have bR0 := Blk.new (w.alloc (.cells #[.int .i64 cap, .slice A 0 c] 26)) 26 #[.int .i64 0, .slice none 0 0]
  rw [World.size_alloc] at bR0
  have bM1 := bM0.alloc (.cells #[.int .i64 0, .slice none 0 0] 26)
  have HBa := Lib.hid (((Bel.refl w).alloc (.cells #[.int .i64 cap, .slice A 0 c] 26)).alloc (.cells #[.int .i64 0, .slice none 0 0] 26))
  have hsz : ((w.alloc (.cells #[.int .i64 cap, .slice A 0 c] 26)).alloc (.cells #[.int .i64 0, .slice none 0 0] 26)).heap.size = w.heap.size + 2 := by simp
  go_enter Try.func31, Try.ntmps31
  go_wp2_with fail
  generalize (w.alloc (.cells #[.int .i64 cap, .slice A 0 c] 26)).alloc (.cells #[.int .i64 0, .slice none 0 0] 26) = W1 at *
  refine (cloneB_zero A c _).mono ?_
  rintro e w1 ⟨A', c', rfl, hz, hb1⟩
  rw [hsz] at hz
  have bM := bM1.bel hb1
  have bR := bR0.bel hb1
  have HB1 := HBa.out.trans hb1
  obtain ⟨B, hB⟩ : ∃ B, w.heap.size = B := ⟨_, rfl⟩
  rw [hB] at hz
  have HZ2 : Hid (∀ W', Abv0 B w1 W' → ((A' = none ∧ c' = 0) ∨ ∃ D A cc, A' = some ⟨D, 0, none⟩ ∧ OwnB w W' D c' [] 0 A cc)) := Lib.hid (fun W' hA => by
    rcases hz with h | ⟨D, e1, e2, e3, e4, e5⟩
    · exact .inl h
    · have hblk := hA.2 D e2 e3
      exact .inr ⟨D, fun _ => none, fun _ => 0, e1, ⟨by omega, Nat.lt_of_lt_of_le e3 hA.1, Nat.zero_le _, e4, fun i => (World.frozen?_of_block (a := ⟨D, i, none⟩) hblk).trans (e5 i), fun i hi => by simp at hi⟩, fun i hi => by simp at hi, fun i hi => by simp at hi, fun i j _ hi => by simp at hi⟩)
  have HF1 : Hid (Bel w (w1.setCell ⟨B, 1, none⟩ (.slice A' 0 c'))) := Lib.hid (HB1.setCell (p := ⟨B, 1, none⟩) (by simp only; omega) _)
  rw [hB] at bM bR ⊢
  have bM2 := bM.set 1 (.slice A' 0 c')
  have bR2 := bR.other (p := ⟨B, 1, none⟩) (by simp) (.slice A' 0 c')
  have q0 : w1.cell? ⟨B, 0, none⟩ = some (.int .i64 cap) := bM.cell 0 rfl
  have q1 : w1.cell? ⟨B, 1, none⟩ = some (.slice A 0 c) := bM.cell 1 rfl
  have f1 := bM.frozen 1
  clear bM bR bM0 bR0 bM1 hb1 HB1 hz hsz
  go_wp2_with fail
  have HA2 := Lib.hid ((Abv0.refl B w1).set (p := ⟨B, 1, none⟩) (by simp only; omega) (.slice A' 0 c'))
  generalize w1.setCell ⟨B, 1, none⟩ (.slice A' 0 c') = W2 at *
  clear q0 q1 f1
  go_loopw [12] (fun kv wr => kv = .int .i64 0 ∧ wr = W2) (fun kv _ => 0)
  case atStart => exact ⟨rfl, rfl⟩
  case round =>
    obtain ⟨rfl, rfl⟩ := hrel
    have q0 : wr.cell? ⟨B, 0, none⟩ = some (.int .i64 cap) := bM2.cell 0 rfl
    have q1 : wr.cell? ⟨B, 1, none⟩ = some (.slice A' 0 c') := bM2.cell 1 rfl
    have r0 : wr.cell? ⟨B + 1, 0, none⟩ = some (.int .i64 0) := bR2.cell 0 rfl
    have r1 : wr.cell? ⟨B + 1, 1, none⟩ = some (.slice none 0 0) := bR2.cell 1 rfl
    have fr0 := bR2.frozen 0
    have fr1 := bR2.frozen 1
    have hfin : Blk ((wr.setCell ⟨B + 1, 0, none⟩ (.int .i64 cap)).setCell ⟨B + 1, 1, none⟩ (.slice A' 0 c')) (B + 1) 26 #[.int .i64 cap, .slice A' 0 c'] := (bR2.set 0 _).set 1 _
    have e0 : ((wr.setCell ⟨B + 1, 0, none⟩ (.int .i64 cap)).setCell ⟨B + 1, 1, none⟩ (.slice A' 0 c')).cell? ⟨B + 1, 0, none⟩ = some (.int .i64 cap) := hfin.cell 0 rfl
    have e1 : ((wr.setCell ⟨B + 1, 0, none⟩ (.int .i64 cap)).setCell ⟨B + 1, 1, none⟩ (.slice A' 0 c')).cell? ⟨B + 1, 1, none⟩ = some (.slice A' 0 c') := hfin.cell 1 rfl
    have E0 := Lib.hid e0
    have E1 := Lib.hid e1
    have HFIN := Lib.hid ((HF1.out.setCell (p := ⟨B + 1, 0, none⟩) (by simp only; omega) (.int .i64 cap)).setCell (p := ⟨B + 1, 1, none⟩) (by simp only; omega) (.slice A' 0 c'))
    have HZ := Lib.hid (HZ2.out _ ((HA2.out.set (p := ⟨B + 1, 0, none⟩) (by simp only; omega) (.int .i64 cap)).set (p := ⟨B + 1, 1, none⟩) (by simp only; omega) (.slice A' 0 c')))
    clear hfin e0 e1 bM2 bR2
    go_wp2_with fail
    refine bodyPost_ret (v := .agg #[.int .i64 cap, .slice A' 0 c']) ?_ rfl ⟨A', c', rfl, HZ.out, HFIN.out⟩
    have e0 := E0.out
    have e1 := E1.out
    simp [results, Try.results31, go_sem, e0, e1]
end Go.Proofs.Ytegdnmlpoglfeaa
