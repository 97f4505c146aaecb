/- prog's reader: take. -/
import Derived.Test.YtcllifcafgiopaaPg5
set_option linter.unusedVariables false
set_option linter.unusedSimpArgs false
namespace Go.Proofs.Ytcllifcafgiopaa
open Go.RowKit

theorem setCell_heap_ne (W : World) {p : Addr} {k : Nat} (v : Value) (h : k ≠ p.block) : (W.setCell p v).heap[k]? = W.heap[k]? := Below.heap_setCell _ _ _ _ h
theorem setCell_size (W : World) (p : Addr) (v : Value) : (W.setCell p v).heap.size = W.heap.size := Array.size_modify
theorem Blk.set {W : World} {B : Nat} {t : TypeId} {cs : Array Value} (h : Blk W B t cs) (k : Nat) (v : Value) : Blk (W.setCell ⟨B, k, none⟩ v) B t (cs.setIfInBounds k v) := by
  show (W.setCell ⟨B, k, none⟩ v).heap[B]? = _
  have hh : W.heap[B]? = some (.cells cs t (0, 0)) := h
  simp [World.setCell, Array.getElem?_modify, hh]
theorem Blk.other {W : World} {B : Nat} {t : TypeId} {cs : Array Value} (h : Blk W B t cs) {p : Addr} (hp : B ≠ p.block) (v : Value) : Blk (W.setCell p v) B t cs := (setCell_heap_ne W v hp).trans h
/-- Whatever lay before is as it was, but for block G. -/
structure But (G : Nat) (W W' : World) : Prop where
  size : W.heap.size ≤ W'.heap.size
  same : ∀ k, k < W.heap.size → k ≠ G → W'.heap[k]? = W.heap[k]?
theorem But.refl (G : Nat) (W : World) : But G W W := ⟨Nat.le_refl _, fun _ _ _ => rfl⟩
theorem But.trans {G : Nat} {A B C : World} (h : But G A B) (k : But G B C) : But G A C := ⟨Nat.le_trans h.size k.size, fun i h1 h2 => (k.same i (Nat.lt_of_lt_of_le h1 h.size) h2).trans (h.same i h1 h2)⟩
theorem But.of {G : Nat} {A B : World} (h : Bel A B) : But G A B := ⟨h.size, fun k hk _ => h.out.block k hk⟩
theorem But.bel {G : Nat} {A B C : World} (h : But G A B) (hb : Bel B C) : But G A C := h.trans (But.of hb)
theorem But.set {G : Nat} {A B : World} (h : But G A B) (i : Nat) (v : Value) : But G A (B.setCell ⟨G, i, none⟩ v) :=
  h.trans ⟨by rw [setCell_size]; exact Nat.le_refl _, fun k _ hg => setCell_heap_ne B v hg⟩
theorem But.blk {G : Nat} {A B : World} (h : But G A B) {k : Nat} {t : TypeId} {cs : Array Value} (hb : Blk A k t cs) (hk : k ≠ G) : Blk B k t cs := (h.same k hb.lt hk).trans hb
/-- The reader's box: bytes that are left, and whether there were too few. -/
def RdS (w0 W : World) (G : Nat) (l : List Int) (bad : Bool) : Prop := ∃ A c, Blk W G 51 #[.slice A l.length c, .bool bad] ∧ Sl (IntR .u8) 1 w0 A c l ∧ Bel w0 W ∧ w0.heap.size ≤ G
theorem RdS.bel {w0 W W' : World} {G : Nat} {l : List Int} {bad : Bool} (h : RdS w0 W G l bad) (hb : Bel W W') : RdS w0 W' G l bad := by
  obtain ⟨A, c, h1, h2, h3, h4⟩ := h
  exact ⟨A, c, h1.bel hb, h2, h3.trans hb, h4⟩
def tkL (l : List Int) (bad : Bool) (n : Nat) : List Int := if bad = true ∨ l.length < n then List.replicate n 0 else l.take n
def tkR (l : List Int) (bad : Bool) (n : Nat) : List Int := if bad = true ∨ l.length < n then l else l.drop n
def tkB (l : List Int) (bad : Bool) (n : Nat) : Bool := bad || decide (l.length < n)
theorem tkL_len (l : List Int) (bad : Bool) (n : Nat) : (tkL l bad n).length = n := by
  unfold tkL
  split
  · exact List.length_replicate
  · rename_i h
    rw [List.length_take]
    have : ¬ l.length < n := fun hh => h (.inr hh)
    omega
theorem Sl.drop {w : World} {b off c : Nat} {l : List Int} (h : Sl (IntR .u8) 1 w (some ⟨b, off, none⟩) c l) (n : Nat) (hn : n ≤ l.length) : Sl (IntR .u8) 1 w (some ⟨b, off + n, none⟩) (c - n) (l.drop n) := by
  refine ⟨by rw [List.length_drop]; have := h.le; omega, by have := h.big; omega, fun i hi => ?_⟩
  rw [List.length_drop] at hi
  obtain ⟨b', off', cs, e, hl, hr, hc⟩ := h.get (n + i) (by omega)
  simp at e; obtain ⟨rfl, rfl⟩ := e
  refine ⟨b, off + n, cs, rfl, hl, by rw [List.getElem_drop]; exact hr, fun j v hv => ?_⟩
  have := hc j v hv
  rw [show off + n + i * 1 + j = off + (n + i) * 1 + j by omega]
  exact this
theorem Sl.take {w : World} {A : Option Addr} {c : Nat} {l : List Int} (h : Sl (IntR .u8) 1 w A c l) (n : Nat) : Sl (IntR .u8) 1 w A c (l.take n) := by
  refine ⟨by rw [List.length_take]; have := h.le; omega, h.big, fun i hi => ?_⟩
  rw [List.length_take] at hi
  obtain ⟨b', off', cs, e, hl, hr, hc⟩ := h.get i (by omega)
  exact ⟨b', off', cs, e, hl, by rw [List.getElem_take]; exact hr, hc⟩
theorem Sl.empty {w : World} {A : Option Addr} {c : Nat} (hc : c ≤ maxLen) : Sl (IntR .u8) 1 w A c [] := ⟨Nat.zero_le _, hc, fun i hi => by simp at hi⟩
theorem make_bytes (n : Nat) (hn : n ≤ 4096) (w : World) : (Instr.makeSlice 25 (.int .i64 n) (.int .i64 n)).run Try.prog w = .ok (.slice (some ⟨w.heap.size, 0, none⟩) n n) (w.alloc (.cells (u8s (List.replicate n 0)).toArray 5)) := by
  obtain ⟨i, hi, hz⟩ := Option.map_eq_some_iff.1 info_u8
  simp only [Prod.mk.injEq] at hz
  obtain ⟨hz0, hz1, hz2⟩ := hz
  have := run_make (P := Try.prog) w 25 5 i (.int .u8 0) Try.underlying25 hi hz0 .i64 .i64 (n : Int) (n : Int) (by omega) (Int.le_refl _) (by rw [hz2]; omega) (by omega)
  rw [this, hz1, Int.toNat_natCast, Nat.mul_one, show (Value.int .u8 0).cells = #[Value.int .u8 0] from rfl]
  have e : madeCells #[Value.int .u8 0] n = (u8s (List.replicate n 0)).toArray := by
    apply Array.toList_inj.1
    rw [toList_madeCells_one]
    simp [u8s]
  rw [e]
set_option maxHeartbeats 8000000 in
set_option maxRecDepth 100000 in
theorem take_any (G n : Nat) (l : List Int) (bad : Bool) (w0 W : World) (hr : RdS w0 W G l bad) (hn : Hid (1 ≤ n ∧ n ≤ 8)) :
    Calls Try.prog 38 #[.pointer (some ⟨G, 0, none⟩), .int .i64 n] W fun e W' => ∃ A c, e = .returned (.slice A n c) ∧ Sl (IntR .u8) 1 W' A c (tkL l bad n) ∧ RdS w0 W' G (tkR l bad n) (tkB l bad n) ∧ But G W W' := by
  obtain ⟨A, c, hblk, hs, hb0, hG⟩ := hr
  have HS := Lib.hid hs
  have HB := Lib.hid hblk
  have HB0 := Lib.hid hb0
  obtain ⟨q, hq⟩ : ∃ q, Hid (l.length = q) := ⟨_, Lib.hid rfl⟩
  rw [hq.out] at hblk HB
  have q0 := hblk.cell 0 (v := .slice A q c) rfl
  have q1 := hblk.cell 1 (v := .bool bad) rfl
  have f0 := hblk.frozen 0
  have f1 := hblk.frozen 1
  have hm := make_bytes n (by have := hn.out; omega)
  obtain ⟨hn1, hn8⟩ := hn.out
  clear hblk hs hb0
  by_cases hbad : bad = true ∨ q < n
  · have HL : Hid (tkL l bad n = List.replicate n 0 ∧ tkR l bad n = l ∧ tkB l bad n = true) := Lib.hid (by
      rw [← hq.out] at hbad
      refine ⟨if_pos hbad, if_pos hbad, ?_⟩
      unfold tkB
      rcases hbad with h | h
      · rw [h]; rfl
      · rw [decide_eq_true h, Bool.or_true])
    have HB1 := Lib.hid (HB.out.set 1 (.bool true))
    have HBT := Lib.hid (HB0.out.setCell (p := ⟨G, 1, none⟩) hG (.bool true))
    have FIN : Hid (∀ e, e = Ending.returned (.slice (some ⟨W.heap.size, 0, none⟩) n n) → ∃ A c, e = .returned (.slice A n c) ∧ Sl (IntR .u8) 1 ((W.setCell ⟨G, 1, none⟩ (.bool true)).alloc (.cells (u8s (List.replicate n 0)).toArray 5)) A c (tkL l bad n) ∧ RdS w0 ((W.setCell ⟨G, 1, none⟩ (.bool true)).alloc (.cells (u8s (List.replicate n 0)).toArray 5)) G (tkR l bad n) (tkB l bad n) ∧ But G W ((W.setCell ⟨G, 1, none⟩ (.bool true)).alloc (.cells (u8s (List.replicate n 0)).toArray 5))) := Lib.hid (by
      rintro e rfl
      obtain ⟨h1, h2, h3⟩ := HL.out
      refine ⟨_, _, rfl, ?_, ?_, ((But.refl G W).set 1 _).bel ((Bel.refl _).alloc _)⟩
      · rw [h1]
        have := sl_lit (k := .u8) (W.setCell ⟨G, 1, none⟩ (.bool true)) 5 (List.replicate n 0) (fun x hx => by rw [List.eq_of_mem_replicate hx]; rfl) (by rw [List.length_replicate]; simp only [maxLen]; omega)
        rw [List.length_replicate, setCell_size] at this
        exact this
      · rw [h2, h3]
        exact ⟨A, c, by rw [hq.out]; exact HB1.out.alloc _, HS.out, HBT.out.alloc _, hG⟩)
    cases bad
    · have hlt : (q : Int) < n := by
        rcases hbad with h | h
        · cases h
        · omega
      clear hbad
      go_enter Try.func38, Try.ntmps38
      go_wp2_with fail
      go_ret
      exact FIN.out _ (by rfl)
    · clear hbad
      go_enter Try.func38, Try.ntmps38
      go_wp2_with fail
      go_ret
      exact FIN.out _ (by rfl)
  · have hb : bad = false := by
      cases bad
      · rfl
      · exact absurd (.inl rfl) hbad
    subst hb
    have hge : ¬ q < n := fun h => hbad (.inr h)
    have hge' : ¬ (q : Int) < n := by omega
    have HL : Hid (tkL l false n = l.take n ∧ tkR l false n = l.drop n ∧ tkB l false n = false) := Lib.hid (by
      rw [← hq.out] at hbad hge
      refine ⟨if_neg hbad, if_neg hbad, ?_⟩
      unfold tkB
      rw [decide_eq_false hge]
      rfl)
    have hqc : q ≤ c := by rw [← hq.out]; exact HS.out.le
    have hcm : c ≤ 9223372036854775807 := by have := HS.out.big; simp only [maxLen] at this; omega
    obtain ⟨b, o, rfl⟩ := HS.out.addr (by rw [hq.out]; omega)
    have t1 : (n : Int) ≤ q := by omega
    have t2 : (q : Int) ≤ c := by omega
    have t3 : (n : Int) ≤ c := by omega
    have t4 : 0 ≤ (n : Int) := by omega
    have FIN2 : Hid (∀ XA XC, Sl (IntR .u8) 1 w0 XA XC (l.drop n) → ∀ e, e = Ending.returned (.slice (some ⟨b, o, none⟩) n c) → ∃ A c, e = .returned (.slice A n c) ∧ Sl (IntR .u8) 1 ((W.setCell ⟨G, 1, none⟩ (.bool false)).setCell ⟨G, 0, none⟩ (.slice XA (q - n) XC)) A c (tkL l false n) ∧ RdS w0 ((W.setCell ⟨G, 1, none⟩ (.bool false)).setCell ⟨G, 0, none⟩ (.slice XA (q - n) XC)) G (tkR l false n) (tkB l false n) ∧ But G W ((W.setCell ⟨G, 1, none⟩ (.bool false)).setCell ⟨G, 0, none⟩ (.slice XA (q - n) XC))) := Lib.hid (by
      rintro XA XC hx e rfl
      obtain ⟨h1, h2, h3⟩ := HL.out
      have hbel := (HB0.out.setCell (p := ⟨G, 1, none⟩) hG (.bool false)).setCell (p := ⟨G, 0, none⟩) hG (.slice XA (q - n) XC)
      refine ⟨_, _, rfl, ?_, ?_, ((But.refl G W).set 1 _).set 0 _⟩
      · rw [h1]
        exact (HS.out.take n).mono (IntR.mono _) hbel
      · rw [h2, h3]
        refine ⟨XA, XC, ?_, hx, hbel, hG⟩
        rw [List.length_drop, hq.out]
        exact (HB.out.set 1 (.bool false)).set 0 (.slice XA (q - n) XC))
    clear hbad
    by_cases hcn : c = n
    · have HD : Hid (Sl (IntR .u8) 1 w0 (some ⟨b, o, none⟩) 0 (l.drop n)) := Lib.hid (by
        rw [List.drop_of_length_le (by rw [hq.out]; omega)]
        exact Sl.empty (by decide))
      subst hcn
      go_enter Try.func38, Try.ntmps38
      go_wp2_with fail
      go_ret
      have key := FIN2.out (some ⟨b, o, none⟩) 0 HD.out
      rw [show q - c = 0 by omega] at key
      exact key _ (by rfl)
    · have HD := Lib.hid (HS.out.drop n (by rw [hq.out]; omega))
      go_enter Try.func38, Try.ntmps38
      go_wp2_with fail
      go_ret
      exact FIN2.out _ _ HD.out _ (by rfl)
end Go.Proofs.Ytcllifcafgiopaa
