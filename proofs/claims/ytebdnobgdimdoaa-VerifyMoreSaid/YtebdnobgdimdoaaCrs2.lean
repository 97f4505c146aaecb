/- course.next and course.Next by their contracts. -/
import Derived.Test.YtebdnobgdimdoaaCrs1
set_option linter.unusedVariables false
set_option linter.unusedSimpArgs false
namespace Go.Proofs.Ytebdnobgdimdoaa
open Go.RowKit

theorem wrap_i64 {x : Int} (h1 : -9223372036854775808 ≤ x) (h2 : x < 9223372036854775808) : IntKind.i64.wrap x = x := by simp [IntKind.wrap, IntKind.bits, IntKind.signed]; omega
theorem wf_i64 {x : Int} (h1 : -9223372036854775808 ≤ x) (h2 : x < 9223372036854775808) : (Lit.int .i64 x).wf = true := by simp [Lit.wf, IntKind.min, IntKind.max, IntKind.bits, IntKind.signed]; omega
def ints (ts : List Nat) : List Int := ts.map fun (n : Nat) => (n : Int)
/-- Numbers that may be read, in new memory or none. -/
def IntsOut (ts : List Nat) (w : World) (e : Ending) (w' : World) : Prop :=
  ∃ A cap, e = .returned (.slice A ts.length cap) ∧ Sl (IntR .i64) 1 w' A cap (ints ts) ∧ (∀ x, A = some x → w.heap.size ≤ x.block) ∧ Bel w w'
/-- A block of numbers that was just made, as a slice. -/
theorem sl_new {k : IntKind} (w : World) (t : TypeId) (l : List Int) (hw : ∀ x ∈ l, (Lit.int k x).wf = true) (hm : l.length ≤ maxLen) : Sl (IntR k) 1 (w.alloc (.cells (l.map (Value.int k)).toArray t)) (some ⟨w.heap.size, 0, none⟩) l.length l :=
  ⟨Nat.le_refl _, hm, fun i hi => ⟨w.heap.size, 0, [.int k l[i]], rfl, rfl, ⟨rfl, hw _ (List.getElem_mem hi)⟩, fun j v hv => by
    cases j with
    | zero => simp at hv; subst hv; simp [World.cell?_alloc_new, List.getElem?_eq_getElem hi]
    | succ j => simp at hv⟩⟩
theorem sl_new_at {k : IntKind} (w : World) (g : Nat) (hg : w.heap.size = g) (t : TypeId) (l : List Int) (hw : ∀ x ∈ l, (Lit.int k x).wf = true) (hm : l.length ≤ maxLen) : Sl (IntR k) 1 (w.alloc (.cells (l.map (Value.int k)).toArray t)) (some ⟨g, 0, none⟩) l.length l := by
  subst hg; exact sl_new w t l hw hm
set_option maxHeartbeats 4000000 in
set_option maxRecDepth 100000 in
theorem next_exit (b off0 c n k : Nat) (op fn dst src : Int) (reg : Bool) (off imm : Int) (w : World) (hk : (k : Int) < n) (hk2 : k < 64) (ho : 0 ≤ off) (ho2 : off ≤ 65535)
    (c0 : w.cell? ⟨b, off0 + k * 7, none⟩ = some (.int .i64 op)) (c1 : w.cell? ⟨b, off0 + k * 7 + 1, none⟩ = some (.int .i64 fn)) (c2 : w.cell? ⟨b, off0 + k * 7 + 2, none⟩ = some (.int .i64 dst)) (c3 : w.cell? ⟨b, off0 + k * 7 + 3, none⟩ = some (.int .i64 src)) (c4 : w.cell? ⟨b, off0 + k * 7 + 4, none⟩ = some (.bool reg)) (c5 : w.cell? ⟨b, off0 + k * 7 + 5, none⟩ = some (.int .i64 off)) (c6 : w.cell? ⟨b, off0 + k * 7 + 6, none⟩ = some (.int .u32 imm)) (h : op = 7) :
    Calls Try.prog 26 #[.slice (some ⟨b, off0, none⟩) n c, .int .i64 k] w (IntsOut ([]) w) := by
  have k0 : 0 ≤ (k : Int) := by omega
  have e1 : IntKind.i64.wrap ((k : Int) + 1) = (k : Int) + 1 := wrap_i64 (by omega) (by omega)
  have e2 : IntKind.i64.wrap ((k : Int) + off) = (k : Int) + off := wrap_i64 (by omega) (by omega)
  have e3 : IntKind.i64.wrap ((k : Int) + off + 1) = (k : Int) + off + 1 := wrap_i64 (by omega) (by omega)
  subst h
  go_enter Try.func26, Try.ntmps26
  go_wp2_with fail
  go_ret
  exact ⟨none, 0, rfl, Sl.nil _ _ _, (fun _ h => by cases h), by repeat (first | exact Bel.refl _ | apply Bel.alloc | apply Bel.drew)⟩
set_option maxHeartbeats 4000000 in
set_option maxRecDepth 100000 in
theorem next_always (b off0 c n k : Nat) (op fn dst src : Int) (reg : Bool) (off imm : Int) (w : World) (hk : (k : Int) < n) (hk2 : k < 64) (ho : 0 ≤ off) (ho2 : off ≤ 65535)
    (c0 : w.cell? ⟨b, off0 + k * 7, none⟩ = some (.int .i64 op)) (c1 : w.cell? ⟨b, off0 + k * 7 + 1, none⟩ = some (.int .i64 fn)) (c2 : w.cell? ⟨b, off0 + k * 7 + 2, none⟩ = some (.int .i64 dst)) (c3 : w.cell? ⟨b, off0 + k * 7 + 3, none⟩ = some (.int .i64 src)) (c4 : w.cell? ⟨b, off0 + k * 7 + 4, none⟩ = some (.bool reg)) (c5 : w.cell? ⟨b, off0 + k * 7 + 5, none⟩ = some (.int .i64 off)) (c6 : w.cell? ⟨b, off0 + k * 7 + 6, none⟩ = some (.int .u32 imm)) (h : op = 1) (h2 : fn = 0) :
    Calls Try.prog 26 #[.slice (some ⟨b, off0, none⟩) n c, .int .i64 k] w (IntsOut ([k + off.toNat + 1]) w) := by
  have k0 : 0 ≤ (k : Int) := by omega
  have e1 : IntKind.i64.wrap ((k : Int) + 1) = (k : Int) + 1 := wrap_i64 (by omega) (by omega)
  have e2 : IntKind.i64.wrap ((k : Int) + off) = (k : Int) + off := wrap_i64 (by omega) (by omega)
  have e3 : IntKind.i64.wrap ((k : Int) + off + 1) = (k : Int) + off + 1 := wrap_i64 (by omega) (by omega)
  subst h
  subst h2
  go_enter Try.func26, Try.ntmps26
  go_wp2_with fail
  go_ret
  obtain ⟨o, rfl⟩ := Int.eq_ofNat_of_zero_le ho
  refine ⟨_, _, rfl, ?_, (fun x h => by cases h; simp), by repeat (first | exact Bel.refl _ | apply Bel.alloc | apply Bel.drew)⟩
  have h := sl_new_at (k := .i64) (w.alloc (.cells #[.int .i64 1, .int .i64 0, .int .i64 dst, .int .i64 src, .bool reg, .int .i64 (o : Int), .int .u32 imm] 32)) (w.heap.size + 1) (by simp) 3 (ints ([k + o + 1])) (by simp [ints]; first | exact wf_i64 (by omega) (by omega) | exact ⟨wf_i64 (by omega) (by omega), wf_i64 (by omega) (by omega)⟩) (by show _ ≤ maxLen; simp [ints, maxLen])
  simpa [ints] using h
set_option maxHeartbeats 4000000 in
set_option maxRecDepth 100000 in
theorem next_both (b off0 c n k : Nat) (op fn dst src : Int) (reg : Bool) (off imm : Int) (w : World) (hk : (k : Int) < n) (hk2 : k < 64) (ho : 0 ≤ off) (ho2 : off ≤ 65535)
    (c0 : w.cell? ⟨b, off0 + k * 7, none⟩ = some (.int .i64 op)) (c1 : w.cell? ⟨b, off0 + k * 7 + 1, none⟩ = some (.int .i64 fn)) (c2 : w.cell? ⟨b, off0 + k * 7 + 2, none⟩ = some (.int .i64 dst)) (c3 : w.cell? ⟨b, off0 + k * 7 + 3, none⟩ = some (.int .i64 src)) (c4 : w.cell? ⟨b, off0 + k * 7 + 4, none⟩ = some (.bool reg)) (c5 : w.cell? ⟨b, off0 + k * 7 + 5, none⟩ = some (.int .i64 off)) (c6 : w.cell? ⟨b, off0 + k * 7 + 6, none⟩ = some (.int .u32 imm)) (h : op = 1) (h2 : (fn == 0) = false) (h3 : 0 < off) :
    Calls Try.prog 26 #[.slice (some ⟨b, off0, none⟩) n c, .int .i64 k] w (IntsOut ([k + 1, k + off.toNat + 1]) w) := by
  have k0 : 0 ≤ (k : Int) := by omega
  have e1 : IntKind.i64.wrap ((k : Int) + 1) = (k : Int) + 1 := wrap_i64 (by omega) (by omega)
  have e2 : IntKind.i64.wrap ((k : Int) + off) = (k : Int) + off := wrap_i64 (by omega) (by omega)
  have e3 : IntKind.i64.wrap ((k : Int) + off + 1) = (k : Int) + off + 1 := wrap_i64 (by omega) (by omega)
  subst h
  go_enter Try.func26, Try.ntmps26
  go_wp2_with fail
  go_ret
  obtain ⟨o, rfl⟩ := Int.eq_ofNat_of_zero_le ho
  refine ⟨_, _, rfl, ?_, (fun x h => by cases h; simp), by repeat (first | exact Bel.refl _ | apply Bel.alloc | apply Bel.drew)⟩
  have h := sl_new_at (k := .i64) (w.alloc (.cells #[.int .i64 1, .int .i64 fn, .int .i64 dst, .int .i64 src, .bool reg, .int .i64 (o : Int), .int .u32 imm] 32)) (w.heap.size + 1) (by simp) 3 (ints ([k + 1, k + o + 1])) (by simp [ints]; first | exact wf_i64 (by omega) (by omega) | exact ⟨wf_i64 (by omega) (by omega), wf_i64 (by omega) (by omega)⟩) (by show _ ≤ maxLen; simp [ints, maxLen])
  simpa [ints] using h
set_option maxHeartbeats 4000000 in
set_option maxRecDepth 100000 in
theorem next_stay (b off0 c n k : Nat) (op fn dst src : Int) (reg : Bool) (off imm : Int) (w : World) (hk : (k : Int) < n) (hk2 : k < 64) (ho : 0 ≤ off) (ho2 : off ≤ 65535)
    (c0 : w.cell? ⟨b, off0 + k * 7, none⟩ = some (.int .i64 op)) (c1 : w.cell? ⟨b, off0 + k * 7 + 1, none⟩ = some (.int .i64 fn)) (c2 : w.cell? ⟨b, off0 + k * 7 + 2, none⟩ = some (.int .i64 dst)) (c3 : w.cell? ⟨b, off0 + k * 7 + 3, none⟩ = some (.int .i64 src)) (c4 : w.cell? ⟨b, off0 + k * 7 + 4, none⟩ = some (.bool reg)) (c5 : w.cell? ⟨b, off0 + k * 7 + 5, none⟩ = some (.int .i64 off)) (c6 : w.cell? ⟨b, off0 + k * 7 + 6, none⟩ = some (.int .u32 imm)) (h : op = 1) (h2 : (fn == 0) = false) (h3 : off = 0) :
    Calls Try.prog 26 #[.slice (some ⟨b, off0, none⟩) n c, .int .i64 k] w (IntsOut ([k + 1]) w) := by
  have k0 : 0 ≤ (k : Int) := by omega
  have e1 : IntKind.i64.wrap ((k : Int) + 1) = (k : Int) + 1 := wrap_i64 (by omega) (by omega)
  have e2 : IntKind.i64.wrap ((k : Int) + off) = (k : Int) + off := wrap_i64 (by omega) (by omega)
  have e3 : IntKind.i64.wrap ((k : Int) + off + 1) = (k : Int) + off + 1 := wrap_i64 (by omega) (by omega)
  subst h
  subst h3
  go_enter Try.func26, Try.ntmps26
  go_wp2_with fail
  go_ret
  refine ⟨_, _, rfl, ?_, (fun x h => by cases h; simp), by repeat (first | exact Bel.refl _ | apply Bel.alloc | apply Bel.drew)⟩
  have h := sl_new_at (k := .i64) (w.alloc (.cells #[.int .i64 1, .int .i64 fn, .int .i64 dst, .int .i64 src, .bool reg, .int .i64 0, .int .u32 imm] 32)) (w.heap.size + 1) (by simp) 3 (ints ([k + 1])) (by simp [ints]; first | exact wf_i64 (by omega) (by omega) | exact ⟨wf_i64 (by omega) (by omega), wf_i64 (by omega) (by omega)⟩) (by show _ ≤ maxLen; simp [ints, maxLen])
  simpa [ints] using h
set_option maxHeartbeats 4000000 in
set_option maxRecDepth 100000 in
theorem next_step (b off0 c n k : Nat) (op fn dst src : Int) (reg : Bool) (off imm : Int) (w : World) (hk : (k : Int) < n) (hk2 : k < 64) (ho : 0 ≤ off) (ho2 : off ≤ 65535)
    (c0 : w.cell? ⟨b, off0 + k * 7, none⟩ = some (.int .i64 op)) (c1 : w.cell? ⟨b, off0 + k * 7 + 1, none⟩ = some (.int .i64 fn)) (c2 : w.cell? ⟨b, off0 + k * 7 + 2, none⟩ = some (.int .i64 dst)) (c3 : w.cell? ⟨b, off0 + k * 7 + 3, none⟩ = some (.int .i64 src)) (c4 : w.cell? ⟨b, off0 + k * 7 + 4, none⟩ = some (.bool reg)) (c5 : w.cell? ⟨b, off0 + k * 7 + 5, none⟩ = some (.int .i64 off)) (c6 : w.cell? ⟨b, off0 + k * 7 + 6, none⟩ = some (.int .u32 imm)) (h : (op == 7) = false) (h2 : (op == 1) = false) :
    Calls Try.prog 26 #[.slice (some ⟨b, off0, none⟩) n c, .int .i64 k] w (IntsOut ([k + 1]) w) := by
  have k0 : 0 ≤ (k : Int) := by omega
  have e1 : IntKind.i64.wrap ((k : Int) + 1) = (k : Int) + 1 := wrap_i64 (by omega) (by omega)
  have e2 : IntKind.i64.wrap ((k : Int) + off) = (k : Int) + off := wrap_i64 (by omega) (by omega)
  have e3 : IntKind.i64.wrap ((k : Int) + off + 1) = (k : Int) + off + 1 := wrap_i64 (by omega) (by omega)
  go_enter Try.func26, Try.ntmps26
  go_wp2_with fail
  go_ret
  obtain ⟨o, rfl⟩ := Int.eq_ofNat_of_zero_le ho
  refine ⟨_, _, rfl, ?_, (fun x h => by cases h; simp), by repeat (first | exact Bel.refl _ | apply Bel.alloc | apply Bel.drew)⟩
  have h := sl_new_at (k := .i64) (w.alloc (.cells #[.int .i64 op, .int .i64 fn, .int .i64 dst, .int .i64 src, .bool reg, .int .i64 (o : Int), .int .u32 imm] 32)) (w.heap.size + 1) (by simp) 3 (ints ([k + 1])) (by simp [ints]; first | exact wf_i64 (by omega) (by omega) | exact ⟨wf_i64 (by omega) (by omega), wf_i64 (by omega) (by omega)⟩) (by show _ ≤ maxLen; simp [ints, maxLen])
  simpa [ints] using h
theorem ok_off {i : InstD} (h : i.okB = true) : 0 ≤ i.off ∧ i.off ≤ 65535 := by
  obtain ⟨_, _, _, _, ⟨e1, e2⟩, _⟩ := of_decide_eq_true h
  refine ⟨e1, ?_⟩
  split at e2 <;> omega
theorem next_any (A : Option Addr) (c n : Nat) (l : List InstD) (k : Nat) (ts : List Nat) (w : World) (h : Sl InstR 7 w A c l) (hn : Hid (l.length = n)) (hk : k < n) (hk2 : k < 64) (ho : (l[k]!).okB = true) (ht : Hid (nxt l[k]! k = ts)) :
    Calls Try.prog 26 #[.slice A n c, .int .i64 k] w (IntsOut ts w) := by
  have hk' : k < l.length := by rw [hn.out]; exact hk
  obtain ⟨b, off0, rfl⟩ := h.addr (by omega)
  have hc := inst_cells h k hk'
  have c0 := hc 0 _ rfl
  have c1 := hc 1 _ rfl
  have c2 := hc 2 _ rfl
  have c3 := hc 3 _ rfl
  have c4 := hc 4 _ rfl
  have c5 := hc 5 _ rfl
  have c6 := hc 6 _ rfl
  rw [Nat.add_zero] at c0
  obtain ⟨o1, o2⟩ := ok_off ho
  rw [← ht.out]
  clear hc ht ho h hn
  generalize l[k]! = i at *
  obtain ⟨op, fn, dst, src, reg, off, imm⟩ := i
  simp only at *
  have hkn : (k : Int) < n := by omega
  unfold nxt
  by_cases h7 : op = 7
  · rw [if_pos h7]
    exact next_exit b off0 c n k op fn dst src reg off imm w hkn hk2 o1 o2 c0 c1 c2 c3 c4 c5 c6 h7
  · rw [if_neg h7]
    by_cases h1 : op = 1
    · by_cases h0 : fn = 0
      · rw [if_pos ⟨h1, h0⟩]
        exact next_always b off0 c n k op fn dst src reg off imm w hkn hk2 o1 o2 c0 c1 c2 c3 c4 c5 c6 h1 h0
      · rw [if_neg (fun h => h0 h.2)]
        by_cases h2 : 0 < off
        · rw [if_pos ⟨h1, h2⟩]
          exact next_both b off0 c n k op fn dst src reg off imm w hkn hk2 o1 o2 c0 c1 c2 c3 c4 c5 c6 h1 (by simpa using h0) h2
        · rw [if_neg (fun h => h2 h.2)]
          exact next_stay b off0 c n k op fn dst src reg off imm w hkn hk2 o1 o2 c0 c1 c2 c3 c4 c5 c6 h1 (by simpa using h0) (by omega)
    · rw [if_neg (fun h => h1 h.1), if_neg (fun h => h1 h.1)]
      exact next_step b off0 c n k op fn dst src reg off imm w hkn hk2 o1 o2 c0 c1 c2 c3 c4 c5 c6 (by simpa using h7) (by simpa using h1)
theorem crsmay_at (A : Option Addr) (c n : Nat) (l : List InstD) (r : Bool) (w : World) (h : Sl InstR 7 w A c l) (hn : Hid (l.length = n)) (hr : Hid (crsMay l = r)) :
    Calls Try.prog 25 #[.slice A n c] w fun e w' => e = .returned (.bool r) ∧ Bel w w' := by
  have := crsmay_any A c l w h
  rw [hn.out, hr.out] at this
  exact this
/-- What 'Next' tells. -/
def nextR (l : List InstD) (p : Int) : List Nat := if crsMay l = true ∧ 0 ≤ p ∧ p < l.length then nxt l[p.toNat]! p.toNat else []
set_option maxHeartbeats 4000000 in
set_option maxRecDepth 100000 in
theorem Next_any (A : Option Addr) (c n : Nat) (l : List InstD) (p : Int) (ts : List Nat) (w : World) (h : Sl InstR 7 w A c l) (hn : Hid (l.length = n)) (ht : Hid (nextR l p = ts)) :
    Calls Try.prog 28 #[.slice A n c, .int .i64 p] w (IntsOut ts w) := by
  have HS := Lib.hid h
  have hnn : n ≤ 9223372036854775807 := by rw [← hn.out]; have := h.le; have := h.big; simp only [maxLen] at this; omega
  rw [← ht.out]
  clear ht
  unfold nextR
  by_cases hm : crsMay l = true
  · have HM := Lib.hid hm
    obtain ⟨m0, m1, m2⟩ : 0 < l.length ∧ l.length ≤ 64 ∧ ∀ k, k < l.length → (l[k]!).okB = true := by
      unfold crsMay at hm
      rw [Bool.and_eq_true, decide_eq_true_iff, List.all_eq_true] at hm
      refine ⟨hm.1.1, hm.1.2, fun k hk => ?_⟩
      rw [getElem!_pos l k hk]
      exact hm.2 _ (List.getElem_mem hk)
    have n64 : n ≤ 64 := by rw [← hn.out]; exact m1
    by_cases p0 : p < 0
    · rw [if_neg (by rintro ⟨_, h, _⟩; omega)]
      clear m0 m1 m2 hm h
      go_enter Try.func28, Try.ntmps28
      go_wp2_with fail
      refine (crsmay_at _ _ _ _ _ _ HS.out hn HM).mono ?_
      rintro e w1 ⟨rfl, hb⟩
      go_wp2_with fail
      go_ret
      exact ⟨none, 0, rfl, Sl.nil _ _ _, (fun _ h => by cases h), hb⟩
    · by_cases p1 : p < n
      · rw [if_pos ⟨hm, by omega, by rw [hn.out]; exact p1⟩]
        obtain ⟨k, rfl⟩ : ∃ k : Nat, p = k := ⟨p.toNat, by omega⟩
        rw [Int.toNat_natCast]
        have ho := Lib.hid (m2 k (by rw [hn.out]; omega))
        obtain ⟨ts, ht⟩ : ∃ ts, Hid (nxt l[k]! k = ts) := ⟨_, Lib.hid rfl⟩
        rw [ht.out]
        have hk : k < n := by omega
        have p1' : ¬ (n : Int) ≤ k := by omega
        have p0' : ¬ (k : Int) < 0 := by omega
        clear m0 m1 m2 hm h p1 p0
        go_enter Try.func28, Try.ntmps28
        go_wp2_with fail
        refine (crsmay_at _ _ _ _ _ _ HS.out hn HM).mono ?_
        rintro e w1 ⟨rfl, hb⟩
        go_wp2_with fail
        refine (next_any _ _ _ _ _ _ _ (HS.out.mono InstR.mono hb) hn hk (by omega) ho.out ht).mono ?_
        rintro e w2 ⟨A2, c2, rfl, s2, hfr, hb2⟩
        have S2 := Lib.hid s2
        clear s2
        go_wp2_with fail
        go_ret
        exact ⟨A2, c2, rfl, S2.out, (fun x h => Nat.le_trans hb.size (hfr x h)), hb.trans hb2⟩
      · rw [if_neg (by rintro ⟨_, _, h⟩; rw [hn.out] at h; exact p1 h)]
        have p1' : (n : Int) ≤ p := by omega
        have p0' : ¬ p < 0 := p0
        clear m0 m1 m2 hm h p1
        go_enter Try.func28, Try.ntmps28
        go_wp2_with fail
        refine (crsmay_at _ _ _ _ _ _ HS.out hn HM).mono ?_
        rintro e w1 ⟨rfl, hb⟩
        go_wp2_with fail
        go_ret
        exact ⟨none, 0, rfl, Sl.nil _ _ _, (fun _ h => by cases h), hb⟩
  · rw [if_neg (fun h => hm h.1)]
    have HM : Hid (crsMay l = false) := Lib.hid (by simpa using hm)
    clear hm h
    go_enter Try.func28, Try.ntmps28
    go_wp2_with fail
    refine (crsmay_at _ _ _ _ _ _ HS.out hn HM).mono ?_
    rintro e w1 ⟨rfl, hb⟩
    go_wp2_with fail
    go_ret
    exact ⟨none, 0, rfl, Sl.nil _ _ _, (fun _ h => by cases h), hb⟩
end Go.Proofs.Ytebdnobgdimdoaa
