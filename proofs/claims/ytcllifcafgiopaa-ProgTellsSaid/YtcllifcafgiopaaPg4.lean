/- prog.put of a function, and of a program's head; prog.Put. -/
import Derived.Test.YtcllifcafgiopaaPg3
set_option linter.unusedVariables false
set_option linter.unusedSimpArgs false
namespace Go.Proofs.Ytcllifcafgiopaa
open Go.RowKit

/-- The bytes of a function. -/
def FnD.bytes (f : FnD) : List Int := [f.args, (f.code.length : Int)] ++ f.code.flatMap InstD.put
theorem ret_val {a b : Value} (h : a = b) : Ending.returned a = .returned b := by rw [h]
theorem flat_put (l : List InstD) : (l.map PartD.n).flatMap PartD.bytes = l.flatMap InstD.put := by
  rw [List.flatMap_map]
  rfl
theorem code_le : ∀ l : List InstD, (l.flatMap InstD.put).length = 8 * l.length
  | [] => rfl
  | i :: l => by
    rw [List.flatMap_cons, List.length_append, code_le l, List.length_cons, put8]
    omega
theorem code_take (l : List InstD) {k : Nat} (hk : k < l.length) : (l.take (k + 1)).flatMap InstD.put = (l.take k).flatMap InstD.put ++ (l[k]!).put := by
  rw [← List.take_append_getElem hk, List.flatMap_append, getElem!_pos l k hk]
  simp
theorem Sl.inst_at {w : World} {b off c : Nat} {l : List InstD} (h : Sl InstR 7 w (some ⟨b, off, none⟩) c l) {j : Nat} (hj : j < l.length) :
    w.cell? ⟨b, off + j * 7, none⟩ = some (.int .i64 (l[j]!).op) ∧ w.cell? ⟨b, off + j * 7 + 1, none⟩ = some (.int .i64 (l[j]!).fn) ∧ w.cell? ⟨b, off + j * 7 + 2, none⟩ = some (.int .i64 (l[j]!).dst) ∧ w.cell? ⟨b, off + j * 7 + 3, none⟩ = some (.int .i64 (l[j]!).src) ∧ w.cell? ⟨b, off + j * 7 + 4, none⟩ = some (.bool (l[j]!).reg) ∧ w.cell? ⟨b, off + j * 7 + 5, none⟩ = some (.int .i64 (l[j]!).off) ∧ w.cell? ⟨b, off + j * 7 + 6, none⟩ = some (.int .u32 (l[j]!).imm) ∧ (l[j]!).Wf := by
  have h1 := inst_cells h j hj
  obtain ⟨b', off', cs, e, hl, ⟨rfl, hw⟩, hc⟩ := h.get j hj
  have e2 : l[j]! = l[j] := getElem!_pos l j hj
  rw [e2] at h1 ⊢
  exact ⟨h1 0 _ rfl, h1 1 _ rfl, h1 2 _ rfl, h1 3 _ rfl, h1 4 _ rfl, h1 5 _ rfl, h1 6 _ rfl, hw⟩
set_option maxHeartbeats 8000000 in
set_option maxRecDepth 100000 in
theorem put_fn (g : Int) (A : Option Addr) (n c : Nat) (l : List InstD) (base : Nat) (v0 : Value) (bs : List Int) (PB : Nat) (w0 W : World) (hown : W.ownsRow base 5 1 v0 bs.length (u8s bs)) (hb0 : w0.heap.size ≤ base) (HB0 : Bel w0 W) (hs : Sl InstR 7 w0 A c l) (hn : Hid (l.length = n)) (hpb : Blk W PB 20 #[.iface 38 (.agg #[.int .i64 g, .slice A n c])]) (hok : Hid (fnFine ⟨g, l⟩ = true)) (hbase : base ≤ W.heap.size) (hsz : Hid (bs.length ≤ 50000)) :
    Calls Try.prog 23 #[v0, .slice (some ⟨PB, 0, none⟩) 1 1] W fun e W' => ∃ v', e = .returned v' ∧ PutO base W v' (bs ++ FnD.bytes ⟨g, l⟩) W' := by
  have HO := Lib.hid (PutO.refl hown)
  have HP := Lib.hid hpb
  have HS0 := Lib.hid hs
  have HBB := Lib.hid HB0
  have hf : Hid ((0 ≤ g ∧ g ≤ 4) ∧ crsMay l = true) := Lib.hid (by
    have := hok.out
    unfold fnFine at this
    simp only [Bool.and_eq_true, decide_eq_true_iff] at this
    exact this)
  obtain ⟨⟨g0, g4⟩, hcm⟩ := hf.out
  obtain ⟨m0, m1, m2⟩ := crsMay_facts hcm
  rw [hn.out] at m0 m1
  have HIN := Lib.hid m2
  clear hown hpb hs HB0 hcm m2 hf
  go_enter Try.func23, Try.ntmps23
  go_wp2_with fail
  go_loopw [0, 17] (fun ov iv wr => ∃ k : Nat, iv = .int .i64 k ∧ ((k = 0 ∧ PutO base W ov bs wr) ∨ (k = 1 ∧ PutO base W ov (bs ++ FnD.bytes ⟨g, l⟩) wr))) (fun _ iv _ => 1 - (intOf iv).toNat)
  case atStart => exact ⟨0, rfl, .inl ⟨rfl, HO.out⟩⟩
  case round =>
    obtain ⟨k, rfl, ho⟩ := hrel
    rcases ho with ⟨rfl, ho⟩ | ⟨rfl, ho⟩
    · have hblk := ho.k8.blk PB _ _ HP.out (by decide)
      have d0 := hblk.cell 0 (v := .iface 38 (.agg #[.int .i64 g, .slice A n c])) rfl
      have y1 := asFn_Int (.agg #[.int .i64 g, .slice A n c])
      have y2 := asFn_Rune (.agg #[.int .i64 g, .slice A n c])
      have y3 := asFn_Inst (.agg #[.int .i64 g, .slice A n c])
      have y4 := asFn_Fn (.agg #[.int .i64 g, .slice A n c])
      have e1 : IntKind.i64.wrap ((0 : Int) + 1) = 1 := rfl
      have HPO := Lib.hid ho
      have hbw : base ≤ wr.heap.size := Nat.le_trans hbase ho.k8.size
      clear ho hblk
      have hbF := (Blk.new wr 38 #[.int .i64 g, .slice A n c]).alloc (.cells #[.iface 3 (.int .i64 g), .iface 3 (.int .i64 n)] 20)
      have HBF := Lib.hid hbF
      have hbP := Blk.new (wr.alloc (.cells #[.int .i64 g, .slice A n c] 38)) 20 #[.iface 3 (.int .i64 g), .iface 3 (.int .i64 n)]
      have HBX : Bel wr ((wr.alloc (.cells #[.int .i64 g, .slice A n c] 38)).alloc (.cells #[.iface 3 (.int .i64 g), .iface 3 (.int .i64 n)] 20)) := ((Bel.refl wr).alloc _).alloc _
      have HPO2 := Lib.hid (HPO.out.to HBX)
      have hbw2 := Nat.le_trans hbw HBX.size
      rw [World.size_alloc] at hbP
      clear hbF
      go_wp2_with fail
      have HOW := Lib.hid HPO2.out.own
      generalize wr.heap.size = gF at *
      refine (put_flat [.i g, .i n] 2 base _ bs _ _ HOW.out (Lib.hid rfl) hbP (Lib.hid (by
        intro p hp
        simp only [List.mem_cons, List.not_mem_nil, or_false] at hp
        rcases hp with rfl | rfl
        · exact ⟨g0, by omega⟩
        · exact ⟨by omega, by omega⟩)) hbw2 (Lib.hid (by have := hsz.out; omega))).mono ?_
      rintro e w5 ⟨v5, rfl, hp5⟩
      have HP5 := Lib.hid (HPO2.out.trans hp5)
      have HBF5 := Lib.hid (hp5.k8.blk _ _ _ HBF.out (by decide))
      have hbw5 := Nat.le_trans hbw2 hp5.k8.size
      have HP5 : Hid (PutO base W v5 (bs ++ [g, (n : Int)]) w5) := HP5
      have p0 : w5.cell? ⟨gF, 0, none⟩ = some (.int .i64 g) := HBF5.out.cell 0 rfl
      have p1 : w5.cell? ⟨gF, 1, none⟩ = some (.slice A n c) := HBF5.out.cell 1 rfl
      clear hp5 d0 y1 y2 y3 y4 hbP HBX HPO HPO2 HBF HOW
      go_wp2_with fail
      clear p0 p1
      go_loopw [0, 65] (fun ov jv wr => ∃ j : Nat, jv = .int .i64 j ∧ j ≤ n ∧ PutO base W ov (bs ++ ([g, (n : Int)] ++ (l.take j).flatMap InstD.put)) wr) (fun _ jv _ => n - (intOf jv).toNat)
      case atStart => exact ⟨0, rfl, Nat.zero_le _, by simpa using HP5.out⟩
      case round =>
        obtain ⟨j, rfl, hj, ho⟩ := hrel
        have HPO := Lib.hid ho
        have hbw := Nat.le_trans hbase ho.k8.size
        clear ho
        by_cases hjn : j = n
        · subst hjn
          have HE : Hid (PutO base W u0 (bs ++ FnD.bytes ⟨g, l⟩) wr) := Lib.hid (by
            have := HPO.out
            rw [List.take_of_length_le (by rw [hn.out]; exact Nat.le_refl _)] at this
            unfold FnD.bytes
            simp only
            rw [hn.out]
            exact this)
          go_wp2
          go_roundw
          case rel => exact ⟨1, by simp, .inr ⟨rfl, HE.out⟩⟩
          case measure => simp [intOf]
        · have hj1 : j < n := by omega
          have hj2 : (j : Int) < n := by omega
          have j0 : 0 ≤ (j : Int) := by omega
          have ej : IntKind.i64.wrap ((j : Int) + 1) = (j : Int) + 1 := wrap_i64 (by omega) (by omega)
          have hjl : j < l.length := by rw [hn.out]; exact hj1
          have hsw := HS0.out.mono InstR.mono (HPO.out.bel w0 hb0 HBB.out)
          obtain ⟨bA, oA, rfl⟩ := hsw.addr (by omega)
          obtain ⟨i0, i1, i2, i3, i4, i5, i6, hwf⟩ := hsw.inst_at hjl
          have HOK := Lib.hid (HIN.out j hjl)
          have HTK : Hid (bs ++ ([g, (n : Int)] ++ (l.take (j + 1)).flatMap InstD.put) = (bs ++ ([g, (n : Int)] ++ (l.take j).flatMap InstD.put)) ++ (l[j]!).put) := Lib.hid (by rw [code_take l hjl, List.append_assoc, List.append_assoc])
          have hle : (bs ++ ([g, (n : Int)] ++ (l.take j).flatMap InstD.put)).length ≤ 90000 := by
            rw [List.length_append, List.length_append, code_le, List.length_take]
            have := hsz.out
            simp only [List.length_cons, List.length_nil]
            omega
          obtain ⟨bk, hbk⟩ : ∃ bk, Hid (bs ++ ([g, (n : Int)] ++ (l.take j).flatMap InstD.put) = bk) := ⟨_, Lib.hid rfl⟩
          rw [hbk.out] at HTK hle
          have HPO : Hid (PutO base W u0 bk wr) := Lib.hid (by rw [← hbk.out]; exact HPO.out)
          generalize l[j]! = I at *
          obtain ⟨op, fn, dst, src, reg, off, imm⟩ := I
          simp only at i0 i1 i2 i3 i4 i5 i6
          have HWF := Lib.hid hwf
          have HBX : Bel wr ((wr.alloc (.cells #[.int .i64 op, .int .i64 fn, .int .i64 dst, .int .i64 src, .bool reg, .int .i64 off, .int .u32 imm] 43)).alloc (.cells #[.iface 43 (.agg #[.int .i64 op, .int .i64 fn, .int .i64 dst, .int .i64 src, .bool reg, .int .i64 off, .int .u32 imm])] 20)) := ((Bel.refl wr).alloc _).alloc _
          have hbP := Blk.new (wr.alloc (.cells #[.int .i64 op, .int .i64 fn, .int .i64 dst, .int .i64 src, .bool reg, .int .i64 off, .int .u32 imm] 43)) 20 #[.iface 43 (.agg #[.int .i64 op, .int .i64 fn, .int .i64 dst, .int .i64 src, .bool reg, .int .i64 off, .int .u32 imm])]
          have HPO2 := Lib.hid (HPO.out.to HBX)
          have hbw2 := Nat.le_trans hbw HBX.size
          rw [World.size_alloc] at hbP
          have HBP := Lib.hid hbP
          have hle2 : (bk.length + 8 * 1 ≤ 100000) := by omega
          have HLE := Lib.hid hle2
          clear hwf hsw hbP hle hle2 hjn HBX
          go_wp2_with fail
          refine (put_flat [.n ⟨op, fn, dst, src, reg, off, imm⟩] 1 base _ bk _ _ HPO2.out.own (Lib.hid rfl) HBP.out (Lib.hid (by
            intro p hp
            simp only [List.mem_cons, List.not_mem_nil, or_false] at hp
            subst hp
            exact ⟨HOK.out, HWF.out.imm⟩)) hbw2 HLE).mono ?_
          rintro e w6 ⟨v6, rfl, hp6⟩
          have HP6 := Lib.hid (HPO2.out.trans hp6)
          have HP6 : Hid (PutO base W v6 (bk ++ (⟨op, fn, dst, src, reg, off, imm⟩ : InstD).put) w6) := Lib.hid (by
            have := HP6.out
            rw [show [PartD.n ⟨op, fn, dst, src, reg, off, imm⟩].flatMap PartD.bytes = (⟨op, fn, dst, src, reg, off, imm⟩ : InstD).put from List.append_nil _] at this
            exact this)
          clear hp6
          go_wp2
          go_roundw
          case rel => exact ⟨j + 1, by simp, by omega, by rw [HTK.out]; exact HP6.out⟩
          case measure => simp [intOf]; omega
    · have HPO := Lib.hid ho
      clear ho
      go_wp2_with fail
      go_ret
      exact ⟨_, rfl, HPO.out⟩
end Go.Proofs.Ytcllifcafgiopaa
