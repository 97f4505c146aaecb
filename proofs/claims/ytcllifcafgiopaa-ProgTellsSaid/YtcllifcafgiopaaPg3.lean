/- prog.put by its contract, where none of the parts is a function. -/
import Derived.Test.YtcllifcafgiopaaInstCalls
import Derived.Test.YtcllifcafgiopaaPg1
set_option linter.unusedVariables false
set_option linter.unusedSimpArgs false
namespace Go.Proofs.Ytcllifcafgiopaa
open Go.RowKit

/-- A block that holds just these cells. -/
def Blk (W : World) (B : Nat) (t : TypeId) (cs : Array Value) : Prop := W.heap[B]? = some (.cells cs t (0, 0))
theorem Blk.lt {W : World} {B : Nat} {t : TypeId} {cs : Array Value} (h : Blk W B t cs) : B < W.heap.size := (Array.getElem?_eq_some_iff.1 h).1
theorem Blk.cell {W : World} {B : Nat} {t : TypeId} {cs : Array Value} (h : Blk W B t cs) (k : Nat) {v : Value} (e : cs[k]? = some v) : W.cell? ⟨B, k, none⟩ = some v := by simp [World.cell?, show W.heap[B]? = _ from h, e]
theorem Blk.frozen {W : World} {B : Nat} {t : TypeId} {cs : Array Value} (h : Blk W B t cs) (k : Nat) : W.frozen? ⟨B, k, none⟩ = false := by simp [World.frozen?, show W.heap[B]? = _ from h]
theorem Blk.new (W : World) (t : TypeId) (cs : Array Value) : Blk (W.alloc (.cells cs t)) W.heap.size t cs := World.alloc_heap_new W _
theorem Blk.bel {W W' : World} {B : Nat} {t : TypeId} {cs : Array Value} (h : Blk W B t cs) (hb : Bel W W') : Blk W' B t cs := (hb.out.block B h.lt).trans h
theorem Blk.alloc {W : World} {B : Nat} {t : TypeId} {cs : Array Value} (h : Blk W B t cs) (o : Obj) : Blk (W.alloc o) B t cs := h.bel ((Bel.refl W).alloc o)

theorem own_bel {w w' : World} {b : Nat} {e : TypeId} {s : Nat} {v : Value} {n : Nat} {xs : List Value} (h : w.ownsRow b e s v n xs) (hb : Bel w w') : w'.ownsRow b e s v n xs :=
  ⟨h.1, h.2.imp id fun ⟨g, cap, cur, h1, h2, h3, r⟩ => ⟨g, cap, cur, h1, h2, (hb.out.block g (Array.getElem?_eq_some_iff.1 h3).1).trans h3, r⟩⟩
/-- Whatever is no row of elements of a type is as it was. -/
structure K8 (t : TypeId) (W W' : World) : Prop where
  size : W.heap.size ≤ W'.heap.size
  blk : ∀ k u cs, Blk W k u cs → u ≠ t → Blk W' k u cs
theorem K8.refl (t : TypeId) (W : World) : K8 t W W := ⟨Nat.le_refl _, fun _ _ _ h _ => h⟩
theorem K8.trans {t : TypeId} {A B C : World} (h : K8 t A B) (k : K8 t B C) : K8 t A C := ⟨Nat.le_trans h.size k.size, fun i u cs h1 h2 => k.blk i u cs (h.blk i u cs h1 h2) h2⟩
theorem K8.of {t : TypeId} {A B : World} (h : Bel A B) : K8 t A B := ⟨h.size, fun _ _ _ h1 _ => h1.bel h⟩
theorem K8.grown {t : TypeId} {W W' : World} {base s : Nat} {v : Value} {n : Nat} {xs : List Value} (h : W.ownsRow base t s v n xs) (hg : W.grownBy W' v.ownBlock) : K8 t W W' :=
  ⟨hg.size, fun k u cs hb hu => (hg.block k hb.lt (fun e => by
    rcases h.2 with ⟨rfl, _⟩ | ⟨g, cap, cur, rfl, h2, h3, _⟩
    · cases e
    · have e2 : k = g := by simpa [Value.ownBlock] using e
      subst e2
      rw [show W.heap[k]? = _ from hb] at h3
      simp only [Option.some.injEq, Obj.cells.injEq] at h3
      exact hu h3.2.1)).trans hb⟩
theorem row_low {W W' : World} {base : Nat} {t : TypeId} {s : Nat} {v : Value} {n : Nat} {xs : List Value} (h : W.ownsRow base t s v n xs) (w0 : World) (hb : w0.heap.size ≤ base) (HB : Bel w0 W) (hg : W.grownBy W' v.ownBlock) : Bel w0 W' :=
  HB.grown hg (fun k hk => Nat.le_trans hb (h.lt k hk).1)
/-- Bytes put behind others, in a row from 'base' on. -/
structure PutO (base : Nat) (W0 : World) (v : Value) (bs : List Int) (W : World) : Prop where
  own : W.ownsRow base 5 1 v bs.length (u8s bs)
  k8 : K8 5 W0 W
  bel : ∀ w0, w0.heap.size ≤ base → Bel w0 W0 → Bel w0 W
theorem PutO.refl {base : Nat} {W : World} {v : Value} {bs : List Int} (h : W.ownsRow base 5 1 v bs.length (u8s bs)) : PutO base W v bs W := ⟨h, K8.refl _ _, fun _ _ h => h⟩
theorem PutO.trans {base : Nat} {A B C : World} {v v' : Value} {bs cs : List Int} (h : PutO base A v bs B) (k : PutO base B v' cs C) : PutO base A v' cs C := ⟨k.own, h.k8.trans k.k8, fun w0 h1 h2 => k.bel w0 h1 (h.bel w0 h1 h2)⟩
theorem PutO.to {base : Nat} {A B C : World} {v : Value} {bs : List Int} (h : PutO base A v bs B) (hb : Bel B C) : PutO base A v bs C := ⟨own_bel h.own hb, h.k8.trans (K8.of hb), fun w0 h1 h2 => (h.bel w0 h1 h2).trans hb⟩
theorem u8s_append (l m : List Int) : u8s (l ++ m) = u8s l ++ u8s m := by simp [u8s]
theorem PutO.grow {base : Nat} {A B C : World} {v v' : Value} {bs cs : List Int} {n : Nat} (h : PutO base A v bs B) (ho : C.ownsRow base 5 1 v' n (u8s bs ++ u8s cs)) (hn : n = bs.length + cs.length) (hg : B.grownBy C v.ownBlock) : PutO base A v' (bs ++ cs) C := by
  refine ⟨?_, h.k8.trans (K8.grown h.own hg), fun w0 h1 h2 => row_low h.own w0 h1 (h.bel w0 h1 h2) hg⟩
  rw [List.length_append, u8s_append, ← hn]
  exact ho
theorem put8_at (op fn dst src : Int) (reg : Bool) (off imm : Int) (w : World) (hi : U32 imm) (l : List Int) (e : Int) (n : Nat) (hr : Hid (putR (⟨op, fn, dst, src, reg, off, imm⟩ : InstD) = (l, e))) (hn : Hid (l.length = n)) :
    Calls Try.prog 36 #[.agg #[.int .i64 op, .int .i64 fn, .int .i64 dst, .int .i64 src, .bool reg, .int .i64 off, .int .u32 imm]] w fun e' w' => ∃ A cap, e' = .returned (.tuple #[.slice A n cap, .int .i64 e]) ∧ Sl (IntR .u8) 1 w' A cap l ∧ Bel w w' := by
  have := put_at op fn dst src reg off imm w hi l e hr
  unfold BytesOut at this
  simp only [hn.out] at this
  exact this
theorem u8s_one (l : List Int) : ∀ u ∈ u8s l, u.oneCell' = true := by
  intro u hu
  obtain ⟨x, _, rfl⟩ := List.mem_map.1 hu
  rfl
theorem u8s_get (l : List Int) (i : Nat) (h : i < l.length) : ((u8s l)[i]?) = some (.int .u8 (l.getD i 0)) := by
  simp [u8s, List.getElem?_eq_getElem h, List.getD_eq_getElem?_getD]
theorem cells_u8 {w : World} {g o n : Nat} {l : List Int} (hn : l.length = n) (h : ∀ i, i < n → w.cell? ⟨g, o + i, none⟩ = some (.int .u8 (l.getD i 0))) : ∀ j u, (u8s l)[j]? = some u → w.cell? ((⟨g, o, none⟩ : Addr).add j) = some u := by
  intro j u hu
  have hadd : (⟨g, o, none⟩ : Addr).add j = ⟨g, o + j, none⟩ := by unfold Addr.add; split <;> simp_all
  rw [hadd]
  have hj : j < l.length := by
    have := (List.getElem?_eq_some_iff.1 hu).1
    simpa [u8s] using this
  rw [u8s_get l j hj] at hu
  rw [← Option.some.inj hu]
  exact h j (by omega)
theorem own_open {w : World} {b : Nat} {e : TypeId} {v : Value} {n : Nat} {xs : List Value} (h : w.ownsRow b e 1 v n xs) (hn : 0 < n) :
    ∃ g c, v = .slice (some ⟨g, 0, none⟩) n c ∧ b ≤ g ∧ n ≤ c ∧ c ≤ maxLen ∧ (∀ i, w.frozen? ⟨g, i, none⟩ = false) ∧ ∀ i, i < n → w.cell? ⟨g, i, none⟩ = xs[i]? := by
  obtain ⟨h1, h2⟩ := h
  rcases h2 with ⟨rfl, h2⟩ | ⟨g, cap, cur, rfl, hb, hh, hc, hm, hs, ht⟩
  · omega
  · refine ⟨g, cap, rfl, hb, hc, hm, fun i => by simp [World.frozen?, hh], fun i hi => ?_⟩
    rw [← ht, List.getElem?_take, if_pos (by omega)]
    simp [World.cell?, hh]
theorem asInt_Int (v : Value) (w : World) : (Instr.typeAssert (.iface 3 v) 20 3 true).run Try.prog w = .ok (.tuple #[v, .bool true]) w := by kernel_rfl
theorem asInt_Rune (v : Value) (w : World) : (Instr.typeAssert (.iface 3 v) 20 21 true).run Try.prog w = .ok (.tuple #[.int .i32 0, .bool false]) w := by kernel_rfl
theorem asInt_Inst (v : Value) (w : World) : (Instr.typeAssert (.iface 3 v) 20 43 true).run Try.prog w = .ok (.tuple #[.agg #[.int .i64 0, .int .i64 0, .int .i64 0, .int .i64 0, .bool false, .int .i64 0, .int .u32 0], .bool false]) w := by kernel_rfl
theorem asInt_Fn (v : Value) (w : World) : (Instr.typeAssert (.iface 3 v) 20 38 true).run Try.prog w = .ok (.tuple #[.agg #[.int .i64 0, .slice none 0 0], .bool false]) w := by kernel_rfl
theorem atInt (v : Value) (w : World) : (Instr.typeAssert (.iface 3 v) 20 3 false).run Try.prog w = .ok v w := by kernel_rfl
theorem asRune_Int (v : Value) (w : World) : (Instr.typeAssert (.iface 21 v) 20 3 true).run Try.prog w = .ok (.tuple #[.int .i64 0, .bool false]) w := by kernel_rfl
theorem asRune_Rune (v : Value) (w : World) : (Instr.typeAssert (.iface 21 v) 20 21 true).run Try.prog w = .ok (.tuple #[v, .bool true]) w := by kernel_rfl
theorem asRune_Inst (v : Value) (w : World) : (Instr.typeAssert (.iface 21 v) 20 43 true).run Try.prog w = .ok (.tuple #[.agg #[.int .i64 0, .int .i64 0, .int .i64 0, .int .i64 0, .bool false, .int .i64 0, .int .u32 0], .bool false]) w := by kernel_rfl
theorem asRune_Fn (v : Value) (w : World) : (Instr.typeAssert (.iface 21 v) 20 38 true).run Try.prog w = .ok (.tuple #[.agg #[.int .i64 0, .slice none 0 0], .bool false]) w := by kernel_rfl
theorem atRune (v : Value) (w : World) : (Instr.typeAssert (.iface 21 v) 20 21 false).run Try.prog w = .ok v w := by kernel_rfl
theorem asInst_Int (v : Value) (w : World) : (Instr.typeAssert (.iface 43 v) 20 3 true).run Try.prog w = .ok (.tuple #[.int .i64 0, .bool false]) w := by kernel_rfl
theorem asInst_Rune (v : Value) (w : World) : (Instr.typeAssert (.iface 43 v) 20 21 true).run Try.prog w = .ok (.tuple #[.int .i32 0, .bool false]) w := by kernel_rfl
theorem asInst_Inst (v : Value) (w : World) : (Instr.typeAssert (.iface 43 v) 20 43 true).run Try.prog w = .ok (.tuple #[v, .bool true]) w := by kernel_rfl
theorem asInst_Fn (v : Value) (w : World) : (Instr.typeAssert (.iface 43 v) 20 38 true).run Try.prog w = .ok (.tuple #[.agg #[.int .i64 0, .slice none 0 0], .bool false]) w := by kernel_rfl
theorem atInst (v : Value) (w : World) : (Instr.typeAssert (.iface 43 v) 20 43 false).run Try.prog w = .ok v w := by kernel_rfl
theorem asFn_Int (v : Value) (w : World) : (Instr.typeAssert (.iface 38 v) 20 3 true).run Try.prog w = .ok (.tuple #[.int .i64 0, .bool false]) w := by kernel_rfl
theorem asFn_Rune (v : Value) (w : World) : (Instr.typeAssert (.iface 38 v) 20 21 true).run Try.prog w = .ok (.tuple #[.int .i32 0, .bool false]) w := by kernel_rfl
theorem asFn_Inst (v : Value) (w : World) : (Instr.typeAssert (.iface 38 v) 20 43 true).run Try.prog w = .ok (.tuple #[.agg #[.int .i64 0, .int .i64 0, .int .i64 0, .int .i64 0, .bool false, .int .i64 0, .int .u32 0], .bool false]) w := by kernel_rfl
theorem asFn_Fn (v : Value) (w : World) : (Instr.typeAssert (.iface 38 v) 20 38 true).run Try.prog w = .ok (.tuple #[v, .bool true]) w := by kernel_rfl
theorem atFn (v : Value) (w : World) : (Instr.typeAssert (.iface 38 v) 20 38 false).run Try.prog w = .ok v w := by kernel_rfl
/-- A part that is no function. -/
inductive PartD where
  | i (x : Int)
  | r (x : Int)
  | n (x : InstD)
def PartD.val : PartD → Value
  | .i x => .iface 3 (.int .i64 x)
  | .r x => .iface 21 (.int .i32 x)
  | .n x => .iface 43 (.agg x.cells.toArray)
def PartD.bytes : PartD → List Int
  | .i x => [x]
  | .r x => [x]
  | .n x => x.put
def PartD.ok : PartD → Prop
  | .i x => 0 ≤ x ∧ x < 256
  | .r x => 0 ≤ x ∧ x < 256
  | .n x => x.okB = true ∧ U32 x.imm
theorem put8 {i : InstD} : i.put.length = 8 := rfl
theorem wrap_u8 {x : Int} (h : 0 ≤ x ∧ x < 256) : IntKind.u8.wrap x = x := by
  unfold IntKind.wrap
  simp only [IntKind.signed, IntKind.bits]
  simp
  omega
/-- A world without memory. -/
def bare (W : World) : World := { W with heap := #[] }
theorem bare_size (W : World) (n : Nat) : (bare W).heap.size ≤ n := Nat.zero_le n
theorem bare_bel (W : World) : Bel (bare W) W := ⟨⟨rfl, rfl, rfl, Nat.zero_le _, fun k hk => absurd hk (Nat.not_lt_zero k)⟩⟩
theorem flat_le : ∀ (ps : List PartD), (ps.flatMap PartD.bytes).length ≤ 8 * ps.length
  | [] => by simp
  | p :: ps => by
    have := flat_le ps
    have h : (PartD.bytes p).length ≤ 8 := by cases p <;> simp [PartD.bytes, InstD.put, putL]
    rw [List.flatMap_cons, List.length_append, List.length_cons]
    omega
theorem flat_take (ps : List PartD) {k : Nat} (hk : k < ps.length) : (ps.take (k + 1)).flatMap PartD.bytes = (ps.take k).flatMap PartD.bytes ++ (ps[k]).bytes := by
  rw [← List.take_append_getElem hk, List.flatMap_append]
  simp
set_option maxHeartbeats 8000000 in
set_option maxRecDepth 100000 in
theorem put_flat (ps : List PartD) (m base : Nat) (v0 : Value) (bs : List Int) (PB : Nat) (W : World) (hown : W.ownsRow base 5 1 v0 bs.length (u8s bs)) (hm : Hid (ps.length = m)) (hpb : Blk W PB 20 (ps.map PartD.val).toArray) (hok : Hid (∀ p ∈ ps, p.ok)) (hbase : base ≤ W.heap.size) (hsz : Hid (bs.length + 8 * m ≤ 100000)) :
    Calls Try.prog 23 #[v0, .slice (some ⟨PB, 0, none⟩) m m] W fun e W' => ∃ v', e = .returned v' ∧ PutO base W v' (bs ++ ps.flatMap PartD.bytes) W' := by
  have HO := Lib.hid (PutO.refl hown)
  have HP := Lib.hid hpb
  have hbig : m ≤ 100000 := by have := hsz.out; omega
  clear hown hpb
  go_enter Try.func23, Try.ntmps23
  go_wp2_with fail
  go_loopw [0, 17] (fun ov iv wr => ∃ k : Nat, iv = .int .i64 k ∧ k ≤ m ∧ PutO base W ov (bs ++ (ps.take k).flatMap PartD.bytes) wr) (fun _ iv _ => m - (intOf iv).toNat)
  case atStart => exact ⟨0, rfl, Nat.zero_le _, by simpa using HO.out⟩
  case round =>
    obtain ⟨k, rfl, hk, ho⟩ := hrel
    by_cases hkm : k = m
    · subst hkm
      have HF : Hid ((ps.take k).flatMap PartD.bytes = ps.flatMap PartD.bytes) := Lib.hid (by rw [List.take_of_length_le (by rw [hm.out]; exact Nat.le_refl _)])
      rw [HF.out] at ho
      have HPO := Lib.hid ho
      clear ho
      go_wp2_with fail
      go_ret
      exact ⟨_, rfl, HPO.out⟩
    · have hk1 : k < m := by omega
      have hk2 : (k : Int) < m := by omega
      have k0 : 0 ≤ (k : Int) := by omega
      have ek : IntKind.i64.wrap ((k : Int) + 1) = (k : Int) + 1 := by
        unfold IntKind.wrap
        simp only [IntKind.signed, IntKind.bits]
        simp
        omega
      have hkl : k < ps.length := by rw [hm.out]; exact hk1
      have HTK : Hid (bs ++ (ps.take (k + 1)).flatMap PartD.bytes = (bs ++ (ps.take k).flatMap PartD.bytes) ++ (ps[k]).bytes) := Lib.hid (by rw [flat_take ps hkl, List.append_assoc])
      have hle : (bs ++ (ps.take k).flatMap PartD.bytes).length ≤ 100000 := by
        have h1 := flat_le (ps.take k)
        rw [List.length_take] at h1
        rw [List.length_append]
        have := hsz.out
        omega
      obtain ⟨bk, hbk⟩ : ∃ bk, Hid (bs ++ (ps.take k).flatMap PartD.bytes = bk) := ⟨_, Lib.hid rfl⟩
      rw [hbk.out] at HTK ho hle
      have hblk := ho.k8.blk PB _ _ HP.out (by decide)
      have d0 := hblk.cell k (v := (ps[k]).val) (by simp [hkl])
      have HOKP := Lib.hid (hok.out _ (List.getElem_mem hkl))
      generalize ps[k] = p at *
      have hbw : base ≤ wr.heap.size := Nat.le_trans hbase ho.k8.size
      obtain ⟨N, hN⟩ : ∃ N, Hid (bk.length = N) := ⟨_, Lib.hid rfl⟩
      rw [hN.out] at hle
      have HOW : Hid (wr.ownsRow base 5 1 u0 N (u8s bk)) := Lib.hid (by rw [← hN.out]; exact ho.own)
      have HPO := Lib.hid ho
      clear ho hblk hkl hkm
      cases p with
      | i x =>
        simp only [PartD.val, PartD.bytes] at d0 HTK
        have hx : 0 ≤ x ∧ x < 256 := HOKP.out
        have e8 := wrap_u8 hx
        clear HOKP hx
        have y1 := asInt_Int (.int .i64 x)
        go_wp2_with (first | (refine at_append1 base (.int .u8 0) 1 Try.underlying25 info_u8 rfl _ N _ (by rfl) HOW.out (by rfl) (by rfl) (by simp only [maxLen]; omega) (by omega) hbw (bare wr) (bare_size _ _) (bare_bel _) rfl ?_; intro v1 w1 own1 hgr1 HB1))
        have HG := Lib.hid (HPO.out.grow (cs := [x]) own1 (by rw [hN.out]; rfl) hgr1)
        go_wp2
        go_roundw
        case rel => exact ⟨k + 1, by simp, by omega, by rw [HTK.out]; exact HG.out⟩
        case measure => simp [intOf]; omega
      | r x =>
        simp only [PartD.val, PartD.bytes] at d0 HTK
        have hx : 0 ≤ x ∧ x < 256 := HOKP.out
        have e8 := wrap_u8 hx
        clear HOKP hx
        have y1 := asRune_Int (.int .i32 x)
        have y2 := asRune_Rune (.int .i32 x)
        go_wp2_with (first | (refine at_append1 base (.int .u8 0) 1 Try.underlying25 info_u8 rfl _ N _ (by rfl) HOW.out (by rfl) (by rfl) (by simp only [maxLen]; omega) (by omega) hbw (bare wr) (bare_size _ _) (bare_bel _) rfl ?_; intro v1 w1 own1 hgr1 HB1))
        have HG := Lib.hid (HPO.out.grow (cs := [x]) own1 (by rw [hN.out]; rfl) hgr1)
        go_wp2
        go_roundw
        case rel => exact ⟨k + 1, by simp, by omega, by rw [HTK.out]; exact HG.out⟩
        case measure => simp [intOf]; omega
      | n I =>
        obtain ⟨op, fn, dst, src, reg, off, imm⟩ := I
        simp only [PartD.val, PartD.bytes, InstD.cells] at d0 HTK
        obtain ⟨hI1, hI2⟩ := HOKP.out
        have HI2 := Lib.hid hI2
        have HR : Hid (putR (⟨op, fn, dst, src, reg, off, imm⟩ : InstD) = ((⟨op, fn, dst, src, reg, off, imm⟩ : InstD).put, 0)) := Lib.hid (if_pos hI1)
        obtain ⟨P8, hP8⟩ : ∃ l, Hid ((⟨op, fn, dst, src, reg, off, imm⟩ : InstD).put = l) := ⟨_, Lib.hid rfl⟩
        have HL8 : Hid (P8.length = 8) := Lib.hid (by rw [← hP8.out]; rfl)
        rw [hP8.out] at HR HTK
        clear HOKP hI1 hI2
        have y1 := asInst_Int (.agg #[.int .i64 op, .int .i64 fn, .int .i64 dst, .int .i64 src, .bool reg, .int .i64 off, .int .u32 imm])
        have y2 := asInst_Rune (.agg #[.int .i64 op, .int .i64 fn, .int .i64 dst, .int .i64 src, .bool reg, .int .i64 off, .int .u32 imm])
        have y3 := asInst_Inst (.agg #[.int .i64 op, .int .i64 fn, .int .i64 dst, .int .i64 src, .bool reg, .int .i64 off, .int .u32 imm])
        have hgs : wr.heap.size < (wr.alloc (.cells #[.int .i64 op, .int .i64 fn, .int .i64 dst, .int .i64 src, .bool reg, .int .i64 off, .int .u32 imm] 43)).heap.size := by simp
        go_wp2_with fail
        refine (put8_at op fn dst src reg off imm _ HI2.out P8 0 8 HR HL8).mono ?_
        rintro e w5 ⟨A5, c5, rfl, s5, hb5⟩
        have HBX := ((Bel.refl wr).alloc (.cells #[.int .i64 op, .int .i64 fn, .int .i64 dst, .int .i64 src, .bool reg, .int .i64 off, .int .u32 imm] 43)).trans hb5
        have HPO := Lib.hid (HPO.out.to HBX)
        have HOW := Lib.hid (own_bel HOW.out HBX)
        have hbw : base ≤ w5.heap.size := Nat.le_trans hbw HBX.size
        obtain ⟨b5, o5, rfl, hc5⟩ := s5.int_cell (by rw [HL8.out]; decide)
        have HC5 := Lib.hid (cells_u8 HL8.out (fun i hi => (hc5 i (by rw [HL8.out]; exact hi)).1))
        have HU8 : Hid ((u8s P8).length = 8) := Lib.hid (by unfold u8s; rw [List.length_map]; exact HL8.out)
        clear hb5 s5 hc5 HBX d0
        go_wp2_with (first | (refine at_append base 5 (.int .u8 0) 1 1 Try.underlying25 info_u8 rfl (by decide) _ N _ (by rfl) HOW.out ⟨b5, o5, none⟩ 8 c5 (u8s P8) (by rfl) (by rw [HU8.out]) HC5.out (u8s_one _) (by simp only [maxLen]; omega) (by omega) hbw (bare w5) (bare_size _ _) (bare_bel _) rfl ?_; intro v1 w1 own1 hgr1 HB1 _))
        have HG := Lib.hid (HPO.out.grow (cs := P8) own1 (by rw [hN.out, HL8.out]) hgr1)
        go_wp2
        go_roundw
        case rel => exact ⟨k + 1, by simp, by omega, by rw [HTK.out]; exact HG.out⟩
        case measure => simp [intOf]; omega
end Go.Proofs.Ytcllifcafgiopaa
