/- verify.inside and verify.Verify by their contracts. verify.Verify by its contract. What going through a function leaves, as plain facts: what is known at a place is kept, and reached (chapter 11). Nothing of the program. What a program that is accepted is, as plain facts (chapter 11). Nothing of the program. -/
import Derived.Test.YtebdnobgdimdoaaGreatZVs3
import Derived.Test.YtebdnobgdimdoaaGreatGJ
import Derived.Test.YtebdnobgdimdoaaGreatGE
import Derived.Test.YtebdnobgdimdoaaGreatGB
set_option linter.unusedVariables false
set_option linter.unusedSimpArgs false
namespace Go.Proofs.YtebdnobgdimdoaaGreat
open Go.RowKit
/-- Does an instruction go to what is there? -/
def inOk (n m : Nat) (k : Nat) (i : InstD) : Bool := if i.op = 1 then decide ((k : Int) + i.off + 1 < m) else if i.op = 6 then decide (i.imm < n) else true
def insUpto (n : Nat) (l : List InstD) : Nat → Bool
  | 0 => true
  | k + 1 => insUpto n l k && inOk n l.length k l[k]!
def insideB (p : List FnD) (j : Nat) : Bool := insUpto p.length ((p.map FnD.code).getD j []) ((p.map FnD.code).getD j []).length
theorem insUpto_no {n : Nat} {l : List InstD} {k : Nat} (h : insUpto n l (k + 1) = false) : ∀ m, k + 1 ≤ m → insUpto n l m = false := by
  intro m hm
  induction m with
  | zero => omega
  | succ m ih =>
    by_cases e : k = m
    · subst e; exact h
    · rw [insUpto, ih (by omega)]
      rfl
set_option maxHeartbeats 4000000 in
set_option maxRecDepth 100000 in
theorem inside_any (A : Option Addr) (c n : Nat) (p : List FnD) (j : Nat) (w : World) (hp : Hid (Sl FnR 2 w A c p)) (hn : Hid (p.length = n)) (hpm : Hid (progMay p = true)) (hjL : j < p.length) (r : Bool) (hr : Hid (insideB p j = r)) :
    Calls Tryz.prog 36 #[.agg #[.slice A n c], .int .i64 j] w fun e w' => e = .returned (.bool r) ∧ Bel w w' := by
  obtain ⟨hff, -, -⟩ := fn_fine hpm.out hjL
  obtain ⟨hml0, hm64, hok⟩ := crsMay_facts hff
  obtain ⟨l, hl⟩ : ∃ l, Hid ((p[j]).code = l) := ⟨_, Lib.hid rfl⟩
  obtain ⟨ml, HLM⟩ : ∃ ml, Hid (l.length = ml) := ⟨_, Lib.hid rfl⟩
  rw [hl.out] at hml0 hm64 hok
  rw [HLM.out] at hml0 hm64
  have hok := Lib.hid hok
  have eC : (p.map FnD.code).getD j [] = l := by rw [← hl.out, List.getD_eq_getElem?_getD, List.getElem?_map, List.getElem?_eq_getElem hjL]; rfl
  have hjn : j < n := by rw [← hn.out]; exact hjL
  have hn8 : n ≤ 8 := by
    have := hpm.out
    unfold progMay at this
    simp only [Bool.and_eq_true, decide_eq_true_iff] at this
    rw [← hn.out]
    exact this.1.1.2
  have hjn2 : (j : Int) < n := by omega
  have hj0 : (0 : Int) ≤ j := by omega
  have HB0 := Lib.hid ((Bel.refl w).alloc (.cells #[.slice A n c] 24))
  have KP0 := Lib.hid (Bk.new w 24 #[.slice A n c])
  obtain ⟨b, o, rfl⟩ := hp.out.addr (by omega)
  obtain ⟨Al, cl, -, d1, hsl⟩ := fn_cells (hp.out.mono FnR.mono HB0.out) j hjL
  rw [hl.out] at d1 hsl
  rw [HLM.out] at d1
  obtain ⟨bl, ol, rfl⟩ := hsl.addr (by rw [HLM.out]; exact hml0)
  have HSL := Lib.hid hsl
  have EC := Lib.hid eC
  clear hff hsl eC
  have hNN : IntKind.u64.wrap (n : Int) = n := by simp [IntKind.wrap, IntKind.bits, IntKind.signed]; omega
  go_enter Tryz.func36, Tryz.ntmps36
  go_wp2_with fail
  generalize w.alloc (.cells #[.slice (some ⟨b, o, none⟩) n c] 24) = W0 at *
  obtain ⟨g, hg⟩ : ∃ g, w.heap.size = g := ⟨_, rfl⟩
  rw [hg] at KP0
  simp only [hg]
  clear hg d1
  go_loopw [16] (fun kv wr => ∃ k : Nat, kv = .int .i64 k ∧ k ≤ ml ∧ Hid (insUpto n l k = true) ∧ Hid (Bel W0 wr)) (fun kv _ => ml - (intOf kv).toNat)
  case atStart => exact ⟨0, rfl, Nat.zero_le _, Lib.hid rfl, Lib.hid (Bel.refl _)⟩
  case round =>
    obtain ⟨k, rfl, hkm, HY0, HBr⟩ := hrel
    have q0 := (KP0.out.bel HBr.out).cell 0 (v := .slice (some ⟨b, o, none⟩) n c) rfl
    have hgl := (KP0.out.bel HBr.out).lt
    by_cases hke : k = ml
    · subst hke
      have HRT : Hid (r = true) := Lib.hid (by
        rw [← hr.out]
        unfold insideB
        rw [EC.out, HLM.out, hn.out]
        exact HY0.out)
      have HRG := HRT.out
      subst HRG
      go_wp2_with fail
      go_ret
      exact ⟨rfl, HB0.out.trans HBr.out⟩
    · have hk1 : k < ml := by omega
      have hk2 : (k : Int) < ml := by omega
      have k0 : 0 ≤ (k : Int) := by omega
      have ek : IntKind.i64.wrap ((k : Int) + 1) = (k : Int) + 1 := wrap_i64 (by omega) (by omega)
      have hkl : k < l.length := by rw [HLM.out]; exact hk1
      have hsr := HSL.out.mono InstR.mono HBr.out
      have hic := inst_cells hsr k hkl
      have hxw : (l[k]).Wf := by
        obtain ⟨_, _, _, _, _, ⟨-, hxw⟩, -⟩ := hsr.get k hkl
        exact hxw
      have HOK := Lib.hid (hok.out k hkl)
      obtain ⟨x, HX⟩ : ∃ x, Hid (l[k]! = x) := ⟨_, Lib.hid rfl⟩
      have hx2 : l[k] = x := by rw [← getElem!_pos l k hkl]; exact HX.out
      rw [hx2] at hxw
      rw [HX.out] at hic HOK
      have him := hxw.imm
      obtain ⟨op, fn, dst, src, reg, off, imm⟩ := x
      have i0 : 0 ≤ imm := him.lo
      have i1 : imm < 4294967296 := him.hi
      obtain ⟨-, -, -, -, ⟨hof0, hof1⟩, -⟩ := of_decide_eq_true (p := mayP op fn dst src reg off imm) HOK.out
      have hof2 : off ≤ 65535 := by split at hof1 <;> omega
      have et : IntKind.i64.wrap ((k : Int) + off) = k + off := wrap_i64 (by omega) (by omega)
      have et1 : IntKind.i64.wrap ((k : Int) + off + 1) = k + off + 1 := wrap_i64 (by omega) (by omega)
      have em : IntKind.u64.wrap imm = imm := by simp [IntKind.wrap, IntKind.bits, IntKind.signed]; omega
      have c0 := hic 0 (.int .i64 op) rfl
      have c1 := hic 1 (.int .i64 fn) rfl
      have c2 := hic 2 (.int .i64 dst) rfl
      have c3 := hic 3 (.int .i64 src) rfl
      have c4 := hic 4 (.bool reg) rfl
      have c5 := hic 5 (.int .i64 off) rfl
      have c6 := hic 6 (.int .u32 imm) rfl
      rw [Nat.add_zero] at c0
      have HST : Hid (∀ q, inOk n ml k ⟨op, fn, dst, src, reg, off, imm⟩ = q → insUpto n l (k + 1) = q) := Lib.hid (fun q hq => by
        rw [insUpto, HY0.out, HX.out, HLM.out, hq]
        rfl)
      have HBN := Lib.hid ((HB0.out.trans HBr.out).alloc (.cells #[.int .i64 op, .int .i64 fn, .int .i64 dst, .int .i64 src, .bool reg, .int .i64 off, .int .u32 imm] 95))
      have HBM := Lib.hid (HBr.out.alloc (.cells #[.int .i64 op, .int .i64 fn, .int .i64 dst, .int .i64 src, .bool reg, .int .i64 off, .int .u32 imm] 95))
      clear hic hsr hke hx2 hxw hof1 him
      have HFAIL : Hid (insUpto n l (k + 1) = false → r = false) := Lib.hid (fun e => by
        rw [← hr.out]
        unfold insideB
        rw [EC.out, HLM.out, hn.out]
        exact insUpto_no e ml (by omega))
      by_cases h1 : op = 1
      · subst h1
        by_cases hlt : (k : Int) + off + 1 < ml
        · have HY : Hid (insUpto n l (k + 1) = true) := Lib.hid (HST.out true (by unfold inOk; rw [if_pos rfl]; exact decide_eq_true hlt))
          go_wp2
          go_roundw
          case rel => exact ⟨k + 1, by simp, by omega, HY, HBM⟩
          case measure => simp [intOf]; omega
        · have HRG := HFAIL.out (HST.out false (by unfold inOk; rw [if_pos rfl]; exact decide_eq_false hlt))
          subst HRG
          have hge : (ml : Int) ≤ k + off + 1 := by omega
          go_wp2_with fail
          go_ret
          exact ⟨rfl, HBN.out⟩
      by_cases h6 : op = 6
      · subst h6
        by_cases hlt : imm < n
        · have HY : Hid (insUpto n l (k + 1) = true) := Lib.hid (HST.out true (by unfold inOk; rw [if_neg (by show ¬ ((6 : Int) = 1); decide), if_pos rfl]; exact decide_eq_true hlt))
          go_wp2
          go_roundw
          case rel => exact ⟨k + 1, by simp, by omega, HY, HBM⟩
          case measure => simp [intOf]; omega
        · have HRG := HFAIL.out (HST.out false (by unfold inOk; rw [if_neg (by show ¬ ((6 : Int) = 1); decide), if_pos rfl]; exact decide_eq_false hlt))
          subst HRG
          have hge : (n : Int) ≤ imm := by omega
          go_wp2_with fail
          go_ret
          exact ⟨rfl, HBN.out⟩
      have HY : Hid (insUpto n l (k + 1) = true) := Lib.hid (HST.out true (by unfold inOk; rw [if_neg h1, if_neg h6]))
      go_wp2
      go_roundw
      case rel => exact ⟨k + 1, by simp, by omega, HY, HBM⟩
      case measure => simp [intOf]; omega
end Go.Proofs.YtebdnobgdimdoaaGreat
set_option linter.unusedVariables false
set_option linter.unusedSimpArgs false
namespace Go.Proofs.YtebdnobgdimdoaaGreat
open Go.RowKit
/-- The first error of the functions ahead of one. -/
def verErr (p : List FnD) (ls : List SchD) : Nat → Int
  | 0 => 0
  | k + 1 => if verErr p ls k ≠ 0 then verErr p ls k else if (vShapes p k ls).2 ≠ 0 then (vShapes p k ls).2 else if insideB p k = true then 0 else 8
def verifyV (p : List FnD) (ls : List SchD) : Int × Int :=
  if verErr p ls (max 1 p.length) ≠ 0 then (0, verErr p ls (max 1 p.length)) else if 2000 < budget p then (0, 2) else (budget p, 0)
theorem verErr_stay {p : List FnD} {ls : List SchD} {k : Nat} {e : Int} (h : verErr p ls k = e) (he : e ≠ 0) : ∀ m, k ≤ m → verErr p ls m = e := by
  intro m hm
  induction m with
  | zero => obtain rfl : k = 0 := by omega
            exact h
  | succ m ih =>
    by_cases q : k = m + 1
    · subst q; exact h
    · rw [verErr, ih (by omega), if_pos he]
theorem vShapes_ok {p : List FnD} {ls : List SchD} {fn : Int} {r : Option InsD} (h : vShapes p fn ls = (r, 0)) : progMay p = true ∧ 0 ≤ fn ∧ fn < p.length ∧ ∃ ins, r = some ins := by
  unfold vShapes at h
  split at h
  · rename_i h1
    split at h
    · rename_i h2
      split at h
      · exact ⟨h1.1, h2.1, h2.2, _, (Prod.mk.inj h).1.symm⟩
      · exact absurd (Prod.mk.inj h).2 (by decide)
    · exact absurd (Prod.mk.inj h).2 (by decide)
  · exact absurd (Prod.mk.inj h).2 (by decide)
/-- The steps that a function comes to do what they should. -/
def StepsFor (p : List FnD) (ls : List SchD) (fn : Nat) : Prop := progMay p = true → ∀ (k : Nat) (ins : InsD) (s : ShD), vUpto p (fn : Int).toNat ls ((p.map FnD.code).getD (fn : Int).toNat []) ((p.map FnD.args).getD (fn : Int).toNat 0).toNat k = some ins → k < ((p.map FnD.code).getD (fn : Int).toNat []).length → ins.getD k none = some s → StepOk (((p.map FnD.code).getD (fn : Int).toNat [])[k]!).op
set_option maxHeartbeats 4000000 in
set_option maxRecDepth 100000 in
theorem verify_any (A : Option Addr) (c n : Nat) (p : List FnD) (Q : Option Addr) (nl cQ : Nat) (ls : List SchD) (w : World) (hp : Hid (Sl FnR 2 w A c p)) (hn : Hid (p.length = n)) (hls : Hid (Sl SchR 4 w Q cQ ls)) (hnl : Hid (ls.length = nl)) (m er : Int) (hr : Hid (verifyV p ls = (m, er))) (hS : Hid (∀ fn : Nat, fn < max 1 p.length → verErr p ls fn = 0 → StepsFor p ls fn)) :
    Calls Tryz.prog 11 #[.agg #[.slice A n c], .slice Q nl cQ] w fun e w' => e = .returned (.tuple #[.int .i64 m, .int .i64 er]) ∧ Bel w w' := by
  have HB0 := Lib.hid ((Bel.refl w).alloc (.cells #[.slice A n c] 24))
  have KP0 := Lib.hid (Bk.new w 24 #[.slice A n c])
  have hnn : n ≤ 9223372036854775807 := by rw [← hn.out]; have := hp.out.le; have := hp.out.big; simp only [maxLen] at this; omega
  obtain ⟨mx, HMX⟩ : ∃ mx : Nat, Hid (max 1 n = mx) := ⟨_, Lib.hid rfl⟩
  have emx : max (1 : Int) (n : Int) = mx := by have := HMX.out; omega
  have hmx : 1 ≤ mx ∧ mx ≤ 9223372036854775807 := by have := HMX.out; omega
  have HMP : Hid (max 1 p.length = mx) := Lib.hid (by rw [hn.out]; exact HMX.out)
  have HRE := hr.out
  unfold verifyV at HRE
  rw [HMP.out] at HRE
  have HRE := Lib.hid HRE
  go_enter Tryz.func11, Tryz.ntmps11
  go_wp2_with fail
  generalize w.alloc (.cells #[.slice A n c] 24) = W0 at *
  obtain ⟨g, hg⟩ : ∃ g, w.heap.size = g := ⟨_, rfl⟩
  rw [hg] at KP0
  simp only [hg]
  clear hg
  go_loopw [15] (fun kv wr => ∃ k : Nat, kv = .int .i64 k ∧ k ≤ mx ∧ Hid (verErr p ls k = 0) ∧ Hid (Bel W0 wr)) (fun kv _ => mx - (intOf kv).toNat)
  case atStart => exact ⟨0, rfl, Nat.zero_le _, Lib.hid rfl, Lib.hid (Bel.refl _)⟩
  case round =>
    obtain ⟨k, rfl, hkm, HE, HBr⟩ := hrel
    have q0 := (KP0.out.bel HBr.out).cell 0 (v := .slice A n c) rfl
    have HBW := Lib.hid (HB0.out.trans HBr.out)
    by_cases hke : k = mx
    · subst hke
      have hre := HRE.out
      rw [HE.out, if_neg (by simp)] at hre
      obtain ⟨bu, hbu⟩ : ∃ bu, Hid (budget p = bu) := ⟨_, Lib.hid rfl⟩
      rw [hbu.out] at hre
      have HRF := Lib.hid hre
      clear hre
      go_wp2_with fail
      refine (Budget_any A c n p bu _ (hp.out.mono FnR.mono HBW.out) hn hbu).mono ?_
      rintro e w1 ⟨rfl, hb⟩
      have HBX := Lib.hid (HBW.out.trans hb)
      clear hb
      by_cases h2 : (2000 : Int) < bu
      · have hre := HRF.out
        rw [if_pos h2] at hre
        obtain ⟨rfl, rfl⟩ := Prod.mk.inj hre
        clear hre
        go_wp2_with fail
        go_ret2
        exact ⟨rfl, HBX.out⟩
      · have hre := HRF.out
        rw [if_neg h2] at hre
        obtain ⟨rfl, rfl⟩ := Prod.mk.inj hre
        clear hre
        go_wp2_with fail
        go_ret2
        exact ⟨rfl, HBX.out⟩
    · have hk1 : k < mx := by omega
      have hk2 : (k : Int) < mx := by omega
      have k0 : 0 ≤ (k : Int) := by omega
      have ek : IntKind.i64.wrap ((k : Int) + 1) = (k : Int) + 1 := wrap_i64 (by omega) (by omega)
      obtain ⟨⟨rs, es⟩, hrs⟩ : ∃ q, Hid (vShapes p k ls = q) := ⟨_, Lib.hid rfl⟩
      clear hke
      go_wp2_with fail
      refine (shapes_any A c n p k Q nl cQ ls _ (Lib.hid (hp.out.mono FnR.mono HBW.out)) hn (Lib.hid (hls.out.mono SchR.mono HBW.out)) hnl rs es hrs (Lib.hid (hS.out k (by rw [HMP.out]; exact hk1) HE.out))).mono ?_
      rintro e w1 ⟨⟨vi, vs, rfl, -⟩, hb⟩
      have HBX := Lib.hid (HBW.out.trans hb)
      have HBY := Lib.hid (HBr.out.trans hb)
      have q1 := hb.cell q0
      clear hb q0
      by_cases hes : es = 0
      · subst hes
        obtain ⟨hpm, -, hkp, -⟩ := vShapes_ok hrs.out
        obtain ⟨ib, hib⟩ : ∃ ib, Hid (insideB p k = ib) := ⟨_, Lib.hid rfl⟩
        have hkL : k < p.length := by omega
        clear hkp
        go_wp2_with fail
        refine (inside_any A c n p k _ (Lib.hid (hp.out.mono FnR.mono HBX.out)) hn (Lib.hid hpm) hkL ib hib).mono ?_
        rintro e w2 ⟨rfl, hb⟩
        have HBZ := Lib.hid (HBX.out.trans hb)
        have HBV := Lib.hid (HBY.out.trans hb)
        clear hb
        cases ib
        · have hE2 : verErr p ls (k + 1) = 8 := by
            rw [verErr, HE.out, if_neg (by simp), hrs.out, if_neg (by simp), hib.out, if_neg (by simp)]
          have hre := HRE.out
          rw [verErr_stay hE2 (by decide) mx (by omega), if_pos (by decide)] at hre
          obtain ⟨rfl, rfl⟩ := Prod.mk.inj hre
          clear hre hE2
          go_wp2_with fail
          go_ret2
          exact ⟨rfl, HBZ.out⟩
        · have hE2 : Hid (verErr p ls (k + 1) = 0) := Lib.hid (by
            rw [verErr, HE.out, if_neg (by simp), hrs.out, if_neg (by simp), hib.out, if_pos rfl])
          go_wp2
          go_roundw
          case rel => exact ⟨k + 1, by simp, by omega, hE2, HBV⟩
          case measure => simp [intOf]; omega
      · have hE2 : verErr p ls (k + 1) = es := by
          rw [verErr, HE.out, if_neg (by simp), hrs.out, if_pos hes]
        have hre := HRE.out
        rw [verErr_stay hE2 hes mx (by omega), if_pos hes] at hre
        obtain ⟨rfl, rfl⟩ := Prod.mk.inj hre
        have hne : (es != 0) = true := by simpa using hes
        have hnf : (es == 0) = false := by simpa using hes
        clear hre hE2 hes
        go_wp2_with fail
        go_ret2
        exact ⟨rfl, HBX.out⟩
end Go.Proofs.YtebdnobgdimdoaaGreat
set_option linter.unusedVariables false
set_option linter.unusedSimpArgs false
namespace Go.Proofs.YtebdnobgdimdoaaGreat
open Go.RowKit
/-- The first one knows at least as much as the second. -/
def shLe (s u : ShD) : Prop := ∀ k b, u k = some b → ∃ a, s k = some a ∧ b.1 ≤ a.1 ∧ a.2 ≤ b.2
theorem shLe_refl (s : ShD) : shLe s s := fun k b h => ⟨b, h, Nat.le_refl _, Nat.le_refl _⟩
theorem shLe_trans {s t u : ShD} (h : shLe s t) (k : shLe t u) : shLe s u := fun i b hb => by
  obtain ⟨a, ha, h1, h2⟩ := k i b hb
  obtain ⟨c, hc, h3, h4⟩ := h i a ha
  exact ⟨c, hc, by omega, by omega⟩
theorem shLe_joinL (s t : ShD) : shLe s (shJoin s t) := fun i b hb => by
  unfold shJoin at hb
  cases hs : s i with
  | none => simp [hs] at hb
  | some a =>
    cases ht : t i with
    | none => simp [hs, ht] at hb
    | some c =>
      simp only [hs, ht, Option.some.injEq] at hb
      subst hb
      exact ⟨a, rfl, by unfold joinB nmin; simp only; omega, by unfold joinB nmax; simp only; omega⟩
theorem shLe_joinR (s t : ShD) : shLe t (shJoin s t) := fun i b hb => by
  unfold shJoin at hb
  cases hs : s i with
  | none => simp [hs] at hb
  | some a =>
    cases ht : t i with
    | none => simp [hs, ht] at hb
    | some c =>
      simp only [hs, ht, Option.some.injEq] at hb
      subst hb
      exact ⟨c, rfl, by unfold joinB nmin; simp only; omega, by unfold joinB nmax; simp only; omega⟩
/-- What was known at places is still known, if less may be; only at some places something is new. -/
structure Ext (T : List Nat) (ins ins' : InsD) : Prop where
  len : ins'.length = ins.length
  off : ∀ j, j ∉ T → ins'.getD j none = ins.getD j none
  grow : ∀ j t, ins.getD j none = some t → ∃ u, ins'.getD j none = some u ∧ shLe t u
theorem Ext.refl (T : List Nat) (ins : InsD) : Ext T ins ins := ⟨rfl, fun _ _ => rfl, fun j t h => ⟨t, h, shLe_refl t⟩⟩
theorem Ext.trans {T : List Nat} {a b c : InsD} (h : Ext T a b) (k : Ext T b c) : Ext T a c :=
  ⟨k.len.trans h.len, fun j hj => (k.off j hj).trans (h.off j hj), fun j t ht => by
    obtain ⟨u, hu, h1⟩ := h.grow j t ht
    obtain ⟨v, hv, h2⟩ := k.grow j u hu
    exact ⟨v, hv, shLe_trans h1 h2⟩⟩
theorem Ext.mono {T U : List Nat} {a b : InsD} (h : Ext T a b) (hT : ∀ j ∈ T, j ∈ U) : Ext U a b := ⟨h.len, fun j hj => h.off j (fun h' => hj (hT j h')), h.grow⟩
theorem vTo_ext {ins ins' : InsD} {k : Nat} {s : ShD} (e : vTo ins k s = some ins') : k < ins.length ∧ Ext [k] ins ins' ∧ ∃ u, ins'.getD k none = some u ∧ shLe s u := by
  unfold vTo at e
  split at e
  · rename_i hk
    simp only [Option.some.injEq] at e
    obtain ⟨x, hx⟩ : ∃ x, ins[k] = x := ⟨_, rfl⟩
    rw [hx] at e
    have hg : ins.getD k none = x := by rw [List.getD_eq_getElem?_getD, List.getElem?_eq_getElem hk, hx]; rfl
    refine ⟨hk, ⟨by rw [← e, List.length_set], fun j hj => ?_, fun j t ht => ?_⟩, ?_⟩
    · rw [← e, List.getD_eq_getElem?_getD, List.getD_eq_getElem?_getD, List.getElem?_set_ne (fun h => hj (by simp [h]))]
    · by_cases hj : j = k
      · subst hj
        rw [hg] at ht
        subst ht
        exact ⟨shJoin t s, by rw [← e, List.getD_eq_getElem?_getD, List.getElem?_set_self hk]; rfl, shLe_joinL t s⟩
      · exact ⟨t, by rw [← e, List.getD_eq_getElem?_getD, List.getElem?_set_ne (Ne.symm hj), ← List.getD_eq_getElem?_getD]; exact ht, shLe_refl t⟩
    · rw [← e, List.getD_eq_getElem?_getD, List.getElem?_set_self hk]
      cases x with
      | none => exact ⟨s, rfl, shLe_refl s⟩
      | some t => exact ⟨shJoin t s, rfl, shLe_joinR t s⟩
  · cases e
/-- What is known is known there, too. -/
def At (ins : InsD) (t : Nat) (s : ShD) : Prop := ∃ u, ins.getD t none = some u ∧ shLe s u
theorem At.ext {T : List Nat} {a b : InsD} {t : Nat} {s : ShD} (h : At a t s) (k : Ext T a b) : At b t s := by
  obtain ⟨u, hu, h1⟩ := h
  obtain ⟨v, hv, h2⟩ := k.grow t u hu
  exact ⟨v, hv, shLe_trans h1 h2⟩
theorem vWay_ext {ins ins' : InsD} {k : Nat} {s : ShD} {d : Int} {c : Nat × Nat × Bool} (e : vWay ins k s d c = some ins') : Ext [k] ins ins' ∧ (c.2.2 = true → k < ins.length ∧ At ins' k (shPut s d (c.1, c.2.1))) := by
  unfold vWay at e
  split at e
  · have := vTo_ext e
    exact ⟨this.2.1, fun _ => ⟨this.1, this.2.2⟩⟩
  · rename_i h
    simp only [Option.some.injEq] at e
    subst e
    exact ⟨Ext.refl _ _, fun h' => absurd h' h⟩
/-- What is asked of an instruction, and what is known behind it. -/
def Flow (p : List FnD) (fn : Nat) (ls : List SchD) (k : Nat) (i : InstD) (s : ShD) (n : Nat) (F : InsD) : Prop :=
  if i.op = 0 then ∃ b own, shWord s i = some b ∧ (if i.fn = 0 then own = bdAll else shGet s i.dst = some own) ∧ k + 1 < n ∧ At F (k + 1) (shPut s i.dst (aluS i.fn.toNat own.1 own.2 b.1 b.2))
  else if i.op = 1 then
    if i.fn = 0 then k + i.off.toNat + 1 < n ∧ At F (k + i.off.toNat + 1) s
    else ∃ own b, shGet s i.dst = some own ∧ shWord s i = some b ∧ (∀ p q, cutS i.fn own.1 own.2 b.1 b.2 = (p, q, true) → k + i.off.toNat + 1 < n ∧ At F (k + i.off.toNat + 1) (shPut s i.dst (p, q))) ∧ (∀ p q, cutS (vElse i.fn) own.1 own.2 b.1 b.2 = (p, q, true) → k + 1 < n ∧ At F (k + 1) (shPut s i.dst (p, q)))
  else if i.op = 2 then ∃ b, shWord s i = some b ∧ b.2 < 4 ∧ k + 1 < n ∧ At F (k + 1) (shPut s i.dst bdAll)
  else if i.op = 3 then ∃ b, shWord s i = some b ∧ b.2 < 16 ∧ k + 1 < n ∧ At F (k + 1) (shPut s i.dst bdAll)
  else if i.op = 4 then ∃ b own, shGet s i.dst = some own ∧ shWord s i = some b ∧ b.2 < 16 ∧ k + 1 < n ∧ At F (k + 1) s
  else if i.op = 5 then 0 ≤ hArgs i.imm ∧ vHanded s (hArgs i.imm).toNat = true ∧ vHelp s i.imm ls = true ∧ k + 1 < n ∧ At F (k + 1) (shBack s)
  else if i.op = 6 then i.imm < p.length ∧ (fn : Int) < i.imm ∧ vHanded s (((p.map FnD.args).getD i.imm.toNat 0).toNat) = true ∧ k + 1 < n ∧ At F (k + 1) (shBack s)
  else ∃ b, shGet s 0 = some b
theorem vStep_flow {p : List FnD} {fn : Nat} {ls : List SchD} {k : Nat} {i : InstD} {s : ShD} {ins ins' : InsD} (hi : 0 ≤ i.op ∧ i.op < 8) (hoff : 0 ≤ i.off) (e : vStep p fn ls k i s ins = some ins') : Ext (nxt i k) ins ins' ∧ Flow p fn ls k i s ins.length ins' := by
  unfold vStep at e
  unfold Flow
  have hn1 : ∀ j ∈ [k + 1], i.op ≠ 7 → ¬ (i.op = 1 ∧ i.fn = 0) → j ∈ nxt i k := fun j hj h1 h2 => by
    simp only [List.mem_singleton] at hj
    subst hj
    unfold nxt
    rw [if_neg h1, if_neg h2]
    split <;> simp
  by_cases h0 : i.op = 0
  · rw [if_pos h0] at e ⊢
    obtain ⟨b, hb, e⟩ := Option.bind_eq_some_iff.1 e
    obtain ⟨own, ho, e⟩ := Option.bind_eq_some_iff.1 e
    have := vTo_ext e
    refine ⟨this.2.1.mono fun j hj => hn1 j hj (by omega) (by omega), b, own, hb, ?_, this.1, this.2.2⟩
    split at ho
    · rename_i h; rw [if_pos h]; simp only [Option.some.injEq] at ho; exact ho.symm
    · rename_i h; rw [if_neg h]; exact ho
  rw [if_neg h0] at e ⊢
  by_cases h1 : i.op = 1
  · rw [if_pos h1] at e ⊢
    by_cases hf : i.fn = 0
    · rw [if_pos hf] at e ⊢
      have := vTo_ext e
      refine ⟨this.2.1.mono fun j hj => ?_, this.1, this.2.2⟩
      simp only [List.mem_singleton] at hj
      subst hj
      unfold nxt
      rw [if_neg (by omega), if_pos ⟨h1, hf⟩]
      simp
    · rw [if_neg hf] at e ⊢
      obtain ⟨own, ho, e⟩ := Option.bind_eq_some_iff.1 e
      obtain ⟨b, hb, e⟩ := Option.bind_eq_some_iff.1 e
      obtain ⟨ins1, e1, e2⟩ := Option.bind_eq_some_iff.1 e
      have w1 := vWay_ext e1
      have w2 := vWay_ext e2
      have hx : Ext (nxt i k) ins ins1 := w1.1.mono fun j hj => by
        simp only [List.mem_singleton] at hj
        subst hj
        unfold nxt
        rw [if_neg (by omega), if_neg (fun h => hf h.2)]
        split
        · simp
        · rename_i h
          have : i.off = 0 := by omega
          simp [this]
      have hy : Ext (nxt i k) ins1 ins' := w2.1.mono fun j hj => hn1 j hj (by omega) (fun h => hf h.2)
      refine ⟨hx.trans hy, own, b, ho, hb, fun p q hc => ?_, fun p q hc => ?_⟩
      · rw [hc] at w1
        have := w1.2 rfl
        exact ⟨this.1, this.2.ext hy⟩
      · rw [hc] at w2
        have := w2.2 rfl
        exact ⟨by have := this.1; rw [hx.len] at this; exact this, this.2⟩
  rw [if_neg h1] at e ⊢
  have hn2 : ∀ j ∈ [k + 1], i.op ≠ 7 → j ∈ nxt i k := fun j hj h => hn1 j hj h (fun h' => h1 h'.1)
  by_cases h2 : i.op = 2
  · rw [if_pos h2] at e ⊢
    obtain ⟨b, hb, e⟩ := Option.bind_eq_some_iff.1 e
    split at e
    · rename_i hl
      have := vTo_ext e
      exact ⟨this.2.1.mono fun j hj => hn2 j hj (by omega), b, hb, hl, this.1, this.2.2⟩
    · cases e
  rw [if_neg h2] at e ⊢
  by_cases h3 : i.op = 3
  · rw [if_pos h3] at e ⊢
    obtain ⟨b, hb, e⟩ := Option.bind_eq_some_iff.1 e
    split at e
    · rename_i hl
      have := vTo_ext e
      exact ⟨this.2.1.mono fun j hj => hn2 j hj (by omega), b, hb, hl, this.1, this.2.2⟩
    · cases e
  rw [if_neg h3] at e ⊢
  by_cases h4 : i.op = 4
  · rw [if_pos h4] at e ⊢
    obtain ⟨own, ho, e⟩ := Option.bind_eq_some_iff.1 e
    obtain ⟨b, hb, e⟩ := Option.bind_eq_some_iff.1 e
    split at e
    · rename_i hl
      have := vTo_ext e
      exact ⟨this.2.1.mono fun j hj => hn2 j hj (by omega), b, own, ho, hb, hl, this.1, this.2.2⟩
    · cases e
  rw [if_neg h4] at e ⊢
  by_cases h5 : i.op = 5
  · rw [if_pos h5] at e ⊢
    split at e
    · rename_i hl
      have := vTo_ext e
      exact ⟨this.2.1.mono fun j hj => hn2 j hj (by omega), hl.1, hl.2.1, hl.2.2, this.1, this.2.2⟩
    · cases e
  rw [if_neg h5] at e ⊢
  by_cases h6 : i.op = 6
  · rw [if_pos h6] at e ⊢
    split at e
    · rename_i hl
      have := vTo_ext e
      exact ⟨this.2.1.mono fun j hj => hn2 j hj (by omega), hl.1, hl.2.1, hl.2.2, this.1, this.2.2⟩
    · cases e
  rw [if_neg h6] at e ⊢
  obtain ⟨b, hb, e⟩ := Option.bind_eq_some_iff.1 e
  simp only [Option.some.injEq] at e
  subst e
  exact ⟨Ext.refl _ _, b, hb⟩
theorem Flow.ext {p : List FnD} {fn : Nat} {ls : List SchD} {k n : Nat} {i : InstD} {s : ShD} {a b : InsD} {T : List Nat} (h : Flow p fn ls k i s n a) (x : Ext T a b) : Flow p fn ls k i s n b := by
  unfold Flow at *
  split at h
  · rename_i h0
    rw [if_pos h0]
    obtain ⟨c, own, h1, h2, h3, h4⟩ := h
    exact ⟨c, own, h1, h2, h3, h4.ext x⟩
  rename_i h0
  rw [if_neg h0]
  split at h
  · rename_i h1
    rw [if_pos h1]
    split at h
    · rename_i h2
      rw [if_pos h2]
      exact ⟨h.1, h.2.ext x⟩
    · rename_i h2
      rw [if_neg h2]
      obtain ⟨own, c, k1, k2, k3, k4⟩ := h
      exact ⟨own, c, k1, k2, fun p q hc => ⟨(k3 p q hc).1, (k3 p q hc).2.ext x⟩, fun p q hc => ⟨(k4 p q hc).1, (k4 p q hc).2.ext x⟩⟩
  rename_i h1
  rw [if_neg h1]
  split at h
  · rename_i h2
    rw [if_pos h2]
    obtain ⟨c, k1, k2, k3, k4⟩ := h
    exact ⟨c, k1, k2, k3, k4.ext x⟩
  rename_i h2
  rw [if_neg h2]
  split at h
  · rename_i h3
    rw [if_pos h3]
    obtain ⟨c, k1, k2, k3, k4⟩ := h
    exact ⟨c, k1, k2, k3, k4.ext x⟩
  rename_i h3
  rw [if_neg h3]
  split at h
  · rename_i h4
    rw [if_pos h4]
    obtain ⟨c, own, k1, k2, k3, k4, k5⟩ := h
    exact ⟨c, own, k1, k2, k3, k4, k5.ext x⟩
  rename_i h4
  rw [if_neg h4]
  split at h
  · rename_i h5
    rw [if_pos h5]
    obtain ⟨k1, k2, k3, k4, k5⟩ := h
    exact ⟨k1, k2, k3, k4, k5.ext x⟩
  rename_i h5
  rw [if_neg h5]
  split at h
  · rename_i h6
    rw [if_pos h6]
    obtain ⟨k1, k2, k3, k4, k5⟩ := h
    exact ⟨k1, k2, k3, k4, k5.ext x⟩
  rename_i h6
  rw [if_neg h6]
  exact h
theorem nxt_gt' {i : InstD} {k j : Nat} (h : j ≤ k) : j ∉ nxt i k := fun h' => by have := nxt_gt h'; omega
theorem okB_op {i : InstD} (h : i.okB = true) : (0 ≤ i.op ∧ i.op < 8) ∧ 0 ≤ i.off := by
  have := of_decide_eq_true (p := mayP i.op i.fn i.dst i.src i.reg i.off i.imm) h
  unfold mayP at this
  refine ⟨by omega, ?_⟩
  obtain ⟨-, -, -, -, ⟨h1, -⟩, -⟩ := this
  exact h1
section
variable {p : List FnD} {fn : Nat} {ls : List SchD} {l : List InstD} {args : Nat}
theorem vUpto_len (hl : 0 < l.length) (ok : ∀ k, k < l.length → (l[k]!).okB = true) : ∀ (k : Nat) (ins : InsD), k ≤ l.length → vUpto p fn ls l args k = some ins → ins.length = l.length
  | 0, ins, _, h => by
    simp only [vUpto, Option.some.injEq] at h
    subst h
    simp
  | k + 1, ins, hk, h => by
    rw [vUpto, Option.bind_eq_some_iff] at h
    obtain ⟨a, h1, h2⟩ := h
    have ih := vUpto_len hl ok k a (by omega) h1
    split at h2
    · have := okB_op (ok k (by omega))
      rw [(vStep_flow this.1 this.2 h2).1.len, ih]
    · simp only [Option.some.injEq] at h2
      subst h2; exact ih
/-- From one place on to a later one: nothing that was known is lost, nothing ahead is touched. -/
theorem vUpto_ext (ok : ∀ k, k < l.length → (l[k]!).okB = true) {k : Nat} {a : InsD} (ha : vUpto p fn ls l args k = some a) : ∀ (m : Nat) (b : InsD), k ≤ m → m ≤ l.length → vUpto p fn ls l args m = some b → b.length = a.length ∧ (∀ j, j ≤ k → b.getD j none = a.getD j none) ∧ (∀ j t, a.getD j none = some t → ∃ u, b.getD j none = some u ∧ shLe t u)
  | 0, b, hkm, _, h => by
    obtain rfl : k = 0 := by omega
    rw [ha] at h
    simp only [Option.some.injEq] at h
    subst h
    exact ⟨rfl, fun _ _ => rfl, fun j t ht => ⟨t, ht, shLe_refl t⟩⟩
  | m + 1, b, hkm, hml, h => by
    by_cases he : k = m + 1
    · subst he
      rw [ha] at h
      simp only [Option.some.injEq] at h
      subst h
      exact ⟨rfl, fun _ _ => rfl, fun j t ht => ⟨t, ht, shLe_refl t⟩⟩
    · rw [vUpto, Option.bind_eq_some_iff] at h
      obtain ⟨c, h1, h2⟩ := h
      obtain ⟨i1, i2, i3⟩ := vUpto_ext ok ha m c (by omega) (by omega) h1
      split at h2
      · have hok := okB_op (ok m (by omega))
        have x := (vStep_flow hok.1 hok.2 h2).1
        refine ⟨x.len.trans i1, fun j hj => (x.off j (nxt_gt' (by omega))).trans (i2 j hj), fun j t ht => ?_⟩
        obtain ⟨u, hu, l1⟩ := i3 j t ht
        obtain ⟨v, hv, l2⟩ := x.grow j u hu
        exact ⟨v, hv, shLe_trans l1 l2⟩
      · simp only [Option.some.injEq] at h2
        subst h2
        exact ⟨i1, i2, i3⟩
theorem vUpto_before {m : Nat} {b : InsD} (h : vUpto p fn ls l args m = some b) : ∀ k, k ≤ m → ∃ a, vUpto p fn ls l args k = some a := by
  induction m generalizing b with
  | zero => intro k hk; obtain rfl : k = 0 := by omega
            exact ⟨b, h⟩
  | succ m ih =>
    intro k hk
    by_cases he : k = m + 1
    · subst he; exact ⟨b, h⟩
    · rw [vUpto, Option.bind_eq_some_iff] at h
      obtain ⟨c, h1, -⟩ := h
      exact ih h1 k (by omega)
/-- Of a function that was gone through: what is known at a place fits what is done there, and what is known behind it. -/
theorem flow_all (ok : ∀ k, k < l.length → (l[k]!).okB = true) (hl : 0 < l.length) {F : InsD} (h : vUpto p fn ls l args l.length = some F) : F.length = l.length ∧ At F 0 (shNew args) ∧ ∀ k s, k < l.length → F.getD k none = some s → Flow p fn ls k l[k]! s l.length F := by
  have hlen := vUpto_len hl ok _ _ (Nat.le_refl _) h
  refine ⟨hlen, ?_, fun k s hk hs => ?_⟩
  · have h0 : vUpto p fn ls l args 0 = some ((List.replicate l.length none).set 0 (some (shNew args))) := rfl
    obtain ⟨-, i2, -⟩ := vUpto_ext ok h0 _ _ (Nat.zero_le _) (Nat.le_refl _) h
    refine ⟨shNew args, ?_, shLe_refl _⟩
    rw [i2 0 (Nat.le_refl _), List.getD_eq_getElem?_getD, List.getElem?_set_self (by simpa using hl)]
    rfl
  · obtain ⟨a, ha⟩ := vUpto_before h k (by omega)
    obtain ⟨b, hb⟩ := vUpto_before h (k + 1) (by omega)
    obtain ⟨-, i2, -⟩ := vUpto_ext ok ha _ _ (by omega) (Nat.le_refl _) h
    obtain ⟨j1, j2, j3⟩ := vUpto_ext ok hb _ _ (by omega) (Nat.le_refl _) h
    have hka : a.getD k none = some s := by rw [← i2 k (Nat.le_refl _)]; exact hs
    have hb' := hb
    rw [vUpto, Option.bind_eq_some_iff] at hb'
    obtain ⟨c, h1, h2⟩ := hb'
    rw [ha] at h1
    simp only [Option.some.injEq] at h1
    subst h1
    rw [hka] at h2
    have hok := okB_op (ok k hk)
    have hf := (vStep_flow hok.1 hok.2 h2).2
    rw [vUpto_len hl ok _ _ (by omega) ha] at hf
    exact hf.ext (T := List.range F.length) ⟨j1, fun j hj => by
      have hjF : F.length ≤ j := by simpa using hj
      rw [List.getD_eq_getElem?_getD, List.getD_eq_getElem?_getD, List.getElem?_eq_none hjF, List.getElem?_eq_none (by rw [← j1]; exact hjF)], j3⟩
/-- What is known anywhere is reached. -/
theorem known_reach (ok : ∀ k, k < l.length → (l[k]!).okB = true) (hl : 0 < l.length) : ∀ (m : Nat) (a : InsD), m ≤ l.length → vUpto p fn ls l args m = some a → ∀ k, k < l.length → (a.getD k none).isSome = true → (reach l).getD k false = true
  | 0, a, _, h, k, hk, hs => by
    simp only [vUpto, Option.some.injEq] at h
    subst h
    by_cases h0 : k = 0
    · subst h0; exact reach_zero hl
    · rw [List.getD_eq_getElem?_getD, List.getElem?_set_ne (Ne.symm h0)] at hs
      simp [List.getElem?_replicate, hk] at hs
  | m + 1, a, hm, h, k, hk, hs => by
    rw [vUpto, Option.bind_eq_some_iff] at h
    obtain ⟨c, h1, h2⟩ := h
    have ih := known_reach ok hl m c (by omega) h1
    split at h2
    · rename_i s hms
      have hok := okB_op (ok m (by omega))
      have x := (vStep_flow hok.1 hok.2 h2).1
      by_cases hn : k ∈ nxt l[m]! m
      · exact reach_next (by omega) hk (ih m (by omega) (by rw [hms]; rfl)) hn
      · rw [x.off k hn] at hs
        exact ih k hk hs
    · simp only [Option.some.injEq] at h2
      subst h2
      exact ih k hk hs
end
end Go.Proofs.YtebdnobgdimdoaaGreat
set_option linter.unusedVariables false
set_option linter.unusedSimpArgs false
namespace Go.Proofs.YtebdnobgdimdoaaGreat
open Go.RowKit
def codeOf (p : List FnD) (i : Nat) : List InstD := (p.map FnD.code).getD i []
theorem codeOf_get {p : List FnD} {i : Nat} (h : i < p.length) : codeOf p i = (p[i]).code := by
  unfold codeOf
  rw [List.getD_eq_getElem?_getD, List.getElem?_map, List.getElem?_eq_getElem h]
  rfl
def argsOf (p : List FnD) (i : Nat) : Int := (p.map FnD.args).getD i 0
theorem argsOf_get {p : List FnD} {i : Nat} (h : i < p.length) : argsOf p i = (p[i]).args := by
  unfold argsOf
  rw [List.getD_eq_getElem?_getD, List.getElem?_map, List.getElem?_eq_getElem h]
  rfl
theorem verErr_zero {p : List FnD} {ls : List SchD} : ∀ {m : Nat}, verErr p ls m = 0 → ∀ fn : Nat, fn < m → (vShapes p fn ls).2 = 0 ∧ insideB p fn = true
  | m + 1, h, fn, hfn => by
    rw [verErr] at h
    split at h
    · rename_i h1; exact absurd h h1
    · rename_i h1
      have h1 : verErr p ls m = 0 := Decidable.of_not_not h1
      split at h
      · rename_i h2; exact absurd h h2
      · rename_i h2
        have h2 : (vShapes p m ls).2 = 0 := Decidable.of_not_not h2
        split at h
        · rename_i h3
          by_cases e : fn = m
          · subst e; exact ⟨h2, h3⟩
          · exact verErr_zero h1 fn (by omega)
        · exact absurd h (by decide)
/-- A function that was gone through to its end. -/
theorem vShapes_some {p : List FnD} {ls : List SchD} {fn : Nat} {er : Int} (h : (vShapes p fn ls).2 = 0) : progMay p = true ∧ (ls.length ≤ 4 ∧ ls.all schMay = true) ∧ fn < p.length ∧ ∃ F, vShapes p fn ls = (some F, 0) ∧ vUpto p fn ls (codeOf p fn) (argsOf p fn).toNat (codeOf p fn).length = some F := by
  unfold vShapes at h ⊢
  split at h
  · rename_i h1
    rw [if_pos h1]
    split at h
    · rename_i h2
      rw [if_pos h2]
      rw [show ((fn : Int)).toNat = fn by omega] at h ⊢
      split at h
      · rename_i F hF
        exact ⟨h1.1, h1.2, by omega, F, rfl, hF⟩
      · exact absurd h (by decide)
    · exact absurd h (by decide)
  · exact absurd h (by decide)
theorem verify_facts {p : List FnD} {ls : List SchD} {n : Int} (h : verifyV p ls = (n, 0)) : progMay p = true ∧ 0 < p.length ∧ (ls.length ≤ 4 ∧ ls.all schMay = true) ∧ n = budget p ∧ n ≤ 2000 ∧ ∀ fn : Nat, fn < p.length → insideB p fn = true ∧ ∃ F, vShapes p fn ls = (some F, 0) ∧ vUpto p fn ls (codeOf p fn) (argsOf p fn).toNat (codeOf p fn).length = some F := by
  unfold verifyV at h
  split at h
  · rename_i h1
    exact absurd (Prod.mk.inj h).2 h1
  · rename_i h1
    have h1 : verErr p ls (max 1 p.length) = 0 := Decidable.of_not_not h1
    split at h
    · exact absurd (Prod.mk.inj h).2 (by decide)
    · rename_i h2
      have hn := (Prod.mk.inj h).1
      have h0 := verErr_zero h1 0 (by omega)
      obtain ⟨a1, a2, a3, -⟩ := vShapes_some (er := 0) h0.1
      refine ⟨a1, a3, a2, hn.symm, by omega, fun fn hfn => ?_⟩
      have h3 := verErr_zero h1 fn (by omega)
      obtain ⟨-, -, -, F, h4, h5⟩ := vShapes_some (er := 0) h3.1
      exact ⟨h3.2, F, h4, h5⟩
theorem verify_fail {p : List FnD} {ls : List SchD} {n e : Int} (h : verifyV p ls = (n, e)) (he : e ≠ 0) : n = 0 := by
  unfold verifyV at h
  split at h
  · exact (Prod.mk.inj h).1.symm
  · split at h
    · exact (Prod.mk.inj h).1.symm
    · exact absurd (Prod.mk.inj h).2.symm he
theorem prog_ok' {p : List FnD} (h : progMay p = true) {j : Nat} (hj : j < p.length) : crsMay (codeOf p j) = true := by
  rw [codeOf_get hj]
  exact (fn_fine h hj).1
/-- What is known of a function that was gone through. -/
theorem shapes_facts {p : List FnD} {ls : List SchD} {fn : Nat} {F : InsD} (hp : progMay p = true) (hfn : fn < p.length) (h : vUpto p fn ls (codeOf p fn) (argsOf p fn).toNat (codeOf p fn).length = some F) :
    F.length = (codeOf p fn).length ∧ 0 < (codeOf p fn).length ∧ (F.getD 0 none).isSome = true ∧ ∀ k, k < F.length → (F.getD k none).isSome = true → (reach (codeOf p fn)).getD k false = true ∧ (((codeOf p fn)[k]!).op = 6 → ((codeOf p fn)[k]!).imm < p.length ∧ (fn : Int) < ((codeOf p fn)[k]!).imm) ∧ (((codeOf p fn)[k]!).op = 5 → ((codeOf p fn)[k]!).imm ≤ 5) := by
  obtain ⟨h0, h64, ok⟩ := crsMay_facts (prog_ok' hp hfn)
  obtain ⟨hlen, hat, hflow⟩ := flow_all ok h0 h
  refine ⟨hlen, h0, ?_, fun k hk hs => ?_⟩
  · obtain ⟨u, hu, -⟩ := hat
    rw [hu]; rfl
  · rw [hlen] at hk
    refine ⟨known_reach ok h0 _ F (Nat.le_refl _) h k hk hs, ?_, ?_⟩
    · intro h6
      obtain ⟨s, hs⟩ := Option.isSome_iff_exists.1 hs
      have hf := hflow k s hk hs
      unfold Flow at hf
      rw [if_neg (by omega), if_neg (by omega), if_neg (by omega), if_neg (by omega), if_neg (by omega), if_neg (by omega), if_pos h6] at hf
      exact ⟨hf.1, hf.2.1⟩
    · intro h5
      obtain ⟨s, hs⟩ := Option.isSome_iff_exists.1 hs
      have hf := hflow k s hk hs
      unfold Flow at hf
      rw [if_neg (by omega), if_neg (by omega), if_neg (by omega), if_neg (by omega), if_neg (by omega), if_pos h5] at hf
      have := hf.1
      unfold hArgs at this
      repeat' split at this
      all_goals omega
theorem more_step {p : List FnD} {fn : Nat} {ls : List SchD} {x : SchD} {k : Nat} {i : InstD} {s : ShD} {ins r : InsD} (h : vStep p fn ls k i s ins = some r) : vStep p fn (ls ++ [x]) k i s ins = some r := by
  unfold vStep at h ⊢
  by_cases h0 : i.op = 0
  · rw [if_pos h0] at h ⊢; exact h
  rw [if_neg h0] at h ⊢
  by_cases h1 : i.op = 1
  · rw [if_pos h1] at h ⊢; exact h
  rw [if_neg h1] at h ⊢
  by_cases h2 : i.op = 2
  · rw [if_pos h2] at h ⊢; exact h
  rw [if_neg h2] at h ⊢
  by_cases h3 : i.op = 3
  · rw [if_pos h3] at h ⊢; exact h
  rw [if_neg h3] at h ⊢
  by_cases h4 : i.op = 4
  · rw [if_pos h4] at h ⊢; exact h
  rw [if_neg h4] at h ⊢
  by_cases h5 : i.op = 5
  · rw [if_pos h5] at h ⊢
    split at h
    · rename_i hc
      have hv' : vHelp s i.imm (ls ++ [x]) = true := by
        have hv := hc.2.2
        unfold vHelp at hv ⊢
        split at hv
        · rename_i q; rw [if_pos q]
        · rename_i q
          rw [if_neg q]
          split at hv
          · cases hv
          · rename_i b hb
            simp only [Bool.and_eq_true, decide_eq_true_iff] at hv
            obtain ⟨⟨⟨e1, e2⟩, e3⟩, e4⟩ := hv
            have eg : (ls ++ [x])[b.1]! = ls[b.1]! := by
              rw [getElem!_pos (ls ++ [x]) b.1 (by rw [List.length_append]; omega), getElem!_pos ls b.1 e2, List.getElem_append_left e2]
            simp only [Bool.and_eq_true, decide_eq_true_iff]
            rw [eg]
            exact ⟨⟨⟨e1, by rw [List.length_append]; omega⟩, e3⟩, e4⟩
      rw [if_pos ⟨hc.1, hc.2.1, hv'⟩]
      exact h
    · cases h
  rw [if_neg h5] at h ⊢
  exact h
theorem more_upto {p : List FnD} {fn : Nat} {ls : List SchD} {x : SchD} {l : List InstD} {args : Nat} : ∀ {k : Nat} {r : InsD}, vUpto p fn ls l args k = some r → vUpto p fn (ls ++ [x]) l args k = some r
  | 0, r, h => h
  | k + 1, r, h => by
    rw [vUpto, Option.bind_eq_some_iff] at h
    obtain ⟨c, h1, h2⟩ := h
    rw [vUpto, more_upto h1, Option.bind_some]
    split at h2
    · exact more_step h2
    · exact h2
theorem verErr_none {p : List FnD} {ls : List SchD} : ∀ {m : Nat}, (∀ fn : Nat, fn < m → (vShapes p fn ls).2 = 0 ∧ insideB p fn = true) → verErr p ls m = 0
  | 0, _ => rfl
  | m + 1, h => by
    have h1 := verErr_none (m := m) fun fn hfn => h fn (by omega)
    have h2 := h m (by omega)
    rw [verErr, if_neg (by rw [h1]; simp), if_neg (by rw [h2.1]; simp), if_pos h2.2]
theorem verify_more {p : List FnD} {ls : List SchD} {x : SchD} {n : Int} (h : verifyV p ls = (n, 0)) (hl : ls.length ≤ 3) : verifyV p (ls ++ [x]) = (0, 1) ∨ verifyV p (ls ++ [x]) = (n, 0) := by
  obtain ⟨hp, h0, ⟨hl4, hall⟩, hn, hn2, hfn⟩ := verify_facts h
  by_cases hx : schMay x = true
  · right
    have hz : verErr p (ls ++ [x]) (max 1 p.length) = 0 := by
      refine verErr_none fun fn hf => ?_
      obtain ⟨hi, F, h1, h2⟩ := hfn fn (by omega)
      refine ⟨?_, hi⟩
      unfold vShapes
      rw [if_pos ⟨hp, by rw [List.length_append]; simp; omega, by rw [List.all_append, hall]; simp [hx]⟩, if_pos ⟨by omega, by omega⟩]
      rw [show ((fn : Int)).toNat = fn by omega]
      have := more_upto (x := x) h2
      unfold codeOf argsOf at this
      rw [this]
    unfold verifyV
    rw [hz, if_neg (by simp), if_neg (by omega), hn]
  · left
    have h1 : verErr p (ls ++ [x]) 1 = 1 := by
      have : vShapes p ((0 : Nat) : Int) (ls ++ [x]) = (none, 1) := by
        unfold vShapes
        rw [if_neg (fun h' => ?_)]
        have := h'.2.2
        rw [List.all_append] at this
        simp [hx] at this
      show (if verErr p (ls ++ [x]) 0 ≠ 0 then _ else if (vShapes p ((0 : Nat) : Int) (ls ++ [x])).2 ≠ 0 then (vShapes p ((0 : Nat) : Int) (ls ++ [x])).2 else _) = 1
      rw [this]
      rfl
    unfold verifyV
    rw [verErr_stay h1 (by decide) _ (Nat.le_max_left _ _), if_pos (by decide)]
end Go.Proofs.YtebdnobgdimdoaaGreat
