/- verify.inside and verify.Verify by their contracts. verify.Verify by its contract. -/
import Derived.Test.YtebdnobgdimdoaaVs3
import Derived.Test.YtebdnobgdimdoaaCrs8
set_option linter.unusedVariables false
set_option linter.unusedSimpArgs false
namespace Go.Proofs.Ytebdnobgdimdoaa
open Go.RowKit

/-- Does an instruction go to what is there? -/
def inOk (n m : Nat) (k : Nat) (i : InstD) : Bool := if i.op = 1 then decide ((k : Int) + i.off + 1 < m) else if i.op = 6 then decide (i.imm < n) else true
def insUpto (n : Nat) (l : List InstD) : Nat → Bool
  | 0 => true
  | k + 1 => insUpto n l k && inOk n l.length k l[k]!
def insideB (p : List FnD) (j : Nat) : Bool := insUpto p.length ((p.map FnD.code).getD j []) ((p.map FnD.code).getD j []).length
theorem insUpto_no {n : Nat} {l : List InstD} {k : Nat} (h : insUpto n l (k + 1) = false) : ∀ m, k + 1 ≤ m → insUpto n l m = false := by
  intro m hm
  induction m with
  | zero => omega
  | succ m ih =>
    by_cases e : k = m
    · subst e; exact h
    · rw [insUpto, ih (by omega)]
      rfl
set_option maxHeartbeats 4000000 in
set_option maxRecDepth 100000 in
theorem inside_any (A : Option Addr) (c n : Nat) (p : List FnD) (j : Nat) (w : World) (hp : Hid (Sl FnR 2 w A c p)) (hn : Hid (p.length = n)) (hpm : Hid (progMay p = true)) (hjL : j < p.length) (r : Bool) (hr : Hid (insideB p j = r)) :
    Calls Try.prog 17 #[.agg #[.slice A n c], .int .i64 j] w fun e w' => e = .returned (.bool r) ∧ Bel w w' := by
  obtain ⟨hff, -, -⟩ := fn_fine hpm.out hjL
  obtain ⟨hml0, hm64, hok⟩ := crsMay_facts hff
  obtain ⟨l, hl⟩ : ∃ l, Hid ((p[j]).code = l) := ⟨_, Lib.hid rfl⟩
  obtain ⟨ml, HLM⟩ : ∃ ml, Hid (l.length = ml) := ⟨_, Lib.hid rfl⟩
  rw [hl.out] at hml0 hm64 hok
  rw [HLM.out] at hml0 hm64
  have hok := Lib.hid hok
  have eC : (p.map FnD.code).getD j [] = l := by rw [← hl.out, List.getD_eq_getElem?_getD, List.getElem?_map, List.getElem?_eq_getElem hjL]; rfl
  have hjn : j < n := by rw [← hn.out]; exact hjL
  have hn8 : n ≤ 8 := by
    have := hpm.out
    unfold progMay at this
    simp only [Bool.and_eq_true, decide_eq_true_iff] at this
    rw [← hn.out]
    exact this.1.1.2
  have hjn2 : (j : Int) < n := by omega
  have hj0 : (0 : Int) ≤ j := by omega
  have HB0 := Lib.hid ((Bel.refl w).alloc (.cells #[.slice A n c] 24))
  have KP0 := Lib.hid (Bk.new w 24 #[.slice A n c])
  obtain ⟨b, o, rfl⟩ := hp.out.addr (by omega)
  obtain ⟨Al, cl, -, d1, hsl⟩ := fn_cells (hp.out.mono FnR.mono HB0.out) j hjL
  rw [hl.out] at d1 hsl
  rw [HLM.out] at d1
  obtain ⟨bl, ol, rfl⟩ := hsl.addr (by rw [HLM.out]; exact hml0)
  have HSL := Lib.hid hsl
  have EC := Lib.hid eC
  clear hff hsl eC
  have hNN : IntKind.u64.wrap (n : Int) = n := by simp [IntKind.wrap, IntKind.bits, IntKind.signed]; omega
  go_enter Try.func17, Try.ntmps17
  go_wp2_with fail
  generalize w.alloc (.cells #[.slice (some ⟨b, o, none⟩) n c] 24) = W0 at *
  obtain ⟨g, hg⟩ : ∃ g, w.heap.size = g := ⟨_, rfl⟩
  rw [hg] at KP0
  simp only [hg]
  clear hg d1
  go_loopw [16] (fun kv wr => ∃ k : Nat, kv = .int .i64 k ∧ k ≤ ml ∧ Hid (insUpto n l k = true) ∧ Hid (Bel W0 wr)) (fun kv _ => ml - (intOf kv).toNat)
  case atStart => exact ⟨0, rfl, Nat.zero_le _, Lib.hid rfl, Lib.hid (Bel.refl _)⟩
  case round =>
    obtain ⟨k, rfl, hkm, HY0, HBr⟩ := hrel
    have q0 := (KP0.out.bel HBr.out).cell 0 (v := .slice (some ⟨b, o, none⟩) n c) rfl
    have hgl := (KP0.out.bel HBr.out).lt
    by_cases hke : k = ml
    · subst hke
      have HRT : Hid (r = true) := Lib.hid (by
        rw [← hr.out]
        unfold insideB
        rw [EC.out, HLM.out, hn.out]
        exact HY0.out)
      have HRG := HRT.out
      subst HRG
      go_wp2_with fail
      go_ret
      exact ⟨rfl, HB0.out.trans HBr.out⟩
    · have hk1 : k < ml := by omega
      have hk2 : (k : Int) < ml := by omega
      have k0 : 0 ≤ (k : Int) := by omega
      have ek : IntKind.i64.wrap ((k : Int) + 1) = (k : Int) + 1 := wrap_i64 (by omega) (by omega)
      have hkl : k < l.length := by rw [HLM.out]; exact hk1
      have hsr := HSL.out.mono InstR.mono HBr.out
      have hic := inst_cells hsr k hkl
      have hxw : (l[k]).Wf := by
        obtain ⟨_, _, _, _, _, ⟨-, hxw⟩, -⟩ := hsr.get k hkl
        exact hxw
      have HOK := Lib.hid (hok.out k hkl)
      obtain ⟨x, HX⟩ : ∃ x, Hid (l[k]! = x) := ⟨_, Lib.hid rfl⟩
      have hx2 : l[k] = x := by rw [← getElem!_pos l k hkl]; exact HX.out
      rw [hx2] at hxw
      rw [HX.out] at hic HOK
      have him := hxw.imm
      obtain ⟨op, fn, dst, src, reg, off, imm⟩ := x
      have i0 : 0 ≤ imm := him.lo
      have i1 : imm < 4294967296 := him.hi
      obtain ⟨-, -, -, -, ⟨hof0, hof1⟩, -⟩ := of_decide_eq_true (p := mayP op fn dst src reg off imm) HOK.out
      have hof2 : off ≤ 65535 := by split at hof1 <;> omega
      have et : IntKind.i64.wrap ((k : Int) + off) = k + off := wrap_i64 (by omega) (by omega)
      have et1 : IntKind.i64.wrap ((k : Int) + off + 1) = k + off + 1 := wrap_i64 (by omega) (by omega)
      have em : IntKind.u64.wrap imm = imm := by simp [IntKind.wrap, IntKind.bits, IntKind.signed]; omega
      have c0 := hic 0 (.int .i64 op) rfl
      have c1 := hic 1 (.int .i64 fn) rfl
      have c2 := hic 2 (.int .i64 dst) rfl
      have c3 := hic 3 (.int .i64 src) rfl
      have c4 := hic 4 (.bool reg) rfl
      have c5 := hic 5 (.int .i64 off) rfl
      have c6 := hic 6 (.int .u32 imm) rfl
      rw [Nat.add_zero] at c0
      have HST : Hid (∀ q, inOk n ml k ⟨op, fn, dst, src, reg, off, imm⟩ = q → insUpto n l (k + 1) = q) := Lib.hid (fun q hq => by
        rw [insUpto, HY0.out, HX.out, HLM.out, hq]
        rfl)
      have HBN := Lib.hid ((HB0.out.trans HBr.out).alloc (.cells #[.int .i64 op, .int .i64 fn, .int .i64 dst, .int .i64 src, .bool reg, .int .i64 off, .int .u32 imm] 32))
      have HBM := Lib.hid (HBr.out.alloc (.cells #[.int .i64 op, .int .i64 fn, .int .i64 dst, .int .i64 src, .bool reg, .int .i64 off, .int .u32 imm] 32))
      clear hic hsr hke hx2 hxw hof1 him
      have HFAIL : Hid (insUpto n l (k + 1) = false → r = false) := Lib.hid (fun e => by
        rw [← hr.out]
        unfold insideB
        rw [EC.out, HLM.out, hn.out]
        exact insUpto_no e ml (by omega))
      by_cases h1 : op = 1
      · subst h1
        by_cases hlt : (k : Int) + off + 1 < ml
        · have HY : Hid (insUpto n l (k + 1) = true) := Lib.hid (HST.out true (by unfold inOk; rw [if_pos rfl]; exact decide_eq_true hlt))
          go_wp2
          go_roundw
          case rel => exact ⟨k + 1, by simp, by omega, HY, HBM⟩
          case measure => simp [intOf]; omega
        · have HRG := HFAIL.out (HST.out false (by unfold inOk; rw [if_pos rfl]; exact decide_eq_false hlt))
          subst HRG
          have hge : (ml : Int) ≤ k + off + 1 := by omega
          go_wp2_with fail
          go_ret
          exact ⟨rfl, HBN.out⟩
      by_cases h6 : op = 6
      · subst h6
        by_cases hlt : imm < n
        · have HY : Hid (insUpto n l (k + 1) = true) := Lib.hid (HST.out true (by unfold inOk; rw [if_neg (by show ¬ ((6 : Int) = 1); decide), if_pos rfl]; exact decide_eq_true hlt))
          go_wp2
          go_roundw
          case rel => exact ⟨k + 1, by simp, by omega, HY, HBM⟩
          case measure => simp [intOf]; omega
        · have HRG := HFAIL.out (HST.out false (by unfold inOk; rw [if_neg (by show ¬ ((6 : Int) = 1); decide), if_pos rfl]; exact decide_eq_false hlt))
          subst HRG
          have hge : (n : Int) ≤ imm := by omega
          go_wp2_with fail
          go_ret
          exact ⟨rfl, HBN.out⟩
      have HY : Hid (insUpto n l (k + 1) = true) := Lib.hid (HST.out true (by unfold inOk; rw [if_neg h1, if_neg h6]))
      go_wp2
      go_roundw
      case rel => exact ⟨k + 1, by simp, by omega, HY, HBM⟩
      case measure => simp [intOf]; omega
end Go.Proofs.Ytebdnobgdimdoaa
set_option linter.unusedVariables false
set_option linter.unusedSimpArgs false
namespace Go.Proofs.Ytebdnobgdimdoaa
open Go.RowKit

/-- The first error of the functions ahead of one. -/
def verErr (p : List FnD) (ls : List SchD) : Nat → Int
  | 0 => 0
  | k + 1 => if verErr p ls k ≠ 0 then verErr p ls k else if (vShapes p k ls).2 ≠ 0 then (vShapes p k ls).2 else if insideB p k = true then 0 else 8
def verifyV (p : List FnD) (ls : List SchD) : Int × Int :=
  if verErr p ls (max 1 p.length) ≠ 0 then (0, verErr p ls (max 1 p.length)) else if 2000 < budget p then (0, 2) else (budget p, 0)
theorem verErr_stay {p : List FnD} {ls : List SchD} {k : Nat} {e : Int} (h : verErr p ls k = e) (he : e ≠ 0) : ∀ m, k ≤ m → verErr p ls m = e := by
  intro m hm
  induction m with
  | zero => obtain rfl : k = 0 := by omega
            exact h
  | succ m ih =>
    by_cases q : k = m + 1
    · subst q; exact h
    · rw [verErr, ih (by omega), if_pos he]
theorem vShapes_ok {p : List FnD} {ls : List SchD} {fn : Int} {r : Option InsD} (h : vShapes p fn ls = (r, 0)) : progMay p = true ∧ 0 ≤ fn ∧ fn < p.length ∧ ∃ ins, r = some ins := by
  unfold vShapes at h
  split at h
  · rename_i h1
    split at h
    · rename_i h2
      split at h
      · exact ⟨h1.1, h2.1, h2.2, _, (Prod.mk.inj h).1.symm⟩
      · exact absurd (Prod.mk.inj h).2 (by decide)
    · exact absurd (Prod.mk.inj h).2 (by decide)
  · exact absurd (Prod.mk.inj h).2 (by decide)
/-- The steps that a function comes to do what they should. -/
def StepsFor (p : List FnD) (ls : List SchD) (fn : Nat) : Prop := progMay p = true → ∀ (k : Nat) (ins : InsD) (s : ShD), vUpto p (fn : Int).toNat ls ((p.map FnD.code).getD (fn : Int).toNat []) ((p.map FnD.args).getD (fn : Int).toNat 0).toNat k = some ins → k < ((p.map FnD.code).getD (fn : Int).toNat []).length → ins.getD k none = some s → StepOk (((p.map FnD.code).getD (fn : Int).toNat [])[k]!).op
set_option maxHeartbeats 4000000 in
set_option maxRecDepth 100000 in
theorem verify_any (A : Option Addr) (c n : Nat) (p : List FnD) (Q : Option Addr) (nl cQ : Nat) (ls : List SchD) (w : World) (hp : Hid (Sl FnR 2 w A c p)) (hn : Hid (p.length = n)) (hls : Hid (Sl SchR 4 w Q cQ ls)) (hnl : Hid (ls.length = nl)) (m er : Int) (hr : Hid (verifyV p ls = (m, er))) (hS : Hid (∀ fn : Nat, fn < max 1 p.length → verErr p ls fn = 0 → StepsFor p ls fn)) :
    Calls Try.prog 9 #[.agg #[.slice A n c], .slice Q nl cQ] w fun e w' => e = .returned (.tuple #[.int .i64 m, .int .i64 er]) ∧ Bel w w' := by
  have HB0 := Lib.hid ((Bel.refl w).alloc (.cells #[.slice A n c] 24))
  have KP0 := Lib.hid (Bk.new w 24 #[.slice A n c])
  have hnn : n ≤ 9223372036854775807 := by rw [← hn.out]; have := hp.out.le; have := hp.out.big; simp only [maxLen] at this; omega
  obtain ⟨mx, HMX⟩ : ∃ mx : Nat, Hid (max 1 n = mx) := ⟨_, Lib.hid rfl⟩
  have emx : max (1 : Int) (n : Int) = mx := by have := HMX.out; omega
  have hmx : 1 ≤ mx ∧ mx ≤ 9223372036854775807 := by have := HMX.out; omega
  have HMP : Hid (max 1 p.length = mx) := Lib.hid (by rw [hn.out]; exact HMX.out)
  have HRE := hr.out
  unfold verifyV at HRE
  rw [HMP.out] at HRE
  have HRE := Lib.hid HRE
  go_enter Try.func9, Try.ntmps9
  go_wp2_with fail
  generalize w.alloc (.cells #[.slice A n c] 24) = W0 at *
  obtain ⟨g, hg⟩ : ∃ g, w.heap.size = g := ⟨_, rfl⟩
  rw [hg] at KP0
  simp only [hg]
  clear hg
  go_loopw [15] (fun kv wr => ∃ k : Nat, kv = .int .i64 k ∧ k ≤ mx ∧ Hid (verErr p ls k = 0) ∧ Hid (Bel W0 wr)) (fun kv _ => mx - (intOf kv).toNat)
  case atStart => exact ⟨0, rfl, Nat.zero_le _, Lib.hid rfl, Lib.hid (Bel.refl _)⟩
  case round =>
    obtain ⟨k, rfl, hkm, HE, HBr⟩ := hrel
    have q0 := (KP0.out.bel HBr.out).cell 0 (v := .slice A n c) rfl
    have HBW := Lib.hid (HB0.out.trans HBr.out)
    by_cases hke : k = mx
    · subst hke
      have hre := HRE.out
      rw [HE.out, if_neg (by simp)] at hre
      obtain ⟨bu, hbu⟩ : ∃ bu, Hid (budget p = bu) := ⟨_, Lib.hid rfl⟩
      rw [hbu.out] at hre
      have HRF := Lib.hid hre
      clear hre
      go_wp2_with fail
      refine (Budget_any A c n p bu _ (hp.out.mono FnR.mono HBW.out) hn hbu).mono ?_
      rintro e w1 ⟨rfl, hb⟩
      have HBX := Lib.hid (HBW.out.trans hb)
      clear hb
      by_cases h2 : (2000 : Int) < bu
      · have hre := HRF.out
        rw [if_pos h2] at hre
        obtain ⟨rfl, rfl⟩ := Prod.mk.inj hre
        clear hre
        go_wp2_with fail
        go_ret2
        exact ⟨rfl, HBX.out⟩
      · have hre := HRF.out
        rw [if_neg h2] at hre
        obtain ⟨rfl, rfl⟩ := Prod.mk.inj hre
        clear hre
        go_wp2_with fail
        go_ret2
        exact ⟨rfl, HBX.out⟩
    · have hk1 : k < mx := by omega
      have hk2 : (k : Int) < mx := by omega
      have k0 : 0 ≤ (k : Int) := by omega
      have ek : IntKind.i64.wrap ((k : Int) + 1) = (k : Int) + 1 := wrap_i64 (by omega) (by omega)
      obtain ⟨⟨rs, es⟩, hrs⟩ : ∃ q, Hid (vShapes p k ls = q) := ⟨_, Lib.hid rfl⟩
      clear hke
      go_wp2_with fail
      refine (shapes_any A c n p k Q nl cQ ls _ (Lib.hid (hp.out.mono FnR.mono HBW.out)) hn (Lib.hid (hls.out.mono SchR.mono HBW.out)) hnl rs es hrs (Lib.hid (hS.out k (by rw [HMP.out]; exact hk1) HE.out))).mono ?_
      rintro e w1 ⟨⟨vi, vs, rfl, -⟩, hb⟩
      have HBX := Lib.hid (HBW.out.trans hb)
      have HBY := Lib.hid (HBr.out.trans hb)
      have q1 := hb.cell q0
      clear hb q0
      by_cases hes : es = 0
      · subst hes
        obtain ⟨hpm, -, hkp, -⟩ := vShapes_ok hrs.out
        obtain ⟨ib, hib⟩ : ∃ ib, Hid (insideB p k = ib) := ⟨_, Lib.hid rfl⟩
        have hkL : k < p.length := by omega
        clear hkp
        go_wp2_with fail
        refine (inside_any A c n p k _ (Lib.hid (hp.out.mono FnR.mono HBX.out)) hn (Lib.hid hpm) hkL ib hib).mono ?_
        rintro e w2 ⟨rfl, hb⟩
        have HBZ := Lib.hid (HBX.out.trans hb)
        have HBV := Lib.hid (HBY.out.trans hb)
        clear hb
        cases ib
        · have hE2 : verErr p ls (k + 1) = 8 := by
            rw [verErr, HE.out, if_neg (by simp), hrs.out, if_neg (by simp), hib.out, if_neg (by simp)]
          have hre := HRE.out
          rw [verErr_stay hE2 (by decide) mx (by omega), if_pos (by decide)] at hre
          obtain ⟨rfl, rfl⟩ := Prod.mk.inj hre
          clear hre hE2
          go_wp2_with fail
          go_ret2
          exact ⟨rfl, HBZ.out⟩
        · have hE2 : Hid (verErr p ls (k + 1) = 0) := Lib.hid (by
            rw [verErr, HE.out, if_neg (by simp), hrs.out, if_neg (by simp), hib.out, if_pos rfl])
          go_wp2
          go_roundw
          case rel => exact ⟨k + 1, by simp, by omega, hE2, HBV⟩
          case measure => simp [intOf]; omega
      · have hE2 : verErr p ls (k + 1) = es := by
          rw [verErr, HE.out, if_neg (by simp), hrs.out, if_pos hes]
        have hre := HRE.out
        rw [verErr_stay hE2 hes mx (by omega), if_pos hes] at hre
        obtain ⟨rfl, rfl⟩ := Prod.mk.inj hre
        have hne : (es != 0) = true := by simpa using hes
        have hnf : (es == 0) = false := by simpa using hes
        clear hre hE2 hes
        go_wp2_with fail
        go_ret2
        exact ⟨rfl, HBX.out⟩
end Go.Proofs.Ytebdnobgdimdoaa
