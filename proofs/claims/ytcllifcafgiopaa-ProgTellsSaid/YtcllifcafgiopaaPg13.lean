/- The chapter's example: 'awake'. -/
import Derived.Test.YtcllifcafgiopaaPg12
import Derived.Test.YtcllifcafgiopaaPg2
set_option linter.unusedVariables false
set_option linter.unusedSimpArgs false
namespace Go.Proofs.Ytcllifcafgiopaa
open Go.RowKit

def awI : InstD := ⟨7, 0, 0, 0, false, 0, 0⟩
def awP : List FnD := [⟨0, [awI]⟩]
def awB : List Int := [88, 86, 1, 0, 1, 112, 0, 0, 0, 0, 0, 0, 0]
theorem awP_put : putP awP = (awB, 0) := by decide +kernel
theorem awP_get : getP awB = (awP, 0) := by decide +kernel
theorem awP_may : progMay awP = true := by decide +kernel
theorem awI_wf : awI.Wf := ⟨by constructor <;> decide, by constructor <;> decide, by constructor <;> decide, by constructor <;> decide, by constructor <;> decide, by constructor <;> decide⟩
theorem aw_sl (w : World) : Sl FnR 2 ((w.alloc (.cells #[.int .i64 7, .int .i64 0, .int .i64 0, .int .i64 0, .bool false, .int .i64 0, .int .u32 0] 43)).alloc (.cells #[.int .i64 0, .slice (some ⟨w.heap.size, 0, none⟩) 1 1] 38)) (some ⟨w.heap.size + 1, 0, none⟩) 1 awP := by
  have hs : Sl InstR 7 (w.alloc (.cells #[.int .i64 7, .int .i64 0, .int .i64 0, .int .i64 0, .bool false, .int .i64 0, .int .u32 0] 43)) (some ⟨w.heap.size, 0, none⟩) 1 [awI] :=
    ⟨Nat.le_refl _, (by decide : 1 ≤ maxLen), fun i hi => by
      obtain rfl : i = 0 := by simpa using hi
      exact ⟨w.heap.size, 0, awI.cells, rfl, rfl, ⟨rfl, awI_wf⟩, fun j v hv => by
        rw [show 0 + 0 * 7 + j = j by omega]
        exact cell_fresh w _ _ j v (by simpa [InstD.cells, awI] using hv)⟩⟩
  have hz : w.heap.size + 1 = (w.alloc (.cells #[.int .i64 7, .int .i64 0, .int .i64 0, .int .i64 0, .bool false, .int .i64 0, .int .u32 0] 43)).heap.size := by simp
  rw [hz]
  exact ⟨Nat.le_refl _, (by decide : 1 ≤ maxLen), fun i hi => by
    obtain rfl : i = 0 := by simpa [awP] using hi
    refine ⟨_, 0, [.int .i64 0, .slice (some ⟨w.heap.size, 0, none⟩) 1 1], rfl, rfl, ⟨_, 1, rfl, hs.mono InstR.mono ((Bel.refl _).alloc _), (by decide : (Lit.int .i64 0).wf = true)⟩, fun j v hv => ?_⟩
    rw [show 0 + 0 * 2 + j = j by omega]
    exact cell_fresh _ _ _ j v (by simpa using hv)⟩
set_option maxHeartbeats 2000000 in
set_option maxRecDepth 100000 in
theorem awake_any (w : World) : Calls Try.prog 9 #[] w fun e w' => e = .returned (.bool true) ∧ Bel w w' := by
  have HB0 := Lib.hid (((Bel.refl w).alloc (.cells #[.int .i64 7, .int .i64 0, .int .i64 0, .int .i64 0, .bool false, .int .i64 0, .int .u32 0] 43)).alloc (.cells #[.int .i64 0, .slice (some ⟨w.heap.size, 0, none⟩) 1 1] 38))
  go_enter Try.func9, Try.ntmps9
  go_wp2_with fail
  refine (progPut_any _ _ 1 awP _ awB 13 0 (aw_sl w) (Lib.hid rfl) (Lib.hid awP_put) (Lib.hid rfl)).mono ?_
  rintro e w1 ⟨A1, c1, rfl, hs1, hb1⟩
  have HB := Lib.hid (HB0.out.trans hb1)
  have S1 := Lib.hid hs1
  clear hs1 hb1 HB0
  go_wp2_with fail
  refine (progGet_any _ _ 13 awB _ S1.out (Lib.hid rfl) awP 0 1 (Lib.hid awP_get) (Lib.hid rfl)).mono ?_
  rintro e w2 ⟨A2, c2, rfl, hs2, hb2⟩
  have HB := Lib.hid ((HB.out.trans hb2).alloc (.cells #[.slice A2 1 c2] 24))
  have S1 := Lib.hid (S1.out.mono (IntR.mono _) (hb2.alloc (.cells #[.slice A2 1 c2] 24)))
  have S2 := Lib.hid (hs2.mono FnR.mono ((Bel.refl w2).alloc (.cells #[.slice A2 1 c2] 24)))
  have K := Lib.hid (Blk.new w2 24 #[.slice A2 1 c2])
  have hsz := Lib.hid (show (w2.alloc (.cells #[.slice A2 1 c2] 24)).heap.size = w2.heap.size + 1 by simp)
  clear hs2 hb2
  go_wp2_with fail
  generalize w2.alloc (.cells #[.slice A2 1 c2] 24) = W at *
  generalize w2.heap.size = g at *
  have HL : Hid (Sl (IntR .u8) 1 (W.alloc (.cells #[.int .u8 88, .int .u8 86, .int .u8 1, .int .u8 0, .int .u8 1, .int .u8 112, .int .u8 0, .int .u8 0, .int .u8 0, .int .u8 0, .int .u8 0, .int .u8 0, .int .u8 0] 5)) (some ⟨g + 1, 0, none⟩) 13 awB) := Lib.hid (sl_lit_at (k := .u8) W (g + 1) hsz.out 5 awB (by decide) (by decide))
  have HBL := Lib.hid ((Bel.refl W).alloc (.cells #[.int .u8 88, .int .u8 86, .int .u8 1, .int .u8 0, .int .u8 1, .int .u8 112, .int .u8 0, .int .u8 0, .int .u8 0, .int .u8 0, .int .u8 0, .int .u8 0, .int .u8 0] 5))
  refine (bytes_at A1 _ 13 13 c1 13 awB awB _ (S1.out.mono (IntR.mono _) HBL.out) HL.out (Lib.hid rfl) (Lib.hid rfl) true (Lib.hid (by decide))).mono ?_
  rintro e w3 ⟨rfl, hb3'⟩
  have hb3 := HBL.out.trans hb3'
  have HB := Lib.hid (HB.out.trans hb3)
  have S2 := Lib.hid (S2.out.mono FnR.mono hb3)
  have k0 := (K.out.bel hb3).cell 0 rfl
  clear hb3 hb3' HL HBL S1 K hsz
  go_wp2_with fail
  refine (progmay_any _ _ 1 awP true _ S2.out (Lib.hid rfl) (Lib.hid awP_may)).mono ?_
  rintro e w4 ⟨rfl, hb4⟩
  have HB := HB.out.trans hb4
  go_wp2_with fail
  go_ret
  exact ⟨rfl, HB⟩
end Go.Proofs.Ytcllifcafgiopaa
