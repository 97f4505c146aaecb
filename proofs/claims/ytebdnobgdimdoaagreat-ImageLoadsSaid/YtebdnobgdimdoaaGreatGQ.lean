/- image.Make by its contract. The words of an image, one by one; plain. Chapter 14's example. -/
import Derived.Test.YtebdnobgdimdoaaGreatGP
import Derived.Test.YtebdnobgdimdoaaGreatGO
set_option linter.unusedVariables false
set_option linter.unusedSimpArgs false
namespace Go.Proofs.YtebdnobgdimdoaaGreat
open Go.RowKit
/-- Where a function's code begins. -/
def atOf (L : List FnD) (base : Int) (k : Nat) : Int := base + L.length + sz L k
def mkCodes (L : List FnD) (base : Int) : Nat → Option (List (List Int))
  | 0 => some []
  | k + 1 => (mkCodes L base k).bind fun cs => (imgCode L.length ((L.map FnD.code)[k]!) base (atOf L base k) ((L.map FnD.code)[k]!).length).bind fun c => some (cs ++ [c])
def mkDoors (L : List FnD) (base : Int) : Nat → List Int
  | 0 => []
  | k + 1 => mkDoors L base k ++ [(wput 1 0 0 0 false 0 0 (atOf L base k)).1]
def imgMake (L : List FnD) (base : Int) : List Int × Int :=
  if progMay L = true ∧ 0 ≤ base ∧ base + imgSize L ≤ 1024 then
    match mkCodes L base L.length with
    | none => ([], 8)
    | some cs => (mkDoors L base L.length ++ cs.flatten, 0)
  else ([], 1)
theorem mkCodes_none {L : List FnD} {base : Int} {k : Nat} (h : mkCodes L base k = none) : ∀ m, k ≤ m → mkCodes L base m = none := by
  intro m hm
  induction m with
  | zero => obtain rfl : k = 0 := by omega
            exact h
  | succ m ih =>
    by_cases e : k = m + 1
    · subst e; exact h
    · rw [mkCodes, ih (by omega)]
      rfl
theorem mkDoors_len (L : List FnD) (base : Int) : ∀ k, (mkDoors L base k).length = k
  | 0 => rfl
  | k + 1 => by rw [mkDoors, List.length_append, mkDoors_len L base k]; rfl
theorem mkDoors_rng (L : List FnD) (base : Int) : ∀ k, ∀ x ∈ mkDoors L base k, 0 ≤ x ∧ x < 18446744073709551616
  | 0, x, h => by cases h
  | k + 1, x, h => by
    rcases List.mem_append.1 h with h | h
    · exact mkDoors_rng L base k x h
    · obtain rfl := List.mem_singleton.1 h
      exact wput_rng ⟨1, 0, 0, 0, false, 0, 0⟩ _ (u32_lit 0 (by decide))
/-- What the codes are. -/
theorem mkCodes_all {L : List FnD} {base : Int} (hi : ∀ f ∈ L, ∀ i ∈ f.code, U32 i.imm) : ∀ (k : Nat) (cs : List (List Int)), k ≤ L.length → mkCodes L base k = some cs → cs.length = k ∧ cs.flatten.length = sz L k ∧ (∀ j (h1 : j < cs.length) (h2 : j < L.length), (cs[j]).length = (L[j]).code.length) ∧ ∀ c ∈ cs, ∀ x ∈ c, 0 ≤ x ∧ x < 18446744073709551616
  | 0, cs, _, h => by
    simp only [mkCodes, Option.some.injEq] at h
    subst h
    exact ⟨rfl, rfl, fun j h1 => absurd h1 (Nat.not_lt_zero _), fun c hc => (by cases hc)⟩
  | k + 1, cs, hk, h => by
    rw [mkCodes, Option.bind_eq_some_iff] at h
    obtain ⟨cs', h1, h2⟩ := h
    rw [Option.bind_eq_some_iff] at h2
    obtain ⟨c, h3, h4⟩ := h2
    simp only [Option.some.injEq] at h4
    subst h4
    obtain ⟨e1, e2, e3, e4⟩ := mkCodes_all hi k cs' (by omega) h1
    have hkL : k < L.length := by omega
    rw [code_nth hkL] at h3
    obtain ⟨f1, f2⟩ := imgCode_rng (hi _ (List.getElem_mem hkL)) _ c (Nat.le_refl _) h3
    refine ⟨by rw [List.length_append, e1]; rfl, ?_, fun j hj1 hj2 => ?_, fun d hd => ?_⟩
    · rw [List.flatten_append, List.length_append, e2, sz, code_nth hkL]
      simp [f1]
    · by_cases hj : j < cs'.length
      · rw [List.getElem_append_left hj]
        exact e3 j hj hj2
      · obtain rfl : j = k := by
          rw [List.length_append, List.length_singleton, e1] at hj1
          omega
        rw [List.getElem_append_right (by omega)]
        simp only [e1, Nat.sub_self, List.getElem_cons_zero]
        exact f1
    · rcases List.mem_append.1 hd with hd | hd
      · exact e4 d hd
      · obtain rfl := List.mem_singleton.1 hd
        exact f2
theorem own_grownN {X Y : World} {b1 s1 n1 : Nat} {t1 : TypeId} {v1 : Value} {xs1 : List Value} {q : Option Nat} (h1 : X.ownsRow b1 t1 s1 v1 n1 xs1) (hne : v1.ownBlock ≠ none → v1.ownBlock ≠ q) (hg : X.grownBy Y q) : Y.ownsRow b1 t1 s1 v1 n1 xs1 :=
  ⟨h1.1, h1.2.imp id fun ⟨g, cap, cur, e1, e2, e3, r⟩ => ⟨g, cap, cur, e1, e2, (hg.block g (Array.getElem?_eq_some_iff.1 e3).1 (fun e => by
    have hv : v1.ownBlock = some g := by rw [e1]; rfl
    exact hne (by rw [hv]; simp) (by rw [hv, e]))).trans e3, r⟩⟩
theorem own_ltI {X : World} {b s n : Nat} {t : TypeId} {v : Value} {xs : List Value} (h : X.ownsRow b t s v n xs) {k : Nat} (hk : v.ownBlock = some k) : k < X.heap.size := by
  rcases h.2 with ⟨rfl, _⟩ | ⟨g, cap, cur, rfl, _, hh, _⟩
  · simp [Value.ownBlock] at hk
  · have : g = k := by simpa [Value.ownBlock] using hk
    subst this
    exact (Array.getElem?_eq_some_iff.1 hh).1
theorem info_u64s : (Tryz.prog.info? 74).map (fun i => (i.zero, i.size, i.bytes)) = some (some (.slice none 0 0), 1, 24) := by kernel_rfl
def wsc (z : List Int × Value) : List Value := [z.2]
/-- What a round of Make knows of the parts. -/
structure MkI (W1 : World) (base0 : Nat) (doors : List Int) (zs : List (List Int × Value)) (dv cv : Value) (X : World) : Prop where
  bel : Bel W1 X
  d : X.ownsRow base0 133 1 dv doors.length (doors.map (Value.int .u64))
  c : X.ownsRow base0 74 1 cv zs.length (zs.flatMap wsc)
  z : ∀ z ∈ zs, X.ownsRow base0 133 1 z.2 z.1.length (z.1.map (Value.int .u64)) ∧ (z.2.ownBlock ≠ none → z.2.ownBlock ≠ dv.ownBlock)
  sz : base0 ≤ X.heap.size
theorem MkI.mono {W1 : World} {base0 : Nat} {doors : List Int} {zs : List (List Int × Value)} {dv cv : Value} {X Y : World} (h : MkI W1 base0 doors zs dv cv X) (hb : Bel X Y) : MkI W1 base0 doors zs dv cv Y :=
  ⟨h.bel.trans hb, own_belI h.d hb, own_belI h.c hb, fun z hz => ⟨own_belI (h.z z hz).1 hb, (h.z z hz).2⟩, Nat.le_trans h.sz hb.size⟩
/-- One door more. -/
theorem MkI.door {W1 : World} {base0 n : Nat} {doors : List Int} {zs : List (List Int × Value)} {dv dv' cv : Value} {X Y : World} {v : Int} (h : MkI W1 base0 doors zs dv cv X) (hw : W1.heap.size ≤ base0) (ho : Y.ownsRow base0 133 1 dv' n (doors.map (Value.int .u64) ++ [.int .u64 v])) (hn : n = doors.length + 1) (hg : X.grownBy Y dv.ownBlock) (hd : dv'.ownBlock = dv.ownBlock ∨ dv'.ownBlock = some X.heap.size) : MkI W1 base0 (doors ++ [v]) zs dv' cv Y := by
  subst hn
  refine ⟨row_lowI h.d W1 hw h.bel hg, by rw [List.length_append, List.map_append]; exact ho, own_grownI h.c h.d (by decide) hg, fun z hz => ⟨own_grownN (h.z z hz).1 (h.z z hz).2 hg, fun hne e => ?_⟩, Nat.le_trans h.sz hg.size⟩
  rcases hd with hd | hd
  · exact (h.z z hz).2 hne (e.trans hd)
  · have := own_ltI (h.z z hz).1 (e.trans hd)
    omega
/-- One code more. -/
theorem MkI.code {W1 : World} {base0 n : Nat} {doors : List Int} {zs : List (List Int × Value)} {dv cv cv' : Value} {X Y : World} {z : List Int × Value} (h : MkI W1 base0 doors zs dv cv X) (hw : W1.heap.size ≤ base0) (hz : X.ownsRow base0 133 1 z.2 z.1.length (z.1.map (Value.int .u64))) (hzd : z.2.ownBlock ≠ none → z.2.ownBlock ≠ dv.ownBlock) (ho : Y.ownsRow base0 74 1 cv' n (zs.flatMap wsc ++ wsc z)) (hn : n = zs.length + 1) (hg : X.grownBy Y cv.ownBlock) : MkI W1 base0 doors (zs ++ [z]) dv cv' Y := by
  subst hn
  refine ⟨row_lowI h.c W1 hw h.bel hg, own_grownI h.d h.c (by decide) hg, by rw [List.length_append, List.flatMap_append, List.flatMap_singleton]; exact ho, fun y hy => ?_, Nat.le_trans h.sz hg.size⟩
  rcases List.mem_append.1 hy with hy | hy
  · exact ⟨own_grownI (h.z y hy).1 h.c (by decide) hg, (h.z y hy).2⟩
  · obtain rfl := List.mem_singleton.1 hy
    exact ⟨own_grownI hz h.c (by decide) hg, hzd⟩
theorem MkI.parts {W1 : World} {base0 : Nat} {doors : List Int} {zs : List (List Int × Value)} {dv cv : Value} {X : World} (h : MkI W1 base0 doors zs dv cv X) (hw : ∀ c ∈ zs.map Prod.fst, ∀ x ∈ c, 0 ≤ x ∧ x < 18446744073709551616) : ∃ A c, cv = .slice A zs.length c ∧ Sl WsR 1 X A c (zs.map Prod.fst) :=
  sl_of_rowsI (R := WsR) wsc (fun _ => rfl) Prod.fst h.c fun z hz => by
    obtain ⟨A, c, e, hs⟩ := sl_ownI (h.z z hz).1 (fun x hx => wf_u64R (hw _ (List.mem_map_of_mem hz) x hx))
    exact ⟨A, c, by unfold wsc; rw [e], hs⟩
/-- Two parts, just made a row. -/
theorem ws_two (w : World) (t : TypeId) (A B : Option Addr) (n m c d : Nat) (l k : List Int) (hl : l.length = n) (hk : k.length = m) (h1 : Sl (IntR .u64) 1 w A c l) (h2 : Sl (IntR .u64) 1 w B d k) : Sl WsR 1 (w.alloc (.cells #[.slice A n c, .slice B m d] t)) (some ⟨w.heap.size, 0, none⟩) 2 [l, k] := by
  subst hl hk
  have hb := (Bel.refl w).alloc (.cells #[.slice A l.length c, .slice B k.length d] t)
  refine ⟨Nat.le_refl _, (by decide : 2 ≤ maxLen), fun i hi => ?_⟩
  have hi2 : i < 2 := hi
  by_cases h0 : i = 0
  · subst h0
    refine ⟨w.heap.size, 0, [.slice A l.length c], rfl, rfl, ⟨A, c, rfl, h1.mono (IntR.mono _) hb⟩, fun j v hv => ?_⟩
    obtain rfl : j = 0 := by have := (List.getElem?_eq_some_iff.1 hv).1; simpa using this
    simp only [List.getElem?_cons_zero, Option.some.injEq] at hv
    subst hv
    exact cell_fresh w _ t 0 _ rfl
  · obtain rfl : i = 1 := by omega
    refine ⟨w.heap.size, 0, [.slice B k.length d], rfl, rfl, ⟨B, d, rfl, h2.mono (IntR.mono _) hb⟩, fun j v hv => ?_⟩
    obtain rfl : j = 0 := by have := (List.getElem?_eq_some_iff.1 hv).1; simpa using this
    simp only [List.getElem?_cons_zero, Option.some.injEq] at hv
    subst hv
    exact cell_fresh w _ t 1 _ rfl
theorem sl_imm {w : World} {A : Option Addr} {c : Nat} {L : List FnD} (h : Sl FnR 2 w A c L) : ∀ f ∈ L, ∀ i ∈ f.code, U32 i.imm := by
  intro f hf i hi
  obtain ⟨j, hj, rfl⟩ := List.mem_iff_getElem.1 hf
  obtain ⟨b, off, cs, -, -, ⟨A', c', -, hs, hw⟩, -⟩ := h.get j hj
  obtain ⟨k, hk, rfl⟩ := List.mem_iff_getElem.1 hi
  obtain ⟨b', off', cs', -, -, ⟨-, hh⟩, -⟩ := hs.get k hk
  exact hh.imm
set_option maxHeartbeats 8000000 in
set_option maxRecDepth 100000 in
theorem make_any (A : Option Addr) (c n : Nat) (L : List FnD) (base : Int) (w : World) (hL : Sl FnR 2 w A c L) (hn : Hid (L.length = n)) (ws : List Int) (er : Int) (m : Nat) (hr : Hid (imgMake L base = (ws, er))) (hm : Hid (ws.length = m)) :
    Calls Tryz.prog 22 #[.agg #[.slice A n c], .int .i64 base] w fun e w' => ∃ A' c', e = .returned (.tuple #[.slice A' m c', .int .i64 er]) ∧ Sl (IntR .u64) 1 w' A' c' ws ∧ Bel w w' := by
  have HBa := Lib.hid ((Bel.refl w).alloc (.cells #[.slice A n c] 24))
  have HS := Lib.hid (hL.mono FnR.mono HBa.out)
  have K0 := Lib.hid (One.new w 24 (.slice A n c))
  obtain ⟨mb, hmb⟩ : ∃ mb, Hid (progMay L = mb) := ⟨_, Lib.hid rfl⟩
  have HIMM := Lib.hid (sl_imm hL)
  have HRE := hr.out
  unfold imgMake at HRE
  clear hL
  go_enter Tryz.func22, Tryz.ntmps22
  go_wp2_with fail
  generalize w.alloc (.cells #[.slice A n c] 24) = W0 at *
  generalize w.heap.size = g at *
  refine (progmay_any A c n L mb _ HS.out hn hmb).mono ?_
  rintro e W1 ⟨rfl, hb⟩
  have HB1 := Lib.hid (HBa.out.trans hb)
  have HS1 := Lib.hid (HS.out.mono FnR.mono hb)
  have K1 := Lib.hid (K0.out.bel hb)
  have q0 := K1.out.cell1 rfl
  clear hb
  cases mb
  · rw [if_neg (by rw [hmb.out]; simp)] at HRE
    obtain ⟨rfl, rfl⟩ := Prod.mk.inj HRE
    obtain rfl : m = 0 := hm.out.symm
    clear HRE
    go_wp2_with fail
    go_ret2
    exact ⟨none, 0, rfl, Sl.nil _ _ _, HB1.out⟩
  by_cases hb0 : base < 0
  · rw [if_neg (by omega)] at HRE
    obtain ⟨rfl, rfl⟩ := Prod.mk.inj HRE
    obtain rfl : m = 0 := hm.out.symm
    clear HRE
    go_wp2_with fail
    go_ret2
    exact ⟨none, 0, rfl, Sl.nil _ _ _, HB1.out⟩
  obtain ⟨r, hrs⟩ : ∃ r, Hid (imgSize L = r) := ⟨_, Lib.hid rfl⟩
  have HFI := Lib.hid (fine_of hmb.out)
  have hn8 : n ≤ 8 := by rw [← hn.out]; exact HFI.out.n8
  have hn0 : 0 < n := by rw [← hn.out]; exact HFI.out.n0
  have HSZL := Lib.hid (sz_le HFI.out.c64)
  have hr520 : r ≤ 520 := by
    rw [← hrs.out]
    unfold imgSize
    rw [if_pos hmb.out, hn.out]
    have := HSZL.out n (by rw [hn.out]; exact Nat.le_refl _)
    omega
  have er1 : IntKind.i64.wrap (1024 - (r : Int)) = 1024 - (r : Int) := wrap_i64 (by omega) (by omega)
  go_wp2_with fail
  refine (size_any A c n L _ HS1.out hn r hrs).mono ?_
  rintro e W2 ⟨rfl, hb⟩
  have HB2 := Lib.hid (HB1.out.trans hb)
  have HS2 := Lib.hid (HS1.out.mono FnR.mono hb)
  have K2 := Lib.hid (K1.out.bel hb)
  have q2 := K2.out.cell1 rfl
  clear hb q0
  by_cases hbh : 1024 - (r : Int) < base
  · rw [if_neg (by rw [hrs.out]; omega)] at HRE
    obtain ⟨rfl, rfl⟩ := Prod.mk.inj HRE
    obtain rfl : m = 0 := hm.out.symm
    clear HRE
    go_wp2_with fail
    go_ret2
    exact ⟨none, 0, rfl, Sl.nil _ _ _, HB2.out⟩
  rw [if_pos ⟨hmb.out, by omega, by rw [hrs.out]; omega⟩, hn.out] at HRE
  have hb1 : 0 ≤ base := by omega
  have hb2 : base ≤ 1024 := by omega
  have en : IntKind.i64.wrap (base + (n : Int)) = base + n := wrap_i64 (by omega) (by omega)
  have HRE2 := Lib.hid HRE
  clear HRE
  obtain ⟨b, o, rfl⟩ := HS2.out.addr (by rw [hn.out]; exact hn0)
  go_wp2_with fail
  obtain ⟨base0, hbz⟩ : ∃ base0, W2.heap.size = base0 := ⟨_, rfl⟩
  have hwb : W2.heap.size ≤ base0 := Nat.le_of_eq hbz
  have HI0 : Hid (MkI W2 base0 (mkDoors L base 0) [] (.slice none 0 0) (.slice none 0 0) W2) := Lib.hid ⟨Bel.refl _, ⟨by simp [mkDoors], .inl ⟨rfl, rfl⟩⟩, ⟨by simp, .inl ⟨rfl, rfl⟩⟩, fun z hz => (by cases hz), Nat.le_of_eq hbz.symm⟩
  clear hbz hbh er1
  go_loopw [6, 7, 8, 35] (fun dv cv av kv wr => ∃ (k : Nat) (t : Int) (zs : List (List Int × Value)) (AD : Option Addr) (cD : Nat) (AC : Option Addr) (cC : Nat), kv = .int .i64 k ∧ k ≤ n ∧ dv = .slice AD k cD ∧ cv = .slice AC k cC ∧ av = .int .i64 t ∧ Hid (atOf L base k = t) ∧ Hid (mkCodes L base k = some (zs.map Prod.fst)) ∧ Hid (zs.length = k) ∧ Hid (MkI W2 base0 (mkDoors L base k) zs (.slice AD k cD) (.slice AC k cC) wr)) (fun _ _ _ kv _ => n - (intOf kv).toNat)
  case atStart => exact ⟨0, base + n, [], none, 0, none, 0, rfl, Nat.zero_le _, rfl, rfl, rfl, Lib.hid (by unfold atOf; rw [hn.out]; simp [sz]), Lib.hid rfl, Lib.hid rfl, HI0⟩
  case round =>
    clear HI0
    obtain ⟨k, t, zs, AD, cD, AC, cC, rfl, hkn, rfl, rfl, rfl, hat, HMC, HZL, HI⟩ := hrel
    have HBr := Lib.hid (HB2.out.trans HI.out.bel)
    by_cases hke : k = n
    · subst hke
      have hre := HRE2.out
      rw [HMC.out] at hre
      obtain ⟨hws, rfl⟩ := Prod.mk.inj hre
      obtain ⟨a1, a2, a3, a4⟩ := mkCodes_all HIMM.out k _ (by rw [hn.out]; exact Nat.le_refl _) HMC.out
      obtain ⟨css, hcss⟩ : ∃ css, Hid (zs.map Prod.fst = css) := ⟨_, Lib.hid rfl⟩
      rw [hcss.out] at a1 a2 a3 a4 hws
      obtain ⟨AE, cE, e1, HSP⟩ := HI.out.parts (by rw [hcss.out]; exact a4)
      rw [HZL.out] at e1
      rw [hcss.out] at HSP
      simp only [Value.slice.injEq, true_and] at e1
      obtain ⟨rfl, rfl⟩ := e1
      have hdl := mkDoors_len L base k
      obtain ⟨AF, cF, e1, HSD⟩ := sl_ownI HI.out.d (fun x hx => wf_u64R (mkDoors_rng L base k x hx))
      rw [hdl] at e1
      simp only [Value.slice.injEq, true_and] at e1
      obtain ⟨rfl, rfl⟩ := e1
      obtain ⟨q, hq⟩ : ∃ q, Hid (css.flatten.length = q) := ⟨_, Lib.hid rfl⟩
      have hsz := HSZL.out k (by rw [hn.out]; exact Nat.le_refl _)
      have hq5 : q ≤ 512 := by rw [← hq.out, a2]; omega
      have HC0 : Hid (∀ c ∈ css, 0 < c.length) := Lib.hid (fun c hc => by
        obtain ⟨j, hj, rfl⟩ := List.mem_iff_getElem.1 hc
        have hjL : j < L.length := by rw [hn.out]; omega
        rw [a3 j hj hjL]
        exact HFI.out.c0 _ (List.getElem_mem hjL))
      have hq0 : 0 < q := by
        rw [← hq.out]
        have hm := List.getElem_mem (l := css) (show 0 < css.length by omega)
        have h1 := HC0.out _ hm
        have h2 := flat_take_le css 1
        rw [flat_take css (by omega)] at h2
        simp only [List.take_zero, List.flatten_nil, List.nil_append] at h2
        omega
      have HSP := Lib.hid HSP
      have HSD := Lib.hid HSD
      have HA4 := Lib.hid a4
      have HWS := Lib.hid hws
      have HCL := Lib.hid a1
      have HDL := Lib.hid hdl
      clear hre a1 a2 a3 a4 hws hdl hsz HRE2
      go_wp2_with fail
      refine (imjoin_any AC cC k css wr HSP.out HCL HC0 (Lib.hid (by rw [hq.out]; omega)) HA4 q hq).mono ?_
      rintro e w5 ⟨A5, c5, rfl, s5, hb5⟩
      have hbx := (Bel.refl w5).alloc (.cells #[.slice AD k cD, .slice A5 q c5] 74)
      have H2 := Lib.hid (ws_two w5 74 AD A5 k q cD c5 (mkDoors L base k) css.flatten HDL.out hq.out (HSD.out.mono (IntR.mono _) hb5) s5)
      have HB5 := Lib.hid (HBr.out.trans (hb5.trans hbx))
      clear s5 hb5 hbx
      go_wp2_with fail
      have hfl : [mkDoors L base k, css.flatten].flatten = ws := by rw [← HWS.out]; simp
      refine (imjoin_any (some ⟨w5.heap.size, 0, none⟩) 2 2 [mkDoors L base k, css.flatten] _ H2.out (Lib.hid rfl) (Lib.hid (fun p hp => by
        rcases List.mem_cons.1 hp with rfl | hp
        · rw [HDL.out]; exact hn0
        · obtain rfl := List.mem_singleton.1 hp
          rw [hq.out]; exact hq0)) (Lib.hid (by rw [hfl, ← HWS.out, List.length_append, HDL.out, hq.out]; omega)) (Lib.hid (fun p hp x hx => by
        rcases List.mem_cons.1 hp with rfl | hp
        · exact mkDoors_rng L base k x hx
        · obtain rfl := List.mem_singleton.1 hp
          obtain ⟨c, hc, hxc⟩ := List.mem_flatten.1 hx
          exact HA4.out c hc x hxc)) m (Lib.hid (by rw [hfl, hm.out]))).mono ?_
      rintro e w6 ⟨A6, c6, rfl, s6, hb6⟩
      rw [hfl] at s6
      have S6 := Lib.hid s6
      have HB6 := Lib.hid (HB5.out.trans hb6)
      clear s6 hb6 hfl
      go_wp2_with fail
      go_ret2
      exact ⟨A6, c6, rfl, S6.out, HB6.out⟩
    · have hk1 : k < n := by omega
      have hk2 : (k : Int) < n := by omega
      have k0 : 0 ≤ (k : Int) := by omega
      have ek : IntKind.i64.wrap ((k : Int) + 1) = (k : Int) + 1 := wrap_i64 (by omega) (by omega)
      have hkL : k < L.length := by rw [hn.out]; exact hk1
      have hsr := HS2.out.mono FnR.mono HI.out.bel
      obtain ⟨Ak, ck, d0, d1, hsk⟩ := fn_cells hsr k hkL
      obtain ⟨l, hl⟩ : ∃ l, Hid ((L[k]).code = l) := ⟨_, Lib.hid rfl⟩
      obtain ⟨ak, hak⟩ : ∃ ak, (L[k]).args = ak := ⟨_, rfl⟩
      obtain ⟨ml, hml⟩ : ∃ ml, Hid (l.length = ml) := ⟨_, Lib.hid rfl⟩
      have h64 := HFI.out.c64 _ (List.getElem_mem hkL)
      have hok := HFI.out.ok k hkL
      rw [hak] at d0
      rw [hl.out] at d1 h64 hok
      rw [hml.out] at d1 h64
      have HOK := Lib.hid hok
      have q3 := (K2.out.bel HI.out.bel).cell1 rfl
      have ht : 0 ≤ t ∧ t ≤ 2000 := by
        have h1 := hat.out
        unfold atOf at h1
        rw [hn.out] at h1
        have h2 := HSZL.out k (by rw [hn.out]; exact hkn)
        omega
      have et : IntKind.i64.wrap (t + (ml : Int)) = t + ml := wrap_i64 (by omega) (by omega)
      have HAT : Hid (atOf L base (k + 1) = t + ml) := Lib.hid (by
        rw [← hat.out]
        unfold atOf
        rw [sz, code_nth hkL, hl.out, hml.out]
        omega)
      have hbF := (Bel.refl wr).alloc (.cells #[.int .i64 ak, .slice Ak ml ck] 73)
      have HIF := Lib.hid (HI.out.mono hbF)
      have HSF := Lib.hid (hsr.mono FnR.mono hbF)
      have KF : Hid ((wr.alloc (.cells #[.int .i64 ak, .slice Ak ml ck] 73)).heap[wr.heap.size]? = some (.cells #[.int .i64 ak, .slice Ak ml ck] 73 (0, 0))) := Lib.hid (Go.MapKept.heap_alloc wr _).1
      have b3 := World.block_lt_of_cell? _ _ q3
      simp only at b3
      have HBF := Lib.hid (HBr.out.trans hbF)
      obtain ⟨rk, hrk⟩ : ∃ rk, Hid (imgCode n l base t l.length = rk) := ⟨_, Lib.hid rfl⟩
      have HSTEP : Hid (mkCodes L base (k + 1) = rk.bind fun c => some (zs.map Prod.fst ++ [c])) := Lib.hid (by
        rw [mkCodes, HMC.out, code_nth hkL, hl.out, hn.out, hat.out, hrk.out]
        rfl)
      clear hsk hsr hok hke hak hbF
      go_wp2_with fail
      refine (code_any _ c n L k base t _ HSF.out hn hn8 hkL l hl HOK ml hml h64 ⟨hb1, by omega⟩ ⟨ht.1, by omega⟩ rk hrk).mono ?_
      rintro e wB ⟨hcase, hbB⟩
      have HIB := Lib.hid (HIF.out.mono hbB)
      have HBB := Lib.hid (HBF.out.trans hbB)
      have KFB := Lib.hid ((hbB.out.block _ (Array.getElem?_eq_some_iff.1 KF.out).1).trans KF.out)
      have f1 := hbB.cell (cell_fresh wr #[.int .i64 ak, .slice Ak ml ck] 73 1 _ rfl)
      rcases hcase with ⟨rfl, rfl⟩ | ⟨wk, A', c', rfl, hwl, rfl, hown⟩
      · have hre := HRE2.out
        rw [mkCodes_none (k := k + 1) HSTEP.out n (by omega)] at hre
        obtain ⟨rfl, rfl⟩ := Prod.mk.inj hre
        obtain rfl : m = 0 := hm.out.symm
        clear hre hbB
        go_wp2_with fail
        go_ret2
        exact ⟨none, 0, rfl, Sl.nil _ _ _, HBB.out⟩
      have HWK := Lib.hid hown
      have HWL := Lib.hid hwl
      have HZD : Hid ((Value.slice A' ml c').ownBlock ≠ none → (Value.slice A' ml c').ownBlock ≠ (Value.slice AD k cD).ownBlock) := Lib.hid (fun h0 e => by
        rcases hown.2 with ⟨e2, _⟩ | ⟨g', cap, cur, e2, h1, h2, _⟩
        · exact h0 (by rw [e2]; rfl)
        · have := own_ltI HIF.out.d (k := g') (by rw [← e, e2]; rfl)
          omega)
      have HBAS : Hid (base0 ≤ (wr.alloc (.cells #[.int .i64 ak, .slice Ak ml ck] 73)).heap.size) := Lib.hid HIF.out.sz
      obtain ⟨dv, ev, hdv⟩ : ∃ dv ev, Hid (wput 1 0 0 0 false 0 0 t = (dv, ev)) := ⟨_, _, Lib.hid rfl⟩
      clear hown hwl hbB
      go_wp2_with fail
      refine (door_any t dv ev _ hdv).mono ?_
      rintro e wC ⟨rfl, hbC⟩
      have hxC := (Bel.refl wC).alloc (.cells #[.int .u64 dv] 133)
      have HIC := Lib.hid (HIB.out.mono (hbC.trans hxC))
      have HWC := Lib.hid (own_mono (own_belI HWK.out (hbC.trans hxC)) HBAS.out)
      have HBC := Lib.hid (HBB.out.trans (hbC.trans hxC))
      have f2 := hxC.cell (hbC.cell f1)
      have HOD : Hid ((wC.alloc (.cells #[.int .u64 dv] 133)).ownsRow base0 133 1 (.slice AD k cD) k ((mkDoors L base k).map (Value.int .u64))) := Lib.hid (by
        have := HIC.out.d
        rwa [mkDoors_len] at this)
      have HN1 : Hid (∀ j u, [Value.int .u64 dv][j]? = some u → (wC.alloc (.cells #[.int .u64 dv] 133)).cell? ((⟨wC.heap.size, 0, none⟩ : Addr).add j) = some u) := Lib.hid (cell_one_new _ _ _)
      have hszC := HIC.out.sz
      have HMK : Hid (mkDoors L base (k + 1) = mkDoors L base k ++ [dv]) := Lib.hid (by rw [mkDoors, hat.out, hdv.out])
      have KF2 := Lib.hid (hxC.out.block _ (Array.getElem?_eq_some_iff.1 (hbC.out.block _ (Array.getElem?_eq_some_iff.1 (KFB.out)).1 |>.trans KFB.out)).1 |>.trans (hbC.out.block _ (Array.getElem?_eq_some_iff.1 (KFB.out)).1 |>.trans KFB.out))
      have HDN : Hid (some wr.heap.size ≠ (Value.slice AD k cD).ownBlock) := Lib.hid (fun e => by have := own_ltI HI.out.d e.symm; omega)
      have HCN : Hid (some wr.heap.size ≠ (Value.slice AC k cC).ownBlock) := Lib.hid (fun e => by have := own_ltI HI.out.c e.symm; omega)
      clear f1 f2 hbC hxC
      go_wp2_with (first | (show wpList _ _ _ ({ dst := _, op := .call { callee := .builtin .append, args := _, argTypes := _ }, type := _, pos := _, after := _, guard := none } :: _) _ _; refine at_append base0 133 (.int .u64 0) 1 8 Tryz.underlying74 info_u64 rfl (by decide) (.slice AD k cD) k ((mkDoors L base k).map (Value.int .u64)) (by rfl) HOD.out ⟨wC.heap.size, 0, none⟩ 1 1 [.int .u64 dv] (by rfl) rfl HN1.out (by simp [Value.oneCell']) (by simp only [maxLen]; omega) (by omega) hszC W2 hwb HIC.out.bel rfl ?_; intro v8 w8 o8 g8 b8 at8; have HI8 := Lib.hid (HIC.out.door (v := dv) hwb o8 (by rw [mkDoors_len]) g8 at8); have KF8 := Lib.hid ((g8.block _ (Array.getElem?_eq_some_iff.1 KF2.out).1 HDN.out).trans KF2.out); have HW8 := Lib.hid (own_grownN HWC.out HZD.out g8); have HZ8 : Hid ((Value.slice A' ml c').ownBlock ≠ none → (Value.slice A' ml c').ownBlock ≠ v8.ownBlock) := Lib.hid (fun h0 e => at8.elim (fun h => HZD.out h0 (e.trans h)) (fun h => absurd (own_ltI HWC.out (e.trans h)) (Nat.lt_irrefl _))); obtain ⟨g9, c9, rfl⟩ := own_formI o8; have hx9 := (Bel.refl w8).alloc (.cells #[.slice A' ml c'] 74); have HI9 := Lib.hid (HI8.out.mono hx9); have KF9 := Lib.hid ((hx9.out.block _ (Array.getElem?_eq_some_iff.1 KF8.out).1).trans KF8.out); have HW9 := Lib.hid (own_belI HW8.out hx9); have HOC9 : Hid ((w8.alloc (.cells #[.slice A' ml c'] 74)).ownsRow base0 74 1 (.slice AC k cC) k (zs.flatMap wsc)) := Lib.hid (by have := HI9.out.c; rwa [HZL.out] at this); have HN9 : Hid (∀ j u, [Value.slice A' ml c'][j]? = some u → (w8.alloc (.cells #[.slice A' ml c'] 74)).cell? ((⟨w8.heap.size, 0, none⟩ : Addr).add j) = some u) := Lib.hid (cell_one_new _ _ _); have hsz9 := HI9.out.sz; clear o8 g8 b8 at8 hx9) | (show wpList _ _ _ ({ dst := _, op := .call { callee := .builtin .append, args := _, argTypes := _ }, type := _, pos := _, after := _, guard := none } :: _) _ _; refine at_append base0 74 (.slice none 0 0) 1 24 Tryz.underlying136 info_u64s rfl (by decide) (.slice AC k cC) k (zs.flatMap wsc) (by rfl) HOC9.out ⟨w8.heap.size, 0, none⟩ 1 1 [.slice A' ml c'] (by rfl) rfl HN9.out (by simp [Value.oneCell']) (by simp only [maxLen]; omega) (by omega) hsz9 W2 hwb HI9.out.bel rfl ?_; intro v10 w10 o10 g10 b10 at10; have HI10 := Lib.hid (HI9.out.code (z := (wk, .slice A' ml c')) hwb (by rw [HWL.out]; exact HW9.out) HZ8.out o10 (by rw [HZL.out]) g10); have KF10 := (g10.block _ (Array.getElem?_eq_some_iff.1 KF9.out).1 HCN.out).trans KF9.out; have f10 : w10.cell? ⟨wr.heap.size, 1, none⟩ = some (.slice Ak ml ck) := (by simp [World.cell?, KF10]); obtain ⟨g11, c11, rfl⟩ := own_formI o10; clear o10 g10 b10 at10 KF10))
      go_wp2
      go_roundw
      case rel => exact ⟨k + 1, t + ml, zs ++ [(wk, .slice A' ml c')], _, c9, _, c11, by simp, by omega, rfl, rfl, rfl, HAT, Lib.hid (by rw [HSTEP.out, List.map_append]; rfl), Lib.hid (by rw [List.length_append, HZL.out]; rfl), Lib.hid (by rw [HMK.out]; exact HI10.out)⟩
      case measure => simp [intOf]; omega
end Go.Proofs.YtebdnobgdimdoaaGreat
set_option linter.unusedVariables false
set_option linter.unusedSimpArgs false
namespace Go.Proofs.YtebdnobgdimdoaaGreat
open Go.RowKit
/-- An image's words, wherever it lies: instructions, and how far from the image's beginning they go. -/
def goes (i : InstD) : Prop := i.op = 1 ∨ i.op = 6
instance (i : InstD) : Decidable (goes i) := inferInstanceAs (Decidable (_ ∨ _))
def dlt (d : Int) (k : Nat) (i : InstD) : Int := if i.op = 1 then d + k + i.off + 1 else i.imm
def doorI : InstD := ⟨1, 0, 0, 0, false, 0, 0⟩
def dDoors (L : List FnD) : Nat → List (InstD × Int)
  | 0 => []
  | k + 1 => dDoors L k ++ [(doorI, (L.length : Int) + sz L k)]
def dCode (d : Int) (l : List InstD) : Nat → List (InstD × Int)
  | 0 => []
  | k + 1 => dCode d l k ++ [(l[k]!, dlt d k l[k]!)]
def dCodes (L : List FnD) : Nat → List (InstD × Int)
  | 0 => []
  | k + 1 => dCodes L k ++ dCode ((L.length : Int) + sz L k) ((L.map FnD.code)[k]!) ((L.map FnD.code)[k]!).length
def desc (L : List FnD) : List (InstD × Int) := dDoors L L.length ++ dCodes L L.length
def wordTo (base : Int) (p : InstD × Int) : Int := if goes p.1 then base + p.2 else 0
def wordAt (base : Int) (p : InstD × Int) : Int := (wputD p.1 (wordTo base p)).1
theorem door_ok : doorI.okB = true := by decide +kernel
/-- What may be a word. -/
structure Wok (len : Int) (p : InstD × Int) : Prop where
  ok : p.1.okB = true
  imm : U32 p.1.imm
  goes : goes p.1 → 0 ≤ p.2 ∧ p.2 < len
theorem doors_desc (L : List FnD) (base : Int) : ∀ k, mkDoors L base k = (dDoors L k).map (wordAt base)
  | 0 => rfl
  | k + 1 => by
    rw [mkDoors, dDoors, List.map_append, doors_desc L base k, List.map_singleton]
    congr 2
    unfold wordAt wordTo atOf
    rw [if_pos (show goes doorI from .inl rfl), Int.add_assoc]
    rfl
theorem dDoors_len (L : List FnD) : ∀ k, (dDoors L k).length = k
  | 0 => rfl
  | k + 1 => by rw [dDoors, List.length_append, dDoors_len L k]; rfl
theorem dDoors_get (L : List FnD) : ∀ (n k : Nat) (h : k < (dDoors L n).length), (dDoors L n)[k] = (doorI, (L.length : Int) + sz L k)
  | 0, k, h => by simp [dDoors] at h
  | n + 1, k, h => by
    have hl := dDoors_len L n
    unfold dDoors
    by_cases hk : k < n
    · rw [List.getElem_append_left (by omega)]
      exact dDoors_get L n k (by omega)
    · obtain rfl : k = n := by
        rw [dDoors, List.length_append, hl] at h
        simp at h
        omega
      rw [List.getElem_append_right (by omega)]
      simp [hl]
theorem goTo_word (n m : Nat) (base d : Int) (k : Nat) (i : InstD) : (goTo n m base (base + d) k i).1 = wordTo base (i, dlt d k i) := by
  by_cases h1 : i.op = 1
  · simp only [goTo, wordTo, goes, dlt, h1, true_or, if_true]
    omega
  · by_cases h6 : i.op = 6
    · simp [goTo, wordTo, goes, dlt, h6]
    · simp [goTo, wordTo, goes, dlt, h1, h6]
theorem code_desc {n : Nat} {l : List InstD} {base d : Int} (hok : ∀ k, k < l.length → (l[k]!).okB = true) (hi : ∀ i ∈ l, U32 i.imm) (hd : 0 ≤ d) (len : Int) (hn : (n : Int) ≤ len) (hl : d + l.length ≤ len) : ∀ (k : Nat) (ws : List Int), k ≤ l.length → imgCode n l base (base + d) k = some ws → ws = (dCode d l k).map (wordAt base) ∧ ∀ p ∈ dCode d l k, Wok len p
  | 0, ws, _, h => by
    simp only [imgCode, Option.some.injEq] at h
    subst h
    exact ⟨rfl, fun p hp => (by cases hp)⟩
  | k + 1, ws, hk, h => by
    rw [imgCode, Option.bind_eq_some_iff] at h
    obtain ⟨ws', h1, h2⟩ := h
    obtain ⟨e1, e2⟩ := code_desc hok hi hd len hn hl k ws' (by omega) h1
    have hkl : k < l.length := by omega
    have ho := hok k hkl
    have him : U32 (l[k]!).imm := by rw [getElem!_pos l k hkl]; exact hi _ (List.getElem_mem hkl)
    have hoff := off_rng ho
    split at h2
    · rename_i hg
      simp only [Option.some.injEq] at h2
      subst h2
      have hto := goTo_word n l.length base d k l[k]!
      refine ⟨?_, fun p hp => ?_⟩
      · rw [dCode, List.map_append, ← e1, List.map_singleton, hto]
        rfl
      · rcases List.mem_append.1 hp with hp | hp
        · exact e2 p hp
        · obtain rfl := List.mem_singleton.1 hp
          refine ⟨ho, him, fun hgo => ?_⟩
          show 0 ≤ dlt d k l[k]! ∧ dlt d k l[k]! < len
          by_cases h1 : (l[k]!).op = 1
          · unfold goTo at hg
            unfold dlt
            rw [if_pos h1] at hg ⊢
            have hg2 := of_decide_eq_true hg
            omega
          · have h6 : (l[k]!).op = 6 := hgo.resolve_left h1
            have := him.lo
            unfold goTo at hg
            unfold dlt
            rw [if_neg h1, if_pos h6] at hg
            rw [if_neg h1]
            have hg2 := of_decide_eq_true hg
            omega
    · cases h2
theorem dCode_len (d : Int) (l : List InstD) : ∀ k, (dCode d l k).length = k
  | 0 => rfl
  | k + 1 => by rw [dCode, List.length_append, dCode_len d l k]; rfl
theorem dCodes_len (L : List FnD) : ∀ k, (dCodes L k).length = sz L k
  | 0 => rfl
  | k + 1 => by rw [dCodes, List.length_append, dCodes_len L k, dCode_len, sz]
theorem sz_mono (L : List FnD) : ∀ {k m : Nat}, k ≤ m → sz L k ≤ sz L m := by
  intro k m h
  induction m with
  | zero => obtain rfl : k = 0 := by omega
            exact Nat.le_refl _
  | succ m ih =>
    by_cases e : k = m + 1
    · subst e; exact Nat.le_refl _
    · have := ih (by omega)
      rw [sz]
      omega
theorem codes_desc {L : List FnD} {base : Int} (hf : Fine L) (hi : ∀ f ∈ L, ∀ i ∈ f.code, U32 i.imm) : ∀ (k : Nat) (cs : List (List Int)), k ≤ L.length → mkCodes L base k = some cs → cs.flatten = (dCodes L k).map (wordAt base) ∧ ∀ p ∈ dCodes L k, Wok ((L.length : Int) + sz L L.length) p
  | 0, cs, _, h => by
    simp only [mkCodes, Option.some.injEq] at h
    subst h
    exact ⟨rfl, fun p hp => (by cases hp)⟩
  | k + 1, cs, hk, h => by
    rw [mkCodes, Option.bind_eq_some_iff] at h
    obtain ⟨cs', h1, h2⟩ := h
    rw [Option.bind_eq_some_iff] at h2
    obtain ⟨c, h3, h4⟩ := h2
    simp only [Option.some.injEq] at h4
    subst h4
    obtain ⟨e1, e2⟩ := codes_desc hf hi k cs' (by omega) h1
    have hkL : k < L.length := by omega
    have hm := sz_mono L (show k + 1 ≤ L.length by omega)
    rw [sz, code_nth hkL] at hm
    have hat : atOf L base k = base + ((L.length : Int) + sz L k) := by unfold atOf; omega
    rw [code_nth hkL, hat] at h3
    obtain ⟨f1, f2⟩ := code_desc (n := L.length) (l := (L[k]).code) (base := base) (d := (L.length : Int) + sz L k) (fun j hj => hf.ok k hkL j hj) (hi _ (List.getElem_mem hkL)) (by omega) ((L.length : Int) + sz L L.length) (by omega) (by omega) _ c (Nat.le_refl _) h3
    rw [dCodes, code_nth hkL]
    refine ⟨?_, fun p hp => ?_⟩
    · rw [List.flatten_append, List.map_append, e1, ← f1]
      simp
    · rcases List.mem_append.1 hp with hp | hp
      · exact e2 p hp
      · exact f2 p hp
/-- The words of an image that is made. -/
theorem make_ok {L : List FnD} {base : Int} {ws : List Int} (hi : ∀ f ∈ L, ∀ i ∈ f.code, U32 i.imm) (h : imgMake L base = (ws, 0)) : progMay L = true ∧ 0 ≤ base ∧ base + imgSize L ≤ 1024 ∧ ws = (desc L).map (wordAt base) ∧ (desc L).length = imgSize L ∧ ∀ p ∈ desc L, Wok (imgSize L) p := by
  unfold imgMake at h
  split at h
  · rename_i hc
    obtain ⟨hm, h0, h1⟩ := hc
    have hs : imgSize L = L.length + sz L L.length := by unfold imgSize; rw [if_pos hm]
    have hf := fine_of hm
    split at h
    · simp at h
    · rename_i cs hcs
      obtain ⟨hws, -⟩ := Prod.mk.inj h
      obtain ⟨e1, e2⟩ := codes_desc hf hi L.length cs (Nat.le_refl _) hcs
      refine ⟨hm, h0, h1, ?_, ?_, fun p hp => ?_⟩
      · rw [← hws, doors_desc, e1, desc, List.map_append]
      · rw [desc, List.length_append, dDoors_len, dCodes_len, hs]
      · rcases List.mem_append.1 hp with hp | hp
        · obtain ⟨j, hj, rfl⟩ := List.mem_iff_getElem.1 hp
          rw [dDoors_get]
          rw [dDoors_len] at hj
          refine ⟨door_ok, u32_lit 0 (by decide), fun _ => ?_⟩
          have hm2 := sz_mono L (show j + 1 ≤ L.length by omega)
          rw [sz, code_nth hj] at hm2
          have hc0 := hf.c0 _ (List.getElem_mem hj)
          rw [hs]
          simp only
          omega
        · have := e2 p hp
          rw [hs]
          exact ⟨this.ok, this.imm, by have := this.goes; intro hg; have := this hg; omega⟩
  · simp at h
def normI (i : InstD) : InstD := ⟨i.op, i.fn, i.dst, i.src, i.reg, 0, if i.op = 6 then 0 else i.imm⟩
theorem word_get {base : Int} {s : Nat} {p : InstD × Int} (hb : 0 ≤ base) (hs : base + s ≤ 1024) (h : Wok s p) : wget (wordAt base p) = (normI p.1, wordTo base p, 0) ∧ 0 ≤ wordAt base p ∧ wordAt base p < 18446744073709551616 := by
  have hto : 0 ≤ wordTo base p ∧ wordTo base p ≤ 1023 ∧ (0 < wordTo base p → p.1.op = 1 ∨ p.1.op = 6) := by
    unfold wordTo
    by_cases hg : goes p.1
    · rw [if_pos hg]
      have := h.goes hg
      exact ⟨by omega, by omega, fun _ => hg⟩
    · rw [if_neg hg]
      exact ⟨by omega, by omega, fun h => by omega⟩
  obtain ⟨v, hv⟩ : ∃ v, wput p.1.op p.1.fn p.1.dst p.1.src p.1.reg p.1.off p.1.imm (wordTo base p) = (v, 0) := ⟨wordI (codeN p.1.op p.1.fn p.1.reg) p.1.dst p.1.src (wordTo base p) (if p.1.op = 6 then 0 else p.1.imm), if_pos ⟨h.ok, hto⟩⟩
  have e : wordAt base p = v := by unfold wordAt wputD; rw [hv]
  have := wget_wput h.imm hv
  rw [e]
  refine ⟨this.1, this.2.1, ?_⟩
  have := this.2.2
  omega
end Go.Proofs.YtebdnobgdimdoaaGreat
set_option linter.unusedVariables false
set_option linter.unusedSimpArgs false
namespace Go.Proofs.YtebdnobgdimdoaaGreat
open Go.RowKit
def awI0 : InstD := ⟨0, 0, 0, 0, false, 0, 5⟩
def awI1 : InstD := ⟨7, 0, 0, 0, false, 0, 0⟩
def awP : List FnD := [⟨0, [awI0, awI1]⟩]
theorem aw_make : imgMake awP 10 = ([(wput 1 0 0 0 false 0 0 11).1, 5, (wput 7 0 0 0 false 0 0 0).1], 0) := by decide +kernel
theorem aw_size : imgSize awP = 3 := by decide +kernel
theorem awI0_wf : awI0.Wf := ⟨by constructor <;> decide, by constructor <;> decide, by constructor <;> decide, by constructor <;> decide, by constructor <;> decide, by constructor <;> decide⟩
theorem awI1_wf : awI1.Wf := ⟨by constructor <;> decide, by constructor <;> decide, by constructor <;> decide, by constructor <;> decide, by constructor <;> decide, by constructor <;> decide⟩
theorem aw_insts (w : World) : Sl InstR 7 (w.alloc (.cells #[.int .i64 0, .int .i64 0, .int .i64 0, .int .i64 0, .bool false, .int .i64 0, .int .u32 5, .int .i64 7, .int .i64 0, .int .i64 0, .int .i64 0, .bool false, .int .i64 0, .int .u32 0] 95)) (some ⟨w.heap.size, 0, none⟩) 2 [awI0, awI1] := by
  refine ⟨Nat.le_refl _, (by decide : 2 ≤ maxLen), fun i hi => ?_⟩
  have hi2 : i < 2 := hi
  by_cases h0 : i = 0
  · subst h0
    refine ⟨w.heap.size, 0, awI0.cells, rfl, rfl, ⟨rfl, awI0_wf⟩, fun j v hv => ?_⟩
    have hj : j < 7 := (List.getElem?_eq_some_iff.1 hv).1
    rw [show 0 + 0 * 7 + j = j by omega]
    refine cell_fresh w _ _ j v ?_
    match j, hj with
    | 0, _ => exact hv
    | 1, _ => exact hv
    | 2, _ => exact hv
    | 3, _ => exact hv
    | 4, _ => exact hv
    | 5, _ => exact hv
    | 6, _ => exact hv
  · obtain rfl : i = 1 := by omega
    refine ⟨w.heap.size, 0, awI1.cells, rfl, rfl, ⟨rfl, awI1_wf⟩, fun j v hv => ?_⟩
    have hj : j < 7 := (List.getElem?_eq_some_iff.1 hv).1
    rw [show 0 + 1 * 7 + j = 7 + j by omega]
    refine cell_fresh w _ _ (7 + j) v ?_
    match j, hj with
    | 0, _ => exact hv
    | 1, _ => exact hv
    | 2, _ => exact hv
    | 3, _ => exact hv
    | 4, _ => exact hv
    | 5, _ => exact hv
    | 6, _ => exact hv
theorem aw_sl (w : World) : Sl FnR 2 ((w.alloc (.cells #[.int .i64 0, .int .i64 0, .int .i64 0, .int .i64 0, .bool false, .int .i64 0, .int .u32 5, .int .i64 7, .int .i64 0, .int .i64 0, .int .i64 0, .bool false, .int .i64 0, .int .u32 0] 95)).alloc (.cells #[.int .i64 0, .slice (some ⟨w.heap.size, 0, none⟩) 2 2] 73)) (some ⟨w.heap.size + 1, 0, none⟩) 1 awP := by
  have hs := aw_insts w
  have hz : w.heap.size + 1 = (w.alloc (.cells #[.int .i64 0, .int .i64 0, .int .i64 0, .int .i64 0, .bool false, .int .i64 0, .int .u32 5, .int .i64 7, .int .i64 0, .int .i64 0, .int .i64 0, .bool false, .int .i64 0, .int .u32 0] 95)).heap.size := by simp
  rw [hz]
  exact ⟨Nat.le_refl _, (by decide : 1 ≤ maxLen), fun i hi => by
    obtain rfl : i = 0 := by simpa [awP] using hi
    refine ⟨_, 0, [.int .i64 0, .slice (some ⟨w.heap.size, 0, none⟩) 2 2], rfl, rfl, ⟨_, 2, rfl, hs.mono InstR.mono ((Bel.refl _).alloc _), (by decide : (Lit.int .i64 0).wf = true)⟩, fun j v hv => ?_⟩
    rw [show 0 + 0 * 2 + j = j by omega]
    exact cell_fresh _ _ _ j v (by simpa using hv)⟩
set_option maxHeartbeats 2000000 in
set_option maxRecDepth 100000 in
theorem awake_any (w : World) : Calls Tryz.prog 21 #[] w fun e w' => e = .returned (.bool true) ∧ Bel w w' := by
  have HB0 := Lib.hid ((((Bel.refl w).alloc (.cells #[.int .i64 0, .int .i64 0, .int .i64 0, .int .i64 0, .bool false, .int .i64 0, .int .u32 5, .int .i64 7, .int .i64 0, .int .i64 0, .int .i64 0, .bool false, .int .i64 0, .int .u32 0] 95)).alloc (.cells #[.int .i64 0, .slice (some ⟨w.heap.size, 0, none⟩) 2 2] 73)).alloc (.cells #[.slice (some ⟨w.heap.size + 1, 0, none⟩) 1 1] 24))
  have HS := Lib.hid ((aw_sl w).mono FnR.mono ((Bel.refl _).alloc (.cells #[.slice (some ⟨w.heap.size + 1, 0, none⟩) 1 1] 24)))
  have KP := Lib.hid (One.new ((w.alloc (.cells #[.int .i64 0, .int .i64 0, .int .i64 0, .int .i64 0, .bool false, .int .i64 0, .int .u32 5, .int .i64 7, .int .i64 0, .int .i64 0, .int .i64 0, .bool false, .int .i64 0, .int .u32 0] 95)).alloc (.cells #[.int .i64 0, .slice (some ⟨w.heap.size, 0, none⟩) 2 2] 73)) 24 (.slice (some ⟨w.heap.size + 1, 0, none⟩) 1 1))
  rw [World.size_alloc, World.size_alloc] at KP
  obtain ⟨v0, hv0⟩ : ∃ v0, Hid (wput 1 0 0 0 false 0 0 11 = (v0, 0)) := ⟨_, Lib.hid rfl⟩
  obtain ⟨v2, hv2⟩ : ∃ v2, Hid ((wput 7 0 0 0 false 0 0 0).1 = v2) := ⟨_, Lib.hid rfl⟩
  have HM : Hid (imgMake awP 10 = ([v0, 5, v2], 0)) := Lib.hid (by rw [aw_make, hv0.out, hv2.out])
  go_enter Tryz.func21, Tryz.ntmps21
  go_wp2_with fail
  generalize ((w.alloc (.cells #[.int .i64 0, .int .i64 0, .int .i64 0, .int .i64 0, .bool false, .int .i64 0, .int .u32 5, .int .i64 7, .int .i64 0, .int .i64 0, .int .i64 0, .bool false, .int .i64 0, .int .u32 0] 95)).alloc (.cells #[.int .i64 0, .slice (some ⟨w.heap.size, 0, none⟩) 2 2] 73)).alloc (.cells #[.slice (some ⟨w.heap.size + 1, 0, none⟩) 1 1] 24) = W0 at *
  refine (make_any _ 1 1 awP 10 _ HS.out (Lib.hid rfl) [v0, 5, v2] 0 3 HM (Lib.hid rfl)).mono ?_
  rintro e w1 ⟨A1, c1, rfl, s1, hb1⟩
  have HB1 := Lib.hid (HB0.out.trans hb1)
  have S1 := Lib.hid s1
  have HS1 := Lib.hid (HS.out.mono FnR.mono hb1)
  have KP1 := Lib.hid (KP.out.bel hb1)
  clear s1 hb1
  go_wp2_with fail
  refine (put_at 1 0 0 0 false 0 0 11 v0 0 _ (u32_lit 0 (by decide)) hv0).mono ?_
  rintro e w2 ⟨rfl, hb2⟩
  have HB2 := Lib.hid (HB1.out.trans hb2)
  have HS2 := Lib.hid (HS1.out.mono FnR.mono hb2)
  have q2 := (KP1.out.bel hb2).cell1 rfl
  obtain ⟨b, o, rfl, hc⟩ := (S1.out.mono (IntR.mono _) hb2).int_cell (by simp)
  have d0 := (hc 0 (by simp)).1
  have d1 := (hc 1 (by simp)).1
  rw [Nat.add_zero] at d0
  simp only [List.getD_cons_zero, List.getD_cons_succ] at d0 d1
  clear hc hb2
  go_wp2_with fail
  refine (size_any _ 1 1 awP _ HS2.out (Lib.hid rfl) 3 (Lib.hid aw_size)).mono ?_
  rintro e w3 ⟨rfl, hb3⟩
  go_wp2_with fail
  go_ret
  exact ⟨by first | rfl | simp, HB2.out.trans hb3⟩
end Go.Proofs.YtebdnobgdimdoaaGreat
