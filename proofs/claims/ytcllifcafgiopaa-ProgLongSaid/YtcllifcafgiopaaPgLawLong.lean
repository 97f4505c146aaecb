/- ProgLong's walk. -/
import Derived.Test.YtcllifcafgiopaaPgRow
set_option linter.unusedVariables false
set_option linter.unusedSimpArgs false
namespace Go.Proofs.Ytcllifcafgiopaa
open Go.RowKit

/-- How long the first functions are. -/
def lenTo (L : List FnD) (k : Nat) : Nat := 3 + ((L.take k).map fun f => 2 + 8 * f.code.length).sum
theorem lenTo_succ (L : List FnD) {k : Nat} (hk : k < L.length) : lenTo L (k + 1) = lenTo L k + 2 + 8 * (L[k]).code.length := by
  unfold lenTo
  rw [← List.take_append_getElem hk, List.map_append, List.sum_append]
  simp
  omega
theorem lenTo_all (L : List FnD) : lenTo L L.length = (progBytes L).length := by
  unfold lenTo
  rw [List.take_length, progBytes_len]
theorem lenTo_le {L : List FnD} (h : ∀ f ∈ L, fnFine f = true) : ∀ k, k ≤ L.length → lenTo L k ≤ 3 + 514 * k
  | 0, _ => by simp [lenTo]
  | k + 1, hk => by
    have ih := lenTo_le h k (by omega)
    have hf := (fnFine_facts (h _ (List.getElem_mem (show k < L.length by omega)))).2.2.2.1
    rw [lenTo_succ L (by omega)]
    omega
theorem at_append_nil {P : Program} {ops : Array Oper} {rest : List Oper} {a : Act} {W : World} {Q : Exit → Act → World → Prop} {dst : Option Tmp} {tt : TypeId} {pos : String} {after : Array Edge} {s x : Operand} {t t' : TypeId}
    (e : TypeId) (z : Value) (bytes : Nat) (ht : P.underlying t = some (.slice e)) (hinfo : (P.info? e).map (fun i => (i.zero, i.size, i.bytes)) = some (some z, 1, bytes)) (hzs : z.cells.size = 1)
    (hs : a.eval s = .slice none 0 0) (ad : Addr) (m c : Nat) (news : List Value) (hx : a.eval x = .slice (some ad) m c) (hl : news.length = m) (hnews : ∀ j u, news[j]? = some u → W.cell? (ad.add j) = some u) (h1 : ∀ u ∈ news, u.oneCell' = true)
    (h63 : m ≤ maxLen) (hbytes : m * bytes ≤ 140737488355328) (htt : t' = t)
    (h : ∀ v' w', w'.ownsRow W.heap.size e 1 v' m news → Bel W w' → wpList P ops Q rest (a.put dst v') w') :
    wpList P ops Q ({ dst := dst, op := .call { callee := .builtin .append, args := #[s, x], argTypes := #[t, t'] }, type := tt, pos := pos, after := after, guard := none } :: rest) a W :=
  at_append W.heap.size e z 1 bytes ht hinfo hzs (by decide) (.slice none 0 0) 0 [] hs ⟨by simp, .inl ⟨rfl, rfl⟩⟩ ad m c news hx (by omega) hnews h1 (by omega) (by rw [Nat.zero_add]; exact hbytes) (Nat.le_refl _) W (Nat.le_refl _) (Bel.refl _) htt
    fun v' w' o1 g1 b1 _ => h v' w' (by rw [Nat.zero_add, List.nil_append] at o1; exact o1) b1
theorem one_fresh (w : World) (t : TypeId) (v : Value) : ∀ j u, [v][j]? = some u → (w.alloc (.cells #[v] t)).cell? ((⟨w.heap.size, 0, none⟩ : Addr).add j) = some u := by
  intro j u hu
  have hadd : (⟨w.heap.size, 0, none⟩ : Addr).add j = ⟨w.heap.size, 0 + j, none⟩ := by unfold Addr.add; split <;> simp_all
  rw [hadd, Nat.zero_add]
  exact cell_fresh w _ _ j u (by simpa using hu)
theorem u8_zero : ∀ u ∈ [Value.int .u8 0], u.oneCell' = true := by
  intro u hu
  rw [List.mem_singleton.1 hu]
  rfl
set_option maxHeartbeats 8000000 in
set_option maxRecDepth 100000 in
theorem ProgLong_walk (C : Array Value) (L : List FnD) (W : World) (hp : ProgR W C.toList L) :
    Calls Try.prog 4 #[.agg C] W fun e w' => e = .returned (.bool true) ∧ Bel W w' := by
  obtain ⟨A, c, hC, hsl⟩ := hp
  obtain rfl : C = #[.slice A L.length c] := by cases C; simpa using hC
  clear hC
  obtain ⟨n, hn0⟩ : ∃ n, L.length = n := ⟨_, rfl⟩
  have hn := Lib.hid hn0
  rw [hn0]
  have HBa := Lib.hid ((Bel.refl W).alloc (.cells #[.slice A n c] 24))
  have HS := Lib.hid (hsl.mono FnR.mono HBa.out)
  have K := Lib.hid (Blk.new W 24 #[.slice A n c])
  obtain ⟨fv, hfv⟩ : ∃ fv, Hid (fewB L = fv) := ⟨_, Lib.hid rfl⟩
  clear hsl hn0
  go_enter Try.func4, Try.ntmps4
  go_wp2_with fail
  generalize W.alloc (.cells #[.slice A n c] 24) = W1 at *
  generalize W.heap.size = g at *
  refine (awake_any _).mono ?_
  rintro e w1 ⟨rfl, hb⟩
  have HB := Lib.hid hb
  clear hb
  have q1 := (K.out.bel HB.out).cell 0 rfl
  go_wp2_with fail
  refine (refFew_any A c n L fv _ (HS.out.mono FnR.mono HB.out) hn hfv).mono ?_
  rintro e w2 ⟨rfl, hb⟩
  have HB := Lib.hid (HB.out.trans hb)
  clear hb q1
  cases fv
  · go_wp2_with fail
    go_ret
    exact ⟨rfl, HBa.out.trans HB.out⟩
  have q2 := (K.out.bel HB.out).cell 0 rfl
  go_wp2_with fail
  obtain ⟨bs, e0, hput⟩ : ∃ bs e0, Hid (putP L = (bs, e0)) := ⟨_, _, Lib.hid rfl⟩
  obtain ⟨m, hm⟩ : ∃ m, Hid (bs.length = m) := ⟨_, Lib.hid rfl⟩
  refine (progPut_any A c n L _ bs m e0 (HS.out.mono FnR.mono HB.out) hn hput hm).mono ?_
  rintro e w3 ⟨A3, c3, rfl, s3, hb⟩
  have HB := Lib.hid (HB.out.trans hb)
  have S3 := Lib.hid s3
  clear hb q2 s3
  by_cases hmay : progMay L = true
  case neg =>
    have he : e0 = 1 := by
      have h1 : putP L = ([], 1) := if_neg hmay
      rw [hput.out] at h1
      exact (Prod.mk.inj h1).2
    subst he
    have HM : Hid (progMay L = false) := Lib.hid (by simpa using hmay)
    clear hmay
    have q3 := (K.out.bel HB.out).cell 0 rfl
    go_wp2_with fail
    refine (progmay_any A c n L false _ (HS.out.mono FnR.mono HB.out) hn HM).mono ?_
    rintro e w4 ⟨rfl, hb⟩
    have HB := Lib.hid (HB.out.trans hb)
    go_wp2_with fail
    go_ret
    exact ⟨rfl, HBa.out.trans HB.out⟩
  obtain ⟨hbs, he⟩ : bs = progBytes L ∧ e0 = 0 := by
    have h1 : putP L = (progBytes L, 0) := if_pos hmay
    rw [hput.out] at h1
    exact Prod.mk.inj h1
  subst he
  have HBS := Lib.hid hbs
  have HM := Lib.hid hmay
  have HOK := Lib.hid (progMay_iff.1 hmay)
  have HINS := Lib.hid (prog_ins HS.out hmay)
  have HFF : Hid (∀ f ∈ L, fnFine f = true) := Lib.hid (by
    intro f hf
    obtain ⟨j, hj, rfl⟩ := List.mem_iff_getElem.1 hf
    exact HOK.out.fine j hj)
  have hn8 : n ≤ 8 := by rw [← hn.out]; exact HOK.out.n8
  have hn1 : 0 < n := by rw [← hn.out]; exact HOK.out.n0
  clear hbs hmay
  obtain ⟨b, o, rfl⟩ := HS.out.addr (by rw [hn.out]; exact hn1)
  go_wp2_with fail
  go_loopw [7, 8] (fun s v wr => ∃ (k : Nat) (x : Int), v = .int .i64 k ∧ s = .int .i64 x ∧ k ≤ n ∧ Hid (x = (lenTo L k : Nat)) ∧ wr = w3) (fun _ v _ => n - (intOf v).toNat)
  case atStart => exact ⟨0, 3, rfl, rfl, Nat.zero_le _, Lib.hid (by simp [lenTo]), rfl⟩
  case round =>
    obtain ⟨k, x, rfl, rfl, hk, HX, rfl⟩ := hrel
    have q0 := (K.out.bel HB.out).cell 0 rfl
    by_cases hkn : k = n
    · subst hkn
      have hx : x = (m : Int) := by
        rw [HX.out, ← hm.out, HBS.out, ← lenTo_all, hn.out]
      subst hx
      have hm3 : 3 ≤ m := by
        have := HX.out
        have h3 : 3 ≤ lenTo L k := by unfold lenTo; omega
        omega
      have hml : m ≤ 4115 := by
        have := HX.out
        have := lenTo_le HFF.out k (by rw [hn.out]; exact Nat.le_refl _)
        omega
      obtain ⟨b3, o3, rfl⟩ := S3.out.addr (by rw [hm.out]; omega)
      obtain ⟨n1, hn1m⟩ : ∃ n1, Hid (n1 + 1 = m) := ⟨m - 1, Lib.hid (by omega)⟩
      have hn1e : n1 + 1 = m := hn1m.out
      have hmc : m ≤ c3 := by rw [← hm.out]; exact S3.out.le
      have hcm : c3 ≤ 9223372036854775807 := by have := S3.out.big; simp only [maxLen] at this; omega
      have e1 : IntKind.i64.wrap ((m : Int) - 1) = (n1 : Int) := by rw [wrap_i64 (by omega) (by omega)]; omega
      have t1 : (n1 : Int) ≤ m := by omega
      have t2 : (m : Int) ≤ c3 := by omega
      have t3 : (n1 : Int) ≤ c3 := by omega
      have t4 : 0 ≤ (n1 : Int) := by omega
      clear hn1e
      go_wp2_with fail
      refine (progGet_any _ c3 n1 (bs.take n1) _ (S3.out.take n1) (Lib.hid (by rw [List.length_take, hm.out]; have := hn1m.out; omega)) [] 7 0 (Lib.hid (by rw [HBS.out]; exact getP_less HM.out HINS.out (by rw [← HBS.out]; exact S3.out.u8) (by rw [← HBS.out, hm.out]; exact hn1m.out))) (Lib.hid rfl)).mono ?_
      rintro e w4 ⟨A4, c4, rfl, -, hb⟩
      have hb4 := hb.alloc (.cells #[.slice A4 0 c4] 24)
      have HB := Lib.hid (HB.out.trans hb4)
      have S3 := Lib.hid (S3.out.mono (IntR.mono _) hb4)
      clear hb hb4 q0
      have HU : Hid (∀ j u, (u8s bs)[j]? = some u → (w4.alloc (.cells #[.slice A4 0 c4] 24)).cell? ((⟨b3, o3, none⟩ : Addr).add j) = some u) := Lib.hid (by
        obtain ⟨b', o', e', hc⟩ := S3.out.int_cell (by rw [hm.out]; omega)
        simp at e'
        obtain ⟨rfl, rfl⟩ := e'
        exact cells_u8 hm.out (fun i hi => (hc i (by rw [hm.out]; exact hi)).1))
      have hmb : m ≤ maxLen := by simp only [maxLen]; omega
      have hmb1 : m + 1 ≤ maxLen := by simp only [maxLen]; omega
      have hby1 : (m + 1) * 1 ≤ 140737488355328 := by omega
      have hby : m * 1 ≤ 140737488355328 := by omega
      have HUL : Hid ((u8s bs).length = m) := Lib.hid (by unfold u8s; rw [List.length_map]; exact hm.out)
      clear hn1m e1 t1 t2 t3 t4
      go_wp2_with (first
        | (show wpList _ _ _ ({ dst := _, op := .call { callee := .builtin .append, args := _, argTypes := _ }, type := _, pos := _, after := _, guard := none } :: _) _ _; refine at_append_nil 5 (.int .u8 0) 1 Try.underlying25 info_u8 rfl (by rfl) ⟨b3, o3, none⟩ m c3 (u8s bs) (by rfl) HUL.out HU.out (u8s_one _) hmb hby rfl ?_; intro v1 w5 own1 hb5; have HB5 := Lib.hid hb5; obtain ⟨A5, c5, rfl⟩ := own_slice own1; have OW := Lib.hid own1; clear own1 hb5)
        | (show wpList _ _ _ ({ dst := _, op := .call { callee := .builtin .append, args := _, argTypes := _ }, type := _, pos := _, after := _, guard := none } :: _) _ _; refine at_append (w4.alloc (.cells #[.slice A4 0 c4] 24)).heap.size 5 (.int .u8 0) 1 1 Try.underlying25 info_u8 rfl (by decide) _ m _ (by rfl) (own_bel OW.out ((Bel.refl w5).alloc _)) ⟨w5.heap.size, 0, none⟩ 1 1 [.int .u8 0] (by rfl) rfl (one_fresh w5 _ _) u8_zero hmb1 hby1 (Nat.le_trans HB5.out.size ((Bel.refl w5).alloc _).size) (w4.alloc (.cells #[.slice A4 0 c4] 24)) (Nat.le_refl _) (HB5.out.trans ((Bel.refl w5).alloc _)) rfl ?_; intro v2 w6 own2 _ hb6 hat; have HB6 := Lib.hid hb6; clear hat; have OW2 := Lib.hid own2; obtain ⟨A6, c6, rfl⟩ := own_slice own2; clear own2 hb6))
      have S6 : Hid (Sl (IntR .u8) 1 w6 A6 c6 (bs ++ [0])) := Lib.hid (by
        have e1 : (bs ++ [(0 : Int)]).length = m + 1 := by rw [List.length_append, hm.out]; rfl
        have h := OW2.out
        rw [show u8s bs ++ [Value.int .u8 0] = (bs ++ [(0 : Int)]).map (Value.int .u8) by simp [u8s], ← e1] at h
        obtain ⟨A', c', e, hs⟩ := sl_of_own h (fun x hx => by
          rcases List.mem_append.1 hx with hx | hx
          · exact wf_u8 (S3.out.u8 x hx)
          · rw [List.mem_singleton.1 hx]; rfl)
        cases e
        exact hs)
      refine (progGet_any A6 c6 (m + 1) (bs ++ [0]) _ S6.out (Lib.hid (by rw [List.length_append, hm.out]; rfl)) [] 7 0 (Lib.hid (by rw [HBS.out]; exact getP_more HINS.out 0)) (Lib.hid rfl)).mono ?_
      rintro e w7 ⟨A7, c7, rfl, -, hb7⟩
      have hb8 := (HB6.out.trans hb7).alloc (.cells #[.slice A7 0 c7] 24)
      have HB := Lib.hid (HB.out.trans hb8)
      have q8 := (K.out.bel HB.out).cell 0 rfl
      clear hb7 hb8 S6 S3 OW OW2 HB5 HB6 HU HUL
      go_wp2_with fail
      refine (progSame_any _ _ k k c c L L true _ (HS.out.mono FnR.mono HB.out) (HS.out.mono FnR.mono HB.out) hn hn (Lib.hid (by simp))).mono ?_
      rintro e w9 ⟨rfl, hb9⟩
      have HB := Lib.hid (HB.out.trans hb9)
      go_wp2_with fail
      go_ret
      exact ⟨rfl, HBa.out.trans HB.out⟩
    · have hk1 : k < n := by omega
      have hk2 : (k : Int) < n := by omega
      have k0 : 0 ≤ (k : Int) := by omega
      have hkl : k < L.length := by rw [hn.out]; exact hk1
      have ek : IntKind.i64.wrap ((k : Int) + 1) = (k : Int) + 1 := wrap_i64 (by omega) (by omega)
      obtain ⟨A', c', -, d1, -⟩ := fn_cells (HS.out.mono FnR.mono HB.out) k hkl
      obtain ⟨j, hj⟩ : ∃ j, Hid ((L[k]).code.length = j) := ⟨_, Lib.hid rfl⟩
      rw [hj.out] at d1
      have hj64 : j ≤ 64 := by rw [← hj.out]; exact (fnFine_facts (HFF.out _ (List.getElem_mem hkl))).2.2.2.1
      have hx0 : 0 ≤ x := by have := HX.out; omega
      have hx1 : x ≤ 4115 := by have := HX.out; have := lenTo_le HFF.out k (by omega); omega
      have e1 : IntKind.i64.wrap (x + 2) = x + 2 := wrap_i64 (by omega) (by omega)
      have e2 : IntKind.i64.wrap (8 * (j : Int)) = 8 * (j : Int) := wrap_i64 (by omega) (by omega)
      have e3 : IntKind.i64.wrap (x + 2 + 8 * (j : Int)) = x + 2 + 8 * (j : Int) := wrap_i64 (by omega) (by omega)
      have HX' : Hid (x + 2 + 8 * (j : Int) = (lenTo L (k + 1) : Nat)) := Lib.hid (by
        rw [lenTo_succ L hkl, HX.out, hj.out]
        omega)
      clear hkn
      go_wp2
      go_roundw
      case rel => exact ⟨k + 1, _, by simp, rfl, by omega, HX', by first | rfl | trivial⟩
      case measure => simp [intOf]; omega
end Go.Proofs.Ytcllifcafgiopaa
