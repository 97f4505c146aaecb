/- arena.end, at and New by their contracts. -/
import Derived.Test.YteopeocgbfdofaaGPu
import Derived.Test.YteopeocgbfdofaaWrap
import Derived.Shelf.SlicesQ.IndexFunc
import Derived.Ground.SlgfProg
import Derived.Lib.SliceRun
import Derived.Lib.Hide
import Derived.LoopTactic
import Derived.WalkMore
import Derived.Laws.ResultCell
import Derived.RangeFuncBox
set_option linter.unusedVariables false
set_option linter.unusedSimpArgs false
namespace Go.Proofs.Yteopeocgbfdofaa
open Go.RowKit Go.Shelf Go.Lib
shelf_lay_g SlLaysH0.n6 Slgf 6 at Try 67 as arI6

theorem end_any (id a : Int) (A : Option Addr) (n c : Nat) (w : World) (r : Int) (hr : Hid (IntKind.i64.wrap (a + n) = r)) :
    Calls Try.prog 50 #[.agg #[.int .i64 id, .int .i64 a, .slice A n c]] w fun e w' => e = .returned (.int .i64 r) ∧ Bel w w' := by
  have hr' := hr.out
  go_enter Try.func50, Try.ntmps50
  go_wp2_with fail
  go_ret
  exact ⟨rfl, by repeat (first | exact Bel.refl _ | apply Bel.alloc)⟩
/-- 'func(b api.Block) bool { return b.Id == id }'. -/
theorem at_pred (id : Int) (B : Nat) (w : World) (hcell : w.cell? ⟨B, 0, none⟩ = some (.int .i64 id)) : PredBelow Try.prog 68 #[.pointer (some ⟨B, 0, none⟩)] (fun x : BlkX w => .agg (BlkX.cells x).toArray) (fun x => decide (x.b.id = id)) w := fun W x hb => by
  obtain ⟨⟨i, a, ws⟩, A, c, hs, hw1, hw2⟩ := x
  show Calls Try.prog 68 #[.agg #[.int .i64 i, .int .i64 a, .slice A ws.length c], .pointer (some ⟨B, 0, none⟩)] W _
  have HB := Bel.of hb
  have hB : B < w.heap.size := World.block_lt_of_cell? _ _ hcell
  have hc := HB.cell hcell
  have hlt := HB.size
  have hB2 : B < W.heap.size := by omega
  have ne : ¬ B = W.heap.size := by omega
  have ne' : ¬ W.heap.size = B := by omega
  show Calls _ _ _ _ fun e w' => e = .returned (.bool (decide (i = id))) ∧ _
  by_cases h : i = id
  · subst h
    clear hb hs hw1 hw2 hcell
    go_enter Try.func68, Try.ntmps68
    go_wp2_with fail
    go_ret
    exact ⟨by simp, by first | exact HB.out | exact (HB.alloc _).out⟩
  · have h' : (i == id) = false := by simpa using h
    rw [decide_eq_false h]
    clear hb hs hw1 hw2 hcell h
    go_enter Try.func68, Try.ntmps68
    go_wp2_with fail
    go_ret
    exact ⟨by simp, by first | exact HB.out | exact (HB.alloc _).out⟩
theorem at_enters : ∀ args w, (callFunc 68 args).run Try.prog w = .ok (.enter 68 args) w := enters_of Try.func68 (by kernel_rfl) rfl
theorem idxBy_map {α β : Type} (f : α → β) (p : β → Bool) (d : α) (e : β) : ∀ (l : List α) (i : Nat), Lib.idxByFrom (fun _ y => p (f y)) d l i = Lib.idxByFrom (fun _ y => p y) e (l.map f) i
  | [], i => rfl
  | y :: l, i => by
    rw [List.map_cons, Lib.idxByFrom, Lib.idxByFrom, idxBy_map f p d e l (i + 1)]
set_option maxHeartbeats 1000000 in
theorem index_any (A : Option Addr) (n c B : Nat) (l : List BlkD) (id r : Int) (w : World) (h : Sl BlkR 3 w A c l) (hn : Hid (l.length = n)) (hr : Hid (idxR l id = r)) (hcell : w.cell? ⟨B, 0, none⟩ = some (.int .i64 id)) :
    Calls Try.prog 67 #[.slice A n c, .func (.func 68) #[] #[.pointer (some ⟨B, 0, none⟩)]] w fun e w' => e = .returned (.int .i64 r) ∧ Bel w w' := by
  by_cases h0 : n = 0
  · subst h0
    have e : l = [] := List.eq_nil_of_length_eq_zero hn.out
    subst e
    rw [← hr.out]
    clear hr h hn hcell
    show Calls _ _ _ _ fun e w' => e = .returned (.int .i64 (-1)) ∧ _
    go_enter Try.func67, Try.ntmps67
    go_wp2_with fail
    go_loopw [8] (fun v wr => v = .int .i64 0 ∧ wr = w) (fun v _ => 0)
    case atStart => exact ⟨rfl, rfl⟩
    case round =>
      obtain ⟨rfl, rfl⟩ := hrel
      go_wp2
      go_ret
      exact ⟨rfl, Bel.refl _⟩
  · obtain ⟨b, off, rfl⟩ := h.addr (by rw [hn.out]; omega)
    have hb : b < w.heap.size := by
      obtain ⟨b', off', cs, e, hl, ⟨A', c', rfl, hw⟩, hc⟩ := h.get 0 (by rw [hn.out]; omega)
      simp at e; obtain ⟨rfl, rfl⟩ := e
      exact World.block_lt_of_cell? _ _ (hc 0 _ rfl)
    have hle := h.le
    have hbig := h.big
    simp only [maxLen] at hbig
    obtain ⟨zs, hz, hcs⟩ := h.blks
    have hlen : zs.length = l.length := by rw [← hz]; simp
    have hcon := AnyQ.slices_IndexFunc arI6 3 Try.isAgg69 Try.sizeOf69 BlkX.cells (fun _ => rfl) (fun x => decide (x.b.id = id)) 68 #[.pointer (some ⟨B, 0, none⟩)] at_enters b off zs.length c zs w (at_pred id B w hcell) (Nat.le_refl _) (by omega) hb hcs
    change Calls Try.prog 67 _ _ _ at hcon
    have e : Lib.idxBy (fun _ (y : BlkX w) => decide (y.b.id = id)) zs default = r := by
      rw [← hr.out]
      unfold idxR Lib.idxBy
      rw [idxBy_map BlkX.b (fun y => decide (y.id = id)) default default zs 0, hz]
    rw [List.take_length, e, hlen, hn.out] at hcon
    exact hcon.mono fun e w' ⟨h1, h2⟩ => ⟨h1, Bel.of h2⟩
set_option maxHeartbeats 1000000 in
theorem at_any (cap : Int) (A : Option Addr) (n c : Nat) (l : List BlkD) (id r : Int) (w : World) (h : Sl BlkR 3 w A c l) (hn : Hid (l.length = n)) (hr : Hid (idxR l id = r)) :
    Calls Try.prog 52 #[.agg #[.int .i64 cap, .slice A n c], .int .i64 id] w fun e w' => e = .returned (.int .i64 r) ∧ Bel w w' := by
  have HS := Lib.hid h
  clear h
  have hmf : ∀ (fn : Fn) (first cap : Array Value) (w : World), (Instr.makeFunc fn first cap).run Try.prog w = .ok (.func fn first cap) w := fun _ _ _ _ => rfl
  go_enter Try.func52, Try.ntmps52
  go_wp2_with fail
  have HB : Bel w ((w.alloc (.cells #[.int .i64 cap, .slice A n c] 45)).alloc (.cells #[.int .i64 id] 3)) := ((Bel.refl w).alloc _).alloc _
  have hc := cell_fresh (w.alloc (.cells #[.int .i64 cap, .slice A n c] 45)) #[.int .i64 id] 3 0 (.int .i64 id) rfl
  rw [World.size_alloc] at hc
  refine (index_any A n c _ l id r _ (HS.out.mono BlkR.mono HB) hn hr hc).mono ?_
  rintro e w1 ⟨rfl, hb⟩
  have HB := HB.trans hb
  clear hb hc
  go_wp2_with fail
  go_ret
  exact ⟨rfl, HB⟩
def newE (room : Int) : Int := if roomB room = true then 0 else 1
def newC (room : Int) : Int := if roomB room = true then room else 0
set_option maxHeartbeats 1000000 in
theorem New_any (room : Int) (w : World) :
    Calls Try.prog 51 #[.int .i64 room] w fun e w' => e = .returned (.tuple #[.agg #[.int .i64 (newC room), .slice none 0 0], .int .i64 (newE room)]) ∧ Bel w w' := by
  unfold newC newE roomB
  by_cases h0 : room < 0
  · rw [decide_eq_false (by omega)]
    go_enter Try.func51, Try.ntmps51
    go_wp2_with fail
    have c0 := cell_fresh w #[.int .i64 0, .slice none 0 0] 45 0 _ rfl
    have c1 := cell_fresh w #[.int .i64 0, .slice none 0 0] 45 1 _ rfl
    refine bodyPost_ret (v := .tuple #[.agg #[.int .i64 0, .slice none 0 0], .int .i64 1]) ?_ rfl ⟨rfl, (Bel.refl w).alloc _⟩
    simp [results, Try.results51, go_sem, c0, c1]
  · by_cases h1 : 1024 < room
    · rw [decide_eq_false (by omega)]
      have h0' : ¬ room < 0 := h0
      go_enter Try.func51, Try.ntmps51
      go_wp2_with fail
      have c0 := cell_fresh w #[.int .i64 0, .slice none 0 0] 45 0 _ rfl
      have c1 := cell_fresh w #[.int .i64 0, .slice none 0 0] 45 1 _ rfl
      refine bodyPost_ret (v := .tuple #[.agg #[.int .i64 0, .slice none 0 0], .int .i64 1]) ?_ rfl ⟨rfl, (Bel.refl w).alloc _⟩
      simp [results, Try.results51, go_sem, c0, c1]
    · rw [decide_eq_true (by omega)]
      have h0' : ¬ room < 0 := h0
      have h1' : ¬ 1024 < room := h1
      go_enter Try.func51, Try.ntmps51
      go_wp2_with fail
      have c0 := cell_fresh w #[.int .i64 room, .slice none 0 0] 45 0 _ rfl
      have c1 := cell_fresh w #[.int .i64 room, .slice none 0 0] 45 1 _ rfl
      refine bodyPost_ret (v := .tuple #[.agg #[.int .i64 room, .slice none 0 0], .int .i64 0]) ?_ rfl ⟨rfl, (Bel.refl w).alloc _⟩
      simp [results, Try.results51, go_sem, c0, c1]
end Go.Proofs.Yteopeocgbfdofaa
