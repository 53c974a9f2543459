/- Slides: the windows' iterators, and what Fold folds with. -/
import Derived.RangeFuncBox
import Derived.RangeFuncLeaves
import Derived.Shelf.Abstract
import Derived.WalkKit
import Derived.OwnWalkIn
import Derived.TacticsInMore
import Derived.LoopNIn
import Derived.LoopIn
import Derived.Maps.AppendAt
import Derived.Test.YtacjjmdhiphckaaAdv
namespace Go.Proofs.Ytacjjmdhiphckaa
open Go.RowKit Go.Shelf

attribute [local go_sem] Oper.semAt_some

theorem info2' : (Try.prog.info? 2).map (fun i => (i.zero, i.size, i.bytes)) = some (some (.int .i64 0), 1, 8) := by kernel_rfl
theorem info9' : (Try.prog.info? 9).map (fun i => (i.zero, i.size, i.bytes)) = some (some (.string ⟨#[]⟩), 1, 16) := by kernel_rfl

theorem take_succ_get {α : Type} {xs : List α} {k : Nat} {x : α} (h : xs[k]? = some x) : xs.take k ++ [x] = xs.take (k + 1) := by
  rw [List.take_add_one, h]; rfl

set_option maxHeartbeats 1000000 in
/-- Window.All: the receiver is boxed; the function value captures the box. -/
theorem all_in_int (F : Fence) (n : Nat) (h : F.fn 31) (hro : F.round = none) (q : Option Addr) (w : World) :
    CallsIn F n Try.prog 31 #[.pointer q] w fun e w' => e = .returned (.func (.func 47) #[] #[.pointer (some ⟨w.heap.size, 0, none⟩)]) ∧ w' = w.alloc (.cells #[.pointer q] 33) := by
  refine callsIn_of_wp Try.func31 rfl h ?_ hro
  simp only [Try.ntmps31, List.size_toArray, List.length_cons, List.length_nil, Nat.reduceAdd, Nat.reduceSub, Array.replicate_succ, Array.replicate_zero, List.push_toArray, List.append_toArray, List.nil_append, List.cons_append]
  gi_wp2
  go_ret
  exact ⟨rfl, rfl⟩

set_option maxRecDepth 100000 in
set_option maxHeartbeats 2000000 in
/-- Its closure, for every loop body that keeps what lay below n₀. -/
theorem all1_in_int (F : Fence) (n : Nat) (h : F.fn 47) (hro : F.round = none) (hn : 1 ≤ n) (l Bq B n₀ : Nat) (wid now : Int) (v : Value) (xs : List (Int × Int)) (hl : xs.length ≤ 16) (J Jx : List (Int × Int) → World → Prop)
    (hJ : ∀ pre W o, J pre W → J pre (W.alloc o))
    (hY : ∀ pre x W, J pre W → pre.length < xs.length → YieldAt F (n - 1) Try.prog l #[.int .i64 x.1, (.int .i64 x.2)] W fun e W' =>
      (e = .returned (.bool true) ∧ J (pre ++ [x]) W' ∧ Below n₀ W W') ∨ (e = .returned (.bool false) ∧ Jx (pre ++ [x]) W'))
    (W : World) (hq : W.cell? ⟨Bq, 0, none⟩ = some (.pointer (some ⟨B, 0, none⟩))) (hB : W.heap[B]? = some (.cells #[.int .i64 wid, .int .i64 now, v] 47 (0, 0))) (hr : Row ei 84 W v xs)
    (hn0 : n₀ ≤ W.heap.size) (hlr : ∀ k, v.ownBlock = some k → k < n₀) (h0 : J [] W) :
    CallsIn F n Try.prog 47 #[.func (.yield l) #[] #[], .pointer (some ⟨Bq, 0, none⟩)] W fun e W' => (∃ v, e = .returned v) ∧
      ((∃ ys, ys = xs ∧ J ys W') ∨ (∃ pre, pre <+: xs ∧ Jx pre W')) := by
  refine callsIn_of_wp Try.func47 rfl h ?_ hro
  simp only [Try.ntmps47, List.size_toArray, List.length_cons, List.length_nil, Nat.reduceAdd, Nat.reduceSub, Array.replicate_succ, Array.replicate_zero, List.push_toArray, List.append_toArray, List.nil_append, List.cons_append]
  rcases hr with ⟨rfl, rfl⟩ | ⟨g, off, cap, cur, rfl, hg, hm, hcm, hs, hc⟩
  · have c2 : W.cell? ⟨B, 2, none⟩ = some (.slice none 0 0) := by rw [cell_of_row W B 2 _ _ _ hB]; rfl
    clear hB
    gi_wp2
    gi_loopw [10] (fun i wr => i = .int .i64 0 ∧ J [] wr) (fun _ _ => 0)
    case atStart => exact ⟨rfl, h0⟩
    case round =>
      obtain ⟨rfl, hJs⟩ := hrel
      gi_wp2
      go_end0
      exact ⟨⟨_, rfl⟩, .inl ⟨_, rfl, hJs⟩⟩
  · have c2 : W.cell? ⟨B, 2, none⟩ = some (.slice (some ⟨g, off, none⟩) xs.length cap) := by rw [cell_of_row W B 2 _ _ _ hB]; rfl
    have hgn : g < n₀ := hlr g rfl
    have HC := Lib.hid hc
    have HG := Lib.hid hg
    clear hB hc hg
    gi_wp2
    gi_loopw [10] (fun i wr => ∃ k : Nat, k ≤ xs.length ∧ i = .int .i64 k ∧ J (xs.take k) wr ∧ Below n₀ W wr) (fun i _ => xs.length - (intOf i).toNat)
    case atStart => exact ⟨0, Nat.zero_le _, rfl, h0, Below.refl _ _⟩
    case round =>
      obtain ⟨k, hk, rfl, hJs, hnx⟩ := hrel
      by_cases hlt : k < xs.length
      · obtain ⟨⟨x1, x2⟩, hx⟩ : ∃ x, xs[k]? = some x := ⟨_, List.getElem?_eq_getElem hlt⟩
        have cx0 : wr.cell? ⟨g, off + k * 2, none⟩ = some (.int .i64 x1) := by rw [hnx.cell (p := ⟨g, _, none⟩) hgn, cell_of_row W g _ _ _ _ HG.out]; exact (HC.out k _ hx).1
        have cx1 : wr.cell? ⟨g, off + k * 2 + 1, none⟩ = some (.int .i64 x2) := by rw [hnx.cell (p := ⟨g, _, none⟩) hgn, cell_of_row W g _ _ _ _ HG.out]; exact (HC.out k _ hx).2
        have hwlt := hnx.size
        obtain ⟨fn, tmps, assign, body, hy, hR⟩ := hY (xs.take k) (x1, x2) (wr.alloc (.cells #[.int .i64 x1, (.int .i64 x2)] 84)) (hJ _ _ _ hJs) (by simp; omega)
        have HX := Lib.hid hx
        clear hx
        dsimp only at hy
        gi_wp2
        refine hR.mono ?_
        rintro e W3 (⟨rfl, hJ3, hk3⟩ | ⟨rfl, hJx3⟩)
        · gi_wp2
          go_roundw
          case rel => exact ⟨k + 1, by omega, by go_num, by rw [← take_succ_get HX.out]; exact hJ3, (hnx.alloc (by omega) _).trans hk3⟩
          case measure => simp [intOf]; omega
        · gi_wp2
          refine bodyPost_ret (results_none rfl _ _ _) rfl ?_
          exact ⟨⟨_, rfl⟩, .inr ⟨_, by rw [take_succ_get HX.out]; exact List.take_prefix _ _, hJx3⟩⟩
      · obtain rfl : k = xs.length := by omega
        gi_wp2
        go_end0
        exact ⟨⟨_, rfl⟩, .inl ⟨_, by rw [List.take_length], hJs⟩⟩

/-- Window.All hands back a value that may be ranged over. -/
theorem all_stops_int (F : Fence) (n : Nat) (h : F.fn 47) (hro : F.round = none) (hn : 1 ≤ n) (Bq B n₀ : Nat) (wid now : Int) (v : Value) (xs : List (Int × Int)) (hl : xs.length ≤ 16) (w : World) (hBq : Bq < w.heap.size) (hn₀ : n₀ ≤ w.heap.size)
    (hq : w.cell? ⟨Bq, 0, none⟩ = some (.pointer (some ⟨B, 0, none⟩))) (hB : w.heap[B]? = some (.cells #[.int .i64 wid, .int .i64 now, v] 47 (0, 0))) (hr : Row ei 84 w v xs) (hlr : ∀ k, v.ownBlock = some k → k < n₀) :
    SeqStopsK F n Try.prog 47 #[.pointer (some ⟨Bq, 0, none⟩)] (fun x : Int × Int => #[Value.int .i64 x.1, (.int .i64 x.2)]) (Below n₀) (fun ys => ys = xs) (fun pre => pre <+: xs) xs.length w := fun l J Jx W hW hJ _ hY h0 =>
  all1_in_int F n h hro hn l Bq B n₀ wid now v xs hl J Jx (fun pre W o hj => hJ pre W _ none hj (World.grownBy_alloc W o none) (fun r e => by cases e)) hY W ((hW.cell (p := ⟨Bq, 0, none⟩) hBq).trans hq) ((hW.block B (lt_of_block hB)).trans hB) (hr.kept (S := fun _ => False) ⟨hW.os, hW.tape, hW.output, hW.size, fun k hk _ => hW.block k hk⟩ (fun _ _ h => h)) (Nat.le_trans hn₀ hW.size) hlr h0

set_option maxRecDepth 100000 in
set_option maxHeartbeats 2000000 in
/-- What Fold folds with. -/
theorem step_in_int (F : Fence) (n : Nat) (h : F.fn 34) (hro : F.round = none) (base m : Nat) (hv : Value) (x : Int) (cs : List Value) (hm : m < 100) (W : World) (hb : base ≤ W.heap.size) (ho : W.ownsRow base 2 1 hv m cs) :
    CallsIn F n Try.prog 34 #[hv, (.int .i64 x)] W fun e w' => ∃ g cap tmp, e = .returned (.slice (some ⟨g, 0, none⟩) (m + 1) cap) ∧ w'.ownsRow base 2 1 (.slice (some ⟨g, 0, none⟩) (m + 1) cap) (m + 1) (cs ++ [(.int .i64 x)]) ∧ (W.alloc tmp).grownBy w' hv.ownBlock := by
  obtain ⟨i0, hi, hz0, hz1, hz2⟩ := info_parts info2'
  refine callsIn_of_wp Try.func34 rfl h ?_ hro
  simp only [Try.ntmps34, List.size_toArray, List.length_cons, List.length_nil, Nat.reduceAdd, Nat.reduceSub, Array.replicate_succ, Array.replicate_zero, List.push_toArray, List.append_toArray, List.nil_append, List.cons_append]
  gi_wp2_with (gi_at_builtin; refine wpListIn_append_own _ rfl _ _ 61 rfl base 2 i0 _ 1 8 Try.underlying61 hi hz0 hz1 hz2 rfl (by decide) _ _ _ rfl (ho.alloc _) ⟨W.heap.size, 0, none⟩ 1 1 [(.int .i64 x)] rfl rfl (cell_one_new _ _ _) (by simp [Value.oneCell']) (by unfold maxLen; omega) (by omega) (by simp; omega) ?_; intro v' w1 hown' hgrow _; obtain ⟨g', cap', rfl⟩ := ownsRow_succ hown')
  go_ret
  exact ⟨_, _, _, rfl, hown', hgrow⟩
set_option maxHeartbeats 1000000 in
/-- Window.All: the receiver is boxed; the function value captures the box. -/
theorem all_in_str (F : Fence) (n : Nat) (h : F.fn 48) (hro : F.round = none) (q : Option Addr) (w : World) :
    CallsIn F n Try.prog 48 #[.pointer q] w fun e w' => e = .returned (.func (.func 51) #[] #[.pointer (some ⟨w.heap.size, 0, none⟩)]) ∧ w' = w.alloc (.cells #[.pointer q] 35) := by
  refine callsIn_of_wp Try.func48 rfl h ?_ hro
  simp only [Try.ntmps48, List.size_toArray, List.length_cons, List.length_nil, Nat.reduceAdd, Nat.reduceSub, Array.replicate_succ, Array.replicate_zero, List.push_toArray, List.append_toArray, List.nil_append, List.cons_append]
  gi_wp2
  go_ret
  exact ⟨rfl, rfl⟩

set_option maxRecDepth 100000 in
set_option maxHeartbeats 2000000 in
/-- Its closure, for every loop body that keeps what lay below n₀. -/
theorem all1_in_str (F : Fence) (n : Nat) (h : F.fn 51) (hro : F.round = none) (hn : 1 ≤ n) (l Bq B n₀ : Nat) (wid now : Int) (v : Value) (xs : List (Int × Int)) (hl : xs.length ≤ 16) (J Jx : List (Int × Int) → World → Prop)
    (hJ : ∀ pre W o, J pre W → J pre (W.alloc o))
    (hY : ∀ pre x W, J pre W → pre.length < xs.length → YieldAt F (n - 1) Try.prog l #[.int .i64 x.1, (.string (keyS x.2))] W fun e W' =>
      (e = .returned (.bool true) ∧ J (pre ++ [x]) W' ∧ Below n₀ W W') ∨ (e = .returned (.bool false) ∧ Jx (pre ++ [x]) W'))
    (W : World) (hq : W.cell? ⟨Bq, 0, none⟩ = some (.pointer (some ⟨B, 0, none⟩))) (hB : W.heap[B]? = some (.cells #[.int .i64 wid, .int .i64 now, v] 50 (0, 0))) (hr : Row es 86 W v xs)
    (hn0 : n₀ ≤ W.heap.size) (hlr : ∀ k, v.ownBlock = some k → k < n₀) (h0 : J [] W) :
    CallsIn F n Try.prog 51 #[.func (.yield l) #[] #[], .pointer (some ⟨Bq, 0, none⟩)] W fun e W' => (∃ v, e = .returned v) ∧
      ((∃ ys, ys = xs ∧ J ys W') ∨ (∃ pre, pre <+: xs ∧ Jx pre W')) := by
  refine callsIn_of_wp Try.func51 rfl h ?_ hro
  simp only [Try.ntmps51, List.size_toArray, List.length_cons, List.length_nil, Nat.reduceAdd, Nat.reduceSub, Array.replicate_succ, Array.replicate_zero, List.push_toArray, List.append_toArray, List.nil_append, List.cons_append]
  rcases hr with ⟨rfl, rfl⟩ | ⟨g, off, cap, cur, rfl, hg, hm, hcm, hs, hc⟩
  · have c2 : W.cell? ⟨B, 2, none⟩ = some (.slice none 0 0) := by rw [cell_of_row W B 2 _ _ _ hB]; rfl
    clear hB
    gi_wp2
    gi_loopw [10] (fun i wr => i = .int .i64 0 ∧ J [] wr) (fun _ _ => 0)
    case atStart => exact ⟨rfl, h0⟩
    case round =>
      obtain ⟨rfl, hJs⟩ := hrel
      gi_wp2
      go_end0
      exact ⟨⟨_, rfl⟩, .inl ⟨_, rfl, hJs⟩⟩
  · have c2 : W.cell? ⟨B, 2, none⟩ = some (.slice (some ⟨g, off, none⟩) xs.length cap) := by rw [cell_of_row W B 2 _ _ _ hB]; rfl
    have hgn : g < n₀ := hlr g rfl
    have HC := Lib.hid hc
    have HG := Lib.hid hg
    clear hB hc hg
    gi_wp2
    gi_loopw [10] (fun i wr => ∃ k : Nat, k ≤ xs.length ∧ i = .int .i64 k ∧ J (xs.take k) wr ∧ Below n₀ W wr) (fun i _ => xs.length - (intOf i).toNat)
    case atStart => exact ⟨0, Nat.zero_le _, rfl, h0, Below.refl _ _⟩
    case round =>
      obtain ⟨k, hk, rfl, hJs, hnx⟩ := hrel
      by_cases hlt : k < xs.length
      · obtain ⟨⟨x1, x2⟩, hx⟩ : ∃ x, xs[k]? = some x := ⟨_, List.getElem?_eq_getElem hlt⟩
        have cx0 : wr.cell? ⟨g, off + k * 2, none⟩ = some (.int .i64 x1) := by rw [hnx.cell (p := ⟨g, _, none⟩) hgn, cell_of_row W g _ _ _ _ HG.out]; exact (HC.out k _ hx).1
        have cx1 : wr.cell? ⟨g, off + k * 2 + 1, none⟩ = some (.string (keyS x2)) := by rw [hnx.cell (p := ⟨g, _, none⟩) hgn, cell_of_row W g _ _ _ _ HG.out]; exact (HC.out k _ hx).2
        have hwlt := hnx.size
        obtain ⟨fn, tmps, assign, body, hy, hR⟩ := hY (xs.take k) (x1, x2) (wr.alloc (.cells #[.int .i64 x1, (.string (keyS x2))] 86)) (hJ _ _ _ hJs) (by simp; omega)
        have HX := Lib.hid hx
        clear hx
        dsimp only at hy
        gi_wp2
        refine hR.mono ?_
        rintro e W3 (⟨rfl, hJ3, hk3⟩ | ⟨rfl, hJx3⟩)
        · gi_wp2
          go_roundw
          case rel => exact ⟨k + 1, by omega, by go_num, by rw [← take_succ_get HX.out]; exact hJ3, (hnx.alloc (by omega) _).trans hk3⟩
          case measure => simp [intOf]; omega
        · gi_wp2
          refine bodyPost_ret (results_none rfl _ _ _) rfl ?_
          exact ⟨⟨_, rfl⟩, .inr ⟨_, by rw [take_succ_get HX.out]; exact List.take_prefix _ _, hJx3⟩⟩
      · obtain rfl : k = xs.length := by omega
        gi_wp2
        go_end0
        exact ⟨⟨_, rfl⟩, .inl ⟨_, by rw [List.take_length], hJs⟩⟩

/-- Window.All hands back a value that may be ranged over. -/
theorem all_stops_str (F : Fence) (n : Nat) (h : F.fn 51) (hro : F.round = none) (hn : 1 ≤ n) (Bq B n₀ : Nat) (wid now : Int) (v : Value) (xs : List (Int × Int)) (hl : xs.length ≤ 16) (w : World) (hBq : Bq < w.heap.size) (hn₀ : n₀ ≤ w.heap.size)
    (hq : w.cell? ⟨Bq, 0, none⟩ = some (.pointer (some ⟨B, 0, none⟩))) (hB : w.heap[B]? = some (.cells #[.int .i64 wid, .int .i64 now, v] 50 (0, 0))) (hr : Row es 86 w v xs) (hlr : ∀ k, v.ownBlock = some k → k < n₀) :
    SeqStopsK F n Try.prog 51 #[.pointer (some ⟨Bq, 0, none⟩)] (fun x : Int × Int => #[Value.int .i64 x.1, (.string (keyS x.2))]) (Below n₀) (fun ys => ys = xs) (fun pre => pre <+: xs) xs.length w := fun l J Jx W hW hJ _ hY h0 =>
  all1_in_str F n h hro hn l Bq B n₀ wid now v xs hl J Jx (fun pre W o hj => hJ pre W _ none hj (World.grownBy_alloc W o none) (fun r e => by cases e)) hY W ((hW.cell (p := ⟨Bq, 0, none⟩) hBq).trans hq) ((hW.block B (lt_of_block hB)).trans hB) (hr.kept (S := fun _ => False) ⟨hW.os, hW.tape, hW.output, hW.size, fun k hk _ => hW.block k hk⟩ (fun _ _ h => h)) (Nat.le_trans hn₀ hW.size) hlr h0

set_option maxRecDepth 100000 in
set_option maxHeartbeats 2000000 in
/-- What Fold folds with. -/
theorem step_in_str (F : Fence) (n : Nat) (h : F.fn 36) (hro : F.round = none) (base m : Nat) (hv : Value) (x : Int) (cs : List Value) (hm : m < 100) (W : World) (hb : base ≤ W.heap.size) (ho : W.ownsRow base 9 1 hv m cs) :
    CallsIn F n Try.prog 36 #[hv, (.string (keyS x))] W fun e w' => ∃ g cap tmp, e = .returned (.slice (some ⟨g, 0, none⟩) (m + 1) cap) ∧ w'.ownsRow base 9 1 (.slice (some ⟨g, 0, none⟩) (m + 1) cap) (m + 1) (cs ++ [(.string (keyS x))]) ∧ (W.alloc tmp).grownBy w' hv.ownBlock := by
  obtain ⟨i0, hi, hz0, hz1, hz2⟩ := info_parts info9'
  refine callsIn_of_wp Try.func36 rfl h ?_ hro
  simp only [Try.ntmps36, List.size_toArray, List.length_cons, List.length_nil, Nat.reduceAdd, Nat.reduceSub, Array.replicate_succ, Array.replicate_zero, List.push_toArray, List.append_toArray, List.nil_append, List.cons_append]
  gi_wp2_with (gi_at_builtin; refine wpListIn_append_own _ rfl _ _ 64 rfl base 9 i0 _ 1 16 Try.underlying64 hi hz0 hz1 hz2 rfl (by decide) _ _ _ rfl (ho.alloc _) ⟨W.heap.size, 0, none⟩ 1 1 [(.string (keyS x))] rfl rfl (cell_one_new _ _ _) (by simp [Value.oneCell']) (by unfold maxLen; omega) (by omega) (by simp; omega) ?_; intro v' w1 hown' hgrow _; obtain ⟨g', cap', rfl⟩ := ownsRow_succ hown')
  go_ret
  exact ⟨_, _, _, rfl, hown', hgrow⟩
end Go.Proofs.Ytacjjmdhiphckaa
