/- Slides: Advance of a case. -/
import Derived.Test.YtacjjmdhiphckaaMove0
import Derived.BigQuiet
import Derived.Deep.QuietTactic
namespace Go.Proofs.Ytacjjmdhiphckaa
open Go.RowKit

set_option maxRecDepth 100000 in
set_option maxHeartbeats 8000000 in
theorem madv_yes (W : World) (c p a b : Nat) (wid now t x K : Int) (two : Bool) (va vb lv : Value) (l : List (Int × Int)) (hK : (K == 1) = false) (_hl : l.length < 1073741824) (_ht : Rng t) (_hx : Rng x) (hge : now ≤ t) (h : CaseS W c p a b wid now va vb lv l) :
    Calls Try.prog 8 #[.pointer (some ⟨c, 0, none⟩), .agg #[.int .i64 K, .bool two, .int .i64 t, .int .i64 x]] W fun e w' => e = .returned (.bool true) ∧ MovedTo W c p a b wid t va vb lv (l) w' := by
  obtain ⟨c0, c1, c2, c3⟩ := h.cells
  have hclt := lt_of_block h.hc
  have hclt1 : c < W.heap.size + 1 := by omega
  have HH := Lib.hid h
  have hkl := keptL_le wid now l
  have hkr : ∀ x ∈ keptL wid now l, Rng x.1 := fun x hx => h.rg x (keptL_mem hx)
  have hlv := h.wm
  clear h
  have T0 : Tch (fun _ => False) W (W.alloc (.cells #[.int .i64 K, .bool two, .int .i64 t, .int .i64 x] 30)) := Tch.alloc _ _ _
  go_enter Try.func8, Try.ntmps8
  go_upto_region 6 with fail
  obtain ⟨w1, hw1⟩ : ∃ w1, W.alloc (.cells #[.int .i64 K, .bool two, .int .i64 t, .int .i64 x] 30) = w1 := ⟨_, rfl⟩
  have r1 : w1.heap[W.heap.size]? = some (.cells #[.int .i64 K, .bool two, .int .i64 t, .int .i64 x] 30 (0, 0)) := by rw [← hw1]; exact World.alloc_heap_new W _
  have T1 := T0
  rw [hw1] at T1 ⊢
  clear hw1
  have hsz := T1.size
  have hBlt : W.heap.size < w1.heap.size := lt_of_block r1
  have h1 := HH.out.kept T1 (fun _ _ h => h)
  obtain ⟨e0, e1, e2, e3⟩ := h1.cells
  have o0 : w1.cell? ⟨W.heap.size, 0, none⟩ = some (.int .i64 K) := by rw [cell_of_row w1 _ 0 _ _ _ r1]; rfl
  have o2 : w1.cell? ⟨W.heap.size, 2, none⟩ = some (.int .i64 t) := by rw [cell_of_row w1 _ 2 _ _ _ r1]; rfl
  have o3 : w1.cell? ⟨W.heap.size, 3, none⟩ = some (.int .i64 x) := by rw [cell_of_row w1 _ 3 _ _ _ r1]; rfl
  have H1 := Lib.hid h1
  have R1 := Lib.hid r1
  have HT1 := Lib.hid T1
  clear h1 r1 T1 T0 c0 c1 c2 c3
  go_cut [5, 6] from 8 (fun s5 s6 wc => s5 = .bool true ∧ s6 = .bool true ∧ Hid (WinTo w1 p a b wid t va vb (keptL wid t l) wc))
  case first =>
    go_region_with (go_at_call 16; refine (wadv_yes w1.drew p a b wid now t va vb (keptL wid now l) hge hlv hkr hkl (H1.out.ws.kept (Tch.drewN (fun _ => False) w1 1) (fun _ _ h => h))).mono ?_; rintro e w2 ⟨rfl, va', vb', k1, k2, k3⟩; have KW : Hid (WinTo w1 p a b wid t va vb (keptL wid t l) w2) := Lib.hid ⟨va', vb', by first | exact k1 | (rw [← kept_push wid now t x l HH.out.so hge]; exact k1) | (rw [← kept_adv wid now t l HH.out.so hge]; exact k1), k2, ((Tch.drewN _ w1 1).trans k3 (fun _ _ h => h))⟩; clear k1 k2 k3)
    all_goals
      go_wp2_with fail
      go_meet
      exact ⟨rfl, rfl, KW⟩
  case rest =>
    obtain ⟨rfl, rfl, KW⟩ := hcut
    have hT := KW.out
    obtain ⟨va', vb', -, -, hTc⟩ := hT
    obtain ⟨hc, ol⟩ := H1.out.across hTc
    have rc := hTc.heap R1.out (H1.out.ws.far R1.out (by decide) (by decide) (by decide) (by decide) (by decide))
    clear hTc e0 e1 e2 e3 o0 o2 o3
    have hcB : c ≠ W.heap.size := by omega
    have f0 : wc.cell? ⟨c, 0, none⟩ = some (.pointer (some ⟨p, 0, none⟩)) := by rw [cell_of_row wc c 0 _ _ _ hc]; rfl
    have f1 : wc.cell? ⟨c, 1, none⟩ = some lv := by rw [cell_of_row wc c 1 _ _ _ hc]; rfl
    have f3 : wc.cell? ⟨c, 3, none⟩ = some (.int .i64 now) := by rw [cell_of_row wc c 3 _ _ _ hc]; rfl
    have z3 : ∀ o, wc.frozen? ⟨c, o, none⟩ = false := fun o => frozen_of_row wc c o _ _ hc
    have o0 : wc.cell? ⟨W.heap.size, 0, none⟩ = some (.int .i64 K) := by rw [cell_of_row wc _ 0 _ _ _ rc]; rfl
    have o2 : wc.cell? ⟨W.heap.size, 2, none⟩ = some (.int .i64 t) := by rw [cell_of_row wc _ 2 _ _ _ rc]; rfl
    have o3 : wc.cell? ⟨W.heap.size, 3, none⟩ = some (.int .i64 x) := by rw [cell_of_row wc _ 3 _ _ _ rc]; rfl
    have HC := Lib.hid (And.intro hc ol)
    have KR := Lib.hid rc
    clear hc ol rc
    have d0 : decide (t < now) = false := by simpa using hge
    go_wp2_with fail
    go_quiet (fail)
    go_wp2_with fail
    go_ret
    exact ⟨rfl, moved_adv HH.out hge HT1.out KW.out⟩
end Go.Proofs.Ytacjjmdhiphckaa
