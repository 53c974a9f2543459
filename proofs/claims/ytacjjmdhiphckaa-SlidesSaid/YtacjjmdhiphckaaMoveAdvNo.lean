/- Slides: Advance (the time past) of a case. -/
import Derived.Test.YtacjjmdhiphckaaMove0
import Derived.BigQuiet
import Derived.Deep.QuietTactic
namespace Go.Proofs.Ytacjjmdhiphckaa
open Go.RowKit

set_option maxRecDepth 100000 in
set_option maxHeartbeats 8000000 in
theorem madv_no (W : World) (c p a b : Nat) (wid now t x K : Int) (two : Bool) (va vb lv : Value) (l : List (Int × Int)) (hK : (K == 1) = false) (_hl : l.length < 1073741824) (_ht : Rng t) (_hx : Rng x) (hlt : t < now) (h : CaseS W c p a b wid now va vb lv l) :
    Calls Try.prog 8 #[.pointer (some ⟨c, 0, none⟩), .agg #[.int .i64 K, .bool two, .int .i64 t, .int .i64 x]] W fun e w' => e = .returned (.bool true) ∧ ∃ va' vb' lv', CaseS w' c p a b wid now va' vb' lv' l ∧ (∀ k, cfoot c p a b va' vb' lv' k → cfoot c p a b va vb lv k ∨ W.heap.size ≤ k) ∧ Tch (cfoot c p a b va vb lv) W w' := by
  obtain ⟨c0, c1, c2, c3⟩ := h.cells
  have hclt := lt_of_block h.hc
  have hclt1 : c < W.heap.size + 1 := by omega
  have HH := Lib.hid h
  have hkl := keptL_le wid now l
  have hkr : ∀ x ∈ keptL wid now l, Rng x.1 := fun x hx => h.rg x (keptL_mem hx)
  have hlv := h.wm
  clear h
  have T0 : Tch (fun _ => False) W (W.alloc (.cells #[.int .i64 K, .bool two, .int .i64 t, .int .i64 x] 30)) := Tch.alloc _ _ _
  go_enter Try.func8, Try.ntmps8
  go_upto_region 6 with fail
  obtain ⟨w1, hw1⟩ : ∃ w1, W.alloc (.cells #[.int .i64 K, .bool two, .int .i64 t, .int .i64 x] 30) = w1 := ⟨_, rfl⟩
  have r1 : w1.heap[W.heap.size]? = some (.cells #[.int .i64 K, .bool two, .int .i64 t, .int .i64 x] 30 (0, 0)) := by rw [← hw1]; exact World.alloc_heap_new W _
  have T1 := T0
  rw [hw1] at T1 ⊢
  clear hw1
  have hsz := T1.size
  have hBlt : W.heap.size < w1.heap.size := lt_of_block r1
  have h1 := HH.out.kept T1 (fun _ _ h => h)
  obtain ⟨e0, e1, e2, e3⟩ := h1.cells
  have o0 : w1.cell? ⟨W.heap.size, 0, none⟩ = some (.int .i64 K) := by rw [cell_of_row w1 _ 0 _ _ _ r1]; rfl
  have o2 : w1.cell? ⟨W.heap.size, 2, none⟩ = some (.int .i64 t) := by rw [cell_of_row w1 _ 2 _ _ _ r1]; rfl
  have o3 : w1.cell? ⟨W.heap.size, 3, none⟩ = some (.int .i64 x) := by rw [cell_of_row w1 _ 3 _ _ _ r1]; rfl
  have H1 := Lib.hid h1
  have R1 := Lib.hid r1
  have HT1 := Lib.hid T1
  clear h1 r1 T1 T0 c0 c1 c2 c3
  have d0 : decide (t < now) = true := by simpa using hlt
  go_quiet (first | (go_at_call 16; exact Calls.quiet_of_same ((wadv_no (w1.drewN _) p a b wid now t va vb (keptL wid now l) hlt (H1.out.ws.kept (Tch.drewN (fun _ => False) w1 _) (fun _ _ h => h))).mono fun e w' h => ⟨h.1, h.2.symm⟩)))
  go_wp2_with fail
  go_quiet (fail)
  go_wp2_with fail
  go_ret
  exact ⟨rfl, va, vb, lv, HH.out.kept (HT1.out.trans (Tch.drewN _ _ _) (fun _ _ h => h)) (fun _ _ h => h), fun k hk => .inl hk, (HT1.out.trans (Tch.drewN _ _ _) (fun _ _ h => h)).mono (fun _ _ h => h.elim)⟩
end Go.Proofs.Ytacjjmdhiphckaa
