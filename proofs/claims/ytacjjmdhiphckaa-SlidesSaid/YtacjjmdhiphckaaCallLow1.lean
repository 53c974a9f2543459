/- Slides: all of a case. -/
import Derived.Test.YtacjjmdhiphckaaCase
import Derived.Test.YtacjjmdhiphckaaWall
namespace Go.Proofs.Ytacjjmdhiphckaa
open Go.RowKit

set_option maxRecDepth 100000 in
set_option maxHeartbeats 8000000 in
theorem call_low1 (W : World) (c p a b : Nat) (wid now n : Int) (va vb lv : Value) (l : List (Int × Int)) (hl : l.length ≤ 1073741824) (h : CaseS W c p a b wid now va vb lv l) (hin : n < 1 ∧ 0 < (keptL wid now l).length) :
    Calls Try.prog 12 #[.pointer (some ⟨c, 0, none⟩), .int .i64 n] W fun e w' => e = .returned (.bool true) ∧ Below W.heap.size W w' := by
  obtain ⟨c0, c1, c2, c3⟩ := h.cells
  have hclt := lt_of_block h.hc
  have KC := Lib.hid (h.keptc hl)
  have HH := Lib.hid h
  clear h
  go_enter Try.func12, Try.ntmps12
  obtain ⟨xs, hxs⟩ : ∃ xs, keptL wid now l = xs := ⟨_, rfl⟩
  have hl16 : xs.length ≤ 16 := by rw [← hxs]; exact keptL_le _ _ _
  rw [hxs] at KC hin
  have HX := Lib.hid hxs
  clear hxs
  go_upto_region 1 with fail
  go_cut [5] from 10 (fun s5 wc => Hid (wc.ownsRow W.heap.size 56 2 s5 xs.length (flat ei xs)) ∧ Hid (Below W.heap.size W wc))
  case first =>
    go_region_with (go_at_call 9; refine KC.out.mono ?_; rintro e w1 ⟨v', rfl, hk, hb⟩; have HK := Lib.hid hk; have HB := Lib.hid hb; clear hk hb)
    all_goals
      go_wp2_with fail
      go_meet
      exact ⟨HK, HB⟩
  case rest =>
    obtain ⟨HK, HB⟩ := hcut
    have d0 := (HB.out.cell (p := ⟨c, 0, none⟩) hclt).trans c0
    clear c0 c1 c2 c3
    have hws := (HH.out.below HB.out).ws
    rw [HX.out] at hws
    have HW := Lib.hid hws
    clear hws
    obtain ⟨hlow, h0⟩ := hin
    have g3' : ¬ ((xs.length : Int) + 1 ≤ (xs.length : Int)) := by omega
    obtain ⟨g3, cap3, rfl, hc3⟩ := owns_form HK.out h0
    go_wp2_with fail
    refine (wall wc p a b wid now ((xs.length : Int) + 1) va vb xs hl16 (by omega) HW.out).mono ?_
    rintro e w2 ⟨v1, v2, rfl, ho1, ho2, hb2⟩
    have hk2 := ownsRow_below HK.out hb2
    rw [show ((xs.length : Int) + 1).toNat = xs.length + 1 by omega, List.take_of_length_le (by omega : xs.length ≤ xs.length + 1)] at ho1 ho2
    have H1 := Lib.hid ho1
    have H2 := Lib.hid ho2
    have H3 := Lib.hid hk2
    have HB2 := Lib.hid (HB.out.trans (hb2.mono HB.out.size))
    clear ho1 ho2 hk2 hb2 HW d0
    obtain ⟨g1, cap1, rfl, hc1⟩ := owns_form H1.out (by omega)
    obtain ⟨g2, cap2, rfl, hc2⟩ := owns_form H2.out (by omega)
    go_wp2_with fail
    go_loopw [9] (fun i wr => ∃ k m : Nat, k ≤ xs.length ∧ i = .int .i64 k ∧ wr = w2.drewN m) (fun i _ => xs.length - (intOf i).toNat)
    case atStart => exact ⟨0, 0, Nat.zero_le _, rfl, rfl⟩
    case round =>
      obtain ⟨k, m, hk, rfl, rfl⟩ := hrel
      by_cases hlt : k < xs.length
      · obtain ⟨⟨x1, x2⟩, hx⟩ : ∃ x, xs[k]? = some x := ⟨_, List.getElem?_eq_getElem (by omega)⟩
        have f3 := (flat_get ei xs k _ hx).1
        have f4 := (flat_get ei xs k _ hx).2
        have e3 := owns_cell H3.out _ _ f3
        have e4 := owns_cell H3.out _ _ f4
        have e1 := owns_cell H1.out k (.int .i64 x1) (by rw [List.getElem?_map, List.getElem?_map, hx]; rfl)
        have e2 := owns_cell H2.out k (.int .i64 x2) (by rw [List.getElem?_map, List.getElem?_map, hx]; rfl)
        clear hx f3 f4
        go_wp2_with fail
        go_quiet (fail)
        go_wp2_with fail
        go_roundw
        case rel => exact ⟨k + 1, _, by omega, by go_num, rfl⟩
        case measure => simp [intOf]; omega
      · obtain rfl : k = xs.length := by omega
        go_wp2_with fail
        go_ret
        exact ⟨rfl, below_drewN HB2.out _⟩

end Go.Proofs.Ytacjjmdhiphckaa
