/- Slides: all of a case. -/
import Derived.Test.YtacjjmdhiphckaaCase
import Derived.Test.YtacjjmdhiphckaaWall
namespace Go.Proofs.Ytacjjmdhiphckaa
open Go.RowKit

set_option maxRecDepth 100000 in
set_option maxHeartbeats 8000000 in
theorem call_low0 (W : World) (c p a b : Nat) (wid now n : Int) (va vb lv : Value) (l : List (Int × Int)) (hl : l.length ≤ 1073741824) (h : CaseS W c p a b wid now va vb lv l) (hin : n < 1 ∧ ¬ 0 < (keptL wid now l).length) :
    Calls Try.prog 12 #[.pointer (some ⟨c, 0, none⟩), .int .i64 n] W fun e w' => e = .returned (.bool true) ∧ Below W.heap.size W w' := by
  obtain ⟨c0, c1, c2, c3⟩ := h.cells
  have hclt := lt_of_block h.hc
  have KC := Lib.hid (h.keptc hl)
  have HH := Lib.hid h
  clear h
  go_enter Try.func12, Try.ntmps12
  obtain ⟨xs, hxs⟩ : ∃ xs, keptL wid now l = xs := ⟨_, rfl⟩
  have hl16 : xs.length ≤ 16 := by rw [← hxs]; exact keptL_le _ _ _
  rw [hxs] at KC hin
  have HX := Lib.hid hxs
  clear hxs
  go_upto_region 1 with fail
  go_cut [5] from 10 (fun s5 wc => Hid (wc.ownsRow W.heap.size 56 2 s5 xs.length (flat ei xs)) ∧ Hid (Below W.heap.size W wc))
  case first =>
    go_region_with (go_at_call 9; refine KC.out.mono ?_; rintro e w1 ⟨v', rfl, hk, hb⟩; have HK := Lib.hid hk; have HB := Lib.hid hb; clear hk hb)
    all_goals
      go_wp2_with fail
      go_meet
      exact ⟨HK, HB⟩
  case rest =>
    obtain ⟨HK, HB⟩ := hcut
    have d0 := (HB.out.cell (p := ⟨c, 0, none⟩) hclt).trans c0
    clear c0 c1 c2 c3
    have hws := (HH.out.below HB.out).ws
    rw [HX.out] at hws
    have HW := Lib.hid hws
    clear hws
    obtain ⟨hlow, h0⟩ := hin
    have hxs0 : xs = [] := List.eq_nil_of_length_eq_zero (by omega)
    subst hxs0
    obtain ⟨a3, cap3, rfl⟩ : ∃ a c, u5 = .slice a 0 c := sl_of_owns' HK.out
    clear hl16 h0
    go_wp2_with fail
    refine (wall wc p a b wid now 1 va vb [] (by simp) (by omega) HW.out).mono ?_
    rintro e w2 ⟨v1, v2, rfl, ho1, ho2, hb2⟩
    simp only [List.take_nil, List.length_nil, List.map_nil] at ho1 ho2
    have HB2 := Lib.hid (HB.out.trans (hb2.mono HB.out.size))
    obtain ⟨a1, cap1, rfl⟩ := sl_of_owns' ho1
    obtain ⟨a2, cap2, rfl⟩ := sl_of_owns' ho2
    clear ho1 ho2 hb2 HW d0
    go_wp2_with fail
    refine wp_loop_rounds 1 ?_
    rw [rounds_succ]
    go_wp2_with fail
    go_ret
    exact ⟨rfl, HB2.out⟩

end Go.Proofs.Ytacjjmdhiphckaa
