/- Slides: fold of a case. -/
import Derived.Test.YtacjjmdhiphckaaCase
import Derived.Test.YtacjjmdhiphckaaWfold
namespace Go.Proofs.Ytacjjmdhiphckaa
open Go.RowKit

set_option maxRecDepth 100000 in
set_option maxHeartbeats 4000000 in
theorem cfold (W : World) (c p a b : Nat) (wid now : Int) (va vb lv : Value) (l : List (Int × Int)) (hl : l.length ≤ 1073741824) (h : CaseS W c p a b wid now va vb lv l) :
    Calls Try.prog 13 #[.pointer (some ⟨c, 0, none⟩)] W fun e w' => e = .returned (.bool true) ∧ Below W.heap.size W w' := by
  obtain ⟨c0, c1, c2, c3⟩ := h.cells
  have hclt := lt_of_block h.hc
  have KC := Lib.hid (h.keptc hl)
  have HH := Lib.hid h
  clear h
  go_enter Try.func13, Try.ntmps13
  obtain ⟨xs, hxs⟩ : ∃ xs, keptL wid now l = xs := ⟨_, rfl⟩
  have hl16 : xs.length ≤ 16 := by rw [← hxs]; exact keptL_le _ _ _
  rw [hxs] at KC
  have HX := Lib.hid hxs
  clear hxs
  go_upto_region 1 with fail
  go_cut [3] from 9 (fun s3 wc => Hid (wc.ownsRow W.heap.size 56 2 s3 xs.length (flat ei xs)) ∧ Hid (Below W.heap.size W wc))
  case first =>
    go_region_with (go_at_call 9; refine KC.out.mono ?_; rintro e w1 ⟨v', rfl, hk, hb⟩; have HK := Lib.hid hk; have HB := Lib.hid hb; clear hk hb)
    all_goals
      go_wp2_with fail
      go_meet
      exact ⟨HK, HB⟩
  case rest =>
    obtain ⟨HK, HB⟩ := hcut
    have d0 := (HB.out.cell (p := ⟨c, 0, none⟩) hclt).trans c0
    clear c0 c1 c2 c3
    have hws := (HH.out.below HB.out).ws
    rw [HX.out] at hws
    have HW := Lib.hid (wfold wc p a b wid now va vb xs hl16 hws)
    clear hws
    go_wp2_with fail
    refine HW.out.mono ?_
    rintro e w2 ⟨v1, v2, rfl, ho1, ho2, hb2⟩
    have hk2 := ownsRow_below HK.out hb2
    have H1 := Lib.hid ho1
    have H2 := Lib.hid ho2
    have H3 := Lib.hid hk2
    have HB2 := Lib.hid (HB.out.trans (hb2.mono HB.out.size))
    clear ho1 ho2 hk2 hb2 HW d0
    by_cases hn : 0 < xs.length
    · obtain ⟨g3, cap3, rfl, hc3⟩ := owns_form H3.out hn
      obtain ⟨g1, cap1, rfl, hc1⟩ := owns_form H1.out hn
      obtain ⟨g2, cap2, rfl, hc2⟩ := owns_form H2.out hn
      have L1 := owns_slt H1.out
      have L2 := owns_slt H2.out
      have L3 := owns_slt H3.out
      have HRv : Hid (∀ x ∈ xs, Rng x.2) := Lib.hid (by rw [← HX.out]; exact fun x hx => HH.out.rv x (keptL_mem hx))
      go_wp2_with fail
      go_loopw [7] (fun i wr => ∃ k : Nat, k ≤ xs.length ∧ i = .int .i64 k ∧ Below w2.heap.size w2 wr) (fun i _ => xs.length - (intOf i).toNat)
      case atStart => exact ⟨0, Nat.zero_le _, rfl, Below.refl _ _⟩
      case round =>
        obtain ⟨k, hk, rfl, hnx⟩ := hrel
        by_cases hlt : k < xs.length
        · obtain ⟨⟨x1, x2⟩, hx⟩ : ∃ x, xs[k]? = some x := ⟨_, List.getElem?_eq_getElem hlt⟩
          have f3 := (flat_get ei xs k _ hx).2
          have cx := (hnx.cell (p := ⟨g3, k * 2 + 1, none⟩) L3).trans (owns_cell H3.out _ _ f3)
          have hrx := HRv.out _ (List.mem_of_getElem? hx)
          have hx1 : (xs.map fun x => ei x.2)[k]? = some (ei x2) := by rw [List.getElem?_map, hx]; rfl
          have hx2 : (xs.map fun x => es x.2)[k]? = some (es x2) := by rw [List.getElem?_map, hx]; rfl
          have K := Lib.hid (key_any x2 wr hrx.1 hrx.2)
          have HN := Lib.hid hnx
          have HX1 := Lib.hid hx1
          have HX2 := Lib.hid hx2
          clear hx hrx f3 hnx hx1 hx2
          go_wp2_with fail
          refine K.out.mono ?_
          rintro e w3 ⟨rfl, hb3⟩
          have hnx3 := HN.out.trans (hb3.mono HN.out.size)
          have dx := (hnx3.cell (p := ⟨g3, k * 2 + 1, none⟩) L3).trans ((HN.out.cell (p := ⟨g3, k * 2 + 1, none⟩) L3).symm.trans cx)
          have d1 := (hnx3.cell (p := ⟨g1, k, none⟩) L1).trans (owns_cell H1.out _ _ HX1.out)
          have d2 := (hnx3.cell (p := ⟨g2, k, none⟩) L2).trans (owns_cell H2.out _ _ HX2.out)
          have HN3 := Lib.hid hnx3
          clear hnx3 hb3 cx
          go_wp2_with fail
          go_quiet (fail)
          go_wp2_with fail
          go_roundw
          case rel => exact ⟨k + 1, by omega, by go_num, below_drewN HN3.out _⟩
          case measure => simp [intOf]; omega
        · obtain rfl : k = xs.length := by omega
          have HN := Lib.hid hnx
          clear hnx
          go_wp2_with fail
          go_ret
          exact ⟨rfl, HB2.out.trans (HN.out.mono HB2.out.size)⟩
    · obtain ⟨a3, cap3, rfl⟩ := sl_of_owns' H3.out
      obtain ⟨a1, cap1, rfl⟩ := sl_of_owns' H1.out
      obtain ⟨a2, cap2, rfl⟩ := sl_of_owns' H2.out
      obtain h0 : xs.length = 0 := by omega
      rw [h0]
      clear h0 hn
      go_wp2_with fail
      refine wp_loop_rounds 1 ?_
      rw [rounds_succ]
      go_wp2_with fail
      go_ret
      exact ⟨rfl, HB2.out⟩
end Go.Proofs.Ytacjjmdhiphckaa
