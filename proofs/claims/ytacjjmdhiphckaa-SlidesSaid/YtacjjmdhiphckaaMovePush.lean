/- Slides: Push of a case. -/
import Derived.Test.YtacjjmdhiphckaaMove0
import Derived.BigQuiet
import Derived.Deep.QuietTactic
namespace Go.Proofs.Ytacjjmdhiphckaa
open Go.RowKit

set_option maxRecDepth 100000 in
set_option maxHeartbeats 8000000 in
theorem mpush_yes (W : World) (c p a b : Nat) (wid now t x : Int) (two : Bool) (va vb lv : Value) (l : List (Int × Int)) (hl : l.length < 1073741824) (ht : Rng t) (hx : Rng x) (hge : now ≤ t) (h : CaseS W c p a b wid now va vb lv l) :
    Calls Try.prog 8 #[.pointer (some ⟨c, 0, none⟩), .agg #[.int .i64 1, .bool two, .int .i64 t, .int .i64 x]] W fun e w' => e = .returned (.bool true) ∧ MovedTo W c p a b wid t va vb lv (l ++ [(t, x)]) w' := by
  obtain ⟨c0, c1, c2, c3⟩ := h.cells
  have hclt := lt_of_block h.hc
  have hclt1 : c < W.heap.size + 1 := by omega
  have HH := Lib.hid h
  have hkl := keptL_le wid now l
  have hkr : ∀ x ∈ keptL wid now l, Rng x.1 := fun x hx => h.rg x (keptL_mem hx)
  have hlv := h.wm
  clear h
  have T0 : Tch (fun _ => False) W (W.alloc (.cells #[.int .i64 1, .bool two, .int .i64 t, .int .i64 x] 30)) := Tch.alloc _ _ _
  go_enter Try.func8, Try.ntmps8
  go_upto_region 5 with (go_at_call 14; refine (key_any x _ hx.1 hx.2).mono ?_; rintro e w1 ⟨rfl, hb⟩)
  have T1 : Tch (fun _ => False) W w1 := T0.trans ((Tch.of_below hb).mono (fun k hk h => absurd h (by omega))) (fun _ _ h => h)
  have r1 : w1.heap[W.heap.size]? = some (.cells #[.int .i64 1, .bool two, .int .i64 t, .int .i64 x] 30 (0, 0)) := (hb.block _ (by simp)).trans (World.alloc_heap_new W _)
  have hsz := T1.size
  have hBlt : W.heap.size < w1.heap.size := lt_of_block r1
  have h1 := HH.out.kept T1 (fun _ _ h => h)
  obtain ⟨e0, e1, e2, e3⟩ := h1.cells
  have o0 : w1.cell? ⟨W.heap.size, 0, none⟩ = some (.int .i64 1) := by rw [cell_of_row w1 _ 0 _ _ _ r1]; rfl
  have o2 : w1.cell? ⟨W.heap.size, 2, none⟩ = some (.int .i64 t) := by rw [cell_of_row w1 _ 2 _ _ _ r1]; rfl
  have o3 : w1.cell? ⟨W.heap.size, 3, none⟩ = some (.int .i64 x) := by rw [cell_of_row w1 _ 3 _ _ _ r1]; rfl
  have H1 := Lib.hid h1
  have R1 := Lib.hid r1
  have HT1 := Lib.hid T1
  clear h1 r1 T1 T0 c0 c1 c2 c3
  go_cut [5, 6] from 8 (fun s5 s6 wc => s5 = .bool true ∧ s6 = .bool true ∧ Hid (WinTo w1 p a b wid t va vb (keptL wid t (l ++ [(t, x)])) wc))
  case first =>
    go_region_with (go_at_call 15; refine (wpush_yes w1.drew p a b wid now t x va vb (keptL wid now l) hge ht hlv hkr hkl (H1.out.ws.kept (Tch.drewN (fun _ => False) w1 1) (fun _ _ h => h))).mono ?_; rintro e w2 ⟨rfl, va', vb', k1, k2, k3⟩; have KW : Hid (WinTo w1 p a b wid t va vb (keptL wid t (l ++ [(t, x)])) w2) := Lib.hid ⟨va', vb', by first | exact k1 | (rw [← kept_push wid now t x l HH.out.so hge]; exact k1) | (rw [← kept_adv wid now t l HH.out.so hge]; exact k1), k2, ((Tch.drewN _ w1 1).trans k3 (fun _ _ h => h))⟩; clear k1 k2 k3)
    all_goals
      go_wp2_with fail
      go_meet
      exact ⟨rfl, rfl, KW⟩
  case rest =>
    obtain ⟨rfl, rfl, KW⟩ := hcut
    have hT := KW.out
    obtain ⟨va', vb', -, -, hTc⟩ := hT
    obtain ⟨hc, ol⟩ := H1.out.across hTc
    have rc := hTc.heap R1.out (H1.out.ws.far R1.out (by decide) (by decide) (by decide) (by decide) (by decide))
    clear hTc e0 e1 e2 e3 o0 o2 o3
    have hcB : c ≠ W.heap.size := by omega
    have f0 : wc.cell? ⟨c, 0, none⟩ = some (.pointer (some ⟨p, 0, none⟩)) := by rw [cell_of_row wc c 0 _ _ _ hc]; rfl
    have f1 : wc.cell? ⟨c, 1, none⟩ = some lv := by rw [cell_of_row wc c 1 _ _ _ hc]; rfl
    have f3 : wc.cell? ⟨c, 3, none⟩ = some (.int .i64 now) := by rw [cell_of_row wc c 3 _ _ _ hc]; rfl
    have z3 : ∀ o, wc.frozen? ⟨c, o, none⟩ = false := fun o => frozen_of_row wc c o _ _ hc
    have o0 : wc.cell? ⟨W.heap.size, 0, none⟩ = some (.int .i64 1) := by rw [cell_of_row wc _ 0 _ _ _ rc]; rfl
    have o2 : wc.cell? ⟨W.heap.size, 2, none⟩ = some (.int .i64 t) := by rw [cell_of_row wc _ 2 _ _ _ rc]; rfl
    have o3 : wc.cell? ⟨W.heap.size, 3, none⟩ = some (.int .i64 x) := by rw [cell_of_row wc _ 3 _ _ _ rc]; rfl
    have HC := Lib.hid (And.intro hc ol)
    have KR := Lib.hid rc
    clear hc ol rc
    have d0 : decide (t < now) = false := by simpa using hge
    have OL := HC.out.2
    have hcl : c < wc.heap.size := lt_of_block HC.out.1
    go_wp2_with fail
    go_quiet (fail)
    go_upto_region 11 with fail
    have c5 : ((wc.drewN nq).setCell ⟨c, 3, none⟩ (.int .i64 t)).heap[c]? = some (.cells #[.pointer (some ⟨p, 0, none⟩), lv, .int .i64 wid, .int .i64 t] 27 (0, 0)) := heap_setCell_at (w := wc.drewN nq) (o := 3) HC.out.1 _
    have r5 : ((wc.drewN nq).setCell ⟨c, 3, none⟩ (.int .i64 t)).heap[W.heap.size]? = some (.cells #[.int .i64 1, .bool two, .int .i64 t, .int .i64 x] 30 (0, 0)) := by
      rw [Below.heap_setCell _ _ _ _ (Ne.symm hcB)]
      exact KR.out
    have O5 : ((wc.drewN nq).setCell ⟨c, 3, none⟩ (.int .i64 t)).ownsRow 0 56 2 lv l.length (flat ei l) := ownsRow_tch OL ((Tch.drewN (· = c) wc nq).trans (Tch.setCell (S := (· = c)) _ (a := ⟨c, 3, none⟩) rfl _) (fun _ _ h => h)) (fun g hg e => owns_far OL HC.out.1 (by decide) (by rw [hg, e]))
    have T5 : Tch (fun _ => False) ((wc.drewN nq).setCell ⟨c, 3, none⟩ (.int .i64 t)) ((wc.drewN nq).setCell ⟨c, 3, none⟩ (.int .i64 t)) := Tch.refl _ _
    have MP := fun X w2 g cap => moved_push (X := X) (w2 := w2) (m := nq) (g := g) (cap := cap) HH.out hge ht hx HT1.out KW.out
    have HMP := Lib.hid MP
    clear MP
    obtain ⟨W5, hW5⟩ : ∃ W5, (wc.drewN nq).setCell ⟨c, 3, none⟩ (.int .i64 t) = W5 := ⟨_, rfl⟩
    rw [hW5] at c5 r5 O5 T5 HMP ⊢
    clear hW5 f0 f1 f3 z3 o0 o2 o3 OL
    have hBl : W.heap.size < W5.heap.size := lt_of_block r5
    have hcl5 : c < W5.heap.size := lt_of_block c5
    have hBl1 : W.heap.size < W5.heap.size + 1 := by omega
    have hcl51 : c < W5.heap.size + 1 := by omega
    have f1 : W5.cell? ⟨c, 1, none⟩ = some lv := by rw [cell_of_row W5 c 1 _ _ _ c5]; rfl
    have o2 : W5.cell? ⟨W.heap.size, 2, none⟩ = some (.int .i64 t) := by rw [cell_of_row W5 _ 2 _ _ _ r5]; rfl
    have o3 : W5.cell? ⟨W.heap.size, 3, none⟩ = some (.int .i64 x) := by rw [cell_of_row W5 _ 3 _ _ _ r5]; rfl
    have cne : lv.ownBlock ≠ some c := owns_far O5 c5 (by decide)
    obtain ⟨i0, hi, hz0, hz1, hz2⟩ := info_parts Try.info56
    have HC5 := Lib.hid c5
    clear c5 r5
    go_cut [] from 44 (fun wd => Hid (MovedTo W c p a b wid t va vb lv (l ++ [(t, x)]) wd))
    case first =>
      go_region_law (first
        | (refine step_append_lies _ ?_ (.tmp 62) (.tmp 68) 25 ?_ 0 56 i0 _ 2 16 Try.underlying25 hi hz0 hz1 hz2 rfl (by decide) lv l.length (flat ei l) ?_ ?_ ⟨W5.heap.size, 0, none⟩ 1 1 [.int .i64 t, .int .i64 x] ?_ rfl ?_ (by simp [Value.oneCell']) (by decide) (by unfold maxLen; omega) (by omega) ?_ _ rfl ?_
           · rfl
           · rfl
           · (simp [Act.eval]; done)
           · exact (O5.alloc _).drew
           · (simp [Act.eval]; done)
           · (intro j u hu
              match j, hu with
              | 0, hu => simp at hu; subst hu; exact World.cell?_alloc_at _ _ _ _ rfl
              | 1, hu => simp at hu; subst hu; exact World.cell?_alloc_at _ _ _ _ rfl
              | j + 2, hu => simp at hu)
           · (simp; done)
           intro g1 cap1 w2 hown1 hgrow1 hat1 hlt1
           have HM := Lib.hid (HMP.out _ w2 g1 cap1 (T5.allocR _).drewR hgrow1 hown1 hat1)
           have hcX : ((W5.alloc (.cells #[.int .i64 t, .int .i64 x] 56)).drew).heap[c]? = some (.cells #[.pointer (some ⟨p, 0, none⟩), lv, .int .i64 wid, .int .i64 t] 27 (0, 0)) := heap_over _ HC5.out
           have hc2 := (Tch.of_grownBy hgrow1).heap hcX cne
           have f12 : w2.cell? ⟨c, 1, none⟩ = some lv := (by rw [cell_of_row w2 c 1 _ _ _ hc2]; rfl)
           have z12 : w2.frozen? ⟨c, 1, none⟩ = false := frozen_of_row w2 c 1 _ _ hc2
           clear hcX hc2 hown1 hgrow1 hat1))
      all_goals
        go_wp2_with fail
        go_meet
        exact HM
    case rest =>
      have HM := hcut
      go_wp2_with fail
      go_ret
      exact ⟨rfl, HM.out⟩
end Go.Proofs.Ytacjjmdhiphckaa
