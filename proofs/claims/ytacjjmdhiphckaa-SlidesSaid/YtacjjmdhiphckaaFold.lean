/- Slides: Fold. -/
import Derived.RangeFuncNested
import Derived.RangeFuncBound
import Derived.RangeFuncCalls
import Derived.Test.YtacjjmdhiphckaaSeq
namespace Go.Proofs.Ytacjjmdhiphckaa
open Go.RowKit Go.Shelf

attribute [local go_sem] Oper.semAt_some
attribute [local irreducible] keyS

set_option maxRecDepth 100000 in
set_option maxHeartbeats 2000000 in
/-- Fold of a window, to a list of what it has. -/
theorem fold_in_int (F : Fence) (n : Nat) (h1 : F.fn 33) (h2 : F.fn 31) (h3 : F.fn 47) (h4 : F.fn 34) (hro : F.round = none) (hn : 3 ≤ n) (B : Nat) (wid now : Int) (v : Value) (xs : List (Int × Int)) (hl : xs.length ≤ 16) (w : World)
    (hB : w.heap[B]? = some (.cells #[.int .i64 wid, .int .i64 now, v] 47 (0, 0))) (hr : Row ei 84 w v xs) :
    CallsIn F n Try.prog 33 #[.pointer (some ⟨B, 0, none⟩), .slice none 0 0, .func (.func 34) #[] #[]] w fun e W' =>
      ∃ v', e = .returned v' ∧ W'.ownsRow w.heap.size 2 1 v' xs.length (xs.map fun x => ei x.2) ∧ Below w.heap.size w W' := by
  have hn1 : 1 ≤ n := by omega
  have hBlt := lt_of_block hB
  have hvlt : ∀ k, v.ownBlock = some k → k < w.heap.size := fun k hk => by obtain ⟨c, hc⟩ := hr.blk k hk; exact lt_of_block hc
  refine callsIn_of_wp_marks Try.func33 rfl h1 ?_ hro
  simp only [Try.ntmps33, List.size_toArray, List.length_cons, List.length_nil, Nat.reduceAdd, Nat.reduceSub, Array.replicate_succ, Array.replicate_zero, List.push_toArray, List.append_toArray, List.nil_append, List.cons_append]
  have HB := Lib.hid hB
  clear hB
  gi_wp2_with (gi_at_call 31; refine (all_in_int F (n - 1) h2 hro _ _).mono ?_; rintro e w' ⟨rfl, rfl⟩)
  have bO := Boxed.new w 61 (.slice none 0 0)
  have bS := Boxed.new (w.alloc (.cells #[.slice none 0 0] 61)) 78 (.func (.func 34) #[] #[])
  have bN := Boxed.new ((w.alloc (.cells #[.slice none 0 0] 61)).alloc (.cells #[.func (.func 34) #[] #[]] 78)) 33 (.pointer (some ⟨B, 0, none⟩))
  rw [World.size_alloc] at bS
  rw [World.size_alloc, World.size_alloc] at bN
  have hB0 : Below w.heap.size w (((w.alloc (.cells #[.slice none 0 0] 61)).alloc (.cells #[.func (.func 34) #[] #[]] 78)).alloc (.cells #[.pointer (some ⟨B, 0, none⟩)] 33)) := (((Below.refl _ w).alloc (Nat.le_refl _) _).alloc (by simp) _).alloc (by simp; omega) _
  refine wpIn_rangeFunc_ownG hro hn1 (gf := 47) (lb := #[.pointer (some ⟨w.heap.size + 1 + 1, 0, none⟩)]) rfl h3 (enters_of Try.func47 (by kernel_rfl) rfl)
    (all_stops_int F (n - 1) h3 hro (by omega) (w.heap.size + 1 + 1) B w.heap.size wid now v xs hl _ (by simp) (by simp; omega) bN.cell ((hB0.block B hBlt).trans HB.out) (hr.kept (Tch.of_below hB0) (fun g hg hn => by have := hvlt g hg; omega)) hvlt) belowK_t (belowK_b (by simp; omega)) (Below.refl _ _) (fun _ => rfl)
    (fun pre W => ((∃ v, Boxed W w.heap.size 61 v ∧ W.ownsRow w.heap.size 2 1 v pre.length (pre.map fun x => ei x.2) ∧ True) ∧ Boxed W (w.heap.size + 1) 78 (.func (.func 34) #[] #[])) ∧ Below w.heap.size w W)
    (fun _ _ _ => False)
    (OwnFrom.and (OwnFrom.and (Own.from (holdsRow_own w.heap.size w.heap.size 61 2 1 (fun pre : List (Int × Int) => pre.length) (fun pre => pre.map fun x => ei x.2) (fun _ _ => True)) _)
      (Own.from (fun s X Y row hv hg hrow => Boxed.kept hv hg (fun e' => by obtain ⟨o, ho, hc⟩ := hrow _ e'.symm; rw [show X.heap[_]? = _ from hv] at ho; cases ho; cases hc)) _)) (ownFrom_below (Nat.le_refl _) (by simp; omega)))
    (fun _ _ _ _ _ hs _ _ => hs)
    ⟨⟨⟨_, (bO.alloc _).alloc _, World.ownsRow_nil _ _ _ _, trivial⟩, bS.alloc _⟩, hB0⟩
    (fun x => { tmps := #[.pointer (some ⟨B, 0, none⟩), .slice none 0 0, .func (.func 34) #[] #[], undef, .pointer (some ⟨w.heap.size, 0, none⟩), .pointer (some ⟨w.heap.size + 1, 0, none⟩), .slice none 0 0, undef, (.int .i64 x.2), .pointer (some ⟨B, 0, none⟩), .func (.func 47) #[] #[.pointer (some ⟨w.heap.size + 1 + 1, 0, none⟩)], .int .i64 x.1, (.int .i64 x.2), undef, undef, undef, undef, undef], defers := [] }) ?assign ?body ?done ?stop
  case assign =>
    intro l x W K hK
    gi_wp2
    exact hK
  case body =>
    rintro l pre x W ⟨⟨⟨hv, hbx, hrow, -⟩, hst⟩, hB⟩ hlt
    have hc := hbx.cell
    have hc2 := hst.cell
    have hp : pre.length < 100 := by omega
    gi_wp2
    refine ⟨fun _ => by omega, ?_⟩
    refine (CallsIn.inRound l (step_in_int F _ h4 hro w.heap.size pre.length hv x.2 _ hp W hB.size hrow)).mono ?_
    rintro e w1 ⟨g', cap', tmp, rfl, hown', hgrow⟩
    obtain ⟨hv1, hv2, hr2, hk2, hb2⟩ := hbx.appended (by decide) hrow hB.size (Nat.le_refl _) hown' hgrow
    have hc1 := hv1.cell
    have hf1 := hv1.frozen
    gi_wp2
    refine ⟨hk2.from _, hb2, ⟨⟨_, hv2, by rw [List.length_append, List.map_append]; exact hr2, trivial⟩, ?_⟩, hB.trans hb2⟩
    exact ((hst.alloc tmp).kept hgrow (hst.not_row (by decide) hrow)).kept (grownBy_setCell' _ _ _) (fun e => by simp at e)
  case done =>
    rintro D ys W hD rfl ⟨⟨⟨hv, hbx, hrow, -⟩, hst⟩, hB⟩ hK
    have hc := hbx.cell
    gi_wp2
    refine ⟨by simp, .inl ⟨_, _, rfl, run_takeDeferred hK, ?_⟩⟩
    exact ⟨_, results_tmp rfl _ _ _, hv, rfl, ownsRow_putObj hrow _ hK rfl, hB.trans (belowK_b (w := w) (Nat.le_refl _) W D _ _ (by simp at hD; omega) hK rfl rfl)⟩
  case stop =>
    rintro D c pre W _ _ h _
    exact h.elim

/-- Fold of a window, called from wherever. -/
theorem fold_int (B : Nat) (wid now : Int) (v : Value) (xs : List (Int × Int)) (hl : xs.length ≤ 16) (w : World)
    (hB : w.heap[B]? = some (.cells #[.int .i64 wid, .int .i64 now, v] 47 (0, 0))) (hr : Row ei 84 w v xs) :
    Calls Try.prog 33 #[.pointer (some ⟨B, 0, none⟩), .slice none 0 0, .func (.func 34) #[] #[]] w fun e W' =>
      ∃ v', e = .returned v' ∧ W'.ownsRow w.heap.size 2 1 v' xs.length (xs.map fun x => ei x.2) ∧ Below w.heap.size w W' :=
  callsIn_wide.1 (fold_in_int Fence.wide 3 trivial trivial trivial trivial rfl (by omega) B wid now v xs hl w hB hr)
set_option maxRecDepth 100000 in
set_option maxHeartbeats 2000000 in
/-- Fold of a window, to a list of what it has. -/
theorem fold_in_str (F : Fence) (n : Nat) (h1 : F.fn 35) (h2 : F.fn 48) (h3 : F.fn 51) (h4 : F.fn 36) (hro : F.round = none) (hn : 3 ≤ n) (B : Nat) (wid now : Int) (v : Value) (xs : List (Int × Int)) (hl : xs.length ≤ 16) (w : World)
    (hB : w.heap[B]? = some (.cells #[.int .i64 wid, .int .i64 now, v] 50 (0, 0))) (hr : Row es 86 w v xs) :
    CallsIn F n Try.prog 35 #[.pointer (some ⟨B, 0, none⟩), .slice none 0 0, .func (.func 36) #[] #[]] w fun e W' =>
      ∃ v', e = .returned v' ∧ W'.ownsRow w.heap.size 9 1 v' xs.length (xs.map fun x => es x.2) ∧ Below w.heap.size w W' := by
  have hn1 : 1 ≤ n := by omega
  have hBlt := lt_of_block hB
  have hvlt : ∀ k, v.ownBlock = some k → k < w.heap.size := fun k hk => by obtain ⟨c, hc⟩ := hr.blk k hk; exact lt_of_block hc
  refine callsIn_of_wp_marks Try.func35 rfl h1 ?_ hro
  simp only [Try.ntmps35, List.size_toArray, List.length_cons, List.length_nil, Nat.reduceAdd, Nat.reduceSub, Array.replicate_succ, Array.replicate_zero, List.push_toArray, List.append_toArray, List.nil_append, List.cons_append]
  have HB := Lib.hid hB
  clear hB
  gi_wp2_with (gi_at_call 48; refine (all_in_str F (n - 1) h2 hro _ _).mono ?_; rintro e w' ⟨rfl, rfl⟩)
  have bO := Boxed.new w 64 (.slice none 0 0)
  have bS := Boxed.new (w.alloc (.cells #[.slice none 0 0] 64)) 80 (.func (.func 36) #[] #[])
  have bN := Boxed.new ((w.alloc (.cells #[.slice none 0 0] 64)).alloc (.cells #[.func (.func 36) #[] #[]] 80)) 35 (.pointer (some ⟨B, 0, none⟩))
  rw [World.size_alloc] at bS
  rw [World.size_alloc, World.size_alloc] at bN
  have hB0 : Below w.heap.size w (((w.alloc (.cells #[.slice none 0 0] 64)).alloc (.cells #[.func (.func 36) #[] #[]] 80)).alloc (.cells #[.pointer (some ⟨B, 0, none⟩)] 35)) := (((Below.refl _ w).alloc (Nat.le_refl _) _).alloc (by simp) _).alloc (by simp; omega) _
  refine wpIn_rangeFunc_ownG hro hn1 (gf := 51) (lb := #[.pointer (some ⟨w.heap.size + 1 + 1, 0, none⟩)]) rfl h3 (enters_of Try.func51 (by kernel_rfl) rfl)
    (all_stops_str F (n - 1) h3 hro (by omega) (w.heap.size + 1 + 1) B w.heap.size wid now v xs hl _ (by simp) (by simp; omega) bN.cell ((hB0.block B hBlt).trans HB.out) (hr.kept (Tch.of_below hB0) (fun g hg hn => by have := hvlt g hg; omega)) hvlt) belowK_t (belowK_b (by simp; omega)) (Below.refl _ _) (fun _ => rfl)
    (fun pre W => ((∃ v, Boxed W w.heap.size 64 v ∧ W.ownsRow w.heap.size 9 1 v pre.length (pre.map fun x => es x.2) ∧ True) ∧ Boxed W (w.heap.size + 1) 80 (.func (.func 36) #[] #[])) ∧ Below w.heap.size w W)
    (fun _ _ _ => False)
    (OwnFrom.and (OwnFrom.and (Own.from (holdsRow_own w.heap.size w.heap.size 64 9 1 (fun pre : List (Int × Int) => pre.length) (fun pre => pre.map fun x => es x.2) (fun _ _ => True)) _)
      (Own.from (fun s X Y row hv hg hrow => Boxed.kept hv hg (fun e' => by obtain ⟨o, ho, hc⟩ := hrow _ e'.symm; rw [show X.heap[_]? = _ from hv] at ho; cases ho; cases hc)) _)) (ownFrom_below (Nat.le_refl _) (by simp; omega)))
    (fun _ _ _ _ _ hs _ _ => hs)
    ⟨⟨⟨_, (bO.alloc _).alloc _, World.ownsRow_nil _ _ _ _, trivial⟩, bS.alloc _⟩, hB0⟩
    (fun x => { tmps := #[.pointer (some ⟨B, 0, none⟩), .slice none 0 0, .func (.func 36) #[] #[], undef, .pointer (some ⟨w.heap.size, 0, none⟩), .pointer (some ⟨w.heap.size + 1, 0, none⟩), .slice none 0 0, undef, (.string (keyS x.2)), .pointer (some ⟨B, 0, none⟩), .func (.func 51) #[] #[.pointer (some ⟨w.heap.size + 1 + 1, 0, none⟩)], .int .i64 x.1, (.string (keyS x.2)), undef, undef, undef, undef, undef], defers := [] }) ?assign ?body ?done ?stop
  case assign =>
    intro l x W K hK
    gi_wp2
    exact hK
  case body =>
    rintro l pre x W ⟨⟨⟨hv, hbx, hrow, -⟩, hst⟩, hB⟩ hlt
    have hc := hbx.cell
    have hc2 := hst.cell
    have hp : pre.length < 100 := by omega
    gi_wp2
    refine ⟨fun _ => by omega, ?_⟩
    refine (CallsIn.inRound l (step_in_str F _ h4 hro w.heap.size pre.length hv x.2 _ hp W hB.size hrow)).mono ?_
    rintro e w1 ⟨g', cap', tmp, rfl, hown', hgrow⟩
    obtain ⟨hv1, hv2, hr2, hk2, hb2⟩ := hbx.appended (by decide) hrow hB.size (Nat.le_refl _) hown' hgrow
    have hc1 := hv1.cell
    have hf1 := hv1.frozen
    gi_wp2
    refine ⟨hk2.from _, hb2, ⟨⟨_, hv2, by rw [List.length_append, List.map_append]; exact hr2, trivial⟩, ?_⟩, hB.trans hb2⟩
    exact ((hst.alloc tmp).kept hgrow (hst.not_row (by decide) hrow)).kept (grownBy_setCell' _ _ _) (fun e => by simp at e)
  case done =>
    rintro D ys W hD rfl ⟨⟨⟨hv, hbx, hrow, -⟩, hst⟩, hB⟩ hK
    have hc := hbx.cell
    gi_wp2
    refine ⟨by simp, .inl ⟨_, _, rfl, run_takeDeferred hK, ?_⟩⟩
    exact ⟨_, results_tmp rfl _ _ _, hv, rfl, ownsRow_putObj hrow _ hK rfl, hB.trans (belowK_b (w := w) (Nat.le_refl _) W D _ _ (by simp at hD; omega) hK rfl rfl)⟩
  case stop =>
    rintro D c pre W _ _ h _
    exact h.elim

/-- Fold of a window, called from wherever. -/
theorem fold_str (B : Nat) (wid now : Int) (v : Value) (xs : List (Int × Int)) (hl : xs.length ≤ 16) (w : World)
    (hB : w.heap[B]? = some (.cells #[.int .i64 wid, .int .i64 now, v] 50 (0, 0))) (hr : Row es 86 w v xs) :
    Calls Try.prog 35 #[.pointer (some ⟨B, 0, none⟩), .slice none 0 0, .func (.func 36) #[] #[]] w fun e W' =>
      ∃ v', e = .returned v' ∧ W'.ownsRow w.heap.size 9 1 v' xs.length (xs.map fun x => es x.2) ∧ Below w.heap.size w W' :=
  callsIn_wide.1 (fold_in_str Fence.wide 3 trivial trivial trivial trivial rfl (by omega) B wid now v xs hl w hB hr)

set_option maxHeartbeats 1000000 in
/-- What Fold counts with. -/
theorem count_in (F : Fence) (n : Nat) (h : F.fn 38) (hro : F.round = none) (m : Nat) (x : Value) (hm : m < 100) (W : World) :
    CallsIn F n Try.prog 38 #[.int .i64 m, x] W fun e w' => e = .returned (.int .i64 (m + 1 : Nat)) ∧ w' = W := by
  refine callsIn_of_wp Try.func38 rfl h ?_ hro
  simp only [Try.ntmps38, List.size_toArray, List.length_cons, List.length_nil, Nat.reduceAdd, Nat.reduceSub, Array.replicate_succ, Array.replicate_zero, List.push_toArray, List.append_toArray, List.nil_append, List.cons_append]
  gi_wp2
  go_ret
  exact ⟨by simp, rfl⟩

set_option maxRecDepth 100000 in
set_option maxHeartbeats 2000000 in
/-- Fold of a window of texts, to how many there are. -/
theorem foldn_in (F : Fence) (n : Nat) (h1 : F.fn 37) (h2 : F.fn 48) (h3 : F.fn 51) (h4 : F.fn 38) (hro : F.round = none) (hn : 3 ≤ n) (B : Nat) (wid now : Int) (v : Value) (xs : List (Int × Int)) (hl : xs.length ≤ 16) (w : World)
    (hB : w.heap[B]? = some (.cells #[.int .i64 wid, .int .i64 now, v] 50 (0, 0))) (hr : Row es 86 w v xs) :
    CallsIn F n Try.prog 37 #[.pointer (some ⟨B, 0, none⟩), .int .i64 0, .func (.func 38) #[] #[]] w fun e W' =>
      e = .returned (.int .i64 xs.length) ∧ Below w.heap.size w W' := by
  have hn1 : 1 ≤ n := by omega
  have hBlt := lt_of_block hB
  have hvlt : ∀ k, v.ownBlock = some k → k < w.heap.size := fun k hk => by obtain ⟨c, hc⟩ := hr.blk k hk; exact lt_of_block hc
  refine callsIn_of_wp_marks Try.func37 rfl h1 ?_ hro
  simp only [Try.ntmps37, List.size_toArray, List.length_cons, List.length_nil, Nat.reduceAdd, Nat.reduceSub, Array.replicate_succ, Array.replicate_zero, List.push_toArray, List.append_toArray, List.nil_append, List.cons_append]
  have HB := Lib.hid hB
  clear hB
  gi_wp2_with (gi_at_call 48; refine (all_in_str F (n - 1) h2 hro _ _).mono ?_; rintro e w' ⟨rfl, rfl⟩)
  have bO := Boxed.new w 3 (.int .i64 0)
  have bS := Boxed.new (w.alloc (.cells #[.int .i64 0] 3)) 82 (.func (.func 38) #[] #[])
  have bN := Boxed.new ((w.alloc (.cells #[.int .i64 0] 3)).alloc (.cells #[.func (.func 38) #[] #[]] 82)) 35 (.pointer (some ⟨B, 0, none⟩))
  rw [World.size_alloc] at bS
  rw [World.size_alloc, World.size_alloc] at bN
  have hB0 : Below w.heap.size w (((w.alloc (.cells #[.int .i64 0] 3)).alloc (.cells #[.func (.func 38) #[] #[]] 82)).alloc (.cells #[.pointer (some ⟨B, 0, none⟩)] 35)) := (((Below.refl _ w).alloc (Nat.le_refl _) _).alloc (by simp) _).alloc (by simp; omega) _
  refine wpIn_rangeFunc_ownG hro hn1 (gf := 51) (lb := #[.pointer (some ⟨w.heap.size + 1 + 1, 0, none⟩)]) rfl h3 (enters_of Try.func51 (by kernel_rfl) rfl)
    (all_stops_str F (n - 1) h3 hro (by omega) (w.heap.size + 1 + 1) B w.heap.size wid now v xs hl _ (by simp) (by simp; omega) bN.cell ((hB0.block B hBlt).trans HB.out) (hr.kept (Tch.of_below hB0) (fun g hg hn => by have := hvlt g hg; omega)) hvlt) belowK_t (belowK_b (by simp; omega)) (Below.refl _ _) (fun _ => rfl)
    (fun pre W => (Boxed W w.heap.size 3 (.int .i64 pre.length) ∧ Boxed W (w.heap.size + 1) 82 (.func (.func 38) #[] #[])) ∧ Below w.heap.size w W)
    (fun _ _ _ => False)
    (OwnFrom.and (OwnFrom.and (Own.from (I := fun (pre : List (Int × Int)) W => Boxed W w.heap.size 3 (.int .i64 pre.length)) (fun s X Y row hv hg hrow => Boxed.kept hv hg (fun e' => by obtain ⟨o, ho, hc⟩ := hrow _ e'.symm; rw [show X.heap[_]? = _ from hv] at ho; cases ho; cases hc)) _)
      (Own.from (fun s X Y row hv hg hrow => Boxed.kept hv hg (fun e' => by obtain ⟨o, ho, hc⟩ := hrow _ e'.symm; rw [show X.heap[_]? = _ from hv] at ho; cases ho; cases hc)) _)) (ownFrom_below (Nat.le_refl _) (by simp; omega)))
    (fun _ _ _ _ _ hs _ _ => hs)
    ⟨⟨(bO.alloc _).alloc _, bS.alloc _⟩, hB0⟩
    (fun x => { tmps := #[.pointer (some ⟨B, 0, none⟩), .int .i64 0, .func (.func 38) #[] #[], undef, .pointer (some ⟨w.heap.size, 0, none⟩), .pointer (some ⟨w.heap.size + 1, 0, none⟩), .int .i64 0, undef, .string (keyS x.2), .pointer (some ⟨B, 0, none⟩), .func (.func 51) #[] #[.pointer (some ⟨w.heap.size + 1 + 1, 0, none⟩)], .int .i64 x.1, .string (keyS x.2), undef, undef, undef, undef, undef], defers := [] }) ?assign ?body ?done ?stop
  case assign =>
    intro l x W K hK
    gi_wp2
    exact hK
  case body =>
    rintro l pre x W ⟨⟨hbx, hst⟩, hB⟩ hlt
    have hc := hbx.cell
    have hf := hbx.frozen
    have hc2 := hst.cell
    have hp : pre.length < 100 := by omega
    gi_wp2
    refine ⟨fun _ => by omega, ?_⟩
    refine (CallsIn.inRound l (count_in F _ h4 hro pre.length _ hp W)).mono ?_
    rintro e w1 ⟨rfl, rfl⟩
    gi_wp2
    refine ⟨(KeepsOthers.setCell _ _ _).from _, (Below.refl w.heap.size _).setCell (p := ⟨w.heap.size, 0, none⟩) (Nat.le_refl _) _, ⟨by rw [List.length_append]; exact hbx.set _, hst.kept (grownBy_setCell' _ _ _) (fun e => by simp at e)⟩, hB.setCell (p := ⟨w.heap.size, 0, none⟩) (Nat.le_refl _) _⟩
  case done =>
    rintro D ys W hD rfl ⟨⟨hbx, hst⟩, hB⟩ hK
    have hc := hbx.cell
    gi_wp2
    refine ⟨by simp, .inl ⟨_, _, rfl, run_takeDeferred hK, ?_⟩⟩
    exact ⟨_, results_tmp rfl _ _ _, rfl, hB.trans (belowK_b (w := w) (Nat.le_refl _) W D _ _ (by simp at hD; omega) hK rfl rfl)⟩
  case stop =>
    rintro D c pre W _ _ h _
    exact h.elim

/-- .. called from wherever. -/
theorem foldn (B : Nat) (wid now : Int) (v : Value) (xs : List (Int × Int)) (hl : xs.length ≤ 16) (w : World)
    (hB : w.heap[B]? = some (.cells #[.int .i64 wid, .int .i64 now, v] 50 (0, 0))) (hr : Row es 86 w v xs) :
    Calls Try.prog 37 #[.pointer (some ⟨B, 0, none⟩), .int .i64 0, .func (.func 38) #[] #[]] w fun e W' =>
      e = .returned (.int .i64 xs.length) ∧ Below w.heap.size w W' :=
  callsIn_wide.1 (foldn_in Fence.wide 3 trivial trivial trivial trivial rfl (by omega) B wid now v xs hl w hB hr)
end Go.Proofs.Ytacjjmdhiphckaa
