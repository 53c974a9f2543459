/- Slides: Windows.All. -/
import Derived.Test.YtacjjmdhiphckaaYield
import Derived.Test.YtacjjmdhiphckaaFold
import Derived.Test.YtacjjmdhiphckaaEnds
import Derived.Deep.RegionLaw
namespace Go.Proofs.Ytacjjmdhiphckaa
open Go.RowKit

def isFuncT : Option TypeDesc → Bool
  | some (.func _ _ _) => true
  | _ => false
theorem isFuncT_out {o : Option TypeDesc} (h : isFuncT o = true) : ∃ a b c, o = some (.func a b c) := by
  match o, h with
  | some (.func a b c), _ => exact ⟨a, b, c, rfl⟩
theorem Try.func75 : isFuncT (Try.prog.underlying 75) = true := by kernel_rfl
theorem run_equalIn_func_nil {P : Program} (w : World) (d : Nat) {t : TypeId} {a : Array TypeId} {b : Array TypeId} {c : Bool} (h : P.underlying t = some (.func a b c)) (f : Fn) (cs bs : Array Value) : (Op.equalIn (d + 1) t (.func f cs bs) .nilFunc).run P w = .ok false w := by
  simp [Op.equalIn, run_underlying h]
theorem run_equal_func_nil {P : Program} (w : World) {t : TypeId} {a : Array TypeId} {b : Array TypeId} {c : Bool} (h : P.underlying t = some (.func a b c)) (f : Fn) (cs bs : Array Value) : (Op.equal t (.func f cs bs) .nilFunc).run P w = .ok false w := run_equalIn_func_nil w 9999 h f cs bs
theorem run_eql_func_nil (w : World) (f : Fn) (cs bs : Array Value) : (binOp .eql 75 (.func f cs bs) .nilFunc).run Try.prog w = .ok (.bool false) w := by
  obtain ⟨a, b, c, h⟩ := isFuncT_out Try.func75
  simp only [binOp]
  simp [run_equal_func_nil w h]

theorem AllSt.tch {W W' : World} {base br bs bt bv bn : Nat} {n : Int} {st : Bool} {vt vv : Value} {ts vs : List Int} (h : AllSt W base br bs bt bv bn n st vt vv ts vs) (ht : Tch (fun _ => False) W W') : AllSt W' base br bs bt bv bn n st vt vv ts vs :=
  ⟨ht.heap h.hR (fun h => h), ht.heap h.hS (fun h => h), ht.heap h.hT (fun h => h), ht.heap h.hV (fun h => h), ht.heap h.hN (fun h => h), ownsRow_tch h.ot ht (fun _ _ h => h), ownsRow_tch h.ov ht (fun _ _ h => h), h.ne, h.len, h.dT, h.dR, by have := ht.size; have := h.bb; omega⟩
theorem AllSt.ge {W : World} {base br bs bt bv bn : Nat} {n : Int} {st : Bool} {vt vv : Value} {ts vs : List Int} (h : AllSt W base br bs bt bv bn n st vt vv ts vs) (g1 : base ≤ br) (g2 : base ≤ bs) (g3 : base ≤ bt) (g4 : base ≤ bv) : ∀ k, allFoot br bs bt bv vt vv k → base ≤ k := by
  intro k hk
  rcases hk with rfl | rfl | rfl | rfl | hk | hk
  · exact g1
  · exact g2
  · exact g3
  · exact g4
  · exact (h.ot.lt k hk).1
  · exact (h.ov.lt k hk).1
theorem sl_of_owns {W : World} {base : Nat} {e : TypeId} {size : Nat} {v : Value} {n : Nat} {xs : List Value} (h : W.ownsRow base e size v n xs) : ∃ a c, v = .slice a n c := by
  rcases h.2 with ⟨rfl, rfl⟩ | ⟨g, cap, cur, rfl, _⟩
  · exact ⟨_, _, rfl⟩
  · exact ⟨_, _, rfl⟩

theorem yield_go (t x n : Int) (base br bs bt bv bn : Nat) (vt vv : Value) (ts vs : List Int) (w : World) (h : AllSt w base br bs bt bv bn n false vt vv ts vs) (hl : ts.length < 100) (hn : ¬ (ts.length : Int) + 1 = n) :
    Calls Try.prog 32 #[.int .i64 t, .int .i64 x, .pointer (some ⟨br, 0, none⟩), .pointer (some ⟨bs, 0, none⟩), .pointer (some ⟨bt, 0, none⟩), .pointer (some ⟨bv, 0, none⟩), .pointer (some ⟨bn, 0, none⟩)] w fun e w' =>
      e = .returned (.bool true) ∧ ∃ vt' vv', AllSt w' base br bs bt bv bn n false vt' vv' (ts ++ [t]) (vs ++ [x]) ∧ Tch (allFoot br bs bt bv vt vv) w w' :=
  yield_any t x n base br bs bt bv bn vt vv ts vs w h hl false (by simpa using hn)
theorem yield_stop (t x n : Int) (base br bs bt bv bn : Nat) (vt vv : Value) (ts vs : List Int) (w : World) (h : AllSt w base br bs bt bv bn n false vt vv ts vs) (hl : ts.length < 100) (hn : (ts.length : Int) + 1 = n) :
    Calls Try.prog 32 #[.int .i64 t, .int .i64 x, .pointer (some ⟨br, 0, none⟩), .pointer (some ⟨bs, 0, none⟩), .pointer (some ⟨bt, 0, none⟩), .pointer (some ⟨bv, 0, none⟩), .pointer (some ⟨bn, 0, none⟩)] w fun e w' =>
      e = .returned (.bool false) ∧ ∃ vt' vv', AllSt w' base br bs bt bv bn n true vt' vv' (ts ++ [t]) (vs ++ [x]) ∧ Tch (allFoot br bs bt bv vt vv) w w' :=
  yield_any t x n base br bs bt bv bn vt vv ts vs w h hl true (by simpa using hn)

set_option maxRecDepth 100000 in
set_option maxHeartbeats 2000000 in
theorem all1_wins (n : Int) (base q B br bs bt bv bn : Nat) (wid now : Int) (v : Value) (xs : List (Int × Int)) (hl : xs.length ≤ 16) (hn : 1 ≤ n) (w : World) (hq : w.cell? ⟨q, 0, none⟩ = some (.pointer (some ⟨B, 0, none⟩)))
    (hB : w.heap[B]? = some (.cells #[.int .i64 wid, .int .i64 now, v] 47 (0, 0))) (hr : Row ei 84 w v xs) (hvb : ∀ k, v.ownBlock = some k → k < base)
    (g1 : base ≤ br) (g2 : base ≤ bs) (g3 : base ≤ bt) (g4 : base ≤ bv) (h : AllSt w base br bs bt bv bn n false (.slice none 0 0) (.slice none 0 0) [] []) :
    Calls Try.prog 47 #[.func (.func 32) #[] #[.pointer (some ⟨br, 0, none⟩), .pointer (some ⟨bs, 0, none⟩), .pointer (some ⟨bt, 0, none⟩), .pointer (some ⟨bv, 0, none⟩), .pointer (some ⟨bn, 0, none⟩)], .pointer (some ⟨q, 0, none⟩)] w fun e w' =>
      (∃ v, e = .returned v) ∧ ∃ st vt vv, AllSt w' base br bs bt bv bn n st vt vv ((xs.take n.toNat).map (·.1)) ((xs.take n.toNat).map (·.2)) ∧ Below base w w' := by
  rcases hr with ⟨rfl, rfl⟩ | ⟨g, off, cap, cur, rfl, hg, hm, hcm, hs, hc⟩
  · have c2 : w.cell? ⟨B, 2, none⟩ = some (.slice none 0 0) := by rw [cell_of_row w B 2 _ _ _ hB]; rfl
    have HA := Lib.hid h
    clear hB h
    go_enter Try.func47, Try.ntmps47
    go_wp2_with fail
    go_loopw [10] (fun i wr => i = .int .i64 0 ∧ wr = w) (fun _ _ => 0)
    case atStart => exact ⟨rfl, rfl⟩
    case round =>
      obtain ⟨rfl, rfl⟩ := hrel
      go_wp2_with fail
      go_end0
      exact ⟨⟨_, rfl⟩, _, _, _, by simpa using HA.out, Below.refl _ _⟩
  · have c2 : w.cell? ⟨B, 2, none⟩ = some (.slice (some ⟨g, off, none⟩) xs.length cap) := by rw [cell_of_row w B 2 _ _ _ hB]; rfl
    have hgn : g < base := hvb g rfl
    have HA := Lib.hid h
    have HC := Lib.hid hc
    have HG := Lib.hid hg
    clear hB h hc hg
    go_enter Try.func47, Try.ntmps47
    go_wp2_with fail
    go_loopw [10] (fun i wr => ∃ (k : Nat) (vt vv : Value), k ≤ xs.length ∧ (k : Int) < n ∧ i = .int .i64 k ∧ Hid (AllSt wr base br bs bt bv bn n false vt vv ((xs.take k).map (·.1)) ((xs.take k).map (·.2))) ∧ Below base w wr) (fun i _ => xs.length - (intOf i).toNat)
    case atStart => exact ⟨0, _, _, Nat.zero_le _, by omega, rfl, HA, Below.refl _ _⟩
    case round =>
      obtain ⟨k, vt, vv, hk, hkn, rfl, HS, hnx⟩ := hrel
      by_cases hlt : k < xs.length
      · obtain ⟨⟨x1, x2⟩, hx⟩ : ∃ x, xs[k]? = some x := ⟨_, List.getElem?_eq_getElem hlt⟩
        have cx0 : wr.cell? ⟨g, off + k * 2, none⟩ = some (.int .i64 x1) := by rw [hnx.cell (p := ⟨g, _, none⟩) hgn, cell_of_row w g _ _ _ _ HG.out]; exact (HC.out k _ hx).1
        have cx1 : wr.cell? ⟨g, off + k * 2 + 1, none⟩ = some (.int .i64 x2) := by rw [hnx.cell (p := ⟨g, _, none⟩) hgn, cell_of_row w g _ _ _ _ HG.out]; exact (HC.out k _ hx).2
        have hwlt := hnx.size
        have HX := Lib.hid hx
        have hlen : ((xs.take k).map (·.1)).length = k := by simp; omega
        have e1 : ((xs.take k).map (·.1)) ++ [x1] = (xs.take (k + 1)).map (·.1) := by rw [← take_succ_get hx]; simp
        have e2 : ((xs.take k).map (·.2)) ++ [x2] = (xs.take (k + 1)).map (·.2) := by rw [← take_succ_get hx]; simp
        have HE := Lib.hid (And.intro e1 e2)
        have hbs := HS.out.bb
        have HGe := Lib.hid (HS.out.ge g1 g2 g3 g4)
        by_cases hst : (k : Int) + 1 = n
        · have C := Lib.hid (yield_stop x1 x2 n base br bs bt bv bn vt vv _ _ (wr.alloc (.cells #[.int .i64 x1, .int .i64 x2] 84)) (HS.out.tch (Tch.alloc _ _ _)) (by rw [hlen]; omega) (by rw [hlen]; exact hst))
          clear hlen hx e1 e2
          go_wp2_with fail
          refine C.out.mono ?_
          rintro e w3 ⟨rfl, vt', vv', hA3, hT3⟩
          have HA3 := Lib.hid hA3
          clear hA3 C
          go_wp2_with fail
          refine bodyPost_ret (results_none rfl _ _ _) rfl ?_
          refine ⟨⟨_, rfl⟩, true, vt', vv', ?_, (hnx.alloc hbs _).trans (hT3.below (by simp; omega) HGe.out)⟩
          have h3 := HA3.out
          rw [HE.out.1, HE.out.2] at h3
          rw [show n.toNat = k + 1 by omega]
          exact h3
        · have C := Lib.hid (yield_go x1 x2 n base br bs bt bv bn vt vv _ _ (wr.alloc (.cells #[.int .i64 x1, .int .i64 x2] 84)) (HS.out.tch (Tch.alloc _ _ _)) (by rw [hlen]; omega) (by rw [hlen]; exact hst))
          clear hlen hx e1 e2
          go_wp2_with fail
          refine C.out.mono ?_
          rintro e w3 ⟨rfl, vt', vv', hA3, hT3⟩
          have HA3 := Lib.hid hA3
          clear hA3 C
          go_wp2_with fail
          go_roundw
          case rel =>
            refine ⟨k + 1, vt', vv', by omega, by omega, by go_num, Lib.hid ?_, (hnx.alloc hbs _).trans (hT3.below (by simp; omega) HGe.out)⟩
            have h3 := HA3.out
            rw [HE.out.1, HE.out.2] at h3
            exact h3
          case measure => simp [intOf]; omega
      · obtain rfl : k = xs.length := by omega
        go_wp2_with fail
        go_end0
        refine ⟨⟨_, rfl⟩, false, vt, vv, ?_, hnx⟩
        have h3 := HS.out
        rw [List.take_length] at h3
        rw [List.take_of_length_le (by omega)]
        exact h3

theorem heap_new {W : World} {k : Nat} (o : Obj) (h : W.heap.size = k) : (W.alloc o).heap[k]? = some o := by subst h; exact World.alloc_heap_new W o
theorem heap_old {W : World} {k : Nat} {o' : Obj} (o : Obj) (h : W.heap[k]? = some o') : (W.alloc o).heap[k]? = some o' := by rw [Below.heap_alloc _ _ _ (lt_of_block h)]; exact h

theorem wall_end {W w1 : World} {base br bs bt bv bn : Nat} {n : Int} {st : Bool} {vt vv : Value} {ts vs : List Int} (h : AllSt w1 base br bs bt bv bn n st vt vv ts vs) (g1 : base ≤ br) (g3 : base ≤ bt) (g4 : base ≤ bv) (hb : Below base W w1) :
    (((w1.setCell ⟨bt, 0, none⟩ vt).setCell ⟨bv, 0, none⟩ vv).setCell ⟨br, 0, none⟩ (.bool true)).drew.cell? ⟨bt, 0, none⟩ = some vt ∧
    (((w1.setCell ⟨bt, 0, none⟩ vt).setCell ⟨bv, 0, none⟩ vv).setCell ⟨br, 0, none⟩ (.bool true)).drew.cell? ⟨bv, 0, none⟩ = some vv ∧
    (((w1.setCell ⟨bt, 0, none⟩ vt).setCell ⟨bv, 0, none⟩ vv).setCell ⟨br, 0, none⟩ (.bool true)).drew.cell? ⟨br, 0, none⟩ = some (.bool true) ∧
    (((w1.setCell ⟨bt, 0, none⟩ vt).setCell ⟨bv, 0, none⟩ vv).setCell ⟨br, 0, none⟩ (.bool true)).drew.ownsRow base 2 1 vt ts.length (ts.map (Value.int .i64)) ∧
    (((w1.setCell ⟨bt, 0, none⟩ vt).setCell ⟨bv, 0, none⟩ vv).setCell ⟨br, 0, none⟩ (.bool true)).drew.ownsRow base 2 1 vv vs.length (vs.map (Value.int .i64)) ∧
    Below base W (((w1.setCell ⟨bt, 0, none⟩ vt).setCell ⟨bv, 0, none⟩ vv).setCell ⟨br, 0, none⟩ (.bool true)).drew := by
  have two : ∀ {k k' : Nat} {c c' : Array Value} {t t' : TypeId}, w1.heap[k]? = some (.cells c t (0, 0)) → w1.heap[k']? = some (.cells c' t' (0, 0)) → t ≠ t' → k ≠ k' := by
    intro k k' c c' t t' h1 h2 hne he
    subst he
    rw [h1] at h2
    cases h2
    exact hne rfl
  have e1 := two h.hT h.hR (by decide)
  have e4 := two h.hV h.hR (by decide)
  have tt : Tch (fun k => k = bt ∨ k = bv ∨ k = br) w1 (((w1.setCell ⟨bt, 0, none⟩ vt).setCell ⟨bv, 0, none⟩ vv).setCell ⟨br, 0, none⟩ (.bool true)).drew :=
    (((Tch.setCell (S := fun k => k = bt ∨ k = bv ∨ k = br) w1 (a := ⟨bt, 0, none⟩) (.inl rfl) _).trans (Tch.setCell (S := fun k => k = bt ∨ k = bv ∨ k = br) _ (a := ⟨bv, 0, none⟩) (.inr (.inl rfl)) _) (fun _ _ h => h)).trans (Tch.setCell (S := fun k => k = bt ∨ k = bv ∨ k = br) _ (a := ⟨br, 0, none⟩) (.inr (.inr rfl)) _) (fun _ _ h => h)).drewR
  refine ⟨?_, ?_, ?_, ?_, ?_, hb.trans (tt.below h.bb (fun k s => by rcases s with rfl | rfl | rfl; exact g3; exact g4; exact g1))⟩
  · show World.cell? (((w1.setCell ⟨bt, 0, none⟩ vt).setCell ⟨bv, 0, none⟩ vv).setCell ⟨br, 0, none⟩ (.bool true)) ⟨bt, 0, none⟩ = some vt
    refine cell_of_one (t := 61) ?_
    rw [Below.heap_setCell _ _ _ _ e1, Below.heap_setCell _ _ _ _ h.dT]
    exact heap_setCell_at (o := 0) h.hT _
  · show World.cell? (((w1.setCell ⟨bt, 0, none⟩ vt).setCell ⟨bv, 0, none⟩ vv).setCell ⟨br, 0, none⟩ (.bool true)) ⟨bv, 0, none⟩ = some vv
    refine cell_of_one (t := 61) ?_
    rw [Below.heap_setCell _ _ _ _ e4]
    refine heap_setCell_at (o := 0) (c := #[vv]) ?_ _
    rw [Below.heap_setCell _ _ _ _ (Ne.symm h.dT)]
    exact h.hV
  · show World.cell? (((w1.setCell ⟨bt, 0, none⟩ vt).setCell ⟨bv, 0, none⟩ vv).setCell ⟨br, 0, none⟩ (.bool true)) ⟨br, 0, none⟩ = some (.bool true)
    refine cell_of_one (t := 4) ?_
    refine heap_setCell_at (o := 0) (c := #[.bool true]) ?_ _
    rw [Below.heap_setCell _ _ _ _ e4.symm, Below.heap_setCell _ _ _ _ e1.symm]
    exact h.hR
  · exact ownsRow_tch h.ot tt (fun g hg s => by
      rcases s with rfl | rfl | rfl
      · exact owns_far h.ot h.hT (by decide) hg
      · exact owns_far h.ot h.hV (by decide) hg
      · exact owns_far h.ot h.hR (by decide) hg)
  · exact ownsRow_tch h.ov tt (fun g hg s => by
      rcases s with rfl | rfl | rfl
      · exact owns_far h.ov h.hT (by decide) hg
      · exact owns_far h.ov h.hV (by decide) hg
      · exact owns_far h.ov h.hR (by decide) hg)

theorem wall_start (W : World) (n : Int) (q : Obj) :
    AllSt ((((((W.alloc (.cells #[.int .i64 n] 3)).alloc (.cells #[.slice none 0 0] 61)).alloc (.cells #[.slice none 0 0] 61)).alloc (.cells #[.bool true] 4)).alloc q).alloc (.cells #[.bool false] 4))
      W.heap.size (W.heap.size + 1 + 1 + 1) (W.heap.size + 1 + 1 + 1 + 1 + 1) (W.heap.size + 1) (W.heap.size + 1 + 1) W.heap.size n false (.slice none 0 0) (.slice none 0 0) [] [] :=
  ⟨heap_old _ (heap_old _ (heap_new _ (by simp))), heap_new _ (by simp), heap_old _ (heap_old _ (heap_old _ (heap_old _ (heap_new _ (by simp))))), heap_old _ (heap_old _ (heap_old _ (heap_new _ (by simp)))), heap_old _ (heap_old _ (heap_old _ (heap_old _ (heap_old _ (heap_new _ rfl))))),
    World.ownsRow_nil _ _ _ _, World.ownsRow_nil _ _ _ _, fun k hk => by simp [Value.ownBlock] at hk, rfl, by omega, by omega, by simp; omega⟩

set_option maxRecDepth 100000 in
set_option maxHeartbeats 4000000 in
/-- Windows.All. -/
theorem wall (W : World) (p a b : Nat) (wid now n : Int) (va vb : Value) (xs : List (Int × Int)) (hl : xs.length ≤ 16) (hn : 1 ≤ n) (h : Wins W p a b wid now va vb xs) :
    Calls Try.prog 21 #[.pointer (some ⟨p, 0, none⟩), .int .i64 n] W fun e w' => ∃ vt vv, e = .returned (.tuple #[vt, vv, .bool true]) ∧
      w'.ownsRow W.heap.size 2 1 vt (xs.take n.toNat).length (((xs.take n.toNat).map (·.1)).map (Value.int .i64)) ∧ w'.ownsRow W.heap.size 2 1 vv (xs.take n.toNat).length (((xs.take n.toNat).map (·.2)).map (Value.int .i64)) ∧ Below W.heap.size W w' := by
  have hplt := lt_of_block h.hp
  have p0 : W.cell? ⟨p, 0, none⟩ = some (.pointer (some ⟨a, 0, none⟩)) := by rw [cell_of_row W p 0 _ _ _ h.hp]; rfl
  have q1 : p < W.heap.size + 1 := by omega
  have q2 : p < W.heap.size + 1 + 1 := by omega
  have q3 : p < W.heap.size + 1 + 1 + 1 := by omega
  have HH := Lib.hid h
  clear h
  have E75 := fun w cs bs => run_eql_func_nil w (.func 47) cs bs
  have hvlt : ∀ k, va.ownBlock = some k → k < W.heap.size := fun k hk => HH.out.lt (.inr (.inr (.inr (.inl hk))))
  go_enter Try.func21, Try.ntmps21
  go_wp2_with fail
  refine (callsIn_wide.1 (all_in_int Fence.wide 3 trivial rfl _ _)).mono ?_
  rintro e w1 ⟨rfl, rfl⟩
  go_wp2_with fail
  have S0 := wall_start W n (.cells #[.pointer (some ⟨a, 0, none⟩)] 33)
  have B0 : Below W.heap.size W ((((((W.alloc (.cells #[.int .i64 n] 3)).alloc (.cells #[.slice none 0 0] 61)).alloc (.cells #[.slice none 0 0] 61)).alloc (.cells #[.bool true] 4)).alloc (.cells #[.pointer (some ⟨a, 0, none⟩)] 33)).alloc (.cells #[.bool false] 4)) :=
    ((((((Below.refl _ W).alloc (Nat.le_refl _) _).alloc (by simp) _).alloc (by simp; omega) _).alloc (by simp; omega) _).alloc (by simp; omega) _).alloc (by simp; omega) _
  have cq : ((((((W.alloc (.cells #[.int .i64 n] 3)).alloc (.cells #[.slice none 0 0] 61)).alloc (.cells #[.slice none 0 0] 61)).alloc (.cells #[.bool true] 4)).alloc (.cells #[.pointer (some ⟨a, 0, none⟩)] 33)).alloc (.cells #[.bool false] 4)).cell? ⟨W.heap.size + 1 + 1 + 1 + 1, 0, none⟩ = some (.pointer (some ⟨a, 0, none⟩)) :=
    cell_of_one (heap_old _ (heap_new _ (by simp)))
  have H0 := HH.out.below B0
  refine (all1_wins n W.heap.size _ a _ _ _ _ _ wid now va xs hl hn _ cq H0.ha H0.ra hvlt (by omega) (by omega) (by omega) (by omega) S0).mono ?_
  clear H0 cq
  rintro e w1 ⟨⟨v, rfl⟩, st, vt, vv, hA, hb⟩
  have hb2 := B0.trans hb
  clear B0 hb S0
  have hlen1 : ((xs.take n.toNat).map (·.1)).length = (xs.take n.toNat).length := List.length_map _
  have hlen2 : ((xs.take n.toNat).map (·.2)).length = (xs.take n.toNat).length := List.length_map _
  obtain ⟨ts, hts⟩ : ∃ ts, (xs.take n.toNat).map (·.1) = ts := ⟨_, rfl⟩
  obtain ⟨vs, hvs⟩ : ∃ vs, (xs.take n.toNat).map (·.2) = vs := ⟨_, rfl⟩
  obtain ⟨m, hm⟩ : ∃ m, (xs.take n.toNat).length = m := ⟨_, rfl⟩
  have HT := Lib.hid hts
  have HV := Lib.hid hvs
  have HM := Lib.hid hm
  rw [hts] at hA hlen1
  rw [hvs] at hA hlen2
  rw [hm] at hlen1 hlen2
  clear hts hvs hm
  have G1 := hA.ot
  have G2 := hA.ov
  rw [hlen1] at G1
  rw [hlen2] at G2
  obtain ⟨a1, c1, rfl⟩ := sl_of_owns G1
  obtain ⟨a2, c2, rfl⟩ := sl_of_owns G2
  clear G1 G2
  have cT := cell_of_one hA.hT
  have cV := cell_of_one hA.hV
  have cR := cell_of_one hA.hR
  have fT := free_of_one hA.hT
  have fV := free_of_one hA.hV
  have fR := free_of_one hA.hR
  have HE := Lib.hid (wall_end hA (by omega) (by omega) (by omega) hb2)
  have HL := Lib.hid (And.intro hlen1 hlen2)
  clear hA hb2 p0 q1 q2 q3 hvlt hlen1 hlen2
  go_wp2_with fail
  go_region
  obtain ⟨W3, hW3⟩ : ∃ W3, (((w1.setCell ⟨W.heap.size + 1, 0, none⟩ (.slice a1 m c1)).setCell ⟨W.heap.size + 1 + 1, 0, none⟩ (.slice a2 m c2)).setCell ⟨W.heap.size + 1 + 1 + 1, 0, none⟩ (.bool true)).drew = W3 := ⟨_, rfl⟩
  rw [hW3] at HE ⊢
  clear hW3 cT cV cR fT fV fR
  obtain ⟨d1, d2, d3, d4, d5, d6⟩ := HE.out
  have D4 := Lib.hid d4
  have D5 := Lib.hid d5
  have D6 := Lib.hid d6
  clear d4 d5 d6 HE
  go_wp2_with fail
  refine bodyPost_ret (v := .tuple #[.slice a1 m c1, .slice a2 m c2, .bool true]) (by simp [results, Try.results21, go_sem, d1, d2, d3]) rfl ⟨_, _, rfl, ?_, ?_, D6.out⟩
  · have h := D4.out; rw [HL.out.1] at h; rw [HM.out, HT.out]; exact h
  · have h := D5.out; rw [HL.out.2] at h; rw [HM.out, HV.out]; exact h
end Go.Proofs.Ytacjjmdhiphckaa
