/- Slides: one step of a case. -/
import Derived.Test.YtacjjmdhiphckaaMovePush
import Derived.Test.YtacjjmdhiphckaaMovePushNo
import Derived.Test.YtacjjmdhiphckaaMoveAdv
import Derived.Test.YtacjjmdhiphckaaMoveAdvNo
import Derived.Test.YtacjjmdhiphckaaCall
import Derived.Test.YtacjjmdhiphckaaCfold
import Derived.Test.YtacjjmdhiphckaaCends
namespace Go.Proofs.Ytacjjmdhiphckaa
open Go.RowKit

/-- What a step of a case leaves. -/
def StepTo (W : World) (c p a b : Nat) (wid : Int) (va vb lv : Value) (l : List (Int × Int)) (w' : World) : Prop :=
  ∃ now' va' vb' lv' l', CaseS w' c p a b wid now' va' vb' lv' l' ∧ l'.length ≤ l.length + 1 ∧ (∀ k, cfoot c p a b va' vb' lv' k → cfoot c p a b va vb lv k ∨ W.heap.size ≤ k) ∧ Tch (cfoot c p a b va vb lv) W w'

theorem StepTo.same {W w' : World} {c p a b : Nat} {wid now : Int} {va vb lv : Value} {l : List (Int × Int)} (h : CaseS W c p a b wid now va vb lv l) (ht : Tch (fun _ => False) W w') : StepTo W c p a b wid va vb lv l w' :=
  ⟨now, va, vb, lv, l, h.kept ht (fun _ _ h => h), by omega, fun k hk => .inl hk, ht.mono (fun _ _ h => h.elim)⟩
theorem StepTo.pre {W w1 w' : World} {c p a b : Nat} {wid : Int} {va vb lv : Value} {l : List (Int × Int)} (ht : Tch (fun _ => False) W w1) (h : StepTo w1 c p a b wid va vb lv l w') : StepTo W c p a b wid va vb lv l w' := by
  obtain ⟨now', va', vb', lv', l', h1, h2, h3, h4⟩ := h
  exact ⟨now', va', vb', lv', l', h1, h2, fun k hk => (h3 k hk).elim .inl (fun e => .inr (by have := ht.size; omega)), (ht.mono (fun _ _ h => h.elim)).trans h4 (fun _ _ h => h)⟩
theorem StepTo.of {W w' : World} {c p a b : Nat} {wid t : Int} {va vb lv : Value} {l l' : List (Int × Int)} (h : MovedTo W c p a b wid t va vb lv l' w') (hl : l'.length ≤ l.length + 1) : StepTo W c p a b wid va vb lv l w' := by
  obtain ⟨va', vb', lv', h1, h3, h4⟩ := h
  exact ⟨t, va', vb', lv', l', h1, hl, h3, h4⟩
theorem StepTo.of0 {W w' : World} {c p a b : Nat} {wid now : Int} {va vb lv : Value} {l : List (Int × Int)} (h : ∃ va' vb' lv', CaseS w' c p a b wid now va' vb' lv' l ∧ (∀ k, cfoot c p a b va' vb' lv' k → cfoot c p a b va vb lv k ∨ W.heap.size ≤ k) ∧ Tch (cfoot c p a b va vb lv) W w') : StepTo W c p a b wid va vb lv l w' := by
  obtain ⟨va', vb', lv', h1, h3, h4⟩ := h
  exact ⟨now, va', vb', lv', l, h1, by omega, h3, h4⟩
theorem Tch.emp {W w1 w' : World} (h : Tch (fun _ => False) W w1) (hb : Below w1.heap.size w1 w') : Tch (fun _ => False) W w' :=
  h.trans ((Tch.of_below hb).mono (fun _ hk h => absurd h (by omega))) (fun _ _ h => h)

set_option maxRecDepth 100000 in
set_option maxHeartbeats 4000000 in
theorem step_1no (W : World) (c p a b : Nat) (wid now t x : Int) (two : Bool) (va vb lv : Value) (l : List (Int × Int)) (hlt : t < now) (hl : l.length < 1073741824) (ht : Rng t) (hx : Rng x) (h : CaseS W c p a b wid now va vb lv l) :
    Calls Try.prog 5 #[.pointer (some ⟨c, 0, none⟩), .agg #[.int .i64 1, .bool two, .int .i64 t, .int .i64 x]] W fun e w' => e = .returned (.bool true) ∧ StepTo W c p a b wid va vb lv l w' := by
  have HH := Lib.hid h
  have HT := Lib.hid (Tch.alloc (fun _ => False) W (.cells #[.int .i64 1, .bool two, .int .i64 t, .int .i64 x] 30))
  have H1 := Lib.hid (h.kept HT.out (fun _ _ h => h))
  clear h
  go_enter Try.func5, Try.ntmps5
  have HL := Lib.hid hlt
  clear hlt
  go_wp2_with (go_at_call 8; refine (mpush_no _ c p a b wid now t x two va vb lv l hl ht hx HL.out H1.out).mono ?_; rintro e w1 ⟨rfl, hm⟩)
  go_ret
  exact ⟨rfl, .pre HT.out (.of0 hm)⟩

set_option maxRecDepth 100000 in
set_option maxHeartbeats 4000000 in
theorem step_1 (W : World) (c p a b : Nat) (wid now t x : Int) (two : Bool) (va vb lv : Value) (l : List (Int × Int)) (hge : now ≤ t) (hl : l.length < 1073741824) (ht : Rng t) (hx : Rng x) (h : CaseS W c p a b wid now va vb lv l) :
    Calls Try.prog 5 #[.pointer (some ⟨c, 0, none⟩), .agg #[.int .i64 1, .bool two, .int .i64 t, .int .i64 x]] W fun e w' => e = .returned (.bool true) ∧ StepTo W c p a b wid va vb lv l w' := by
  have HH := Lib.hid h
  have HT := Lib.hid (Tch.alloc (fun _ => False) W (.cells #[.int .i64 1, .bool two, .int .i64 t, .int .i64 x] 30))
  have H1 := Lib.hid (h.kept HT.out (fun _ _ h => h))
  clear h
  go_enter Try.func5, Try.ntmps5
  have HL := Lib.hid hge
  clear hge
  go_wp2_with (go_at_call 8; refine (mpush_yes _ c p a b wid now t x two va vb lv l hl ht hx HL.out H1.out).mono ?_; rintro e w1 ⟨rfl, hm⟩)
  go_ret
  exact ⟨rfl, .pre HT.out (.of hm (by simp))⟩

set_option maxRecDepth 100000 in
set_option maxHeartbeats 4000000 in
theorem step_2no (W : World) (c p a b : Nat) (wid now t x : Int) (two : Bool) (va vb lv : Value) (l : List (Int × Int)) (hlt : t < now) (hl : l.length < 1073741824) (ht : Rng t) (hx : Rng x) (h : CaseS W c p a b wid now va vb lv l) :
    Calls Try.prog 5 #[.pointer (some ⟨c, 0, none⟩), .agg #[.int .i64 2, .bool two, .int .i64 t, .int .i64 x]] W fun e w' => e = .returned (.bool true) ∧ StepTo W c p a b wid va vb lv l w' := by
  have HH := Lib.hid h
  have HT := Lib.hid (Tch.alloc (fun _ => False) W (.cells #[.int .i64 2, .bool two, .int .i64 t, .int .i64 x] 30))
  have H1 := Lib.hid (h.kept HT.out (fun _ _ h => h))
  clear h
  go_enter Try.func5, Try.ntmps5
  have HL := Lib.hid hlt
  clear hlt
  go_wp2_with (go_at_call 8; refine (madv_no _ c p a b wid now t x 2 two va vb lv l (by decide) hl ht hx HL.out H1.out).mono ?_; rintro e w1 ⟨rfl, hm⟩)
  go_ret
  exact ⟨rfl, .pre HT.out (.of0 hm)⟩

set_option maxRecDepth 100000 in
set_option maxHeartbeats 4000000 in
theorem step_2 (W : World) (c p a b : Nat) (wid now t x : Int) (two : Bool) (va vb lv : Value) (l : List (Int × Int)) (hge : now ≤ t) (hl : l.length < 1073741824) (ht : Rng t) (hx : Rng x) (h : CaseS W c p a b wid now va vb lv l) :
    Calls Try.prog 5 #[.pointer (some ⟨c, 0, none⟩), .agg #[.int .i64 2, .bool two, .int .i64 t, .int .i64 x]] W fun e w' => e = .returned (.bool true) ∧ StepTo W c p a b wid va vb lv l w' := by
  have HH := Lib.hid h
  have HT := Lib.hid (Tch.alloc (fun _ => False) W (.cells #[.int .i64 2, .bool two, .int .i64 t, .int .i64 x] 30))
  have H1 := Lib.hid (h.kept HT.out (fun _ _ h => h))
  clear h
  go_enter Try.func5, Try.ntmps5
  have HL := Lib.hid hge
  clear hge
  go_wp2_with (go_at_call 8; refine (madv_yes _ c p a b wid now t x 2 two va vb lv l (by decide) hl ht hx HL.out H1.out).mono ?_; rintro e w1 ⟨rfl, hm⟩)
  go_ret
  exact ⟨rfl, .pre HT.out (.of hm (by omega))⟩

set_option maxRecDepth 100000 in
set_option maxHeartbeats 4000000 in
theorem step_4 (W : World) (c p a b : Nat) (wid now t x : Int) (two : Bool) (va vb lv : Value) (l : List (Int × Int)) (hl : l.length < 1073741824) (_ht : Rng t) (_hx : Rng x) (h : CaseS W c p a b wid now va vb lv l) :
    Calls Try.prog 5 #[.pointer (some ⟨c, 0, none⟩), .agg #[.int .i64 4, .bool two, .int .i64 t, .int .i64 x]] W fun e w' => e = .returned (.bool true) ∧ StepTo W c p a b wid va vb lv l w' := by
  have HH := Lib.hid h
  have HT := Lib.hid (Tch.alloc (fun _ => False) W (.cells #[.int .i64 4, .bool two, .int .i64 t, .int .i64 x] 30))
  have H1 := Lib.hid (h.kept HT.out (fun _ _ h => h))
  clear h
  go_enter Try.func5, Try.ntmps5
  go_wp2_with (go_at_call 11; refine (cends_false _ c p a b wid now va vb lv l (by omega) H1.out).mono ?_; rintro e w1 ⟨rfl, hb⟩)
  go_ret
  exact ⟨rfl, .same HH.out (Tch.emp HT.out hb)⟩

set_option maxRecDepth 100000 in
set_option maxHeartbeats 4000000 in
theorem step_5 (W : World) (c p a b : Nat) (wid now t x : Int) (two : Bool) (va vb lv : Value) (l : List (Int × Int)) (hl : l.length < 1073741824) (_ht : Rng t) (_hx : Rng x) (h : CaseS W c p a b wid now va vb lv l) :
    Calls Try.prog 5 #[.pointer (some ⟨c, 0, none⟩), .agg #[.int .i64 5, .bool two, .int .i64 t, .int .i64 x]] W fun e w' => e = .returned (.bool true) ∧ StepTo W c p a b wid va vb lv l w' := by
  have HH := Lib.hid h
  have HT := Lib.hid (Tch.alloc (fun _ => False) W (.cells #[.int .i64 5, .bool two, .int .i64 t, .int .i64 x] 30))
  have H1 := Lib.hid (h.kept HT.out (fun _ _ h => h))
  clear h
  go_enter Try.func5, Try.ntmps5
  go_wp2_with (go_at_call 11; refine (cends_true _ c p a b wid now va vb lv l (by omega) H1.out).mono ?_; rintro e w1 ⟨rfl, hb⟩)
  go_ret
  exact ⟨rfl, .same HH.out (Tch.emp HT.out hb)⟩

set_option maxRecDepth 100000 in
set_option maxHeartbeats 4000000 in
theorem step_6 (W : World) (c p a b : Nat) (wid now t x : Int) (two : Bool) (va vb lv : Value) (l : List (Int × Int)) (hl : l.length < 1073741824) (_ht : Rng t) (_hx : Rng x) (h : CaseS W c p a b wid now va vb lv l) :
    Calls Try.prog 5 #[.pointer (some ⟨c, 0, none⟩), .agg #[.int .i64 6, .bool two, .int .i64 t, .int .i64 x]] W fun e w' => e = .returned (.bool true) ∧ StepTo W c p a b wid va vb lv l w' := by
  have HH := Lib.hid h
  have HT := Lib.hid (Tch.alloc (fun _ => False) W (.cells #[.int .i64 6, .bool two, .int .i64 t, .int .i64 x] 30))
  have H1 := Lib.hid (h.kept HT.out (fun _ _ h => h))
  clear h
  go_enter Try.func5, Try.ntmps5
  go_wp2_with (go_at_call 12; refine (call _ c p a b wid now t va vb lv l (by omega) H1.out).mono ?_; rintro e w1 ⟨rfl, hb⟩)
  go_ret
  exact ⟨rfl, .same HH.out (Tch.emp HT.out hb)⟩

set_option maxRecDepth 100000 in
set_option maxHeartbeats 4000000 in
theorem step_7 (W : World) (c p a b : Nat) (wid now t x : Int) (two : Bool) (va vb lv : Value) (l : List (Int × Int)) (hl : l.length < 1073741824) (_ht : Rng t) (_hx : Rng x) (h : CaseS W c p a b wid now va vb lv l) :
    Calls Try.prog 5 #[.pointer (some ⟨c, 0, none⟩), .agg #[.int .i64 7, .bool two, .int .i64 t, .int .i64 x]] W fun e w' => e = .returned (.bool true) ∧ StepTo W c p a b wid va vb lv l w' := by
  have HH := Lib.hid h
  have HT := Lib.hid (Tch.alloc (fun _ => False) W (.cells #[.int .i64 7, .bool two, .int .i64 t, .int .i64 x] 30))
  have H1 := Lib.hid (h.kept HT.out (fun _ _ h => h))
  clear h
  go_enter Try.func5, Try.ntmps5
  go_wp2_with (go_at_call 13; refine (cfold _ c p a b wid now va vb lv l (by omega) H1.out).mono ?_; rintro e w1 ⟨rfl, hb⟩)
  go_ret
  exact ⟨rfl, .same HH.out (Tch.emp HT.out hb)⟩

set_option maxRecDepth 100000 in
set_option maxHeartbeats 4000000 in
theorem step_else (W : World) (c p a b : Nat) (wid now t x K : Int) (two : Bool) (va vb lv : Value) (l : List (Int × Int)) (k1 : (K == 1) = false) (k2 : (K == 2) = false) (k3 : (K == 3) = false) (k4 : (K == 4) = false) (k5 : (K == 5) = false) (k6 : (K == 6) = false) (k7 : (K == 7) = false) (_hl : l.length < 1073741824) (_ht : Rng t) (_hx : Rng x) (h : CaseS W c p a b wid now va vb lv l) :
    Calls Try.prog 5 #[.pointer (some ⟨c, 0, none⟩), .agg #[.int .i64 K, .bool two, .int .i64 t, .int .i64 x]] W fun e w' => e = .returned (.bool true) ∧ StepTo W c p a b wid va vb lv l w' := by
  have HH := Lib.hid h
  have HT := Lib.hid (Tch.alloc (fun _ => False) W (.cells #[.int .i64 K, .bool two, .int .i64 t, .int .i64 x] 30))
  have H1 := Lib.hid (h.kept HT.out (fun _ _ h => h))
  clear h
  go_enter Try.func5, Try.ntmps5
  go_wp2_with fail
  go_ret
  exact ⟨rfl, .same HH.out HT.out⟩

set_option maxRecDepth 100000 in
set_option maxHeartbeats 4000000 in
theorem step_3 (W : World) (c p a b : Nat) (wid now t x : Int) (two : Bool) (va vb lv : Value) (l : List (Int × Int)) (hl : l.length < 1073741824) (_ht : Rng t) (_hx : Rng x) (h : CaseS W c p a b wid now va vb lv l) :
    Calls Try.prog 5 #[.pointer (some ⟨c, 0, none⟩), .agg #[.int .i64 3, .bool two, .int .i64 t, .int .i64 x]] W fun e w' => e = .returned (.bool true) ∧ StepTo W c p a b wid va vb lv l w' := by
  have HH := Lib.hid h
  have HT := Lib.hid (Tch.alloc (fun _ => False) W (.cells #[.int .i64 3, .bool two, .int .i64 t, .int .i64 x] 30))
  have H1 := Lib.hid (h.kept HT.out (fun _ _ h => h))
  clear h
  go_enter Try.func5, Try.ntmps5
  obtain ⟨c0, c1, c2, c3⟩ := H1.out.cells
  have hclt := lt_of_block H1.out.hc
  have KC := Lib.hid (H1.out.keptc (by omega))
  obtain ⟨xs, hxs⟩ : ∃ xs, keptL wid now l = xs := ⟨_, rfl⟩
  have hl16 : xs.length ≤ 16 := by rw [← hxs]; exact keptL_le _ _ _
  rw [hxs] at KC
  have HX := Lib.hid hxs
  clear hxs
  go_upto_region 6 with fail
  obtain ⟨W0, hW0⟩ : ∃ W0, W.alloc (.cells #[.int .i64 3, .bool two, .int .i64 t, .int .i64 x] 30) = W0 := ⟨_, rfl⟩
  rw [hW0] at HT H1 c0 c1 c2 c3 hclt KC ⊢
  clear hW0
  go_cut [5] from 8 (fun s5 wc => Hid (wc.ownsRow W0.heap.size 56 2 s5 xs.length (flat ei xs)) ∧ Hid (Below W0.heap.size W0 wc))
  case first =>
    go_region_with (go_at_call 9; refine KC.out.mono ?_; rintro e w1 ⟨v', rfl, hk, hb⟩; have HK := Lib.hid hk; have HB := Lib.hid hb; clear hk hb)
    all_goals
      go_wp2_with fail
      go_meet
      exact ⟨HK, HB⟩
  case rest =>
    obtain ⟨HK, HB⟩ := hcut
    have d0 := (HB.out.cell (p := ⟨c, 0, none⟩) hclt).trans c0
    clear c0 c1 c2 c3
    have hws := (H1.out.below HB.out).ws
    rw [HX.out] at hws
    have HW := Lib.hid (lens wc p a b wid now va vb xs hws)
    clear hws
    obtain ⟨a3, cap3, rfl⟩ := sl_of_owns' HK.out
    go_wp2_with (go_at_call 10; refine HW.out.mono ?_; rintro e w2 ⟨rfl, n2, rfl⟩)
    go_ret
    exact ⟨rfl, .same HH.out ((Tch.emp HT.out HB.out).trans (Tch.drewN _ _ _) (fun _ _ h => h))⟩

/-- One step of a case. -/
theorem step_any (W : World) (c p a b : Nat) (wid now t x K : Int) (two : Bool) (va vb lv : Value) (l : List (Int × Int)) (hl : l.length < 1073741824) (ht : Rng t) (hx : Rng x) (h : CaseS W c p a b wid now va vb lv l) :
    Calls Try.prog 5 #[.pointer (some ⟨c, 0, none⟩), .agg #[.int .i64 K, .bool two, .int .i64 t, .int .i64 x]] W fun e w' => e = .returned (.bool true) ∧ StepTo W c p a b wid va vb lv l w' := by
  by_cases k1 : K = 1
  · subst k1
    by_cases hlt : t < now
    · exact step_1no W c p a b wid now t x two va vb lv l hlt hl ht hx h
    · exact step_1 W c p a b wid now t x two va vb lv l (by omega) hl ht hx h
  by_cases k2 : K = 2
  · subst k2
    by_cases hlt : t < now
    · exact step_2no W c p a b wid now t x two va vb lv l hlt hl ht hx h
    · exact step_2 W c p a b wid now t x two va vb lv l (by omega) hl ht hx h
  by_cases k3 : K = 3
  · subst k3; exact step_3 W c p a b wid now t x two va vb lv l hl ht hx h
  by_cases k4 : K = 4
  · subst k4; exact step_4 W c p a b wid now t x two va vb lv l hl ht hx h
  by_cases k5 : K = 5
  · subst k5; exact step_5 W c p a b wid now t x two va vb lv l hl ht hx h
  by_cases k6 : K = 6
  · subst k6; exact step_6 W c p a b wid now t x two va vb lv l hl ht hx h
  by_cases k7 : K = 7
  · subst k7; exact step_7 W c p a b wid now t x two va vb lv l hl ht hx h
  exact step_else W c p a b wid now t x K two va vb lv l (by simpa using k1) (by simpa using k2) (by simpa using k3) (by simpa using k4) (by simpa using k5) (by simpa using k6) (by simpa using k7) hl ht hx h
end Go.Proofs.Ytacjjmdhiphckaa
