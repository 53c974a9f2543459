/- Slides: Advance and Push of a window. -/
import Derived.Test.YtacjjmdhiphckaaLeaf
import Derived.Test.YtacjjmdhiphckaaMem
import Derived.Deep.RegionHeld3
import Derived.Deep.RegionLaw
namespace Go.Proofs.Ytacjjmdhiphckaa
open Go.RowKit

abbrev ei (v : Int) : Value := .int .i64 v
abbrev es (v : Int) : Value := .string (keyS v)
/-- A number of an int64. -/
def Rng (n : Int) : Prop := -9223372036854775808 ≤ n ∧ n ≤ 9223372036854775807

theorem dropWhile_drop {α : Type} (p : α → Bool) : ∀ (xs : List α) (k : Nat), (∀ j x, j < k → xs[j]? = some x → p x = true) → (∀ x, xs[k]? = some x → p x = false) → xs.dropWhile p = xs.drop k
  | [], k, _, _ => by simp
  | x :: xs, 0, _, h2 => by
    have := h2 x rfl
    simp [this]
  | x :: xs, k + 1, h1, h2 => by
    have := h1 0 x (by omega) rfl
    simp only [List.dropWhile_cons, this, if_true, List.drop_succ_cons]
    exact dropWhile_drop p xs k (fun j y hj hy => h1 (j + 1) y (by omega) (by simpa using hy)) (fun y hy => h2 y (by simpa using hy))

theorem Row.drop {e : Int → Value} {eT : TypeId} {W : World} {g off cap : Nat} {cur : Array Value} {xs : List (Int × Int)} (hg : W.heap[g]? = some (.cells cur eT (0, 0))) (hn : xs.length ≤ cap) (hm : cap ≤ maxLen) (hs : off + cap * 2 ≤ cur.size)
    (hc : ∀ j x, xs[j]? = some x → cur[off + j * 2]? = some (.int .i64 x.1) ∧ cur[off + j * 2 + 1]? = some (e x.2)) (k : Nat) (hk : k ≤ xs.length) :
    Row e eT W (.slice (some ⟨g, off + k * 2, none⟩) (xs.length - k) (cap - k)) (xs.drop k) := by
  refine .inr ⟨g, off + k * 2, cap - k, cur, by simp, hg, by simp; omega, by omega, by omega, fun j x hx => ?_⟩
  rw [List.getElem?_drop] at hx
  have := hc (k + j) x hx
  rw [show off + k * 2 + j * 2 = off + (k + j) * 2 by omega]
  exact this
theorem Row.none {e : Int → Value} {eT : TypeId} {W : World} {g off : Nat} {cur : Array Value} (hg : W.heap[g]? = some (.cells cur eT (0, 0))) (hs : off ≤ cur.size) : Row e eT W (.slice (some ⟨g, off, none⟩) 0 0) [] :=
  .inr ⟨g, off, 0, cur, rfl, hg, by simp, by decide, by simpa using hs, fun j x hx => by simp at hx⟩

/-- Behind the store of a window's slice. -/
theorem store_l {w W1 : World} {B g m : Nat} {a b v : Value} {T eT : TypeId} {cur : Array Value} (hB : W1.heap[B]? = some (.cells #[a, b, v] T (0, 0))) (hg : W1.heap[g]? = some (.cells cur eT (0, 0))) (hgB : g ≠ B) (ht : Tch (· = B) w W1) (v' : Value) :
    ((W1.drewN m).setCell ⟨B, 2, none⟩ v').heap[B]? = some (.cells #[a, b, v'] T (0, 0)) ∧ ((W1.drewN m).setCell ⟨B, 2, none⟩ v').heap[g]? = some (.cells cur eT (0, 0)) ∧ Tch (· = B) w ((W1.drewN m).setCell ⟨B, 2, none⟩ v') := by
  refine ⟨heap_setCell_at (w := W1.drewN m) (o := 2) hB v', ?_, ht.trans ((Tch.drewN (· = B) W1 m).trans (Tch.setCell (S := (· = B)) _ (a := ⟨B, 2, none⟩) rfl _) (fun _ _ h => h)) (fun _ _ h => h)⟩
  rw [Below.heap_setCell _ _ _ _ hgB]
  exact hg

theorem gone_int_yes (B : Nat) (t wid now : Int) (v : Value) (w : World) (ht : Rng t) (h3 : wid ≤ 9223372036854775807) (hin : inB wid now t = false)
    (hB : w.heap[B]? = some (.cells #[.int .i64 wid, .int .i64 now, v] 47 (0, 0))) :
    Calls Try.prog 39 #[.pointer (some ⟨B, 0, none⟩), .int .i64 t] w fun e w' => e = .returned (.bool true) ∧ ∃ n, w' = w.drewN n :=
  (gone_int B t wid now v w ht.1 ht.2 h3 hB).mono fun e w' h => ⟨by rw [h.1, hin]; rfl, h.2⟩
theorem gone_int_no (B : Nat) (t wid now : Int) (v : Value) (w : World) (ht : Rng t) (h3 : wid ≤ 9223372036854775807) (hin : inB wid now t = true)
    (hB : w.heap[B]? = some (.cells #[.int .i64 wid, .int .i64 now, v] 47 (0, 0))) :
    Calls Try.prog 39 #[.pointer (some ⟨B, 0, none⟩), .int .i64 t] w fun e w' => e = .returned (.bool false) ∧ ∃ n, w' = w.drewN n :=
  (gone_int B t wid now v w ht.1 ht.2 h3 hB).mono fun e w' h => ⟨by rw [h.1, hin]; rfl, h.2⟩

set_option maxRecDepth 100000 in
theorem adv_int_no (B : Nat) (t wid now : Int) (v : Value) (w : World) (hlt : t < now) (hB : w.heap[B]? = some (.cells #[.int .i64 wid, .int .i64 now, v] 47 (0, 0))) :
    Calls Try.prog 25 #[.pointer (some ⟨B, 0, none⟩), .int .i64 t] w fun e w' => e = .returned (.bool false) ∧ w = w' := by
  have c1 : w.cell? ⟨B, 1, none⟩ = some (.int .i64 now) := by rw [cell_of_row w B 1 _ _ _ hB]; rfl
  clear hB
  go_enter Try.func25, Try.ntmps25
  go_wp2
  go_ret
  exact ⟨rfl, rfl⟩

set_option maxRecDepth 100000 in
set_option maxHeartbeats 1000000 in
theorem adv_int_yes (B : Nat) (t wid now : Int) (v : Value) (w : World) (xs : List (Int × Int)) (hge : now ≤ t) (h3 : wid ≤ 9223372036854775807) (hxs : ∀ x ∈ xs, Rng x.1) (hl : xs.length ≤ 16)
    (hB : w.heap[B]? = some (.cells #[.int .i64 wid, .int .i64 now, v] 47 (0, 0))) (hr : Row ei 84 w v xs) :
    Calls Try.prog 25 #[.pointer (some ⟨B, 0, none⟩), .int .i64 t] w fun e w' => e = .returned (.bool true) ∧
      ∃ v', w'.heap[B]? = some (.cells #[.int .i64 wid, .int .i64 t, v'] 47 (0, 0)) ∧ Row ei 84 w' v' (xs.dropWhile fun x => !inB wid t x.1) ∧ v'.ownBlock = v.ownBlock ∧ Tch (· = B) w w' := by
  have c1 : w.cell? ⟨B, 1, none⟩ = some (.int .i64 now) := by rw [cell_of_row w B 1 _ _ _ hB]; rfl
  have f1 : ∀ o, w.frozen? ⟨B, o, none⟩ = false := fun o => frozen_of_row w B o _ _ hB
  rcases hr with ⟨rfl, rfl⟩ | ⟨g, off, cap, cur, rfl, hg, hn, hm, hs, hc⟩
  · have c2 : w.cell? ⟨B, 2, none⟩ = some (.slice none 0 0) := by rw [cell_of_row w B 2 _ _ _ hB]; rfl
    have hB1 := heap_setCell_at (o := 1) hB (.int .i64 t)
    have HB1 := Lib.hid hB1
    clear hB1 hB
    go_enter Try.func25, Try.ntmps25
    go_wp2_with fail
    refine wp_loop_rounds 1 ?_
    rw [rounds_succ]
    go_wp2_with fail
    go_ret
    refine ⟨rfl, .slice none 0 0, ?_, .inl ⟨rfl, rfl⟩, rfl, ?_⟩
    · exact heap_setCell_at (o := 2) HB1.out _
    · exact (Tch.setCell (S := (· = B)) w (a := ⟨B, 1, none⟩) rfl _).trans (Tch.setCell (S := (· = B)) _ (a := ⟨B, 2, none⟩) rfl _) (fun _ _ h => h)
  · have c2 : w.cell? ⟨B, 2, none⟩ = some (.slice (some ⟨g, off, none⟩) xs.length cap) := by rw [cell_of_row w B 2 _ _ _ hB]; rfl
    have hgB : g ≠ B := by rintro rfl; rw [hB] at hg; simp at hg
    have hB1 : (w.setCell ⟨B, 1, none⟩ (.int .i64 t)).heap[B]? = some (.cells #[.int .i64 wid, .int .i64 t, .slice (some ⟨g, off, none⟩) xs.length cap] 47 (0, 0)) := heap_setCell_at (o := 1) hB (.int .i64 t)
    have hg1 : (w.setCell ⟨B, 1, none⟩ (.int .i64 t)).heap[g]? = some (.cells cur 84 (0, 0)) := by rw [Below.heap_setCell _ _ _ _ hgB]; exact hg
    have HT : Tch (· = B) w (w.setCell ⟨B, 1, none⟩ (.int .i64 t)) := Tch.setCell (S := (· = B)) w (a := ⟨B, 1, none⟩) rfl _
    have HB1 := Lib.hid hB1
    have HG1 := Lib.hid hg1
    have HC := Lib.hid hc
    clear hB1 hg1 hB hg hc
    go_enter Try.func25, Try.ntmps25
    go_wp2_with fail
    obtain ⟨W1, hW1⟩ : ∃ W1, w.setCell ⟨B, 1, none⟩ (.int .i64 t) = W1 := ⟨_, rfl⟩
    rw [hW1] at HB1 HG1 HT ⊢
    clear hW1 c1 c2 f1
    have d2 : W1.cell? ⟨B, 2, none⟩ = some (.slice (some ⟨g, off, none⟩) xs.length cap) := by rw [cell_of_row W1 B 2 _ _ _ HB1.out]; rfl
    have f2 : ∀ o, W1.frozen? ⟨B, o, none⟩ = false := fun o => frozen_of_row W1 B o _ _ HB1.out
    go_loopw [5] (fun i wr => ∃ k m : Nat, k ≤ xs.length ∧ i = .int .i64 k ∧ (∀ j x, j < k → xs[j]? = some x → (!inB wid t x.1) = true) ∧ wr = W1.drewN m) (fun i _ => xs.length - (intOf i).toNat)
    case atStart => exact ⟨0, 0, Nat.zero_le _, rfl, fun j x hj => by omega, rfl⟩
    case round =>
      obtain ⟨k, m, hk, rfl, hall, rfl⟩ := hrel
      have HA := Lib.hid hall
      clear hall
      by_cases hlt : k < xs.length
      · obtain ⟨x, hx⟩ : ∃ x, xs[k]? = some x := ⟨_, List.getElem?_eq_getElem hlt⟩
        have hx1 := (HC.out k x hx).1
        have cx : W1.cell? ⟨g, off + k * 2, none⟩ = some (.int .i64 x.1) := by rw [cell_of_row W1 g _ _ _ _ HG1.out]; exact hx1
        have hrx : Rng x.1 := hxs x (List.mem_of_getElem? hx)
        have HX := Lib.hid hx
        clear hx1 hx
        obtain ⟨x1, x2⟩ := x
        by_cases hin : inB wid t x1 = true
        · have HI := Lib.hid hin
          clear hin
          have hne : ¬ cap = k := by omega
          go_wp2_with (go_at_call 39; refine (gone_int_no B x1 wid t _ (W1.drewN m) hrx h3 HI.out HB1.out).mono ?_; rintro e w' ⟨rfl, n2, rfl⟩)
          go_ret
          obtain ⟨k1, k2, k3⟩ := store_l (m := m + n2) HB1.out HG1.out hgB HT (.slice (some ⟨g, off + k * 2, none⟩) (xs.length - k) (cap - k))
          refine ⟨rfl, .slice (some ⟨g, off + k * 2, none⟩) (xs.length - k) (cap - k), k1, ?_, rfl, k3⟩
          rw [dropWhile_drop _ xs k HA.out (fun y hy => by rw [HX.out] at hy; cases hy; simp [HI.out])]
          exact Row.drop k2 hn hm hs HC.out k hk
        · have hin' : inB wid t x1 = false := by simpa using hin
          have HI := Lib.hid hin'
          clear hin hin'
          go_wp2_with (go_at_call 39; refine (gone_int_yes B x1 wid t _ (W1.drewN m) hrx h3 HI.out HB1.out).mono ?_; rintro e w' ⟨rfl, n2, rfl⟩)
          go_roundw
          case rel =>
            refine ⟨k + 1, _, by omega, by go_num, fun j y hj hy => ?_, rfl⟩
            rcases Nat.lt_or_ge j k with h | h
            · exact HA.out j y h hy
            · obtain rfl : j = k := by omega
              rw [HX.out] at hy
              cases hy
              simp [HI.out]
          case measure => simp [intOf]; omega
      · by_cases hck : cap = k
        · go_wp2_with fail
          go_ret
          have hkl : k = xs.length := by omega
          obtain ⟨k1, k2, k3⟩ := store_l (m := m) HB1.out HG1.out hgB HT (.slice (some ⟨g, off, none⟩) (xs.length - k) 0)
          refine ⟨rfl, .slice (some ⟨g, off, none⟩) (xs.length - k) 0, k1, ?_, rfl, k3⟩
          rw [dropWhile_drop _ xs k HA.out (fun y hy => by rw [List.getElem?_eq_none (by omega)] at hy; cases hy), List.drop_eq_nil_of_le (by omega)]
          have e0 : xs.length - k = 0 := by omega
          rw [e0] at k2 ⊢
          exact Row.none k2 (by omega)
        · go_wp2_with fail
          go_ret
          have hkl : k = xs.length := by omega
          obtain ⟨k1, k2, k3⟩ := store_l (m := m) HB1.out HG1.out hgB HT (.slice (some ⟨g, off + k * 2, none⟩) (xs.length - k) (cap - k))
          refine ⟨rfl, .slice (some ⟨g, off + k * 2, none⟩) (xs.length - k) (cap - k), k1, ?_, rfl, k3⟩
          rw [dropWhile_drop _ xs k HA.out (fun y hy => by rw [List.getElem?_eq_none (by omega)] at hy; cases hy)]
          exact Row.drop k2 hn hm hs HC.out k hk
theorem gone_str_yes (B : Nat) (t wid now : Int) (v : Value) (w : World) (ht : Rng t) (h3 : wid ≤ 9223372036854775807) (hin : inB wid now t = false)
    (hB : w.heap[B]? = some (.cells #[.int .i64 wid, .int .i64 now, v] 50 (0, 0))) :
    Calls Try.prog 40 #[.pointer (some ⟨B, 0, none⟩), .int .i64 t] w fun e w' => e = .returned (.bool true) ∧ ∃ n, w' = w.drewN n :=
  (gone_str B t wid now v w ht.1 ht.2 h3 hB).mono fun e w' h => ⟨by rw [h.1, hin]; rfl, h.2⟩
theorem gone_str_no (B : Nat) (t wid now : Int) (v : Value) (w : World) (ht : Rng t) (h3 : wid ≤ 9223372036854775807) (hin : inB wid now t = true)
    (hB : w.heap[B]? = some (.cells #[.int .i64 wid, .int .i64 now, v] 50 (0, 0))) :
    Calls Try.prog 40 #[.pointer (some ⟨B, 0, none⟩), .int .i64 t] w fun e w' => e = .returned (.bool false) ∧ ∃ n, w' = w.drewN n :=
  (gone_str B t wid now v w ht.1 ht.2 h3 hB).mono fun e w' h => ⟨by rw [h.1, hin]; rfl, h.2⟩

set_option maxRecDepth 100000 in
theorem adv_str_no (B : Nat) (t wid now : Int) (v : Value) (w : World) (hlt : t < now) (hB : w.heap[B]? = some (.cells #[.int .i64 wid, .int .i64 now, v] 50 (0, 0))) :
    Calls Try.prog 26 #[.pointer (some ⟨B, 0, none⟩), .int .i64 t] w fun e w' => e = .returned (.bool false) ∧ w = w' := by
  have c1 : w.cell? ⟨B, 1, none⟩ = some (.int .i64 now) := by rw [cell_of_row w B 1 _ _ _ hB]; rfl
  clear hB
  go_enter Try.func26, Try.ntmps26
  go_wp2
  go_ret
  exact ⟨rfl, rfl⟩

set_option maxRecDepth 100000 in
set_option maxHeartbeats 1000000 in
theorem adv_str_yes (B : Nat) (t wid now : Int) (v : Value) (w : World) (xs : List (Int × Int)) (hge : now ≤ t) (h3 : wid ≤ 9223372036854775807) (hxs : ∀ x ∈ xs, Rng x.1) (hl : xs.length ≤ 16)
    (hB : w.heap[B]? = some (.cells #[.int .i64 wid, .int .i64 now, v] 50 (0, 0))) (hr : Row es 86 w v xs) :
    Calls Try.prog 26 #[.pointer (some ⟨B, 0, none⟩), .int .i64 t] w fun e w' => e = .returned (.bool true) ∧
      ∃ v', w'.heap[B]? = some (.cells #[.int .i64 wid, .int .i64 t, v'] 50 (0, 0)) ∧ Row es 86 w' v' (xs.dropWhile fun x => !inB wid t x.1) ∧ v'.ownBlock = v.ownBlock ∧ Tch (· = B) w w' := by
  have c1 : w.cell? ⟨B, 1, none⟩ = some (.int .i64 now) := by rw [cell_of_row w B 1 _ _ _ hB]; rfl
  have f1 : ∀ o, w.frozen? ⟨B, o, none⟩ = false := fun o => frozen_of_row w B o _ _ hB
  rcases hr with ⟨rfl, rfl⟩ | ⟨g, off, cap, cur, rfl, hg, hn, hm, hs, hc⟩
  · have c2 : w.cell? ⟨B, 2, none⟩ = some (.slice none 0 0) := by rw [cell_of_row w B 2 _ _ _ hB]; rfl
    have hB1 := heap_setCell_at (o := 1) hB (.int .i64 t)
    have HB1 := Lib.hid hB1
    clear hB1 hB
    go_enter Try.func26, Try.ntmps26
    go_wp2_with fail
    refine wp_loop_rounds 1 ?_
    rw [rounds_succ]
    go_wp2_with fail
    go_ret
    refine ⟨rfl, .slice none 0 0, ?_, .inl ⟨rfl, rfl⟩, rfl, ?_⟩
    · exact heap_setCell_at (o := 2) HB1.out _
    · exact (Tch.setCell (S := (· = B)) w (a := ⟨B, 1, none⟩) rfl _).trans (Tch.setCell (S := (· = B)) _ (a := ⟨B, 2, none⟩) rfl _) (fun _ _ h => h)
  · have c2 : w.cell? ⟨B, 2, none⟩ = some (.slice (some ⟨g, off, none⟩) xs.length cap) := by rw [cell_of_row w B 2 _ _ _ hB]; rfl
    have hgB : g ≠ B := by rintro rfl; rw [hB] at hg; simp at hg
    have hB1 : (w.setCell ⟨B, 1, none⟩ (.int .i64 t)).heap[B]? = some (.cells #[.int .i64 wid, .int .i64 t, .slice (some ⟨g, off, none⟩) xs.length cap] 50 (0, 0)) := heap_setCell_at (o := 1) hB (.int .i64 t)
    have hg1 : (w.setCell ⟨B, 1, none⟩ (.int .i64 t)).heap[g]? = some (.cells cur 86 (0, 0)) := by rw [Below.heap_setCell _ _ _ _ hgB]; exact hg
    have HT : Tch (· = B) w (w.setCell ⟨B, 1, none⟩ (.int .i64 t)) := Tch.setCell (S := (· = B)) w (a := ⟨B, 1, none⟩) rfl _
    have HB1 := Lib.hid hB1
    have HG1 := Lib.hid hg1
    have HC := Lib.hid hc
    clear hB1 hg1 hB hg hc
    go_enter Try.func26, Try.ntmps26
    go_wp2_with fail
    obtain ⟨W1, hW1⟩ : ∃ W1, w.setCell ⟨B, 1, none⟩ (.int .i64 t) = W1 := ⟨_, rfl⟩
    rw [hW1] at HB1 HG1 HT ⊢
    clear hW1 c1 c2 f1
    have d2 : W1.cell? ⟨B, 2, none⟩ = some (.slice (some ⟨g, off, none⟩) xs.length cap) := by rw [cell_of_row W1 B 2 _ _ _ HB1.out]; rfl
    have f2 : ∀ o, W1.frozen? ⟨B, o, none⟩ = false := fun o => frozen_of_row W1 B o _ _ HB1.out
    go_loopw [5] (fun i wr => ∃ k m : Nat, k ≤ xs.length ∧ i = .int .i64 k ∧ (∀ j x, j < k → xs[j]? = some x → (!inB wid t x.1) = true) ∧ wr = W1.drewN m) (fun i _ => xs.length - (intOf i).toNat)
    case atStart => exact ⟨0, 0, Nat.zero_le _, rfl, fun j x hj => by omega, rfl⟩
    case round =>
      obtain ⟨k, m, hk, rfl, hall, rfl⟩ := hrel
      have HA := Lib.hid hall
      clear hall
      by_cases hlt : k < xs.length
      · obtain ⟨x, hx⟩ : ∃ x, xs[k]? = some x := ⟨_, List.getElem?_eq_getElem hlt⟩
        have hx1 := (HC.out k x hx).1
        have cx : W1.cell? ⟨g, off + k * 2, none⟩ = some (.int .i64 x.1) := by rw [cell_of_row W1 g _ _ _ _ HG1.out]; exact hx1
        have hrx : Rng x.1 := hxs x (List.mem_of_getElem? hx)
        have HX := Lib.hid hx
        clear hx1 hx
        obtain ⟨x1, x2⟩ := x
        by_cases hin : inB wid t x1 = true
        · have HI := Lib.hid hin
          clear hin
          have hne : ¬ cap = k := by omega
          go_wp2_with (go_at_call 40; refine (gone_str_no B x1 wid t _ (W1.drewN m) hrx h3 HI.out HB1.out).mono ?_; rintro e w' ⟨rfl, n2, rfl⟩)
          go_ret
          obtain ⟨k1, k2, k3⟩ := store_l (m := m + n2) HB1.out HG1.out hgB HT (.slice (some ⟨g, off + k * 2, none⟩) (xs.length - k) (cap - k))
          refine ⟨rfl, .slice (some ⟨g, off + k * 2, none⟩) (xs.length - k) (cap - k), k1, ?_, rfl, k3⟩
          rw [dropWhile_drop _ xs k HA.out (fun y hy => by rw [HX.out] at hy; cases hy; simp [HI.out])]
          exact Row.drop k2 hn hm hs HC.out k hk
        · have hin' : inB wid t x1 = false := by simpa using hin
          have HI := Lib.hid hin'
          clear hin hin'
          go_wp2_with (go_at_call 40; refine (gone_str_yes B x1 wid t _ (W1.drewN m) hrx h3 HI.out HB1.out).mono ?_; rintro e w' ⟨rfl, n2, rfl⟩)
          go_roundw
          case rel =>
            refine ⟨k + 1, _, by omega, by go_num, fun j y hj hy => ?_, rfl⟩
            rcases Nat.lt_or_ge j k with h | h
            · exact HA.out j y h hy
            · obtain rfl : j = k := by omega
              rw [HX.out] at hy
              cases hy
              simp [HI.out]
          case measure => simp [intOf]; omega
      · by_cases hck : cap = k
        · go_wp2_with fail
          go_ret
          have hkl : k = xs.length := by omega
          obtain ⟨k1, k2, k3⟩ := store_l (m := m) HB1.out HG1.out hgB HT (.slice (some ⟨g, off, none⟩) (xs.length - k) 0)
          refine ⟨rfl, .slice (some ⟨g, off, none⟩) (xs.length - k) 0, k1, ?_, rfl, k3⟩
          rw [dropWhile_drop _ xs k HA.out (fun y hy => by rw [List.getElem?_eq_none (by omega)] at hy; cases hy), List.drop_eq_nil_of_le (by omega)]
          have e0 : xs.length - k = 0 := by omega
          rw [e0] at k2 ⊢
          exact Row.none k2 (by omega)
        · go_wp2_with fail
          go_ret
          have hkl : k = xs.length := by omega
          obtain ⟨k1, k2, k3⟩ := store_l (m := m) HB1.out HG1.out hgB HT (.slice (some ⟨g, off + k * 2, none⟩) (xs.length - k) (cap - k))
          refine ⟨rfl, .slice (some ⟨g, off + k * 2, none⟩) (xs.length - k) (cap - k), k1, ?_, rfl, k3⟩
          rw [dropWhile_drop _ xs k HA.out (fun y hy => by rw [List.getElem?_eq_none (by omega)] at hy; cases hy)]
          exact Row.drop k2 hn hm hs HC.out k hk
end Go.Proofs.Ytacjjmdhiphckaa
