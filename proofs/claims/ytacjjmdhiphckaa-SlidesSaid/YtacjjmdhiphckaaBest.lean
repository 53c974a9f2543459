/- Slides: best, Least, Most of a window. -/
import Derived.Test.YtacjjmdhiphckaaPush
namespace Go.Proofs.Ytacjjmdhiphckaa
open Go.RowKit

/-- Does a come before b? -/
def befI (most : Bool) (a b : Int) : Bool := if most then decide (b < a) else decide (a < b)
def befS (most : Bool) (a b : Int) : Bool := if most then lessS (keyS b) (keyS a) else lessS (keyS a) (keyS b)
/-- The best of the first k values. -/
def bestN (bef : Int → Int → Bool) (xs : List (Int × Int)) : Nat → Int
  | 0 => 0
  | k + 1 => if k = 0 ∨ bef (xs.getD k (0, 0)).2 (bestN bef xs k) = true then (xs.getD k (0, 0)).2 else bestN bef xs k
def outI (most : Bool) (xs : List (Int × Int)) (k : Nat) : Int := bestN (befI most) xs k
def outS (most : Bool) (xs : List (Int × Int)) : Nat → ByteArray
  | 0 => ⟨#[]⟩
  | k + 1 => keyS (bestN (befS most) xs (k + 1))

theorem outI_zero (most : Bool) (xs : List (Int × Int)) : outI most xs 0 = 0 := rfl
theorem outI_one (most : Bool) (xs : List (Int × Int)) {x : Int × Int} (hx : xs[0]? = some x) : outI most xs 1 = x.2 := by
  simp [outI, bestN, List.getD_eq_getElem?_getD, hx]
theorem outI_yes (most : Bool) (xs : List (Int × Int)) {k : Nat} {x : Int × Int} (hx : xs[k]? = some x) (_hk : k ≠ 0) (h : (if most then decide (outI most xs k < x.2) else decide (x.2 < outI most xs k)) = true) : outI most xs (k + 1) = x.2 := by
  have e : befI most (xs.getD k (0, 0)).2 (bestN (befI most) xs k) = true := by
    have hg : xs.getD k (0, 0) = x := by simp [List.getD_eq_getElem?_getD, hx]
    rw [hg]; exact h
  show bestN (befI most) xs (k + 1) = x.2
  rw [bestN, if_pos (.inr e)]
  simp [List.getD_eq_getElem?_getD, hx]
theorem outI_no (most : Bool) (xs : List (Int × Int)) {k : Nat} {x : Int × Int} (hx : xs[k]? = some x) (hk : k ≠ 0) (h : (if most then decide (outI most xs k < x.2) else decide (x.2 < outI most xs k)) = false) : outI most xs (k + 1) = outI most xs k := by
  have e : befI most (xs.getD k (0, 0)).2 (bestN (befI most) xs k) = false := by
    have hg : xs.getD k (0, 0) = x := by simp [List.getD_eq_getElem?_getD, hx]
    rw [hg]; exact h
  show bestN (befI most) xs (k + 1) = bestN (befI most) xs k
  rw [bestN, if_neg (by rw [e]; simp [hk])]
theorem outS_zero (most : Bool) (xs : List (Int × Int)) : outS most xs 0 = ⟨#[]⟩ := rfl
theorem outS_pos (most : Bool) (xs : List (Int × Int)) {k : Nat} (hk : k ≠ 0) : outS most xs k = keyS (bestN (befS most) xs k) := by
  cases k with
  | zero => exact absurd rfl hk
  | succ k => rfl
theorem outS_one (most : Bool) (xs : List (Int × Int)) {x : Int × Int} (hx : xs[0]? = some x) : outS most xs 1 = keyS x.2 := by
  simp [outS, bestN, List.getD_eq_getElem?_getD, hx]
theorem outS_yes (most : Bool) (xs : List (Int × Int)) {k : Nat} {x : Int × Int} (hx : xs[k]? = some x) (hk : k ≠ 0) (h : (if most then lessS (outS most xs k) (keyS x.2) else lessS (keyS x.2) (outS most xs k)) = true) : outS most xs (k + 1) = keyS x.2 := by
  rw [outS_pos most xs hk] at h
  have e : befS most (xs.getD k (0, 0)).2 (bestN (befS most) xs k) = true := by cases most <;> simpa [befS, List.getD_eq_getElem?_getD, hx] using h
  rw [outS_pos most xs (by omega), bestN, if_pos (.inr e)]
  simp [List.getD_eq_getElem?_getD, hx]
theorem outS_no (most : Bool) (xs : List (Int × Int)) {k : Nat} {x : Int × Int} (hx : xs[k]? = some x) (hk : k ≠ 0) (h : (if most then lessS (outS most xs k) (keyS x.2) else lessS (keyS x.2) (outS most xs k)) = false) : outS most xs (k + 1) = outS most xs k := by
  rw [outS_pos most xs hk] at h
  have e : befS most (xs.getD k (0, 0)).2 (bestN (befS most) xs k) = false := by cases most <;> simpa [befS, List.getD_eq_getElem?_getD, hx] using h
  rw [outS_pos most xs (by omega), outS_pos most xs hk, bestN, if_neg (by rw [e]; simp [hk])]

set_option maxRecDepth 100000 in
set_option maxHeartbeats 1000000 in
theorem best_int_least (B : Nat) (wid now : Int) (v : Value) (w : World) (xs : List (Int × Int)) (hl : xs.length ≤ 16)
    (hB : w.heap[B]? = some (.cells #[.int .i64 wid, .int .i64 now, v] 47 (0, 0))) (hr : Row ei 84 w v xs) :
    Calls Try.prog 41 #[.pointer (some ⟨B, 0, none⟩), .func (.func 43) #[] #[]] w fun e w' => e = .returned (.tuple #[.int .i64 (outI false xs xs.length), .bool (decide (0 < xs.length))]) ∧ Below w.heap.size w w' := by
  have hBlt := lt_of_block hB
  rcases hr with ⟨rfl, rfl⟩ | ⟨g, off, cap, cur, rfl, hg, hn, hm, hs, hc⟩
  · have c2 : w.cell? ⟨B, 2, none⟩ = some (.slice none 0 0) := by rw [cell_of_row w B 2 _ _ _ hB]; rfl
    clear hB
    go_enter Try.func41, Try.ntmps41
    go_wp2_with fail
    refine wp_loop_rounds 1 ?_
    rw [rounds_succ]
    go_wp2_with fail
    go_quiet (fail)
    go_wp2_with fail
    go_ret2
    exact ⟨rfl, below_drewN (Below.refl _ _) _⟩
  · have c2 : w.cell? ⟨B, 2, none⟩ = some (.slice (some ⟨g, off, none⟩) xs.length cap) := by rw [cell_of_row w B 2 _ _ _ hB]; rfl
    have hglt := lt_of_block hg
    have hz : outI false xs 0 = 0 := outI_zero _ _
    have HZ := Lib.hid hz
    have HC := Lib.hid hc
    have HG := Lib.hid hg
    clear hB hz hc hg
    go_enter Try.func41, Try.ntmps41
    go_wp2_with fail
    go_loopw [6, 14] (fun o i wr => ∃ k : Nat, k ≤ xs.length ∧ i = .int .i64 k ∧ o = .int .i64 (outI false xs k) ∧ Below w.heap.size w wr) (fun _ i _ => xs.length - (intOf i).toNat)
    case atStart => exact ⟨0, Nat.zero_le _, rfl, by rw [HZ.out], Below.refl _ _⟩
    case round =>
      obtain ⟨k, hk, rfl, rfl, hbl⟩ := hrel
      have d2 := (hbl.cell (p := ⟨B, 2, none⟩) hBlt).trans c2
      by_cases hlt : k < xs.length
      · obtain ⟨⟨x1, x2⟩, hx⟩ : ∃ x, xs[k]? = some x := ⟨_, List.getElem?_eq_getElem hlt⟩
        have cx0 : wr.cell? ⟨g, off + k * 2, none⟩ = some (.int .i64 x1) := by rw [hbl.cell (p := ⟨g, _, none⟩) hglt, cell_of_row w g _ _ _ _ HG.out]; exact (HC.out k _ hx).1
        have cx1 : wr.cell? ⟨g, off + k * 2 + 1, none⟩ = some (.int .i64 x2) := by rw [hbl.cell (p := ⟨g, _, none⟩) hglt, cell_of_row w g _ _ _ _ HG.out]; exact (HC.out k _ hx).2
        have HX := Lib.hid hx
        clear hx
        by_cases hk0 : k = 0
        · subst hk0
          simp only [Nat.zero_mul, Nat.add_zero] at cx0 cx1
          go_wp2_with fail
          go_roundw
          case rel => exact ⟨1, by omega, rfl, by rw [outI_one _ _ HX.out], hbl.alloc hbl.size _⟩
          case measure => simp [intOf]; omega
        · have hkb : ((k : Int) == 0) = false := by simpa using hk0
          by_cases hbf : decide (x2 < outI false xs k) = true
          · have HBf := Lib.hid hbf
            clear hbf
            go_wp2_with fail
            refine (less_int _ _ _).mono ?_
            rintro e w' ⟨rfl, rfl⟩
            rw [HBf.out]
            go_wp2_with fail
            go_roundw
            case rel => exact ⟨k + 1, by omega, by go_num, by rw [outI_yes false _ HX.out hk0 HBf.out], hbl.alloc hbl.size _⟩
            case measure => simp [intOf]; omega
          · have hbf' : decide (x2 < outI false xs k) = false := by simpa using hbf
            have HBf := Lib.hid hbf'
            clear hbf hbf'
            go_wp2_with fail
            refine (less_int _ _ _).mono ?_
            rintro e w' ⟨rfl, rfl⟩
            rw [HBf.out]
            go_wp2_with fail
            go_roundw
            case rel => exact ⟨k + 1, by omega, by go_num, by rw [outI_no false _ HX.out hk0 HBf.out], hbl.alloc hbl.size _⟩
            case measure => simp [intOf]; omega
      · have hkl : k = xs.length := by omega
        have hwlt := hbl.size
        by_cases h0 : 0 < xs.length
        · have hd : decide ((0 : Int) < (xs.length : Int)) = true := by simpa using h0
          go_wp2_with fail
          go_quiet (fail)
          go_wp2_with fail
          go_ret2
          exact ⟨by rw [hkl]; simp [h0], below_drewN hbl _⟩
        · have hd : decide ((0 : Int) < (xs.length : Int)) = false := by simpa using h0
          go_wp2_with fail
          go_quiet (fail)
          go_wp2_with fail
          go_ret2
          exact ⟨by rw [hkl]; simp [h0], below_drewN hbl _⟩

set_option maxRecDepth 100000 in
theorem end_int_least (B : Nat) (wid now : Int) (v : Value) (w : World) (xs : List (Int × Int)) (hl : xs.length ≤ 16)
    (hB : w.heap[B]? = some (.cells #[.int .i64 wid, .int .i64 now, v] 47 (0, 0))) (hr : Row ei 84 w v xs) :
    Calls Try.prog 29 #[.pointer (some ⟨B, 0, none⟩)] w fun e w' => e = .returned (.tuple #[.int .i64 (outI false xs xs.length), .bool (decide (0 < xs.length))]) ∧ Below w.heap.size w w' := by
  have C := Lib.hid (best_int_least B wid now v w xs hl hB hr)
  clear hB hr
  go_enter Try.func29, Try.ntmps29
  go_wp2_with fail
  refine C.out.mono ?_
  rintro e w1 ⟨rfl, hb⟩
  go_wp2_with fail
  go_ret2
  exact ⟨rfl, hb⟩
set_option maxRecDepth 100000 in
set_option maxHeartbeats 1000000 in
theorem best_int_most (B : Nat) (wid now : Int) (v : Value) (w : World) (xs : List (Int × Int)) (hl : xs.length ≤ 16)
    (hB : w.heap[B]? = some (.cells #[.int .i64 wid, .int .i64 now, v] 47 (0, 0))) (hr : Row ei 84 w v xs) :
    Calls Try.prog 41 #[.pointer (some ⟨B, 0, none⟩), .func (.func 42) #[] #[]] w fun e w' => e = .returned (.tuple #[.int .i64 (outI true xs xs.length), .bool (decide (0 < xs.length))]) ∧ Below w.heap.size w w' := by
  have hBlt := lt_of_block hB
  rcases hr with ⟨rfl, rfl⟩ | ⟨g, off, cap, cur, rfl, hg, hn, hm, hs, hc⟩
  · have c2 : w.cell? ⟨B, 2, none⟩ = some (.slice none 0 0) := by rw [cell_of_row w B 2 _ _ _ hB]; rfl
    clear hB
    go_enter Try.func41, Try.ntmps41
    go_wp2_with fail
    refine wp_loop_rounds 1 ?_
    rw [rounds_succ]
    go_wp2_with fail
    go_quiet (fail)
    go_wp2_with fail
    go_ret2
    exact ⟨rfl, below_drewN (Below.refl _ _) _⟩
  · have c2 : w.cell? ⟨B, 2, none⟩ = some (.slice (some ⟨g, off, none⟩) xs.length cap) := by rw [cell_of_row w B 2 _ _ _ hB]; rfl
    have hglt := lt_of_block hg
    have hz : outI true xs 0 = 0 := outI_zero _ _
    have HZ := Lib.hid hz
    have HC := Lib.hid hc
    have HG := Lib.hid hg
    clear hB hz hc hg
    go_enter Try.func41, Try.ntmps41
    go_wp2_with fail
    go_loopw [6, 14] (fun o i wr => ∃ k : Nat, k ≤ xs.length ∧ i = .int .i64 k ∧ o = .int .i64 (outI true xs k) ∧ Below w.heap.size w wr) (fun _ i _ => xs.length - (intOf i).toNat)
    case atStart => exact ⟨0, Nat.zero_le _, rfl, by rw [HZ.out], Below.refl _ _⟩
    case round =>
      obtain ⟨k, hk, rfl, rfl, hbl⟩ := hrel
      have d2 := (hbl.cell (p := ⟨B, 2, none⟩) hBlt).trans c2
      by_cases hlt : k < xs.length
      · obtain ⟨⟨x1, x2⟩, hx⟩ : ∃ x, xs[k]? = some x := ⟨_, List.getElem?_eq_getElem hlt⟩
        have cx0 : wr.cell? ⟨g, off + k * 2, none⟩ = some (.int .i64 x1) := by rw [hbl.cell (p := ⟨g, _, none⟩) hglt, cell_of_row w g _ _ _ _ HG.out]; exact (HC.out k _ hx).1
        have cx1 : wr.cell? ⟨g, off + k * 2 + 1, none⟩ = some (.int .i64 x2) := by rw [hbl.cell (p := ⟨g, _, none⟩) hglt, cell_of_row w g _ _ _ _ HG.out]; exact (HC.out k _ hx).2
        have HX := Lib.hid hx
        clear hx
        by_cases hk0 : k = 0
        · subst hk0
          simp only [Nat.zero_mul, Nat.add_zero] at cx0 cx1
          go_wp2_with fail
          go_roundw
          case rel => exact ⟨1, by omega, rfl, by rw [outI_one _ _ HX.out], hbl.alloc hbl.size _⟩
          case measure => simp [intOf]; omega
        · have hkb : ((k : Int) == 0) = false := by simpa using hk0
          by_cases hbf : decide (outI true xs k < x2) = true
          · have HBf := Lib.hid hbf
            clear hbf
            go_wp2_with fail
            refine (more_int _ _ _).mono ?_
            rintro e w' ⟨rfl, rfl⟩
            rw [HBf.out]
            go_wp2_with fail
            go_roundw
            case rel => exact ⟨k + 1, by omega, by go_num, by rw [outI_yes true _ HX.out hk0 HBf.out], hbl.alloc hbl.size _⟩
            case measure => simp [intOf]; omega
          · have hbf' : decide (outI true xs k < x2) = false := by simpa using hbf
            have HBf := Lib.hid hbf'
            clear hbf hbf'
            go_wp2_with fail
            refine (more_int _ _ _).mono ?_
            rintro e w' ⟨rfl, rfl⟩
            rw [HBf.out]
            go_wp2_with fail
            go_roundw
            case rel => exact ⟨k + 1, by omega, by go_num, by rw [outI_no true _ HX.out hk0 HBf.out], hbl.alloc hbl.size _⟩
            case measure => simp [intOf]; omega
      · have hkl : k = xs.length := by omega
        have hwlt := hbl.size
        by_cases h0 : 0 < xs.length
        · have hd : decide ((0 : Int) < (xs.length : Int)) = true := by simpa using h0
          go_wp2_with fail
          go_quiet (fail)
          go_wp2_with fail
          go_ret2
          exact ⟨by rw [hkl]; simp [h0], below_drewN hbl _⟩
        · have hd : decide ((0 : Int) < (xs.length : Int)) = false := by simpa using h0
          go_wp2_with fail
          go_quiet (fail)
          go_wp2_with fail
          go_ret2
          exact ⟨by rw [hkl]; simp [h0], below_drewN hbl _⟩

set_option maxRecDepth 100000 in
theorem end_int_most (B : Nat) (wid now : Int) (v : Value) (w : World) (xs : List (Int × Int)) (hl : xs.length ≤ 16)
    (hB : w.heap[B]? = some (.cells #[.int .i64 wid, .int .i64 now, v] 47 (0, 0))) (hr : Row ei 84 w v xs) :
    Calls Try.prog 27 #[.pointer (some ⟨B, 0, none⟩)] w fun e w' => e = .returned (.tuple #[.int .i64 (outI true xs xs.length), .bool (decide (0 < xs.length))]) ∧ Below w.heap.size w w' := by
  have C := Lib.hid (best_int_most B wid now v w xs hl hB hr)
  clear hB hr
  go_enter Try.func27, Try.ntmps27
  go_wp2_with fail
  refine C.out.mono ?_
  rintro e w1 ⟨rfl, hb⟩
  go_wp2_with fail
  go_ret2
  exact ⟨rfl, hb⟩
set_option maxRecDepth 100000 in
theorem len_int (B : Nat) (wid now : Int) (a : Option Addr) (n cap : Nat) (w : World) (hB : w.heap[B]? = some (.cells #[.int .i64 wid, .int .i64 now, .slice a n cap] 47 (0, 0))) :
    Calls Try.prog 18 #[.pointer (some ⟨B, 0, none⟩)] w fun e w' => e = .returned (.int .i64 n) ∧ w = w' := by
  have c2 : w.cell? ⟨B, 2, none⟩ = some (.slice a n cap) := by rw [cell_of_row w B 2 _ _ _ hB]; rfl
  clear hB
  go_enter Try.func18, Try.ntmps18
  go_wp2_with fail
  go_ret
  exact ⟨rfl, rfl⟩
set_option maxRecDepth 100000 in
set_option maxHeartbeats 1000000 in
theorem best_str_least (B : Nat) (wid now : Int) (v : Value) (w : World) (xs : List (Int × Int)) (hl : xs.length ≤ 16)
    (hB : w.heap[B]? = some (.cells #[.int .i64 wid, .int .i64 now, v] 50 (0, 0))) (hr : Row es 86 w v xs) :
    Calls Try.prog 44 #[.pointer (some ⟨B, 0, none⟩), .func (.func 46) #[] #[]] w fun e w' => e = .returned (.tuple #[.string (outS false xs xs.length), .bool (decide (0 < xs.length))]) ∧ Below w.heap.size w w' := by
  have hBlt := lt_of_block hB
  rcases hr with ⟨rfl, rfl⟩ | ⟨g, off, cap, cur, rfl, hg, hn, hm, hs, hc⟩
  · have c2 : w.cell? ⟨B, 2, none⟩ = some (.slice none 0 0) := by rw [cell_of_row w B 2 _ _ _ hB]; rfl
    clear hB
    go_enter Try.func44, Try.ntmps44
    go_wp2_with fail
    refine wp_loop_rounds 1 ?_
    rw [rounds_succ]
    go_wp2_with fail
    go_quiet (fail)
    go_wp2_with fail
    go_ret2
    exact ⟨rfl, below_drewN (Below.refl _ _) _⟩
  · have c2 : w.cell? ⟨B, 2, none⟩ = some (.slice (some ⟨g, off, none⟩) xs.length cap) := by rw [cell_of_row w B 2 _ _ _ hB]; rfl
    have hglt := lt_of_block hg
    have hz : outS false xs 0 = ⟨#[]⟩ := outS_zero _ _
    have HZ := Lib.hid hz
    have HC := Lib.hid hc
    have HG := Lib.hid hg
    clear hB hz hc hg
    go_enter Try.func44, Try.ntmps44
    go_wp2_with fail
    go_loopw [6, 14] (fun o i wr => ∃ k : Nat, k ≤ xs.length ∧ i = .int .i64 k ∧ o = .string (outS false xs k) ∧ Below w.heap.size w wr) (fun _ i _ => xs.length - (intOf i).toNat)
    case atStart => exact ⟨0, Nat.zero_le _, rfl, by rw [HZ.out], Below.refl _ _⟩
    case round =>
      obtain ⟨k, hk, rfl, rfl, hbl⟩ := hrel
      have d2 := (hbl.cell (p := ⟨B, 2, none⟩) hBlt).trans c2
      by_cases hlt : k < xs.length
      · obtain ⟨⟨x1, x2⟩, hx⟩ : ∃ x, xs[k]? = some x := ⟨_, List.getElem?_eq_getElem hlt⟩
        have cx0 : wr.cell? ⟨g, off + k * 2, none⟩ = some (.int .i64 x1) := by rw [hbl.cell (p := ⟨g, _, none⟩) hglt, cell_of_row w g _ _ _ _ HG.out]; exact (HC.out k _ hx).1
        have cx1 : wr.cell? ⟨g, off + k * 2 + 1, none⟩ = some (.string (keyS x2)) := by rw [hbl.cell (p := ⟨g, _, none⟩) hglt, cell_of_row w g _ _ _ _ HG.out]; exact (HC.out k _ hx).2
        have HX := Lib.hid hx
        clear hx
        by_cases hk0 : k = 0
        · subst hk0
          simp only [Nat.zero_mul, Nat.add_zero] at cx0 cx1
          go_wp2_with fail
          go_roundw
          case rel => exact ⟨1, by omega, rfl, by rw [outS_one _ _ HX.out], hbl.alloc hbl.size _⟩
          case measure => simp [intOf]; omega
        · have hkb : ((k : Int) == 0) = false := by simpa using hk0
          by_cases hbf : lessS (keyS x2) (outS false xs k) = true
          · have HBf := Lib.hid hbf
            clear hbf
            go_wp2_with fail
            refine (less_str _ _ _).mono ?_
            rintro e w' ⟨rfl, rfl⟩
            rw [HBf.out]
            go_wp2_with fail
            go_roundw
            case rel => exact ⟨k + 1, by omega, by go_num, by rw [outS_yes false _ HX.out hk0 HBf.out], hbl.alloc hbl.size _⟩
            case measure => simp [intOf]; omega
          · have hbf' : lessS (keyS x2) (outS false xs k) = false := by simpa using hbf
            have HBf := Lib.hid hbf'
            clear hbf hbf'
            go_wp2_with fail
            refine (less_str _ _ _).mono ?_
            rintro e w' ⟨rfl, rfl⟩
            rw [HBf.out]
            go_wp2_with fail
            go_roundw
            case rel => exact ⟨k + 1, by omega, by go_num, by rw [outS_no false _ HX.out hk0 HBf.out], hbl.alloc hbl.size _⟩
            case measure => simp [intOf]; omega
      · have hkl : k = xs.length := by omega
        have hwlt := hbl.size
        by_cases h0 : 0 < xs.length
        · have hd : decide ((0 : Int) < (xs.length : Int)) = true := by simpa using h0
          go_wp2_with fail
          go_quiet (fail)
          go_wp2_with fail
          go_ret2
          exact ⟨by rw [hkl]; simp [h0], below_drewN hbl _⟩
        · have hd : decide ((0 : Int) < (xs.length : Int)) = false := by simpa using h0
          go_wp2_with fail
          go_quiet (fail)
          go_wp2_with fail
          go_ret2
          exact ⟨by rw [hkl]; simp [h0], below_drewN hbl _⟩

set_option maxRecDepth 100000 in
theorem end_str_least (B : Nat) (wid now : Int) (v : Value) (w : World) (xs : List (Int × Int)) (hl : xs.length ≤ 16)
    (hB : w.heap[B]? = some (.cells #[.int .i64 wid, .int .i64 now, v] 50 (0, 0))) (hr : Row es 86 w v xs) :
    Calls Try.prog 30 #[.pointer (some ⟨B, 0, none⟩)] w fun e w' => e = .returned (.tuple #[.string (outS false xs xs.length), .bool (decide (0 < xs.length))]) ∧ Below w.heap.size w w' := by
  have C := Lib.hid (best_str_least B wid now v w xs hl hB hr)
  clear hB hr
  go_enter Try.func30, Try.ntmps30
  go_wp2_with fail
  refine C.out.mono ?_
  rintro e w1 ⟨rfl, hb⟩
  go_wp2_with fail
  go_ret2
  exact ⟨rfl, hb⟩
set_option maxRecDepth 100000 in
set_option maxHeartbeats 1000000 in
theorem best_str_most (B : Nat) (wid now : Int) (v : Value) (w : World) (xs : List (Int × Int)) (hl : xs.length ≤ 16)
    (hB : w.heap[B]? = some (.cells #[.int .i64 wid, .int .i64 now, v] 50 (0, 0))) (hr : Row es 86 w v xs) :
    Calls Try.prog 44 #[.pointer (some ⟨B, 0, none⟩), .func (.func 45) #[] #[]] w fun e w' => e = .returned (.tuple #[.string (outS true xs xs.length), .bool (decide (0 < xs.length))]) ∧ Below w.heap.size w w' := by
  have hBlt := lt_of_block hB
  rcases hr with ⟨rfl, rfl⟩ | ⟨g, off, cap, cur, rfl, hg, hn, hm, hs, hc⟩
  · have c2 : w.cell? ⟨B, 2, none⟩ = some (.slice none 0 0) := by rw [cell_of_row w B 2 _ _ _ hB]; rfl
    clear hB
    go_enter Try.func44, Try.ntmps44
    go_wp2_with fail
    refine wp_loop_rounds 1 ?_
    rw [rounds_succ]
    go_wp2_with fail
    go_quiet (fail)
    go_wp2_with fail
    go_ret2
    exact ⟨rfl, below_drewN (Below.refl _ _) _⟩
  · have c2 : w.cell? ⟨B, 2, none⟩ = some (.slice (some ⟨g, off, none⟩) xs.length cap) := by rw [cell_of_row w B 2 _ _ _ hB]; rfl
    have hglt := lt_of_block hg
    have hz : outS true xs 0 = ⟨#[]⟩ := outS_zero _ _
    have HZ := Lib.hid hz
    have HC := Lib.hid hc
    have HG := Lib.hid hg
    clear hB hz hc hg
    go_enter Try.func44, Try.ntmps44
    go_wp2_with fail
    go_loopw [6, 14] (fun o i wr => ∃ k : Nat, k ≤ xs.length ∧ i = .int .i64 k ∧ o = .string (outS true xs k) ∧ Below w.heap.size w wr) (fun _ i _ => xs.length - (intOf i).toNat)
    case atStart => exact ⟨0, Nat.zero_le _, rfl, by rw [HZ.out], Below.refl _ _⟩
    case round =>
      obtain ⟨k, hk, rfl, rfl, hbl⟩ := hrel
      have d2 := (hbl.cell (p := ⟨B, 2, none⟩) hBlt).trans c2
      by_cases hlt : k < xs.length
      · obtain ⟨⟨x1, x2⟩, hx⟩ : ∃ x, xs[k]? = some x := ⟨_, List.getElem?_eq_getElem hlt⟩
        have cx0 : wr.cell? ⟨g, off + k * 2, none⟩ = some (.int .i64 x1) := by rw [hbl.cell (p := ⟨g, _, none⟩) hglt, cell_of_row w g _ _ _ _ HG.out]; exact (HC.out k _ hx).1
        have cx1 : wr.cell? ⟨g, off + k * 2 + 1, none⟩ = some (.string (keyS x2)) := by rw [hbl.cell (p := ⟨g, _, none⟩) hglt, cell_of_row w g _ _ _ _ HG.out]; exact (HC.out k _ hx).2
        have HX := Lib.hid hx
        clear hx
        by_cases hk0 : k = 0
        · subst hk0
          simp only [Nat.zero_mul, Nat.add_zero] at cx0 cx1
          go_wp2_with fail
          go_roundw
          case rel => exact ⟨1, by omega, rfl, by rw [outS_one _ _ HX.out], hbl.alloc hbl.size _⟩
          case measure => simp [intOf]; omega
        · have hkb : ((k : Int) == 0) = false := by simpa using hk0
          by_cases hbf : lessS (outS true xs k) (keyS x2) = true
          · have HBf := Lib.hid hbf
            clear hbf
            go_wp2_with fail
            refine (more_str _ _ _).mono ?_
            rintro e w' ⟨rfl, rfl⟩
            rw [HBf.out]
            go_wp2_with fail
            go_roundw
            case rel => exact ⟨k + 1, by omega, by go_num, by rw [outS_yes true _ HX.out hk0 HBf.out], hbl.alloc hbl.size _⟩
            case measure => simp [intOf]; omega
          · have hbf' : lessS (outS true xs k) (keyS x2) = false := by simpa using hbf
            have HBf := Lib.hid hbf'
            clear hbf hbf'
            go_wp2_with fail
            refine (more_str _ _ _).mono ?_
            rintro e w' ⟨rfl, rfl⟩
            rw [HBf.out]
            go_wp2_with fail
            go_roundw
            case rel => exact ⟨k + 1, by omega, by go_num, by rw [outS_no true _ HX.out hk0 HBf.out], hbl.alloc hbl.size _⟩
            case measure => simp [intOf]; omega
      · have hkl : k = xs.length := by omega
        have hwlt := hbl.size
        by_cases h0 : 0 < xs.length
        · have hd : decide ((0 : Int) < (xs.length : Int)) = true := by simpa using h0
          go_wp2_with fail
          go_quiet (fail)
          go_wp2_with fail
          go_ret2
          exact ⟨by rw [hkl]; simp [h0], below_drewN hbl _⟩
        · have hd : decide ((0 : Int) < (xs.length : Int)) = false := by simpa using h0
          go_wp2_with fail
          go_quiet (fail)
          go_wp2_with fail
          go_ret2
          exact ⟨by rw [hkl]; simp [h0], below_drewN hbl _⟩

set_option maxRecDepth 100000 in
theorem end_str_most (B : Nat) (wid now : Int) (v : Value) (w : World) (xs : List (Int × Int)) (hl : xs.length ≤ 16)
    (hB : w.heap[B]? = some (.cells #[.int .i64 wid, .int .i64 now, v] 50 (0, 0))) (hr : Row es 86 w v xs) :
    Calls Try.prog 28 #[.pointer (some ⟨B, 0, none⟩)] w fun e w' => e = .returned (.tuple #[.string (outS true xs xs.length), .bool (decide (0 < xs.length))]) ∧ Below w.heap.size w w' := by
  have C := Lib.hid (best_str_most B wid now v w xs hl hB hr)
  clear hB hr
  go_enter Try.func28, Try.ntmps28
  go_wp2_with fail
  refine C.out.mono ?_
  rintro e w1 ⟨rfl, hb⟩
  go_wp2_with fail
  go_ret2
  exact ⟨rfl, hb⟩
set_option maxRecDepth 100000 in
theorem len_str (B : Nat) (wid now : Int) (a : Option Addr) (n cap : Nat) (w : World) (hB : w.heap[B]? = some (.cells #[.int .i64 wid, .int .i64 now, .slice a n cap] 50 (0, 0))) :
    Calls Try.prog 19 #[.pointer (some ⟨B, 0, none⟩)] w fun e w' => e = .returned (.int .i64 n) ∧ w = w' := by
  have c2 : w.cell? ⟨B, 2, none⟩ = some (.slice a n cap) := by rw [cell_of_row w B 2 _ _ _ hB]; rfl
  clear hB
  go_enter Try.func19, Try.ntmps19
  go_wp2_with fail
  go_ret
  exact ⟨rfl, rfl⟩

end Go.Proofs.Ytacjjmdhiphckaa
