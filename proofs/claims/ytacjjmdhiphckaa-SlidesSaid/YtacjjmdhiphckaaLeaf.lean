/- Slides: the leaves: key, in, gone, Less, isNaN. -/
import Derived.Test.YtacjjmdhiphckaaProg
import Derived.WalkKit
import Derived.WalkLawsBesides
import Derived.Laws.BytesString
import Derived.Lib.Hide
import Derived.Deep.QuietTactic
import Derived.BigQuiet
namespace Go.Proofs.Ytacjjmdhiphckaa
open Go.RowKit

/-- A text of three bytes. -/
def s3 (a b c : Int) : ByteArray := [a, b, c].foldl (fun r n => r.push (UInt8.ofNat n.toNat)) ByteArray.empty
/-- key: a number modulo 1,000 as a text. -/
def keyS (n : Int) : ByteArray := s3 (48 + n % 1000 / 100) (48 + n % 1000 / 10 % 10) (48 + n % 1000 % 10)

theorem conv3 (a b c : Int) (w : World) : (convert 67 9 (.slice (some ⟨w.heap.size, 0, none⟩) 3 3)).run Try.prog (w.alloc (.cells #[.int .u8 a, .int .u8 b, .int .u8 c] 5)) = .ok (.string (s3 a b c)) (w.alloc (.cells #[.int .u8 a, .int .u8 b, .int .u8 c] 5)) := by
  rw [run_convert_bytes_string _ 67 9 5 _ _ _ Try.underlying67 Try.underlying5 Try.underlying9]
  rw [run_bytesToString (ns := [a, b, c])]
  · rfl
  · simp [loadCells, loadCellsFrom, go_sem]

set_option maxRecDepth 100000 in
set_option maxHeartbeats 1000000 in
theorem key_any (n : Int) (w : World) (h1 : -9223372036854775808 ≤ n) (h2 : n ≤ 9223372036854775807) :
    Calls Try.prog 14 #[.int .i64 n] w fun e w' => e = .returned (.string (keyS n)) ∧ Below w.heap.size w w' := by
  have t1 : n.tmod 1000 = if 0 ≤ n then n % 1000 else -((-n) % 1000) := by
    split
    · rename_i h; exact Int.tmod_eq_emod_of_nonneg h
    · rename_i h
      rw [← Int.tmod_eq_emod_of_nonneg (show 0 ≤ -n by omega), Int.neg_tmod, Int.neg_neg]
  have b1 : -1000 < n.tmod 1000 := by rw [t1]; split <;> omega
  have b2 : n.tmod 1000 < 1000 := by rw [t1]; split <;> omega
  by_cases hneg : n.tmod 1000 < 0
  · have e : n.tmod 1000 + 1000 = n % 1000 := by rw [t1] at hneg ⊢; split at hneg <;> split <;> omega
    have hk : s3 (48 + (n.tmod 1000 + 1000) / 100) (48 + (n.tmod 1000 + 1000) / 10 % 10) (48 + (n.tmod 1000 + 1000) % 10) = keyS n := by rw [e]; rfl
    have HK := Lib.hid hk
    clear hk e t1
    have hcv := conv3 (48 + (n.tmod 1000 + 1000) / 100) (48 + (n.tmod 1000 + 1000) / 10 % 10) (48 + (n.tmod 1000 + 1000) % 10) w
    go_enter Try.func14, Try.ntmps14
    go_wp2_with fail
    go_ret
    exact ⟨by rw [HK.out]; rfl, (Below.refl _ _).alloc (Nat.le_refl _) _⟩
  · have t2 : n.tmod 10 = if 0 ≤ n then n % 10 else -((-n) % 10) := by
      split
      · rename_i h; exact Int.tmod_eq_emod_of_nonneg h
      · rename_i h
        rw [← Int.tmod_eq_emod_of_nonneg (show 0 ≤ -n by omega), Int.neg_tmod, Int.neg_neg]
    have e : n.tmod 1000 = n % 1000 := by rw [t1] at hneg ⊢; split at hneg <;> split <;> omega
    have e2 : n.tmod 10 = n % 1000 % 10 := by rw [t1] at hneg; rw [t2]; split at hneg <;> split <;> omega
    have c1 : 0 ≤ n.tmod 10 := by omega
    have c2 : n.tmod 10 < 10 := by omega
    have hk : s3 (48 + n.tmod 1000 / 100) (48 + n.tmod 1000 / 10 % 10) (48 + n.tmod 10) = keyS n := by rw [e, e2]; rfl
    have HK := Lib.hid hk
    clear hk e e2 t1 t2
    have hcv := conv3 (48 + n.tmod 1000 / 100) (48 + n.tmod 1000 / 10 % 10) (48 + n.tmod 10) w
    go_enter Try.func14, Try.ntmps14
    go_wp2_with fail
    go_ret
    exact ⟨by rw [HK.out]; rfl, (Below.refl _ _).alloc (Nat.le_refl _) _⟩

theorem less_int (a b : Int) (w : World) : Calls Try.prog 43 #[.int .i64 a, .int .i64 b] w fun e w' => e = .returned (.bool (decide (a < b))) ∧ w = w' := by
  go_enter Try.func43, Try.ntmps43
  go_wp2
  go_ret
  exact ⟨rfl, rfl⟩
theorem more_int (a b : Int) (w : World) : Calls Try.prog 42 #[.int .i64 a, .int .i64 b] w fun e w' => e = .returned (.bool (decide (b < a))) ∧ w = w' := by
  go_enter Try.func42, Try.ntmps42
  go_wp2_with (go_at_call 43; refine (less_int _ _ _).mono ?_; rintro e w' ⟨rfl, rfl⟩)
  go_ret
  exact ⟨rfl, rfl⟩

/-- '<' on texts. -/
def lessS (a b : ByteArray) : Bool := Op.bytesLess a.toList b.toList
theorem less_str (a b : ByteArray) (w : World) : Calls Try.prog 46 #[.string a, .string b] w fun e w' => e = .returned (.bool (lessS a b)) ∧ w = w' := by
  go_enter Try.func46, Try.ntmps46
  go_wp2
  go_ret
  exact ⟨rfl, rfl⟩
theorem more_str (a b : ByteArray) (w : World) : Calls Try.prog 45 #[.string a, .string b] w fun e w' => e = .returned (.bool (lessS b a)) ∧ w = w' := by
  go_enter Try.func45, Try.ntmps45
  go_wp2_with (go_at_call 46; refine (less_str _ _ _).mono ?_; rintro e w' ⟨rfl, rfl⟩)
  go_ret
  exact ⟨rfl, rfl⟩

/-- Is a sample of time t in a window of that width at that time? -/
def inB (wid now t : Int) : Bool := decide (0 < wid) && (decide (9223372036854775807 - wid < t) || decide (now < t + wid))

set_option maxRecDepth 100000 in
theorem in_any (t wid now : Int) (w : World) (h1 : -9223372036854775808 ≤ t) (h2 : t ≤ 9223372036854775807) (h3 : wid ≤ 9223372036854775807) :
    Calls Try.prog 17 #[.int .i64 t, .int .i64 wid, .int .i64 now] w fun e w' => e = .returned (.bool (inB wid now t)) ∧ w = w' := by
  by_cases hw : 0 < wid
  · by_cases ht : 9223372036854775807 - wid < t
    · have hb : inB wid now t = true := by simp [inB, hw, ht]
      have HB := Lib.hid hb
      clear hb
      go_enter Try.func17, Try.ntmps17
      go_wp2
      go_ret
      exact ⟨by rw [HB.out]; rfl, rfl⟩
    · have hb : inB wid now t = decide (now < t + wid) := by simp [inB, hw, ht]
      have HB := Lib.hid hb
      clear hb
      go_enter Try.func17, Try.ntmps17
      go_wp2
      go_ret
      exact ⟨by rw [HB.out]; rfl, rfl⟩
  · have hb : inB wid now t = false := by simp [inB, hw]
    have HB := Lib.hid hb
    clear hb
    go_enter Try.func17, Try.ntmps17
    go_wp2
    go_ret
    exact ⟨by rw [HB.out]; rfl, rfl⟩


set_option maxRecDepth 100000 in
set_option maxHeartbeats 1000000 in
/-- gone: 'not in'. -/
theorem gone_int (B : Nat) (t wid now : Int) (v : Value) (w : World) (h1 : -9223372036854775808 ≤ t) (h2 : t ≤ 9223372036854775807) (h3 : wid ≤ 9223372036854775807)
    (hB : w.heap[B]? = some (.cells #[.int .i64 wid, .int .i64 now, v] 47 (0, 0))) :
    Calls Try.prog 39 #[.pointer (some ⟨B, 0, none⟩), .int .i64 t] w fun e w' => e = .returned (.bool (!inB wid now t)) ∧ ∃ n, w' = w.drewN n := by
  have c0 : w.cell? ⟨B, 0, none⟩ = some (.int .i64 wid) := by rw [cell_of_row w B 0 _ _ _ hB]; rfl
  have c1 : w.cell? ⟨B, 1, none⟩ = some (.int .i64 now) := by rw [cell_of_row w B 1 _ _ _ hB]; rfl
  clear hB
  by_cases hw : 0 < wid
  · have hw' : decide (wid ≤ 0) = false := by simp; omega
    by_cases ht : 9223372036854775807 - wid < t
    · have ht' : decide (t ≤ 9223372036854775807 - wid) = false := by simp; omega
      have hb : (!inB wid now t) = false := by simp [inB, hw, ht]
      have HB := Lib.hid hb
      clear hb
      go_enter Try.func39, Try.ntmps39
      go_wp2_with fail
      go_quiet (fail)
      go_wp2_with fail
      go_ret
      exact ⟨by rw [HB.out]; rfl, _, rfl⟩
    · have ht' : decide (t ≤ 9223372036854775807 - wid) = true := by simp; omega
      have hb : (!inB wid now t) = decide (t + wid ≤ now) := by
        have e : decide (t + wid ≤ now) = !decide (now < t + wid) := by rw [Bool.eq_iff_iff]; simp
        rw [e]; simp [inB, hw, ht]
      have HB := Lib.hid hb
      clear hb
      go_enter Try.func39, Try.ntmps39
      go_wp2_with fail
      go_quiet (fail)
      go_wp2_with fail
      go_ret
      exact ⟨by rw [HB.out]; rfl, _, rfl⟩
  · have hw' : decide (wid ≤ 0) = true := by simp; omega
    have hb : (!inB wid now t) = true := by simp [inB, hw]
    have HB := Lib.hid hb
    clear hb
    go_enter Try.func39, Try.ntmps39
    go_wp2_with fail
    go_quiet (fail)
    go_wp2_with fail
    go_ret
    exact ⟨by rw [HB.out]; rfl, _, rfl⟩

set_option maxRecDepth 100000 in
set_option maxHeartbeats 1000000 in
/-- gone: 'not in'. -/
theorem gone_str (B : Nat) (t wid now : Int) (v : Value) (w : World) (h1 : -9223372036854775808 ≤ t) (h2 : t ≤ 9223372036854775807) (h3 : wid ≤ 9223372036854775807)
    (hB : w.heap[B]? = some (.cells #[.int .i64 wid, .int .i64 now, v] 50 (0, 0))) :
    Calls Try.prog 40 #[.pointer (some ⟨B, 0, none⟩), .int .i64 t] w fun e w' => e = .returned (.bool (!inB wid now t)) ∧ ∃ n, w' = w.drewN n := by
  have c0 : w.cell? ⟨B, 0, none⟩ = some (.int .i64 wid) := by rw [cell_of_row w B 0 _ _ _ hB]; rfl
  have c1 : w.cell? ⟨B, 1, none⟩ = some (.int .i64 now) := by rw [cell_of_row w B 1 _ _ _ hB]; rfl
  clear hB
  by_cases hw : 0 < wid
  · have hw' : decide (wid ≤ 0) = false := by simp; omega
    by_cases ht : 9223372036854775807 - wid < t
    · have ht' : decide (t ≤ 9223372036854775807 - wid) = false := by simp; omega
      have hb : (!inB wid now t) = false := by simp [inB, hw, ht]
      have HB := Lib.hid hb
      clear hb
      go_enter Try.func40, Try.ntmps40
      go_wp2_with fail
      go_quiet (fail)
      go_wp2_with fail
      go_ret
      exact ⟨by rw [HB.out]; rfl, _, rfl⟩
    · have ht' : decide (t ≤ 9223372036854775807 - wid) = true := by simp; omega
      have hb : (!inB wid now t) = decide (t + wid ≤ now) := by
        have e : decide (t + wid ≤ now) = !decide (now < t + wid) := by rw [Bool.eq_iff_iff]; simp
        rw [e]; simp [inB, hw, ht]
      have HB := Lib.hid hb
      clear hb
      go_enter Try.func40, Try.ntmps40
      go_wp2_with fail
      go_quiet (fail)
      go_wp2_with fail
      go_ret
      exact ⟨by rw [HB.out]; rfl, _, rfl⟩
  · have hw' : decide (wid ≤ 0) = true := by simp; omega
    have hb : (!inB wid now t) = true := by simp [inB, hw]
    have HB := Lib.hid hb
    clear hb
    go_enter Try.func40, Try.ntmps40
    go_wp2_with fail
    go_quiet (fail)
    go_wp2_with fail
    go_ret
    exact ⟨by rw [HB.out]; rfl, _, rfl⟩
end Go.Proofs.Ytacjjmdhiphckaa
