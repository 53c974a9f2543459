/- Slides: Windows.Fold, NewWindow(s). -/
import Derived.Test.YtacjjmdhiphckaaFold
import Derived.Test.YtacjjmdhiphckaaYield
import Derived.Test.YtacjjmdhiphckaaEnds
namespace Go.Proofs.Ytacjjmdhiphckaa
open Go.RowKit

theorem ownsRow_below {W W' : World} {base : Nat} {e : TypeId} {size : Nat} {v : Value} {n : Nat} {xs : List Value} (h : W.ownsRow base e size v n xs) (hb : Below W.heap.size W W') : W'.ownsRow base e size v n xs :=
  ownsRow_tch h (Tch.of_below hb) (fun g hg hn => by have := (h.lt g hg).2; omega)
theorem owns_le {W : World} {base base' : Nat} {e : TypeId} {size : Nat} {v : Value} {n : Nat} {xs : List Value} (h : W.ownsRow base e size v n xs) (hb : base' ≤ base) : W.ownsRow base' e size v n xs := by
  refine ⟨h.1, ?_⟩
  rcases h.2 with h2 | ⟨g, cap, cur, hv, hg, r⟩
  · exact .inl h2
  · exact .inr ⟨g, cap, cur, hv, by omega, r⟩

set_option maxRecDepth 100000 in
set_option maxHeartbeats 4000000 in
/-- Windows.Fold. -/
theorem wfold (W : World) (p a b : Nat) (wid now : Int) (va vb : Value) (xs : List (Int × Int)) (hl : xs.length ≤ 16) (h : Wins W p a b wid now va vb xs) :
    Calls Try.prog 22 #[.pointer (some ⟨p, 0, none⟩)] W fun e w' => ∃ v1 v2, e = .returned (.tuple #[v1, v2, .int .i64 xs.length]) ∧
      w'.ownsRow W.heap.size 2 1 v1 xs.length (xs.map fun x => ei x.2) ∧ w'.ownsRow W.heap.size 9 1 v2 xs.length (xs.map fun x => es x.2) ∧ Below W.heap.size W w' := by
  have hplt := lt_of_block h.hp
  have p0 : W.cell? ⟨p, 0, none⟩ = some (.pointer (some ⟨a, 0, none⟩)) := by rw [cell_of_row W p 0 _ _ _ h.hp]; rfl
  have HH := Lib.hid h
  clear h
  go_enter Try.func22, Try.ntmps22
  go_wp2_with fail
  refine (fold_int a wid now va xs hl W HH.out.ha HH.out.ra).mono ?_
  rintro e w1 ⟨v1, rfl, ho1, hb1⟩
  have O1 := Lib.hid ho1
  have B1 := Lib.hid hb1
  clear ho1 hb1 p0
  have p1 : w1.cell? ⟨p, 1, none⟩ = some (.pointer (some ⟨b, 0, none⟩)) := by rw [cell_of_row w1 p 1 _ _ _ (HH.out.below B1.out).hp]; rfl
  go_wp2_with fail
  refine (fold_str b wid now vb xs hl w1 (HH.out.below B1.out).hb (HH.out.below B1.out).rb).mono ?_
  rintro e w2 ⟨v2, rfl, ho2, hb2⟩
  have O2 := Lib.hid ho2
  have B2 := Lib.hid hb2
  have B12 := Lib.hid (B1.out.trans (hb2.mono B1.out.size))
  clear ho2 hb2 p1
  have p2 : w2.cell? ⟨p, 1, none⟩ = some (.pointer (some ⟨b, 0, none⟩)) := by rw [cell_of_row w2 p 1 _ _ _ (HH.out.below B12.out).hp]; rfl
  go_wp2_with fail
  refine (foldn b wid now vb xs hl w2 (HH.out.below B12.out).hb (HH.out.below B12.out).rb).mono ?_
  rintro e w3 ⟨rfl, hb3⟩
  have B3 := Lib.hid hb3
  clear hb3 p2
  go_wp2_with fail
  have s1 := B1.out.size
  have s2 := B2.out.size
  refine bodyPost_ret (v := .tuple #[v1, v2, .int .i64 xs.length]) (by simp [results, Try.results22, go_sem]) rfl ⟨_, _, rfl, ?_, ?_, B12.out.trans (B3.out.mono (by omega))⟩
  · exact ownsRow_below (ownsRow_below O1.out B2.out) B3.out
  · exact owns_le (ownsRow_below O2.out B3.out) s1

set_option maxRecDepth 100000 in
/-- NewWindow. -/
theorem new_int (W : World) (wid : Int) : Calls Try.prog 6 #[.int .i64 wid] W fun e w' => e = .returned (.pointer (some ⟨W.heap.size, 0, none⟩)) ∧ w' = W.alloc (.cells #[.int .i64 wid, .int .i64 (-9223372036854775808), .slice none 0 0] 47) := by
  go_enter Try.func6, Try.ntmps6
  go_wp2
  go_ret
  exact ⟨rfl, rfl⟩
set_option maxRecDepth 100000 in
theorem new_str (W : World) (wid : Int) : Calls Try.prog 7 #[.int .i64 wid] W fun e w' => e = .returned (.pointer (some ⟨W.heap.size, 0, none⟩)) ∧ w' = W.alloc (.cells #[.int .i64 wid, .int .i64 (-9223372036854775808), .slice none 0 0] 50) := by
  go_enter Try.func7, Try.ntmps7
  go_wp2
  go_ret
  exact ⟨rfl, rfl⟩

set_option maxRecDepth 100000 in
set_option maxHeartbeats 1000000 in
/-- NewWindows. -/
theorem new_wins (W : World) (wid : Int) : Calls Try.prog 4 #[.int .i64 wid] W fun e w' => e = .returned (.pointer (some ⟨W.heap.size + 1 + 1, 0, none⟩)) ∧
    w' = ((W.alloc (.cells #[.int .i64 wid, .int .i64 (-9223372036854775808), .slice none 0 0] 47)).alloc (.cells #[.int .i64 wid, .int .i64 (-9223372036854775808), .slice none 0 0] 50)).alloc (.cells #[.pointer (some ⟨W.heap.size, 0, none⟩), .pointer (some ⟨W.heap.size + 1, 0, none⟩)] 38) := by
  go_enter Try.func4, Try.ntmps4
  go_wp2_with fail
  refine (new_int _ _).mono ?_
  rintro e w1 ⟨rfl, rfl⟩
  go_wp2_with fail
  refine (new_str _ _).mono ?_
  rintro e w1 ⟨rfl, rfl⟩
  go_wp2_with fail
  go_ret
  exact ⟨by simp, by simp⟩
end Go.Proofs.Ytacjjmdhiphckaa
