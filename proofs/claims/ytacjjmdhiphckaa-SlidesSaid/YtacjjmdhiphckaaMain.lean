/- Slides: two cases in turns. -/
import Derived.Test.YtacjjmdhiphckaaStep
namespace Go.Proofs.Ytacjjmdhiphckaa
open Go.RowKit

theorem add_block (a : Addr) (n : Nat) : (a.add n).block = a.block := by unfold Addr.add; split <;> rfl

theorem CaseS.start {W : World} {c p a b : Nat} {wid : Int} (hc : W.heap[c]? = some (.cells #[.pointer (some ⟨p, 0, none⟩), .slice none 0 0, .int .i64 wid, .int .i64 (-9223372036854775808)] 27 (0, 0)))
    (hp : W.heap[p]? = some (.cells #[.pointer (some ⟨a, 0, none⟩), .pointer (some ⟨b, 0, none⟩)] 38 (0, 0))) (ha : W.heap[a]? = some (.cells #[.int .i64 wid, .int .i64 (-9223372036854775808), .slice none 0 0] 47 (0, 0)))
    (hb : W.heap[b]? = some (.cells #[.int .i64 wid, .int .i64 (-9223372036854775808), .slice none 0 0] 50 (0, 0))) (hw : wid ≤ 9223372036854775807) :
    CaseS W c p a b wid (-9223372036854775808) (.slice none 0 0) (.slice none 0 0) (.slice none 0 0) [] :=
  ⟨hc, ⟨hp, ha, hb, .inl ⟨rfl, rfl⟩, .inl ⟨rfl, rfl⟩⟩, World.ownsRow_nil _ _ _ _, fun x hx => (by simp at hx), fun x hx => (by simp at hx), fun x hx => (by simp at hx), List.Pairwise.nil, hw⟩
theorem cfoot_start {c p a b k : Nat} (h : cfoot c p a b (.slice none 0 0) (.slice none 0 0) (.slice none 0 0) k) : k = c ∨ k = p ∨ k = a ∨ k = b := by
  rcases h with h | h | h | h | h | h | h
  · exact .inl h
  · simp [Value.ownBlock] at h
  · exact .inr (.inl h)
  · exact .inr (.inr (.inl h))
  · exact .inr (.inr (.inr h))
  · simp [Value.ownBlock] at h
  · simp [Value.ownBlock] at h

/-- Two cases, kept apart, in memory of the call's own. -/
def Pair (W wr : World) (c d : Nat) (wid oth : Int) (k : Nat) : Prop :=
  ∃ p a b now va vb lv l q a' b' now' va' vb' lv' l', CaseS wr c p a b wid now va vb lv l ∧ CaseS wr d q a' b' oth now' va' vb' lv' l' ∧ (∀ j, cfoot c p a b va vb lv j → ¬ cfoot d q a' b' va' vb' lv' j) ∧
    (∀ j, cfoot c p a b va vb lv j → W.heap.size ≤ j) ∧ (∀ j, cfoot d q a' b' va' vb' lv' j → W.heap.size ≤ j) ∧ l.length ≤ k ∧ l'.length ≤ k ∧ Below W.heap.size W wr

theorem Pair.below {W wr : World} {c d : Nat} {wid oth : Int} {k : Nat} (h : Pair W wr c d wid oth k) : Below W.heap.size W wr := by
  obtain ⟨p, a, b, now, va, vb, lv, l, q, a', b', now', va', vb', lv', l', -, -, -, -, -, -, -, h8⟩ := h
  exact h8

theorem Pair.stepc {W wr : World} {c d : Nat} {wid oth : Int} {k : Nat} (h : Pair W wr c d wid oth k) (hk : k < 1073741824) (K t x : Int) (two : Bool) (ht : Rng t) (hx : Rng x) :
    Calls Try.prog 5 #[.pointer (some ⟨c, 0, none⟩), .agg #[.int .i64 K, .bool two, .int .i64 t, .int .i64 x]] wr fun e w' => e = .returned (.bool true) ∧ Pair W w' c d wid oth (k + 1) := by
  obtain ⟨p, a, b, now, va, vb, lv, l, q, a', b', now', va', vb', lv', l', h1, h2, h3, h4, h5, h6, h7, h8⟩ := h
  refine (step_any wr c p a b wid now t x K two va vb lv l (by omega) ht hx h1).mono ?_
  rintro e w' ⟨rfl, n2, va2, vb2, lv2, l2, g1, g2, g3, g4⟩
  refine ⟨rfl, p, a, b, n2, va2, vb2, lv2, l2, q, a', b', now', va', vb', lv', l', g1, h2.kept g4 (fun j hj hs => h3 j hs hj), fun j hj hj' => ?_, fun j hj => ?_, h5, by omega, by omega, h8.trans (g4.below h8.size (fun j hj => h4 j hj))⟩
  · rcases g3 j hj with e | e
    · exact h3 j e hj'
    · have := h2.lt hj'; omega
  · rcases g3 j hj with e | e
    · exact h4 j e
    · have := h8.size; omega
theorem Pair.stepd {W wr : World} {c d : Nat} {wid oth : Int} {k : Nat} (h : Pair W wr c d wid oth k) (hk : k < 1073741824) (K t x : Int) (two : Bool) (ht : Rng t) (hx : Rng x) :
    Calls Try.prog 5 #[.pointer (some ⟨d, 0, none⟩), .agg #[.int .i64 K, .bool two, .int .i64 t, .int .i64 x]] wr fun e w' => e = .returned (.bool true) ∧ Pair W w' c d wid oth (k + 1) := by
  obtain ⟨p, a, b, now, va, vb, lv, l, q, a', b', now', va', vb', lv', l', h1, h2, h3, h4, h5, h6, h7, h8⟩ := h
  refine (step_any wr d q a' b' oth now' t x K two va' vb' lv' l' (by omega) ht hx h2).mono ?_
  rintro e w' ⟨rfl, n2, va2, vb2, lv2, l2, g1, g2, g3, g4⟩
  refine ⟨rfl, p, a, b, now, va, vb, lv, l, q, a', b', n2, va2, vb2, lv2, l2, h1.kept g4 (fun j hj hs => h3 j hj hs), g1, fun j hj hj' => ?_, h4, fun j hj => ?_, by omega, by omega, h8.trans (g4.below h8.size (fun j hj => h5 j hj))⟩
  · rcases g3 j hj' with e | e
    · exact h3 j hj e
    · have := h1.lt hj; omega
  · rcases g3 j hj with e | e
    · exact h5 j e
    · have := h8.size; omega

theorem pair_start (W : World) (wid oth : Int) (hw : wid ≤ 9223372036854775807) (ho : oth ≤ 9223372036854775807) :
    Pair W ((((((((W.alloc (.cells #[.pointer (some ⟨W.heap.size + 1 + 1 + 1 + 1, 0, none⟩), .slice none 0 0, .int .i64 wid, .int .i64 (-9223372036854775808)] 27)).alloc (.cells #[.pointer (some ⟨W.heap.size + 1 + 1 + 1 + 1 + 1 + 1 + 1, 0, none⟩), .slice none 0 0, .int .i64 oth, .int .i64 (-9223372036854775808)] 27)).alloc (.cells #[.int .i64 wid, .int .i64 (-9223372036854775808), .slice none 0 0] 47)).alloc (.cells #[.int .i64 wid, .int .i64 (-9223372036854775808), .slice none 0 0] 50)).alloc (.cells #[.pointer (some ⟨W.heap.size + 1 + 1, 0, none⟩), .pointer (some ⟨W.heap.size + 1 + 1 + 1, 0, none⟩)] 38)).alloc (.cells #[.int .i64 oth, .int .i64 (-9223372036854775808), .slice none 0 0] 47)).alloc (.cells #[.int .i64 oth, .int .i64 (-9223372036854775808), .slice none 0 0] 50)).alloc (.cells #[.pointer (some ⟨W.heap.size + 1 + 1 + 1 + 1 + 1, 0, none⟩), .pointer (some ⟨W.heap.size + 1 + 1 + 1 + 1 + 1 + 1, 0, none⟩)] 38)) W.heap.size (W.heap.size + 1) wid oth 0 := by
  refine ⟨W.heap.size + 1 + 1 + 1 + 1, W.heap.size + 1 + 1, W.heap.size + 1 + 1 + 1, _, _, _, _, _, W.heap.size + 1 + 1 + 1 + 1 + 1 + 1 + 1, W.heap.size + 1 + 1 + 1 + 1 + 1, W.heap.size + 1 + 1 + 1 + 1 + 1 + 1, _, _, _, _, _, CaseS.start (heap_over _ (heap_over _ (heap_over _ (heap_over _ (heap_over _ (heap_over _ (heap_over _ (heap_new _ (by simp))))))))) (heap_over _ (heap_over _ (heap_over _ (heap_new _ (by simp))))) (heap_over _ (heap_over _ (heap_over _ (heap_over _ (heap_over _ (heap_new _ (by simp))))))) (heap_over _ (heap_over _ (heap_over _ (heap_over _ (heap_new _ (by simp)))))) hw, CaseS.start (heap_over _ (heap_over _ (heap_over _ (heap_over _ (heap_over _ (heap_over _ (heap_new _ (by simp)))))))) (heap_new _ (by simp)) (heap_over _ (heap_over _ (heap_new _ (by simp)))) (heap_over _ (heap_new _ (by simp))) ho, ?_, ?_, ?_, Nat.le_refl _, Nat.le_refl _, ?_⟩
  · intro j h1 h2
    have e1 := cfoot_start h1
    have e2 := cfoot_start h2
    omega
  · intro j h1
    have e1 := cfoot_start h1
    omega
  · intro j h1
    have e1 := cfoot_start h1
    omega
  · exact (((((((((Below.refl _ W).alloc (by simp; try omega) _).alloc (by simp; try omega) _).alloc (by simp; try omega) _).alloc (by simp; try omega) _).alloc (by simp; try omega) _).alloc (by simp; try omega) _).alloc (by simp; try omega) _).alloc (by simp; try omega) _)

set_option maxRecDepth 100000 in
set_option maxHeartbeats 4000000 in
theorem slides_any (W : World) (wid oth : Int) (A : Option Addr) (n cap : Nat) (hw : wid ≤ 9223372036854775807) (ho : oth ≤ 9223372036854775807) (hn : n ≤ 9223372036854775807)
    (hs : ∀ i, i < n → ∃ a K two t x, A = some a ∧ a.block < W.heap.size ∧ Rng t ∧ Rng x ∧ W.cell? (a.add (i * 4)) = some (.int .i64 K) ∧ W.cell? ((a.add (i * 4)).add 1) = some (.bool two) ∧ W.cell? ((a.add (i * 4)).add 2) = some (.int .i64 t) ∧ W.cell? ((a.add (i * 4)).add 3) = some (.int .i64 x)) :
    Calls Try.prog 3 #[.int .i64 wid, .int .i64 oth, .slice A n cap] W fun e w' => e = .returned (.bool true) ∧ Below W.heap.size W w' := by
  have HS := Lib.hid hs
  clear hs
  by_cases hbig : 1073741824 < n
  · have hb' : (1073741824 : Int) < (n : Int) := by omega
    go_enter Try.func3, Try.ntmps3
    go_wp2_with fail
    go_ret
    exact ⟨rfl, Below.refl _ _⟩
  · have hb' : ¬ (1073741824 : Int) < (n : Int) := by omega
    go_enter Try.func3, Try.ntmps3
    go_wp2_with fail
    refine (new_wins _ _).mono ?_
    rintro e w1 ⟨rfl, rfl⟩
    go_wp2_with fail
    refine (new_wins _ _).mono ?_
    rintro e w1 ⟨rfl, rfl⟩
    go_wp2_with fail
    have P0 := Lib.hid (pair_start W wid oth hw ho)
    obtain ⟨W1, hW1⟩ : ∃ W1, ((((((((W.alloc (.cells #[.pointer (some ⟨W.heap.size + 1 + 1 + 1 + 1, 0, none⟩), .slice none 0 0, .int .i64 wid, .int .i64 (-9223372036854775808)] 27)).alloc (.cells #[.pointer (some ⟨W.heap.size + 1 + 1 + 1 + 1 + 1 + 1 + 1, 0, none⟩), .slice none 0 0, .int .i64 oth, .int .i64 (-9223372036854775808)] 27)).alloc (.cells #[.int .i64 wid, .int .i64 (-9223372036854775808), .slice none 0 0] 47)).alloc (.cells #[.int .i64 wid, .int .i64 (-9223372036854775808), .slice none 0 0] 50)).alloc (.cells #[.pointer (some ⟨W.heap.size + 1 + 1, 0, none⟩), .pointer (some ⟨W.heap.size + 1 + 1 + 1, 0, none⟩)] 38)).alloc (.cells #[.int .i64 oth, .int .i64 (-9223372036854775808), .slice none 0 0] 47)).alloc (.cells #[.int .i64 oth, .int .i64 (-9223372036854775808), .slice none 0 0] 50)).alloc (.cells #[.pointer (some ⟨W.heap.size + 1 + 1 + 1 + 1 + 1, 0, none⟩), .pointer (some ⟨W.heap.size + 1 + 1 + 1 + 1 + 1 + 1, 0, none⟩)] 38)) = W1 := ⟨_, rfl⟩
    rw [hW1] at P0 ⊢
    clear hW1
    go_loopw [9] (fun i wr => ∃ k : Nat, k ≤ n ∧ i = .int .i64 k ∧ Hid (Pair W wr W.heap.size (W.heap.size + 1) wid oth k)) (fun i _ => n - (intOf i).toNat)
    case atStart => exact ⟨0, Nat.zero_le _, rfl, P0⟩
    case round =>
      obtain ⟨k, hk, rfl, HP⟩ := hrel
      by_cases hlt : k < n
      · obtain ⟨a, K, two, t, x, rfl, hb, ht, hx, s0, s1, s2, s3⟩ := HS.out k hlt
        have hbl := HP.out.below
        have d0 := (hbl.cell (p := a.add (k * 4)) (by rw [add_block]; exact hb)).trans s0
        have d1 := (hbl.cell (p := (a.add (k * 4)).add 1) (by rw [add_block, add_block]; exact hb)).trans s1
        have d2 := (hbl.cell (p := (a.add (k * 4)).add 2) (by rw [add_block, add_block]; exact hb)).trans s2
        have d3 := (hbl.cell (p := (a.add (k * 4)).add 3) (by rw [add_block, add_block]; exact hb)).trans s3
        have e1 : ∀ j, (a.add (k * 4)).add (j + 1) = ⟨(a.add (k * 4)).block, (a.add (k * 4)).off + (j + 1), none⟩ := fun j => Addr.add_succ' _ _
        rw [e1 0] at d1
        rw [e1 1] at d2
        rw [e1 2] at d3
        simp only [Nat.zero_add, Nat.reduceAdd] at d1 d2 d3
        clear e1
        have CC := Lib.hid (HP.out.stepc (by omega) K t x two ht hx)
        have CD := Lib.hid (HP.out.stepd (by omega) K t x two ht hx)
        clear s0 s1 s2 s3 ht hx hbl
        cases two
        · go_wp2_with fail
          refine CC.out.mono ?_
          rintro e w2 ⟨rfl, hp2⟩
          have HP2 := Lib.hid hp2
          clear hp2
          go_wp2_with fail
          go_roundw
          case rel => exact ⟨k + 1, by omega, by go_num, HP2⟩
          case measure => simp [intOf]; omega
        · go_wp2_with fail
          refine CD.out.mono ?_
          rintro e w2 ⟨rfl, hp2⟩
          have HP2 := Lib.hid hp2
          clear hp2
          go_wp2_with fail
          go_roundw
          case rel => exact ⟨k + 1, by omega, by go_num, HP2⟩
          case measure => simp [intOf]; omega
      · obtain rfl : n = k := by omega
        go_wp2_with fail
        go_ret
        exact ⟨rfl, HP.out.below⟩
end Go.Proofs.Ytacjjmdhiphckaa
