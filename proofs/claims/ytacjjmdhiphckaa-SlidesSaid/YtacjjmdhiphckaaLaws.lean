/- Slides: what Kept keeps from step to step (plain Lean). -/
import Derived.Test.YtacjjmdhiphckaaKept
import Derived.Test.YtacjjmdhiphckaaPush
namespace Go.Proofs.Ytacjjmdhiphckaa

theorem inB_up {wid now t u : Int} (h : inB wid now t = true) (htu : t ≤ u) : inB wid now u = true := by
  simp [inB] at h ⊢
  refine ⟨h.1, ?_⟩
  rcases h.2 with h2 | h2
  · left; omega
  · right; omega
theorem inB_back {wid now n t : Int} (h : inB wid n t = true) (hn : now ≤ n) : inB wid now t = true := by
  simp [inB] at h ⊢
  refine ⟨h.1, ?_⟩
  rcases h.2 with h2 | h2
  · left; omega
  · right; omega

/-- In a sorted list what is dropped is all that is out. -/
theorem dropWhile_filter (p : Int → Bool) (hp : ∀ a b, a ≤ b → p a = true → p b = true) : ∀ l : List (Int × Int), l.Pairwise (fun x y => x.1 ≤ y.1) → (l.dropWhile fun x => !p x.1) = l.filter fun x => p x.1
  | [], _ => rfl
  | x :: l, h => by
    rw [List.pairwise_cons] at h
    cases hx : p x.1 with
    | false =>
      simp only [List.dropWhile_cons, hx, Bool.not_false, if_true, List.filter_cons, Bool.false_eq_true, if_false]
      exact dropWhile_filter p hp l h.2
    | true =>
      have hall : ∀ y ∈ l, p y.1 = true := fun y hy => hp _ _ (h.1 y hy) hx
      simp only [List.dropWhile_cons, hx, Bool.not_true, Bool.false_eq_true, if_false, List.filter_cons, if_true]
      rw [List.filter_eq_self.2 hall]

/-- The newest of what is in: what is in of the newest. -/
theorem filter_last (n : Nat) (p : Int → Bool) (hp : ∀ a b, a ≤ b → p a = true → p b = true) : ∀ l : List (Int × Int), l.Pairwise (fun x y => x.1 ≤ y.1) →
    (l.drop (l.length - n)).filter (fun x => p x.1) = (l.filter fun x => p x.1).drop ((l.filter fun x => p x.1).length - n)
  | [], _ => by simp
  | x :: l, h => by
    have hc := List.pairwise_cons.1 h
    have ih := filter_last n p hp l hc.2
    by_cases hn : l.length + 1 ≤ n
    · have hle := List.length_filter_le (fun x : Int × Int => p x.1) (x :: l)
      rw [List.length_cons] at hle ⊢
      rw [show l.length + 1 - n = 0 by omega, show ((x :: l).filter fun x => p x.1).length - n = 0 by omega]
      rfl
    · rw [List.length_cons, show l.length + 1 - n = (l.length - n) + 1 by omega, List.drop_succ_cons, ih]
      cases hx : p x.1 with
      | false => simp only [List.filter_cons, hx, Bool.false_eq_true, if_false]
      | true =>
        have hall : ∀ y ∈ l, p y.1 = true := fun y hy => hp _ _ (hc.1 y hy) hx
        simp only [List.filter_cons, hx, if_true]
        rw [List.filter_eq_self.2 hall, List.length_cons, show l.length + 1 - n = (l.length - n) + 1 by omega, List.drop_succ_cons]

theorem kept_adv (wid now t : Int) (l : List (Int × Int)) (hs : l.Pairwise (fun x y => x.1 ≤ y.1)) (hge : now ≤ t) :
    ((keptL wid now l).dropWhile fun x => !inB wid t x.1) = keptL wid t l := by
  have up : ∀ m a b : Int, a ≤ b → inB wid m a = true → inB wid m b = true := fun m a b hab ha => inB_up ha hab
  have hs1 : (l.filter fun x => inB wid now x.1).Pairwise (fun x y => x.1 ≤ y.1) := hs.filter _
  have hs2 : (keptL wid now l).Pairwise (fun x y => x.1 ≤ y.1) := hs1.drop
  have hff : (l.filter fun x => inB wid now x.1).filter (fun x => inB wid t x.1) = l.filter fun x => inB wid t x.1 := by
    rw [List.filter_filter]
    refine List.filter_congr fun x _ => ?_
    cases hx : inB wid t x.1 with
    | false => simp
    | true => simp [inB_back hx hge]
  rw [dropWhile_filter (inB wid t) (up t) _ hs2]
  unfold keptL
  rw [filter_last 16 (inB wid t) (up t) _ hs1, hff]

theorem kept_push (wid now t v : Int) (l : List (Int × Int)) (hs : l.Pairwise (fun x y => x.1 ≤ y.1)) (hge : now ≤ t) :
    pushL wid t (keptL wid now l) v = keptL wid t (l ++ [(t, v)]) := by
  unfold pushL
  rw [kept_adv wid now t l hs hge]
  cases hin : inB wid t t with
  | false =>
    simp only [Bool.false_eq_true, if_false]
    unfold keptL
    rw [List.filter_append]
    simp [hin]
  | true =>
    simp only [if_true]
    unfold keptL
    rw [List.filter_append]
    simp only [List.filter_cons, hin, if_true, List.filter_nil, List.length_append, List.length_cons, List.length_nil, List.length_drop]
    generalize hG : (l.filter fun x => inB wid t x.1) = G
    by_cases h : 16 ≤ G.length
    · rw [if_pos (by omega), show G.length + (0 + 1) - 16 = G.length - 16 + 1 by omega]
      rw [← List.drop_append_of_le_length (by omega), List.drop_drop]
    · rw [if_neg (by omega), show G.length - 16 = 0 by omega, show G.length + (0 + 1) - 16 = 0 by omega]
      rfl
end Go.Proofs.Ytacjjmdhiphckaa
