/- Slides: Push and Advance of a case: what stands where. -/
import Derived.Test.YtacjjmdhiphckaaCase
import Derived.Test.YtacjjmdhiphckaaLaws
import Derived.Deep.RegionLaw
import Derived.Deep.AppendLies
namespace Go.Proofs.Ytacjjmdhiphckaa
open Go.RowKit

theorem two_blocks {W : World} {k k' : Nat} {c c' : Array Value} {t t' : TypeId} (h1 : W.heap[k]? = some (.cells c t (0, 0))) (h2 : W.heap[k']? = some (.cells c' t' (0, 0))) (hne : t ≠ t') : k ≠ k' := by
  intro he
  subst he
  rw [h1] at h2
  cases h2
  exact hne rfl

theorem heap_over {W : World} {k : Nat} {o' : Obj} (o : Obj) (h : W.heap[k]? = some o') : (W.alloc o).heap[k]? = some o' := by rw [Below.heap_alloc _ _ _ (lt_of_block h)]; exact h

/-- A block of another type is none of a window's. -/
theorem Wins.far {W : World} {p a b : Nat} {wid now : Int} {va vb : Value} {xs : List (Int × Int)} (h : Wins W p a b wid now va vb xs) {k : Nat} {cs : Array Value} {T : TypeId} (hk : W.heap[k]? = some (.cells cs T (0, 0))) (h1 : T ≠ 38) (h2 : T ≠ 47) (h3 : T ≠ 50) (h4 : T ≠ 84) (h5 : T ≠ 86) : ¬ wfoot p a b va vb k := by
  rintro (rfl | rfl | rfl | e | e)
  · exact two_blocks hk h.hp h1 rfl
  · exact two_blocks hk h.ha h2 rfl
  · exact two_blocks hk h.hb h3 rfl
  · obtain ⟨c, hc⟩ := h.ra.blk _ e
    exact two_blocks hk hc h4 rfl
  · obtain ⟨c, hc⟩ := h.rb.blk _ e
    exact two_blocks hk hc h5 rfl
theorem owns_blk {W : World} {base : Nat} {e : TypeId} {size : Nat} {v : Value} {n : Nat} {xs : List Value} (h : W.ownsRow base e size v n xs) {k : Nat} (hk : v.ownBlock = some k) : ∃ cs, W.heap[k]? = some (.cells cs e (0, 0)) := by
  rcases h.2 with ⟨rfl, _⟩ | ⟨g, cap, cur, rfl, hb, hg, r⟩
  · simp [Value.ownBlock] at hk
  · have hk' : g = k := by simpa [Value.ownBlock] using hk
    subst hk'
    exact ⟨_, hg⟩
theorem Wins.farOwn {W : World} {p a b : Nat} {wid now : Int} {va vb lv : Value} {xs : List (Int × Int)} {n : Nat} {fl : List Value} (h : Wins W p a b wid now va vb xs) (ol : W.ownsRow 0 56 2 lv n fl) : ∀ k, lv.ownBlock = some k → ¬ wfoot p a b va vb k := by
  intro k hk
  obtain ⟨cs, hcs⟩ := owns_blk ol hk
  exact h.far hcs (by decide) (by decide) (by decide) (by decide) (by decide)

/-- What a case's windows leave of the case. -/
theorem CaseS.across {W W' : World} {c p a b : Nat} {wid now : Int} {va vb lv : Value} {l : List (Int × Int)} (h : CaseS W c p a b wid now va vb lv l) (ht : Tch (wfoot p a b va vb) W W') :
    W'.heap[c]? = some (.cells #[.pointer (some ⟨p, 0, none⟩), lv, .int .i64 wid, .int .i64 now] 27 (0, 0)) ∧ W'.ownsRow 0 56 2 lv l.length (flat ei l) :=
  ⟨ht.heap h.hc (h.ws.far h.hc (by decide) (by decide) (by decide) (by decide) (by decide)), ownsRow_tch h.ol ht (h.ws.farOwn h.ol)⟩

theorem CaseS.mk2 {wc w' : World} {c p a b n : Nat} {wid t : Int} {va vb lv lv' : Value} {zs l' : List (Int × Int)} {cs : Array Value} {fl : List Value} (hc : wc.heap[c]? = some (.cells cs 27 (0, 0))) (hw : Wins wc p a b wid t va vb zs) (ol : wc.ownsRow 0 56 2 lv n fl)
    (ht : Tch (fun k => k = c ∨ lv.ownBlock = some k) wc w') (hc' : w'.heap[c]? = some (.cells #[.pointer (some ⟨p, 0, none⟩), lv', .int .i64 wid, .int .i64 t] 27 (0, 0))) (ol' : w'.ownsRow 0 56 2 lv' l'.length (flat ei l'))
    (hz : zs = keptL wid t l') (rg : ∀ x ∈ l', Rng x.1) (rv : ∀ x ∈ l', Rng x.2) (le : ∀ x ∈ l', x.1 ≤ t) (so : l'.Pairwise (fun x y => x.1 ≤ y.1)) (wm : wid ≤ 9223372036854775807) : CaseS w' c p a b wid t va vb lv' l' := by
  subst hz
  refine ⟨hc', hw.kept ht (fun k hk s => ?_), ol', rg, rv, le, so, wm⟩
  rcases s with rfl | s
  · exact hw.far hc (by decide) (by decide) (by decide) (by decide) (by decide) hk
  · exact hw.farOwn ol k s hk

theorem snoc_le {l : List (Int × Int)} {now t x : Int} (h : ∀ y ∈ l, y.1 ≤ now) (hge : now ≤ t) : ∀ y ∈ l ++ [(t, x)], y.1 ≤ t := by
  intro y hy
  rcases List.mem_append.1 hy with hy | hy
  · have := h y hy; omega
  · simp at hy; subst hy; exact Int.le_refl _
theorem snoc_so {l : List (Int × Int)} {now t x : Int} (hs : l.Pairwise (fun x y => x.1 ≤ y.1)) (h : ∀ y ∈ l, y.1 ≤ now) (hge : now ≤ t) : (l ++ [(t, x)]).Pairwise (fun x y => x.1 ≤ y.1) := by
  refine List.pairwise_append.2 ⟨hs, by simp, fun a ha b hb => ?_⟩
  simp at hb
  subst hb
  have := h a ha
  show a.1 ≤ t
  omega
theorem snoc_all {P : Int × Int → Prop} {l : List (Int × Int)} {x : Int × Int} (h : ∀ y ∈ l, P y) (hx : P x) : ∀ y ∈ l ++ [x], P y := by
  intro y hy
  rcases List.mem_append.1 hy with hy | hy
  · exact h y hy
  · simp at hy; subst hy; exact hx

/-- What a Push or an Advance of a case leaves. -/
def MovedTo (W : World) (c p a b : Nat) (wid t : Int) (va vb lv : Value) (l' : List (Int × Int)) (w' : World) : Prop :=
  ∃ va' vb' lv', CaseS w' c p a b wid t va' vb' lv' l' ∧ (∀ k, cfoot c p a b va' vb' lv' k → cfoot c p a b va vb lv k ∨ W.heap.size ≤ k) ∧ Tch (cfoot c p a b va vb lv) W w'

/-- What a window's Push or Advance leaves. -/
def WinTo (W : World) (p a b : Nat) (wid t : Int) (va vb : Value) (zs : List (Int × Int)) (w' : World) : Prop :=
  ∃ va' vb', Wins w' p a b wid t va' vb' zs ∧ (∀ k, wfoot p a b va' vb' k → wfoot p a b va vb k ∨ W.heap.size ≤ k) ∧ Tch (wfoot p a b va vb) W w'

/-- Behind the store of the new time (and nothing more). -/
theorem moved_adv {W w1 wc : World} {c p a b m : Nat} {wid now t : Int} {va vb lv : Value} {l : List (Int × Int)} (h : CaseS W c p a b wid now va vb lv l) (hge : now ≤ t) (h01 : Tch (fun _ => False) W w1) (hw : WinTo w1 p a b wid t va vb (keptL wid t l) wc) :
    MovedTo W c p a b wid t va vb lv l ((wc.drewN m).setCell ⟨c, 3, none⟩ (.int .i64 t)) := by
  obtain ⟨va', vb', hW, hf, hT⟩ := hw
  have h1 := h.kept h01 (fun _ _ h => h)
  obtain ⟨hc, ol⟩ := h1.across hT
  have tt : Tch (fun k => k = c ∨ lv.ownBlock = some k) wc ((wc.drewN m).setCell ⟨c, 3, none⟩ (.int .i64 t)) := (Tch.drewN _ wc m).trans (Tch.setCell (S := fun k => k = c ∨ lv.ownBlock = some k) _ (a := ⟨c, 3, none⟩) (.inl rfl) _) (fun _ _ h => h)
  refine ⟨va', vb', lv, CaseS.mk2 hc hW ol tt (heap_setCell_at (w := wc.drewN m) (o := 3) hc _) (ownsRow_tch ol ((Tch.drewN (· = c) wc m).trans (Tch.setCell (S := (· = c)) _ (a := ⟨c, 3, none⟩) rfl _) (fun _ _ h => h)) (fun g hg e => owns_far ol hc (by decide) (by rw [hg, e]))) rfl h.rg h.rv (fun x hx => by have := h.le x hx; omega) h.so h.wm, fun k hk => ?_, ?_⟩
  · rcases hk with hk | hk | hk
    · exact .inl (.inl hk)
    · exact .inl (.inr (.inl hk))
    · rcases hf k hk with e | e
      · exact .inl (.inr (.inr e))
      · exact .inr (by have := h01.size; omega)
  · exact ((h01.mono (fun _ _ h => h.elim)).trans (hT.mono (fun _ _ h => .inr (.inr h))) (fun _ _ h => h)).trans (tt.mono (fun _ _ h => h.elim .inl (fun e => .inr (.inl e)))) (fun _ _ h => h)

/-- Behind the store of the new time and of the longer list. -/
theorem moved_push {W w1 wc X w2 : World} {c p a b m g cap : Nat} {wid now t x : Int} {va vb lv : Value} {l : List (Int × Int)} (h : CaseS W c p a b wid now va vb lv l) (hge : now ≤ t) (ht : Rng t) (hx : Rng x) (h01 : Tch (fun _ => False) W w1) (hw : WinTo w1 p a b wid t va vb (keptL wid t (l ++ [(t, x)])) wc)
    (hX : Tch (fun _ => False) ((wc.drewN m).setCell ⟨c, 3, none⟩ (.int .i64 t)) X) (hg : X.grownBy w2 lv.ownBlock) (ho : w2.ownsRow 0 56 2 (.slice (some ⟨g, 0, none⟩) (l.length + 1) cap) (l.length + 1) (flat ei l ++ [.int .i64 t, .int .i64 x])) (hat : lv.ownBlock = some g ∨ g = X.heap.size) :
    MovedTo W c p a b wid t va vb lv (l ++ [(t, x)]) (w2.setCell ⟨c, 1, none⟩ (.slice (some ⟨g, 0, none⟩) (l.length + 1) cap)) := by
  obtain ⟨va', vb', hW, hf, hT⟩ := hw
  have h1 := h.kept h01 (fun _ _ h => h)
  obtain ⟨hc, ol⟩ := h1.across hT
  have t1 : Tch (fun k => k = c ∨ lv.ownBlock = some k) wc w2 := (((Tch.drewN _ wc m).trans (Tch.setCell (S := fun k => k = c ∨ lv.ownBlock = some k) _ (a := ⟨c, 3, none⟩) (.inl rfl) _) (fun _ _ h => h)).trans (hX.mono (fun _ _ h => h.elim)) (fun _ _ h => h)).trans (Tch.of_grownBy hg) (fun _ _ h => .inr h)
  have hcX : X.heap[c]? = some (.cells #[.pointer (some ⟨p, 0, none⟩), lv, .int .i64 wid, .int .i64 t] 27 (0, 0)) := hX.heap (heap_setCell_at (w := wc.drewN m) (o := 3) hc _) (fun h => h)
  have hc2 : w2.heap[c]? = some (.cells #[.pointer (some ⟨p, 0, none⟩), lv, .int .i64 wid, .int .i64 t] 27 (0, 0)) := (Tch.of_grownBy hg).heap hcX (fun e => owns_far ol hc (by decide) e)
  have t2 : Tch (fun k => k = c ∨ lv.ownBlock = some k) wc (w2.setCell ⟨c, 1, none⟩ (.slice (some ⟨g, 0, none⟩) (l.length + 1) cap)) := t1.trans (Tch.setCell (S := fun k => k = c ∨ lv.ownBlock = some k) _ (a := ⟨c, 1, none⟩) (.inl rfl) _) (fun _ _ h => h)
  have ol2 : (w2.setCell ⟨c, 1, none⟩ (.slice (some ⟨g, 0, none⟩) (l.length + 1) cap)).ownsRow 0 56 2 (.slice (some ⟨g, 0, none⟩) (l.length + 1) cap) (l ++ [(t, x)]).length (flat ei (l ++ [(t, x)])) := by
    rw [List.length_append, flat_append]
    exact ownsRow_tch ho (Tch.setCell (S := (· = c)) _ (a := ⟨c, 1, none⟩) rfl _) (fun k hk e => owns_far ho hc2 (by decide) (by rw [hk, e]))
  refine ⟨va', vb', _, CaseS.mk2 hc hW ol t2 (heap_setCell_at (o := 1) hc2 _) ol2 rfl (snoc_all h.rg ht) (snoc_all h.rv hx) (snoc_le h.le hge) (snoc_so h.so h.le hge) h.wm, fun k hk => ?_, ?_⟩
  · rcases hk with hk | hk | hk
    · exact .inl (.inl hk)
    · have hk' : g = k := by simpa [Value.ownBlock] using hk
      subst hk'
      rcases hat with e | e
      · exact .inl (.inr (.inl e))
      · right
        have a1 := h01.size
        have a2 := hT.size
        have a3 := hX.size
        have a4 : ((wc.drewN m).setCell ⟨c, 3, none⟩ (.int .i64 t)).heap.size = wc.heap.size := by simp [World.setCell]
        omega
    · rcases hf k hk with e | e
      · exact .inl (.inr (.inr e))
      · exact .inr (by have := h01.size; omega)
  · exact ((h01.mono (fun _ _ h => h.elim)).trans (hT.mono (fun _ _ h => .inr (.inr h))) (fun _ _ h => h)).trans (t2.mono (fun _ _ h => h.elim .inl (fun e => .inr (.inl e)))) (fun _ _ h => h)
end Go.Proofs.Ytacjjmdhiphckaa
