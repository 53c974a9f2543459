/- Slides: a case: the windows and what was pushed. -/
import Derived.Test.YtacjjmdhiphckaaKept
import Derived.Test.YtacjjmdhiphckaaYield
import Derived.Test.YtacjjmdhiphckaaWfold
import Derived.Deep.CutBlock
namespace Go.Proofs.Ytacjjmdhiphckaa
open Go.RowKit

/-- A case: its block, its windows, what was pushed. -/
structure CaseS (W : World) (c p a b : Nat) (wid now : Int) (va vb lv : Value) (l : List (Int × Int)) : Prop where
  hc : W.heap[c]? = some (.cells #[.pointer (some ⟨p, 0, none⟩), lv, .int .i64 wid, .int .i64 now] 27 (0, 0))
  ws : Wins W p a b wid now va vb (keptL wid now l)
  ol : W.ownsRow 0 56 2 lv l.length (flat ei l)
  rg : ∀ x ∈ l, Rng x.1
  rv : ∀ x ∈ l, Rng x.2
  le : ∀ x ∈ l, x.1 ≤ now
  so : l.Pairwise (fun x y => x.1 ≤ y.1)
  wm : wid ≤ 9223372036854775807

def cfoot (c p a b : Nat) (va vb lv : Value) (k : Nat) : Prop := k = c ∨ lv.ownBlock = some k ∨ wfoot p a b va vb k

theorem CaseS.kept {W W' : World} {c p a b : Nat} {wid now : Int} {va vb lv : Value} {l : List (Int × Int)} {S : Nat → Prop} (h : CaseS W c p a b wid now va vb lv l) (ht : Tch S W W') (hs : ∀ k, cfoot c p a b va vb lv k → ¬ S k) : CaseS W' c p a b wid now va vb lv l :=
  ⟨ht.heap h.hc (hs _ (.inl rfl)), h.ws.kept ht (fun k hk => hs k (.inr (.inr hk))), ownsRow_tch h.ol ht (fun g hg => hs g (.inr (.inl hg))), h.rg, h.rv, h.le, h.so, h.wm⟩
theorem CaseS.lt {W : World} {c p a b : Nat} {wid now : Int} {va vb lv : Value} {l : List (Int × Int)} (h : CaseS W c p a b wid now va vb lv l) {k : Nat} (hk : cfoot c p a b va vb lv k) : k < W.heap.size := by
  rcases hk with rfl | hk | hk
  · exact lt_of_block h.hc
  · exact (h.ol.lt k hk).2
  · exact h.ws.lt hk
theorem CaseS.below {W W' : World} {c p a b : Nat} {wid now : Int} {va vb lv : Value} {l : List (Int × Int)} (h : CaseS W c p a b wid now va vb lv l) (hb : Below W.heap.size W W') : CaseS W' c p a b wid now va vb lv l :=
  h.kept (Tch.of_below hb) (fun k hk hn => by have := h.lt hk; omega)
theorem CaseS.cells {W : World} {c p a b : Nat} {wid now : Int} {va vb lv : Value} {l : List (Int × Int)} (h : CaseS W c p a b wid now va vb lv l) :
    W.cell? ⟨c, 0, none⟩ = some (.pointer (some ⟨p, 0, none⟩)) ∧ W.cell? ⟨c, 1, none⟩ = some lv ∧ W.cell? ⟨c, 2, none⟩ = some (.int .i64 wid) ∧ W.cell? ⟨c, 3, none⟩ = some (.int .i64 now) :=
  ⟨by rw [cell_of_row W c 0 _ _ _ h.hc]; rfl, by rw [cell_of_row W c 1 _ _ _ h.hc]; rfl, by rw [cell_of_row W c 2 _ _ _ h.hc]; rfl, by rw [cell_of_row W c 3 _ _ _ h.hc]; rfl⟩

/-- The reference's Kept, called behind a draw. -/
theorem CaseS.keptc {W : World} {c p a b : Nat} {wid now : Int} {va vb lv : Value} {l : List (Int × Int)} (h : CaseS W c p a b wid now va vb lv l) (hl : l.length ≤ 1073741824) :
    Calls Try.prog 9 #[lv, .int .i64 wid, .int .i64 now] W.drew fun e w' => ∃ v', e = .returned v' ∧ w'.ownsRow W.heap.size 56 2 v' (keptL wid now l).length (flat ei (keptL wid now l)) ∧ Below W.heap.size W w' :=
  (kept_any lv l wid now W.drew (Row.of_owns (ownsRow_tch h.ol (Tch.drewN (fun _ => False) W 1) (fun _ _ h => h))) hl h.rg h.wm).mono fun _ _ ⟨v', h1, h2, h3⟩ => ⟨v', h1, h2, (Below.refl _ W).drew.trans h3⟩

theorem keptL_mem {wid now : Int} {l : List (Int × Int)} {x : Int × Int} (h : x ∈ keptL wid now l) : x ∈ l := (List.mem_filter.1 (List.mem_of_mem_drop h)).1
theorem sl_of_owns' {W : World} {base : Nat} {e : TypeId} {size : Nat} {v : Value} {n : Nat} {xs : List Value} (h : W.ownsRow base e size v n xs) : ∃ a c, v = .slice a n c := by
  rcases h.2 with ⟨rfl, rfl⟩ | ⟨g, cap, cur, rfl, _⟩
  · exact ⟨_, _, rfl⟩
  · exact ⟨_, _, rfl⟩
theorem owns_cell {W : World} {base g n cap : Nat} {e : TypeId} {size : Nat} {xs : List Value} (h : W.ownsRow base e size (.slice (some ⟨g, 0, none⟩) n cap) n xs) (j : Nat) (u : Value) (hu : xs[j]? = some u) : W.cell? ⟨g, j, none⟩ = some u := by
  have := h.cells (g := g) rfl j u hu
  rwa [Addr.add_lit, Nat.zero_add] at this
theorem owns_slt {W : World} {base g n cap : Nat} {e : TypeId} {size : Nat} {xs : List Value} (h : W.ownsRow base e size (.slice (some ⟨g, 0, none⟩) n cap) n xs) : g < W.heap.size := (h.lt g rfl).2
theorem owns_form {W : World} {base : Nat} {e : TypeId} {size : Nat} {v : Value} {n : Nat} {xs : List Value} (h : W.ownsRow base e size v n xs) (hn : 0 < n) : ∃ g cap, v = .slice (some ⟨g, 0, none⟩) n cap ∧ n ≤ cap := by
  rcases h.2 with ⟨_, h0⟩ | ⟨g, cap, cur, rfl, _, _, hc, _⟩
  · omega
  · exact ⟨g, cap, rfl, hc⟩
end Go.Proofs.Ytacjjmdhiphckaa
