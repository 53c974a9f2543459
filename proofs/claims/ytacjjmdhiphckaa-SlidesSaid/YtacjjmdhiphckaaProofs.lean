/- Slides returns true, whatever widths and script it is handed, and leaves them as they read: the row, proved. -/
import Derived.Test.YtacjjmdhiphckaaRows
import Derived.Test.YtacjjmdhiphckaaMain
import Derived.ProofKit
import Derived.Carry
import Derived.Deep.Slices
import Derived.Lib.SmallJoins
import Derived.DataShut
namespace Go.Proofs.Ytacjjmdhiphckaa
open Go.ChangeShapes Go.WideShapes Go.ChangeAt Go.RowKit

theorem Try.own : ownKnob Try.prog.godebug = none := by kernel_rfl
theorem Try.laidOut : laidOutB Try.prog = true := by kernel_rfl
theorem Try.c2 : Try.prog.cellsOf 2 = 1 := by kernel_rfl
theorem Try.c3 : Try.prog.cellsOf 3 = 1 := by kernel_rfl
theorem Try.c4 : Try.prog.cellsOf 4 = 1 := by kernel_rfl
theorem Try.c30 : Try.prog.cellsOf 30 = 4 := by kernel_rfl

theorem rng_of_wf {n : Int} (h : (Lit.int .i64 n).wf = true) : Rng n := (Lit.wf_int_iff .i64 n).1 h

/-- One step of the script, out of its reading. -/
theorem op_of_trod {H : Type} {enc : TypeId × Value → H} {W : World} {sp : Nat → Bool} {held : Bool} {n : Nat} {a : Addr} {cs : List Value} {x : DataW H × List MemPlace} (h1 : W.cells? 0 a (Try.prog.cellsOf 30) = some cs) (h2 : DataW.trod enc Try.prog W 0 sp held n 30 cs = some x) :
    ∃ K two t y, Rng t ∧ Rng y ∧ W.cell? a = some (.int .i64 K) ∧ W.cell? (a.add 1) = some (.bool two) ∧ W.cell? (a.add 2) = some (.int .i64 t) ∧ W.cell? (a.add 3) = some (.int .i64 y) := by
  rw [Try.c30] at h1
  obtain ⟨_, hlen, hcell⟩ := World.cells?_some h1
  obtain ⟨y0, y1, y2, y3, m, -, -, g0, g1, g2, g3⟩ := Joins.trod_struct4 Try.underlying30 h2
  match cs, hlen, hcell with
  | [v0, v1, v2, v3], _, hcell =>
    simp only [Try.c2, Try.c3, Try.c4, List.drop_zero, List.drop_succ_cons, List.take_succ_cons, List.take_zero] at g0 g1 g2 g3
    obtain ⟨K, e0, -, -⟩ := DataW.trod_int Try.underlying3 g0
    obtain ⟨two, e1, -⟩ := DataW.trod_bool Try.underlying4 g1
    obtain ⟨t, e2, -, w2⟩ := DataW.trod_int Try.underlying2 g2
    obtain ⟨y, e3, -, w3⟩ := DataW.trod_int Try.underlying2 g3
    cases e0
    cases e1
    cases e2
    cases e3
    have k0 := hcell 0 (by omega)
    have k1 := hcell 1 (by omega)
    have k2 := hcell 2 (by omega)
    have k3 := hcell 3 (by omega)
    rw [Addr.add_zero'] at k0
    exact ⟨K, two, t, y, rng_of_wf w2, rng_of_wf w3, k0, k1, k2, k3⟩

set_option maxRecDepth 100000 in
theorem slides_lifted (os : Os) (started : os.Started) (H : Type) (enc : TypeId × Value → H) :
    ReturnsInHanded {} Try.checked os 3 .any (Rows.slidesSpec.pre6 enc Try.prog Try.f3 Rows.slidesRow.domain false) (Rows.slidesSpec.post enc Try.prog Try.f3 false true false false) := by
  refine returnsInHanded_of_change (C := Try.checked) Try.own started (by kernel_rfl) Try.func3
    (ChangeSpec.witness6 (enc := enc) (C := Try.checked) false ⟨#[], #[.int .i64 0, .int .i64 0, .slice none 0 0], []⟩ 8 (by kernel_rfl) (by kernel_rfl) (by kernel_rfl) (by kernel_rfl)) ?_
  intro W base args ds gs before hval0 hW hcnd _
  have hval : ∀ (j : Nat) t v, Try.f3.params[j]? = some t → args[j]? = some v → Value.okWide Try.prog W .any base t v := hval0
  have hW' := hW
  obtain ⟨p, q, hA0, hV, rfl, hfz, hnd⟩ := hW
  have hA : DataW.TrodAll enc Try.prog W 0 (fun _ => true) true Try.f3.params.toList args.toList ds p := hA0
  rw [Try.params3] at hA hval
  obtain ⟨v0, v1, v2, d0, d1, d2, p0, p1, p2, rfl, rfl, rfl, h0, h1, h2⟩ := trodAll_three hA
  obtain ⟨rfl, rfl⟩ := trodVars_none hV
  obtain ⟨wid, rfl, rfl, rfl, w0⟩ := open_int Try.underlying2 (hval 0 2 v0 rfl rfl) h0
  obtain ⟨oth, rfl, rfl, rfl, w1⟩ := open_int Try.underlying2 (hval 1 2 v1 rfl rfl) h1
  obtain ⟨A, len, cap, rfl⟩ := okWide_slice Try.underlying22 (hval 2 22 v2 rfl rfl)
  have h2k := h2
  obtain ⟨fuel, hf⟩ := h2
  clear hA0 hval0
  simp only [List.nil_append, List.append_nil] at hW'
  have hlt : ∀ x ∈ p2, x.block < W.heap.size := fun x hx => by simpa using hW'.lt x hx
  have hargs : ∀ (W' : World), Below W.heap.size W W' → DataW.TrodAll enc Try.prog W' 0 (fun b => decide (b < W.heap.size)) true [2, 2, 22] [.int .i64 wid, .int .i64 oth, .slice A len cap] [.lit (.int .i64 wid), .lit (.int .i64 oth), d2] ([] ++ ([] ++ p2)) :=
    fun W' hn => trodAll_mk3 (shut_int Try.underlying2 w0) (shut_int Try.underlying2 w1) (Below.trod Try.laidOut (by kernel_rfl) (of_decide_eq_true (by kernel_rfl)) h2k hn hlt)
  have hs : len ≤ 9223372036854775807 ∧ ∀ i, i < len → ∃ a K two t x, A = some a ∧ a.block < W.heap.size ∧ Rng t ∧ Rng x ∧ W.cell? (a.add (i * 4)) = some (.int .i64 K) ∧ W.cell? ((a.add (i * 4)).add 1) = some (.bool two) ∧ W.cell? ((a.add (i * 4)).add 2) = some (.int .i64 t) ∧ W.cell? ((a.add (i * 4)).add 3) = some (.int .i64 x) := by
    rcases Deep.open_slice Try.underlying22 hf with ⟨hcs, hx⟩ | ⟨a, len', cap', m, n, D, Pl, hcs, _, hl, hm, hmm, hx, hcell⟩
    · have e : (Value.slice A len cap).cells.toList = [.slice none 0 0] := by simpa using hcs
      simp [Value.cells] at e
      obtain ⟨rfl, rfl, rfl⟩ := e
      exact ⟨by omega, fun i hi => absurd hi (Nat.not_lt_zero _)⟩
    · have e : (Value.slice A len cap).cells.toList = [.slice (some a) len' cap'] := by simpa using hcs
      simp [Value.cells] at e
      obtain ⟨rfl, rfl, rfl⟩ := e
      refine ⟨by unfold maxLen at hm; omega, fun i hi => ?_⟩
      have him : i < m := by rw [hmm]; simp; omega
      obtain ⟨cs', g1, g2⟩ := hcell i him
      obtain ⟨K, two, t, x, ht, hx', k0, k1, k2, k3⟩ := op_of_trod g1 g2
      rw [Try.c30] at k0 k1 k2 k3
      refine ⟨a, K, two, t, x, rfl, ?_, ht, hx', k0, k1, k2, k3⟩
      have : a.block = (a.add (i * 4)).block := (add_block _ _).symm
      rw [this]
      rcases Nat.lt_or_ge (a.add (i * 4)).block W.heap.size with h | h
      · exact h
      · simp [World.cell?, Array.getElem?_eq_none h] at k0
  refine (slides_any W wid oth A len cap (rng_of_wf w0).2 (rng_of_wf w1).2 hs.1 hs.2).mono fun e W' ⟨he, hb⟩ => ?_
  subst he
  have e1 : Rows.slidesSpec.fn H ([.lit (.int .i64 wid), .lit (.int .i64 oth), d2] ++ []) = { results := [.lit (.bool true)], args := [.lit (.int .i64 wid), .lit (.int .i64 oth), d2] } := by simp [Rows.slidesSpec]
  refine ⟨_, rfl, _, _, _, [], [] ++ ([] ++ p2), [], hW', ?_, ?_, ?_, hb.frame _, fun h => by cases h⟩
  · rw [e1]; exact trodAll_mk1 (shut_bool Try.underlying4 true)
  · rw [e1]; exact hargs W' hb
  · rw [e1]; rfl

theorem slides_holds : Rows.SlidesSaid :=
  OpenClaim.holds_of_wide 3 Try.f3 rfl rfl rfl rfl rfl rfl rfl ⟨rfl, rfl, rfl, rfl, rfl⟩ rfl rfl rfl rfl rfl (by kernel_rfl) Try.func3 (by kernel_rfl)
    (of_decide_eq_true (by kernel_rfl)) (by unfold Func.isWrapper; rw [if_neg (of_decide_eq_false (by kernel_rfl))]; exact ⟨rfl, rfl⟩)
    (fun os started H enc _ => slides_lifted os started H enc)
#print axioms slides_holds
end Go.Proofs.Ytacjjmdhiphckaa
