/- Names returns true, whatever memory it is called in, provided that the eight sentinels and errors.errorType read as the program's text lays them. The row, and the tied card. -/
import Derived.Test.YtacjjmdhiphckaaDoorRows
import Derived.Test.YtacjjmdhiphckaaDoorTie
import Derived.Test.YtacjjmdhiphckaaDoorCards
import Derived.Test.YtacjjmdhiphckaaDoorSame
import Derived.ChangeSame
import Derived.ChangeVars
import Derived.JoinedOf
import Derived.RowKit
import Derived.RowKitTokens
import Derived.LaidLaws
import Derived.LaidHandle
import Derived.LaidMore
import Derived.ProofKit
import Derived.Stop.Joined
import Derived.SevenTiedAt
namespace Go.Proofs.YtacjjmdhiphckaaDoor
open Go.ChangeShapes Go.WideShapes Go.RowKit

theorem Tryd.own : ownKnob Tryd.prog.godebug = none := by kernel_rfl
theorem Tryd.et : Tryd.prog.globalNamed "errors.errorType" = some 8 := by kernel_rfl
theorem Tryd.rt : (Tryd.prog.cutTypes.find? (·.1 == "internal/reflectlite.rtype")).map (·.2) = some 68 := by kernel_rfl
theorem Tryd.oneRow : ((List.range 118).filter fun t => Tryd.prog.rowNamed t [101, 114, 114, 111, 114]) = [28] := by kernel_rfl
theorem Tryd.size : Tryd.prog.types.size = 118 := by kernel_rfl
theorem Tryd.name82 : Tryd.prog.typeName? 3 82 = some "*errors.errorString" := by kernel_rfl
theorem Tryd.cells106 : Tryd.prog.cellsOf 106 = 1 := by kernel_rfl
theorem Tryd.cells9 : Tryd.prog.cellsOf 9 = 1 := by kernel_rfl
theorem star : "*" ++ "errors.errorString" = "*errors.errorString" := by decide
theorem Tryd.row82 (u : TypeId) (h : Tryd.prog.typeName? 3 u = some "*errors.errorString") : u = 82 :=
  typeName_ptr_named (nm := "errors.errorString") (by rw [star]; kernel_rfl) (by kernel_rfl) (by decide) u (by rw [star]; exact h)

theorem Tryd.g0 : Tryd.prog.globalNamed "scaler/api.ErrLong" = some 0 := by kernel_rfl
theorem Tryd.gt0 : (Tryd.prog.globals[0]?).map (·.type) = some 28 := by kernel_rfl
theorem Tryd.g1 : Tryd.prog.globalNamed "scaler/api.ErrCode" = some 1 := by kernel_rfl
theorem Tryd.gt1 : (Tryd.prog.globals[1]?).map (·.type) = some 28 := by kernel_rfl
theorem Tryd.g2 : Tryd.prog.globalNamed "scaler/api.ErrLimits" = some 2 := by kernel_rfl
theorem Tryd.gt2 : (Tryd.prog.globals[2]?).map (·.type) = some 28 := by kernel_rfl
theorem Tryd.g3 : Tryd.prog.globalNamed "scaler/api.ErrStale" = some 3 := by kernel_rfl
theorem Tryd.gt3 : (Tryd.prog.globals[3]?).map (·.type) = some 28 := by kernel_rfl
theorem Tryd.g4 : Tryd.prog.globalNamed "scaler/api.ErrMetric" = some 4 := by kernel_rfl
theorem Tryd.gt4 : (Tryd.prog.globals[4]?).map (·.type) = some 28 := by kernel_rfl
theorem Tryd.g5 : Tryd.prog.globalNamed "scaler/api.ErrDivide" = some 5 := by kernel_rfl
theorem Tryd.gt5 : (Tryd.prog.globals[5]?).map (·.type) = some 28 := by kernel_rfl
theorem Tryd.g6 : Tryd.prog.globalNamed "scaler/api.ErrNoData" = some 6 := by kernel_rfl
theorem Tryd.gt6 : (Tryd.prog.globals[6]?).map (·.type) = some 28 := by kernel_rfl
theorem Tryd.g7 : Tryd.prog.globalNamed "scaler/api.ErrCooling" = some 7 := by kernel_rfl
theorem Tryd.gt7 : (Tryd.prog.globals[7]?).map (·.type) = some 28 := by kernel_rfl

abbrev L8 : List (String × DataW Unit) := [("scaler/api.ErrLong", Rows.laid_scaler_api_ErrLong), ("scaler/api.ErrCode", Rows.laid_scaler_api_ErrCode), ("scaler/api.ErrLimits", Rows.laid_scaler_api_ErrLimits), ("scaler/api.ErrStale", Rows.laid_scaler_api_ErrStale), ("scaler/api.ErrMetric", Rows.laid_scaler_api_ErrMetric), ("scaler/api.ErrDivide", Rows.laid_scaler_api_ErrDivide), ("scaler/api.ErrNoData", Rows.laid_scaler_api_ErrNoData), ("scaler/api.ErrCooling", Rows.laid_scaler_api_ErrCooling)]
abbrev L9 : List (String × DataW Unit) := ("errors.errorType", Rows.laid_errors_errorType) :: L8

set_option maxRecDepth 100000 in
/-- The world of one listed sentinel: its variable's cell, its block, the rest of the list. -/
theorem laid_one {W : World} {n : String} {k : Nat} {text : List UInt8} {r : List (String × DataW Unit)} {ps : List MemPlace} (hg : Tryd.prog.globalNamed n = some k) (ht : (Tryd.prog.globals[k]?).map (·.type) = some 28)
    (h : DataW.LaidVars Tryd.prog W ((n, .iface "*errors.errorString" (.ptr (.agg [.lit (.string text)]))) :: r) ps)
    (hrows : ∀ b off, MemPlace.cell b off ∈ ps → (∃ c t, W.heap[b]? = some (.cells c t (0, 0))) ∧ ∀ u v, W.cell? ⟨b, off, none⟩ = some (.iface u v) → Value.okWide Tryd.prog W .any 0 u v) :
    ∃ (a : Addr) (q : List MemPlace), W.cell? ⟨k, 0, none⟩ = some (.iface 82 (.pointer (some a))) ∧ (∃ c t, W.heap[a.block]? = some (.cells c t (0, 0))) ∧ DataW.LaidVars Tryd.prog W r q ∧ ps = [.cell k 0, .cell a.block a.off] ++ q := by
  obtain ⟨g0, t0, cs0, f0, p0, q0, hg0, ht0, hv0, hd0, hq0, e0⟩ := h
  obtain rfl := Option.some.inj (hg.symm.trans hg0)
  obtain rfl := Option.some.inj (ht.symm.trans ht0)
  obtain ⟨l0⟩ := cs0
  have ok0 : ∀ u v, l0 = [.iface u v] → Value.okWide Tryd.prog W .any 0 u v := fun u v e => by
    subst e
    exact (hrows k 0 (by rw [e0]; simp [MemPlace.row])).2 u v (by simpa using World.var?_cell hg0 hv0 0)
  obtain ⟨a0, s0, rfl, hc0, hs0, hz0, rfl⟩ := errorString_of_trod Tryd.underlying28 Tryd.row82 Tryd.underlying82 Tryd.underlying106 rfl rfl Tryd.underlying9 Tryd.cells106 Tryd.cells9 hd0 ok0
  refine ⟨a0, q0, by simpa using World.var?_cell hg0 hv0 0, (hrows a0.block a0.off (by rw [e0]; simp [MemPlace.row])).1, hq0, by rw [e0]; simp [MemPlace.row]⟩

theorem eight_of_laid {W : World} (h : laidMet Tryd.prog L8 W) :
    ∃ (a0 a1 a2 a3 a4 a5 a6 a7 : Addr), W.cell? ⟨0, 0, none⟩ = some (.iface 82 (.pointer (some a0))) ∧ W.cell? ⟨1, 0, none⟩ = some (.iface 82 (.pointer (some a1))) ∧ W.cell? ⟨2, 0, none⟩ = some (.iface 82 (.pointer (some a2))) ∧ W.cell? ⟨3, 0, none⟩ = some (.iface 82 (.pointer (some a3))) ∧ W.cell? ⟨4, 0, none⟩ = some (.iface 82 (.pointer (some a4))) ∧ W.cell? ⟨5, 0, none⟩ = some (.iface 82 (.pointer (some a5))) ∧ W.cell? ⟨6, 0, none⟩ = some (.iface 82 (.pointer (some a6))) ∧ W.cell? ⟨7, 0, none⟩ = some (.iface 82 (.pointer (some a7)))
      ∧ (∃ c t, W.heap[a0.block]? = some (.cells c t (0, 0))) ∧ (∃ c t, W.heap[a1.block]? = some (.cells c t (0, 0))) ∧ (∃ c t, W.heap[a2.block]? = some (.cells c t (0, 0))) ∧ (∃ c t, W.heap[a3.block]? = some (.cells c t (0, 0))) ∧ (∃ c t, W.heap[a4.block]? = some (.cells c t (0, 0))) ∧ (∃ c t, W.heap[a5.block]? = some (.cells c t (0, 0))) ∧ (∃ c t, W.heap[a6.block]? = some (.cells c t (0, 0))) ∧ (∃ c t, W.heap[a7.block]? = some (.cells c t (0, 0))) ∧ [a0, a1, a2, a3, a4, a5, a6, a7].Nodup := by
  obtain ⟨ps, h0, hnd, hrows⟩ := h
  obtain ⟨a0, q0, c0, b0, h1, e0⟩ := laid_one Tryd.g0 Tryd.gt0 h0 hrows
  have r0 : ∀ b off, MemPlace.cell b off ∈ q0 → (∃ c t, W.heap[b]? = some (.cells c t (0, 0))) ∧ ∀ u v, W.cell? ⟨b, off, none⟩ = some (.iface u v) → Value.okWide Tryd.prog W .any 0 u v := fun b off hm => hrows b off (by rw [e0]; exact List.mem_append_right _ hm)
  obtain ⟨a1, q1, c1, b1, h2, e1⟩ := laid_one Tryd.g1 Tryd.gt1 h1 (fun b off hm => r0 b off hm)
  have r1 : ∀ b off, MemPlace.cell b off ∈ q1 → (∃ c t, W.heap[b]? = some (.cells c t (0, 0))) ∧ ∀ u v, W.cell? ⟨b, off, none⟩ = some (.iface u v) → Value.okWide Tryd.prog W .any 0 u v := fun b off hm => r0 b off (by rw [e1]; exact List.mem_append_right _ hm)
  obtain ⟨a2, q2, c2, b2, h3, e2⟩ := laid_one Tryd.g2 Tryd.gt2 h2 (fun b off hm => r1 b off hm)
  have r2 : ∀ b off, MemPlace.cell b off ∈ q2 → (∃ c t, W.heap[b]? = some (.cells c t (0, 0))) ∧ ∀ u v, W.cell? ⟨b, off, none⟩ = some (.iface u v) → Value.okWide Tryd.prog W .any 0 u v := fun b off hm => r1 b off (by rw [e2]; exact List.mem_append_right _ hm)
  obtain ⟨a3, q3, c3, b3, h4, e3⟩ := laid_one Tryd.g3 Tryd.gt3 h3 (fun b off hm => r2 b off hm)
  have r3 : ∀ b off, MemPlace.cell b off ∈ q3 → (∃ c t, W.heap[b]? = some (.cells c t (0, 0))) ∧ ∀ u v, W.cell? ⟨b, off, none⟩ = some (.iface u v) → Value.okWide Tryd.prog W .any 0 u v := fun b off hm => r2 b off (by rw [e3]; exact List.mem_append_right _ hm)
  obtain ⟨a4, q4, c4, b4, h5, e4⟩ := laid_one Tryd.g4 Tryd.gt4 h4 (fun b off hm => r3 b off hm)
  have r4 : ∀ b off, MemPlace.cell b off ∈ q4 → (∃ c t, W.heap[b]? = some (.cells c t (0, 0))) ∧ ∀ u v, W.cell? ⟨b, off, none⟩ = some (.iface u v) → Value.okWide Tryd.prog W .any 0 u v := fun b off hm => r3 b off (by rw [e4]; exact List.mem_append_right _ hm)
  obtain ⟨a5, q5, c5, b5, h6, e5⟩ := laid_one Tryd.g5 Tryd.gt5 h5 (fun b off hm => r4 b off hm)
  have r5 : ∀ b off, MemPlace.cell b off ∈ q5 → (∃ c t, W.heap[b]? = some (.cells c t (0, 0))) ∧ ∀ u v, W.cell? ⟨b, off, none⟩ = some (.iface u v) → Value.okWide Tryd.prog W .any 0 u v := fun b off hm => r4 b off (by rw [e5]; exact List.mem_append_right _ hm)
  obtain ⟨a6, q6, c6, b6, h7, e6⟩ := laid_one Tryd.g6 Tryd.gt6 h6 (fun b off hm => r5 b off hm)
  have r6 : ∀ b off, MemPlace.cell b off ∈ q6 → (∃ c t, W.heap[b]? = some (.cells c t (0, 0))) ∧ ∀ u v, W.cell? ⟨b, off, none⟩ = some (.iface u v) → Value.okWide Tryd.prog W .any 0 u v := fun b off hm => r5 b off (by rw [e6]; exact List.mem_append_right _ hm)
  obtain ⟨a7, q7, c7, b7, h8, e7⟩ := laid_one Tryd.g7 Tryd.gt7 h7 (fun b off hm => r6 b off hm)
  subst e7 e6 e5 e4 e3 e2 e1 e0
  clear r0 r1 r2 r3 r4 r5 r6 hrows
  refine ⟨a0, a1, a2, a3, a4, a5, a6, a7, c0, c1, c2, c3, c4, c5, c6, c7, b0, b1, b2, b3, b4, b5, b6, b7, ?_⟩
  clear c0 b0 c1 b1 c2 b2 c3 b3 c4 b4 c5 b5 c6 b6 c7 b7
  simp only [List.cons_append, List.nil_append, List.nodup_cons, List.mem_cons, MemPlace.cell.injEq, not_or] at hnd
  simp only [List.nodup_cons, List.mem_cons, List.not_mem_nil, not_false_eq_true, List.nodup_nil, or_false, not_or, and_true]
  have ne : ∀ {x y : Addr}, ¬(x.block = y.block ∧ x.off = y.off) → ¬ x = y := fun h e => h ⟨by rw [e], by rw [e]⟩
  exact ⟨⟨ne hnd.2.1.2.1, ne hnd.2.1.2.2.2.1, ne hnd.2.1.2.2.2.2.2.1, ne hnd.2.1.2.2.2.2.2.2.2.1, ne hnd.2.1.2.2.2.2.2.2.2.2.2.1, ne hnd.2.1.2.2.2.2.2.2.2.2.2.2.2.1, ne hnd.2.1.2.2.2.2.2.2.2.2.2.2.2.2.2.1⟩,
    ⟨ne hnd.2.2.2.1.2.1, ne hnd.2.2.2.1.2.2.2.1, ne hnd.2.2.2.1.2.2.2.2.2.1, ne hnd.2.2.2.1.2.2.2.2.2.2.2.1, ne hnd.2.2.2.1.2.2.2.2.2.2.2.2.2.1, ne hnd.2.2.2.1.2.2.2.2.2.2.2.2.2.2.2.1⟩,
    ⟨ne hnd.2.2.2.2.2.1.2.1, ne hnd.2.2.2.2.2.1.2.2.2.1, ne hnd.2.2.2.2.2.1.2.2.2.2.2.1, ne hnd.2.2.2.2.2.1.2.2.2.2.2.2.2.1, ne hnd.2.2.2.2.2.1.2.2.2.2.2.2.2.2.2.1⟩,
    ⟨ne hnd.2.2.2.2.2.2.2.1.2.1, ne hnd.2.2.2.2.2.2.2.1.2.2.2.1, ne hnd.2.2.2.2.2.2.2.1.2.2.2.2.2.1, ne hnd.2.2.2.2.2.2.2.1.2.2.2.2.2.2.2.1⟩,
    ⟨ne hnd.2.2.2.2.2.2.2.2.2.1.2.1, ne hnd.2.2.2.2.2.2.2.2.2.1.2.2.2.1, ne hnd.2.2.2.2.2.2.2.2.2.1.2.2.2.2.2.1⟩,
    ⟨ne hnd.2.2.2.2.2.2.2.2.2.2.2.1.2.1, ne hnd.2.2.2.2.2.2.2.2.2.2.2.1.2.2.2.1⟩,
    ne hnd.2.2.2.2.2.2.2.2.2.2.2.2.2.1.2.1⟩

/-- What the condition gives the walk. -/
theorem of_laid {W : World} (h : laidMetH Tryd.prog L9 W) : ∃ A : Nat → Addr, Eight A W ∧ (∀ i, i < 8 → W.cell? ⟨i, 0, none⟩ = some (.iface 82 (.pointer (some (A i))))) ∧ W.cell? ⟨8, 0, none⟩ = some (.iface 68 (.agg #[.pointer (some ⟨9, 28, none⟩)])) := by
  have h' : laidMet Tryd.prog L8 W ∧ handlesMet Tryd.prog [("errors.errorType", Rows.laid_errors_errorType)] W := h
  obtain ⟨name, u, ty, e1, e2, e3, e4, e5⟩ := h'.2 _ (List.mem_singleton.2 rfl)
  have en : name = [101, 114, 114, 111, 114] := (Option.some.inj e1).symm
  subst en
  obtain rfl := Option.some.inj (Tryd.rt.symm.trans e2)
  have hm : ty ∈ (List.range 118).filter fun t => Tryd.prog.rowNamed t [101, 114, 114, 111, 114] := List.mem_filter.2 ⟨List.mem_range.2 (by rw [← Tryd.size]; exact e3), e4⟩
  rw [Tryd.oneRow] at hm
  obtain rfl := List.mem_singleton.1 hm
  have hh : typeHandle Tryd.prog 28 = .pointer (some ⟨9, 28, none⟩) := by kernel_rfl
  rw [hh] at e5
  have h8 : W.cell? ⟨8, 0, none⟩ = some (.iface 68 (.agg #[.pointer (some ⟨9, 28, none⟩)])) := by simpa using World.var?_cell Tryd.et e5 0
  obtain ⟨a0, a1, a2, a3, a4, a5, a6, a7, c0, c1, c2, c3, c4, c5, c6, c7, b0, b1, b2, b3, b4, b5, b6, b7, hnd⟩ := eight_of_laid h'.1
  refine ⟨fun i => [a0, a1, a2, a3, a4, a5, a6, a7].getD i a0, ⟨fun i j hi hj hij e => ?_, fun i hi => ?_⟩, fun i hi => ?_, h8⟩
  · simp only [List.getD_eq_getElem?_getD, List.getElem?_eq_getElem (show i < [a0, a1, a2, a3, a4, a5, a6, a7].length from hi), List.getElem?_eq_getElem (show j < [a0, a1, a2, a3, a4, a5, a6, a7].length from hj), Option.getD_some] at e
    exact hij ((List.getElem_inj hnd).1 e)
  · match i, hi with
    | 0, _ => exact b0
    | 1, _ => exact b1
    | 2, _ => exact b2
    | 3, _ => exact b3
    | 4, _ => exact b4
    | 5, _ => exact b5
    | 6, _ => exact b6
    | 7, _ => exact b7
  · match i, hi with
    | 0, _ => exact c0
    | 1, _ => exact c1
    | 2, _ => exact c2
    | 3, _ => exact c3
    | 4, _ => exact c4
    | 5, _ => exact c5
    | 6, _ => exact c6
    | 7, _ => exact c7

/-- The heap that the door's own run leaves meets the condition. -/
theorem door_met (os : Os) (args : Array Value) : laidMetH Tryd.prog L9 ((World.doorLaid Tryd.prog 168 os).forCall (fun _ _ => 0) ⟨#[], args, []⟩).memory :=
  laidMetH_of_parts3 (fuel := 8) (laidMet_of_run' 8 (by kernel_rfl) (by kernel_rfl)) (by kernel_rfl) (by kernel_rfl)

set_option maxRecDepth 100000 in
theorem names_lifted (os : Os) (started : os.Started) (H : Type) (enc : TypeId × Value → H) :
    ReturnsInHanded {} Tryd.checked os 3 .any (fun w args => (Rows.namesSpec.pre enc Tryd.prog Tryd.f3 [] false w args ∧ laidMetH Tryd.prog L9 w) ∧ sizedMet enc Tryd.prog Tryd.f3 (OpenSpec.ofChange Rows.namesSpec) false w args)
      (Rows.namesSpec.post enc Tryd.prog Tryd.f3 false true false false) := by
  refine returnsInHanded_of_change_and (C := Tryd.checked) (X := fun w _ => laidMetH Tryd.prog L9 w) (fun _ _ _ hh h => h.of_heap hh) Tryd.own started (by kernel_rfl) Tryd.func3
    (ChangeSpec.witness_shaped (enc := enc) (C := Tryd.checked) (os := os) (X := fun w _ => laidMetH Tryd.prog L9 w) false (World.doorLaid Tryd.prog 168 os) #[] 8 rfl (World.shaped_of_RefB (by kernel_rfl) (by kernel_rfl)) (by kernel_rfl) (by kernel_rfl) (by kernel_rfl) (door_met os _)) ?_
  intro W base args ds gs before hval0 hW _ _ hL _
  have hW' := hW
  obtain ⟨p, q, hA0, hV, rfl, hfz, hnd⟩ := hW
  have hA : DataW.TrodAll enc Tryd.prog W 0 (fun _ => true) true Tryd.f3.params.toList args.toList ds p := hA0
  rw [Tryd.params3] at hA
  obtain ⟨ha, rfl, rfl⟩ := trodAll_none hA
  obtain ⟨rfl, rfl⟩ := trodVars_none hV
  obtain ⟨A, h8, hc, hh⟩ := of_laid hL
  have hs : 8 < W.heap.size := by
    rcases Nat.lt_or_ge 8 W.heap.size with h | h
    · exact h
    · simp [World.cell?, Array.getElem?_eq_none h] at hh
  have eargs : args = #[] := by
    cases args with
    | mk l =>
      cases l with
      | nil => rfl
      | cons x r => simp at ha
  subst eargs
  refine (names_any A W hs h8 (hc 0 (by decide)) (hc 1 (by decide)) (hc 2 (by decide)) (hc 3 (by decide)) (hc 4 (by decide)) (hc 5 (by decide)) (hc 6 (by decide)) (hc 7 (by decide)) hh).mono fun e W' ⟨he, hb⟩ => ?_
  subst he
  have e1 : Rows.namesSpec.fn H ([] ++ []) = { results := [.lit (.bool true)], args := [] } := by simp [Rows.namesSpec]
  refine ⟨_, rfl, _, _, _, [], [], [], hW', ?_, ?_, ?_, hb.frame _, fun h => by cases h⟩
  · rw [e1]; exact trodAll_mk1 (shut_bool Tryd.underlying4 true)
  · rw [e1]; exact trodAll_mk0
  · rw [e1]; rfl

theorem names_row_holds : Rows.NamesSaid :=
  OpenClaim.holds_of_wide 3 Tryd.f3 rfl rfl rfl rfl rfl rfl rfl ⟨rfl, rfl, rfl, rfl, rfl⟩ rfl rfl rfl rfl rfl (by kernel_rfl) Tryd.func3 (by kernel_rfl)
    (of_decide_eq_true (by kernel_rfl)) (by unfold Func.isWrapper; rw [if_neg (of_decide_eq_false (by kernel_rfl))]; exact ⟨rfl, rfl⟩)
    (fun os started H enc _ => names_lifted os started H enc)

theorem names_holds : Rows.NamesCardSaid :=
  Claim7.holds_tied_plain_at .later [] [.handle, .sentinel, .sentinel, .sentinel, .sentinel, .sentinel, .sentinel, .sentinel, .sentinel] true (true, "15df27384b3406fe1f9aa8de0fcfe6ff2de4289f4fe2da34a45d3016342b11da") true
    names_row_holds (fun _ h => by cases h) (by kernel_rfl) (fun _ h => by cases h) names_row_tie rfl ⟨rfl, rfl⟩ (by kernel_rfl) rfl
    (fun f fn hf hfn => by
      obtain rfl : f = 3 := Option.some.inj ((show Tryd.prog.funcNamed "scaler/scalerlaw.Names" = some 3 by kernel_rfl).symm.trans hf) |>.symm
      obtain rfl : fn = Tryd.f3 := (Option.some.inj (Tryd.func3.symm.trans hfn)).symm
      exact ⟨by kernel_rfl, fun j t ht => by
        rw [Tryd.params3] at ht
        simp at ht⟩)
    (by kernel_rfl)
#print axioms names_holds
end Go.Proofs.YtacjjmdhiphckaaDoor
