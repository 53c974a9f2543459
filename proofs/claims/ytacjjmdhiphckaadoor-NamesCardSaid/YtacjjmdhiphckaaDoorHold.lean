/- package plain's hold and Of at a *HoldError of ErrDivide at 3: Told{Divide, 3}. -/
import Derived.Test.YtacjjmdhiphckaaDoorIs
import Derived.WalkLawsBesides
import Derived.Deep.QuietTactic
import Derived.BigQuiet
namespace Go.Proofs.YtacjjmdhiphckaaDoor
open Go.RowKit Go.Extern.Stop Go.Stop Go.Extern

/-- What hold's walk knows of a world: the HoldError's two cells, two variables, hold's own four locals from block n on. -/
structure HF (b n : Nat) (a : Addr) (W : World) : Prop where
  lb : b < n
  l8 : 8 < n
  sz : n + 4 ≤ W.heap.size
  c0 : W.cell? ⟨b, 0, none⟩ = some (.int .i64 3)
  c1 : W.cell? ⟨b, 1, none⟩ = some (.iface 82 (.pointer (some a)))
  g5 : W.cell? ⟨5, 0, none⟩ = some (.iface 82 (.pointer (some a)))
  g8 : W.cell? ⟨8, 0, none⟩ = some (.iface 68 (.agg #[.pointer (some ⟨9, 28, none⟩)]))
  r0 : W.cell? ⟨n, 0, none⟩ = some (.int .i64 0)
  r1 : W.cell? ⟨n, 1, none⟩ = some (.int .i64 0)
  r2 : W.cell? ⟨n, 2, none⟩ = some (.int .i64 0)
  r3 : W.cell? ⟨n, 3, none⟩ = some (.string ⟨#[]⟩)
  t0 : W.cell? ⟨n + 1, 0, none⟩ = some (.int .i64 99)
  t1 : W.cell? ⟨n + 1, 1, none⟩ = some (.int .i64 3)
  t2 : W.cell? ⟨n + 1, 2, none⟩ = some (.int .i64 0)
  t3 : W.cell? ⟨n + 1, 3, none⟩ = some (.string ⟨#[]⟩)
  fr : ∀ o, W.frozen? ⟨n, o, none⟩ = false
  ft : ∀ o, W.frozen? ⟨n + 1, o, none⟩ = false

theorem HF.below {b n : Nat} {a : Addr} {W W' : World} (h : HF b n a W) (hb : Below W.heap.size W W') : HF b n a W' := by
  have hs := h.sz
  have hl := h.lb
  have h8 := h.l8
  have e : ∀ k o, k < n + 4 → W'.cell? ⟨k, o, none⟩ = W.cell? ⟨k, o, none⟩ := fun k o hk => hb.cell (p := ⟨k, o, none⟩) (by show k < _; omega)
  have f : ∀ k o, k < n + 4 → W'.frozen? ⟨k, o, none⟩ = W.frozen? ⟨k, o, none⟩ := fun k o hk => hb.frozen (p := ⟨k, o, none⟩) (by show k < _; omega)
  exact ⟨hl, h8, Nat.le_trans hs hb.size, (e _ _ (by omega)).trans h.c0, (e _ _ (by omega)).trans h.c1, (e _ _ (by omega)).trans h.g5, (e _ _ (by omega)).trans h.g8,
    (e _ _ (by omega)).trans h.r0, (e _ _ (by omega)).trans h.r1, (e _ _ (by omega)).trans h.r2, (e _ _ (by omega)).trans h.r3,
    (e _ _ (by omega)).trans h.t0, (e _ _ (by omega)).trans h.t1, (e _ _ (by omega)).trans h.t2, (e _ _ (by omega)).trans h.t3,
    fun o => (f _ _ (by omega)).trans (h.fr o), fun o => (f _ _ (by omega)).trans (h.ft o)⟩

def hw (w : World) : World := (((w.alloc (.cells #[.int .i64 0, .int .i64 0, .int .i64 0, .string ⟨#[]⟩] 23)).alloc (.cells #[.int .i64 99, .int .i64 3, .int .i64 0, .string ⟨#[]⟩] 23)).alloc (.cells #[.pointer none] 44)).alloc (.cells #[.pointer none] 45)

theorem hw_below (w : World) : Below w.heap.size w (hw w) :=
  ((((Below.refl _ _).alloc (Nat.le_refl _) _).alloc (by simp) _).alloc (by simp; omega) _).alloc (by simp; omega) _

theorem HF.start {b : Nat} {a : Addr} {w : World} (hb : b < w.heap.size) (hs : 8 < w.heap.size) (hA : w.cell? ⟨b, 0, none⟩ = some (.int .i64 3)) (hc : w.cell? ⟨b, 1, none⟩ = some (.iface 82 (.pointer (some a))))
    (g5 : w.cell? ⟨5, 0, none⟩ = some (.iface 82 (.pointer (some a)))) (g8 : w.cell? ⟨8, 0, none⟩ = some (.iface 68 (.agg #[.pointer (some ⟨9, 28, none⟩)]))) : HF b w.heap.size a (hw w) := by
  have h := hw_below w
  have e : ∀ k o, k < w.heap.size → (hw w).cell? ⟨k, o, none⟩ = w.cell? ⟨k, o, none⟩ := fun k o hk => h.cell (p := ⟨k, o, none⟩) hk
  have z0 : w.heap.size < w.heap.size + 1 + 1 := by omega
  have z1 : w.heap.size < w.heap.size + 1 + 1 + 1 := by omega
  have z2 : w.heap.size + 1 < w.heap.size + 1 + 1 + 1 := by omega
  refine ⟨hb, hs, by simp [hw], (e _ _ hb).trans hA, (e _ _ hb).trans hc, (e _ _ (by omega)).trans g5, (e _ _ hs).trans g8, ?_, ?_, ?_, ?_, ?_, ?_, ?_, ?_, ?_, ?_⟩
  all_goals simp [hw, z0, z1, z2, World.cell?_alloc_past, World.cell?_alloc_at, World.frozen?_alloc_past, World.frozen?_alloc_at]

theorem hw_eq (w : World) : (((w.alloc (.cells #[.int .i64 0, .int .i64 0, .int .i64 0, .string ⟨#[]⟩] 23)).alloc (.cells #[.int .i64 99, .int .i64 3, .int .i64 0, .string ⟨#[]⟩] 23)).alloc (.cells #[.pointer none] 44)).alloc (.cells #[.pointer none] 45) = hw w := rfl

set_option maxRecDepth 100000 in
set_option maxHeartbeats 4000000 in
theorem hold_divide (b : Nat) (a : Addr) (w : World) (hb : b < w.heap.size) (hs : 8 < w.heap.size) (hA : w.cell? ⟨b, 0, none⟩ = some (.int .i64 3)) (hc : w.cell? ⟨b, 1, none⟩ = some (.iface 82 (.pointer (some a))))
    (g5 : w.cell? ⟨5, 0, none⟩ = some (.iface 82 (.pointer (some a)))) (g8 : w.cell? ⟨8, 0, none⟩ = some (.iface 68 (.agg #[.pointer (some ⟨9, 28, none⟩)]))) :
    Calls Tryd.prog 6 #[.pointer (some ⟨b, 0, none⟩)] w fun e w' => e = .returned (.agg #[.int .i64 8, .int .i64 3, .int .i64 0, .string ⟨#[]⟩]) ∧ Below w.heap.size w w' := by
  have H0 := HF.start hb hs hA hc g5 g8
  have hbel := hw_below w
  have hsz := H0.sz
  go_enter Tryd.func6, Tryd.ntmps6
  go_wp2_with fail
  rw [hw_eq]
  obtain ⟨W, hW⟩ : ∃ W, hw w = W := ⟨_, rfl⟩
  rw [hW] at H0 hbel hsz ⊢
  clear hW hA hc g5 g8
  refine (As_miss44 b a _ W (by omega) H0.c1 H0.g8).mono ?_
  rintro e w1 ⟨rfl, hb1⟩
  have H1 := H0.below hb1
  clear H0
  have hsz1 := H1.sz
  have hbel1 := hbel.trans (hb1.mono (by omega))
  clear hb1 hbel hsz
  go_wp2_with fail
  refine (As_miss45 b a _ w1 (by omega) H1.c1 H1.g8).mono ?_
  rintro e w2 ⟨rfl, hb2⟩
  have H2 := H1.below hb2
  clear H1
  have hsz2 := H2.sz
  have hbel2 := hbel1.trans (hb2.mono (by omega))
  clear hb2 hbel1 hsz1
  obtain ⟨hl, h8, _, c0, c1, g5, g8, r0, r1, r2, r3, t0, t1, t2, t3, fr, ft⟩ := H2
  go_wp2_with fail
  obtain ⟨i, hi, hcmp⟩ := Option.map_eq_some_iff.1 Tryd.comp82
  obtain ⟨j, hj, _⟩ := Option.map_eq_some_iff.1 Tryd.size106
  have q2 := fun w => run_eql_iface_ptr_same (P := Tryd.prog) w a Tryd.underlying28 Tryd.underlying82 hi hcmp hj
  go_quiet ((go_at_call 9; refine Calls.quiet_of_same ((Is_hit b a _ ?_).mono fun e w' h => ⟨h.1, h.2.symm⟩); simpa using c1))
  go_wp2_with fail
  refine bodyPost_ret (v := .agg #[.int .i64 8, .int .i64 3, .int .i64 0, .string ⟨#[]⟩]) (by simp [results, Tryd.results6, go_sem, r0, r1, r2, r3]) rfl ⟨rfl, ?_⟩
  repeat (refine Below.setCell ?_ (by simp) _)
  exact below_drewN hbel2 _

theorem Tryd.not36 (v : Value) (w : World) : (Instr.typeAssert (.iface 31 v) 28 36 true).run Tryd.prog w = .ok (.tuple #[.pointer none, .bool false]) w := by kernel_rfl
theorem Tryd.not39 (v : Value) (w : World) : (Instr.typeAssert (.iface 31 v) 28 39 true).run Tryd.prog w = .ok (.tuple #[.pointer none, .bool false]) w := by kernel_rfl
theorem Tryd.is31 (v : Value) (w : World) : (Instr.typeAssert (.iface 31 v) 28 31 true).run Tryd.prog w = .ok (.tuple #[v, .bool true]) w := by kernel_rfl

set_option maxRecDepth 100000 in
set_option maxHeartbeats 1000000 in
/-- Of at a *HoldError of ErrDivide at 3. -/
theorem of_hold (b : Nat) (a : Addr) (w : World) (hb : b < w.heap.size) (hs : 8 < w.heap.size) (hA : w.cell? ⟨b, 0, none⟩ = some (.int .i64 3)) (hc : w.cell? ⟨b, 1, none⟩ = some (.iface 82 (.pointer (some a))))
    (g5 : w.cell? ⟨5, 0, none⟩ = some (.iface 82 (.pointer (some a)))) (g8 : w.cell? ⟨8, 0, none⟩ = some (.iface 68 (.agg #[.pointer (some ⟨9, 28, none⟩)]))) :
    Calls Tryd.prog 5 #[.iface 31 (.pointer (some ⟨b, 0, none⟩))] w fun e w' => e = .returned (.agg #[.int .i64 8, .int .i64 3, .int .i64 0, .string ⟨#[]⟩]) ∧ Below w.heap.size w w' := by
  have e : ∀ k o, k < w.heap.size → (w.alloc (.cells #[.int .i64 0, .int .i64 0, .int .i64 0, .string ⟨#[]⟩] 23)).cell? ⟨k, o, none⟩ = w.cell? ⟨k, o, none⟩ := fun k o hk => World.cell?_alloc_past _ _ _ hk
  have C := hold_divide b a (w.alloc (.cells #[.int .i64 0, .int .i64 0, .int .i64 0, .string ⟨#[]⟩] 23)) (by simp; omega) (by simp; omega) ((e _ _ hb).trans hA) ((e _ _ hb).trans hc) ((e _ _ (by omega)).trans g5) ((e _ _ hs).trans g8)
  have HC := Lib.hid C
  clear C e hA hc g5 g8
  have k36 := Tryd.not36
  have k39 := Tryd.not39
  have k31 := Tryd.is31
  have n0 : w.heap.size < (w.alloc (.cells #[.int .i64 0, .int .i64 0, .int .i64 0, .string ⟨#[]⟩] 23)).heap.size := by simp
  go_enter Tryd.func5, Tryd.ntmps5
  go_wp2_with fail
  refine HC.out.mono ?_
  rintro e w1 ⟨rfl, hb1⟩
  have c0 := hb1.cell (p := ⟨w.heap.size, 0, none⟩) n0
  have c1 := hb1.cell (p := ⟨w.heap.size, 1, none⟩) n0
  have c2 := hb1.cell (p := ⟨w.heap.size, 2, none⟩) n0
  have c3 := hb1.cell (p := ⟨w.heap.size, 3, none⟩) n0
  have f0 : ∀ o, w1.frozen? ⟨w.heap.size, o, none⟩ = false := fun o => (hb1.frozen (p := ⟨w.heap.size, o, none⟩) n0).trans (by simp)
  simp at c0 c1 c2 c3
  go_wp2_with fail
  refine bodyPost_ret (v := .agg #[.int .i64 8, .int .i64 3, .int .i64 0, .string ⟨#[]⟩]) (by simp [results, Tryd.results5, go_sem, c0, c1, c2, c3]) rfl ⟨rfl, ?_⟩
  repeat (refine Below.setCell ?_ (by simp) _)
  exact ((Below.refl _ _).alloc (Nat.le_refl _) _).trans (hb1.mono (by simp))
end Go.Proofs.YtacjjmdhiphckaaDoor
