/- package plain's Same over eight different sentinels: (true, Told{Divide, 3}); Names: true. -/
import Derived.Test.YtacjjmdhiphckaaDoorHold
namespace Go.Proofs.YtacjjmdhiphckaaDoor
open Go.RowKit Go.Extern.Stop Go.Stop Go.Extern

theorem run_neq_iface_ptr_other {P : Program} (w : World) {ti tp te : TypeId} {ms : Array (String × TypeId)} {i j : TypeInfo} {a b : Addr} {ca cb : Array Value} {ta tb : TypeId}
    (hi : P.underlying ti = some (.interface ms)) (hp : P.underlying tp = some (.pointer te)) (hinfo : P.info? tp = some i) (hcomp : i.comparable = true) (hte : P.info? te = some j) (hsz : j.size ≠ 0)
    (hne : a ≠ b) (ha : w.heap[a.block]? = some (.cells ca ta (0, 0))) (hb : w.heap[b.block]? = some (.cells cb tb (0, 0))) :
    (binOp .neq ti (.iface tp (.pointer (some a))) (.iface tp (.pointer (some b)))).run P w = .ok (.bool true) w := by
  simp only [binOp]
  simp [Op.equal, Op.maxDepth, run_equalIn_iface_ptr_other w 9998 hi hp hinfo hcomp hte hsz hne ha hb]

/-- The eight sentinels' places: in eight blocks of cells, no two the same. -/
structure Eight (A : Nat → Addr) (w : World) : Prop where
  ne : ∀ i j, i < 8 → j < 8 → i ≠ j → A i ≠ A j
  blk : ∀ i, i < 8 → ∃ c t, w.heap[(A i).block]? = some (.cells c t (0, 0))

theorem Eight.below {A : Nat → Addr} {w w' : World} (h : Eight A w) (hb : Below w.heap.size w w') : Eight A w' :=
  ⟨h.ne, fun i hi => by
    obtain ⟨c, t, e⟩ := h.blk i hi
    refine ⟨c, t, ?_⟩
    rw [hb.block _ ?_]
    · exact e
    · rcases Nat.lt_or_ge (A i).block w.heap.size with h | h
      · exact h
      · simp [Array.getElem?_eq_none h] at e⟩

theorem Eight.neq {A : Nat → Addr} {w : World} (h : Eight A w) {i j : Nat} (hi : i < 8) (hj : j < 8) (hij : j < i) (m : Nat) :
    (binOp .neq 28 (.iface 82 (.pointer (some (A i)))) (.iface 82 (.pointer (some (A j))))).run Tryd.prog (w.drewN m) = .ok (.bool true) (w.drewN m) := by
  obtain ⟨i0, hi0, hcmp⟩ := Option.map_eq_some_iff.1 Tryd.comp82
  obtain ⟨j0, hj0, hs⟩ := Option.map_eq_some_iff.1 Tryd.size106
  obtain ⟨c, t, e⟩ := h.blk i hi
  obtain ⟨c', t', e'⟩ := h.blk j hj
  exact run_neq_iface_ptr_other (P := Tryd.prog) (w.drewN m) Tryd.underlying28 Tryd.underlying82 hi0 hcmp hj0 (by rw [hs]; decide) (h.ne i j hi hj (by omega)) e e'

/-- What Same's walk knows of a world: the list's eight cells in block n + 1, two variables, the result's own cell in block n. -/
structure SF (n : Nat) (A : Nat → Addr) (W : World) : Prop where
  l8 : 8 < n
  sz : n + 2 ≤ W.heap.size
  e8 : Eight A W
  cl : ∀ k, k < 8 → W.cell? ⟨n + 1, k, none⟩ = some (.iface 82 (.pointer (some (A k))))
  g5 : W.cell? ⟨5, 0, none⟩ = some (.iface 82 (.pointer (some (A 5))))
  g8 : W.cell? ⟨8, 0, none⟩ = some (.iface 68 (.agg #[.pointer (some ⟨9, 28, none⟩)]))
  r0 : W.cell? ⟨n, 0, none⟩ = some (.int .i64 0)
  r1 : W.cell? ⟨n, 1, none⟩ = some (.int .i64 0)
  r2 : W.cell? ⟨n, 2, none⟩ = some (.int .i64 0)
  r3 : W.cell? ⟨n, 3, none⟩ = some (.string ⟨#[]⟩)
  fr : ∀ o, W.frozen? ⟨n, o, none⟩ = false

theorem SF.below {n : Nat} {A : Nat → Addr} {W W' : World} (h : SF n A W) (hb : Below W.heap.size W W') : SF n A W' := by
  have hs := h.sz
  have h8 := h.l8
  have e : ∀ k o, k < n + 2 → W'.cell? ⟨k, o, none⟩ = W.cell? ⟨k, o, none⟩ := fun k o hk => hb.cell (p := ⟨k, o, none⟩) (by show k < _; omega)
  have f : ∀ k o, k < n + 2 → W'.frozen? ⟨k, o, none⟩ = W.frozen? ⟨k, o, none⟩ := fun k o hk => hb.frozen (p := ⟨k, o, none⟩) (by show k < _; omega)
  exact ⟨h8, Nat.le_trans hs hb.size, h.e8.below hb, fun k hk => (e _ _ (by omega)).trans (h.cl k hk), (e _ _ (by omega)).trans h.g5, (e _ _ (by omega)).trans h.g8,
    (e _ _ (by omega)).trans h.r0, (e _ _ (by omega)).trans h.r1, (e _ _ (by omega)).trans h.r2, (e _ _ (by omega)).trans h.r3, fun o => (f _ _ (by omega)).trans (h.fr o)⟩

def sw (A : Nat → Addr) (w : World) : World := (w.alloc (.cells #[.int .i64 0, .int .i64 0, .int .i64 0, .string ⟨#[]⟩] 23)).alloc (.cells #[.iface 82 (.pointer (some (A 0))), .iface 82 (.pointer (some (A 1))), .iface 82 (.pointer (some (A 2))), .iface 82 (.pointer (some (A 3))),
  .iface 82 (.pointer (some (A 4))), .iface 82 (.pointer (some (A 5))), .iface 82 (.pointer (some (A 6))), .iface 82 (.pointer (some (A 7)))] 28)
theorem sw_eq (A : Nat → Addr) (w : World) : (w.alloc (.cells #[.int .i64 0, .int .i64 0, .int .i64 0, .string ⟨#[]⟩] 23)).alloc (.cells #[.iface 82 (.pointer (some (A 0))), .iface 82 (.pointer (some (A 1))), .iface 82 (.pointer (some (A 2))), .iface 82 (.pointer (some (A 3))),
  .iface 82 (.pointer (some (A 4))), .iface 82 (.pointer (some (A 5))), .iface 82 (.pointer (some (A 6))), .iface 82 (.pointer (some (A 7)))] 28) = sw A w := rfl
theorem sw_below (A : Nat → Addr) (w : World) : Below w.heap.size w (sw A w) := ((Below.refl _ _).alloc (Nat.le_refl _) _).alloc (by simp) _

theorem SF.start {A : Nat → Addr} {w : World} (hs : 8 < w.heap.size) (h8 : Eight A w) (g5 : w.cell? ⟨5, 0, none⟩ = some (.iface 82 (.pointer (some (A 5)))))
    (gh : w.cell? ⟨8, 0, none⟩ = some (.iface 68 (.agg #[.pointer (some ⟨9, 28, none⟩)]))) : SF w.heap.size A (sw A w) := by
  have h := sw_below A w
  have e : ∀ k o, k < w.heap.size → (sw A w).cell? ⟨k, o, none⟩ = w.cell? ⟨k, o, none⟩ := fun k o hk => h.cell (p := ⟨k, o, none⟩) hk
  refine ⟨hs, by simp [sw], h8.below h, ?_, (e _ _ (by omega)).trans g5, (e _ _ hs).trans gh, ?_, ?_, ?_, ?_, ?_⟩
  · intro k hk
    match k, hk with
    | 0, _ => simp [sw]
    | 1, _ => simp [sw]
    | 2, _ => simp [sw]
    | 3, _ => simp [sw]
    | 4, _ => simp [sw]
    | 5, _ => simp [sw]
    | 6, _ => simp [sw]
    | 7, _ => simp [sw]
  all_goals simp [sw]

set_option maxRecDepth 100000 in
set_option maxHeartbeats 4000000 in
theorem same_any (A : Nat → Addr) (w : World) (hs : 8 < w.heap.size) (h8 : Eight A w)
    (g0 : w.cell? ⟨0, 0, none⟩ = some (.iface 82 (.pointer (some (A 0))))) (g1 : w.cell? ⟨1, 0, none⟩ = some (.iface 82 (.pointer (some (A 1)))))
    (g2 : w.cell? ⟨2, 0, none⟩ = some (.iface 82 (.pointer (some (A 2))))) (g3 : w.cell? ⟨3, 0, none⟩ = some (.iface 82 (.pointer (some (A 3)))))
    (g4 : w.cell? ⟨4, 0, none⟩ = some (.iface 82 (.pointer (some (A 4))))) (g5 : w.cell? ⟨5, 0, none⟩ = some (.iface 82 (.pointer (some (A 5)))))
    (g6 : w.cell? ⟨6, 0, none⟩ = some (.iface 82 (.pointer (some (A 6))))) (g7 : w.cell? ⟨7, 0, none⟩ = some (.iface 82 (.pointer (some (A 7)))))
    (gh : w.cell? ⟨8, 0, none⟩ = some (.iface 68 (.agg #[.pointer (some ⟨9, 28, none⟩)]))) :
    Calls Tryd.prog 4 #[] w fun e w' => e = .returned (.tuple #[.bool true, .agg #[.int .i64 8, .int .i64 3, .int .i64 0, .string ⟨#[]⟩]]) ∧ Below w.heap.size w w' := by
  have q0 : ∀ (o : Obj) k, k < w.heap.size → (w.alloc o).cell? ⟨k, 0, none⟩ = w.cell? ⟨k, 0, none⟩ := fun o k hk => World.cell?_alloc_past _ _ _ hk
  have a0 := fun o => (q0 o 0 (by omega)).trans g0
  have a1 := fun o => (q0 o 1 (by omega)).trans g1
  have a2 := fun o => (q0 o 2 (by omega)).trans g2
  have a3 := fun o => (q0 o 3 (by omega)).trans g3
  have a4 := fun o => (q0 o 4 (by omega)).trans g4
  have a5 := fun o => (q0 o 5 (by omega)).trans g5
  have a6 := fun o => (q0 o 6 (by omega)).trans g6
  have a7 := fun o => (q0 o 7 (by omega)).trans g7
  clear q0
  go_enter Tryd.func4, Tryd.ntmps4
  go_wp2_with fail
  rw [sw_eq]
  have H0 := SF.start hs h8 g5 gh
  have hbel := sw_below A w
  obtain ⟨W, hW⟩ : ∃ W, sw A w = W := ⟨_, rfl⟩
  rw [hW] at H0 hbel ⊢
  clear hW a0 a1 a2 a3 a4 a5 a6 a7 g0 g1 g2 g3 g4 g5 g6 g7 gh h8
  go_loopw [3, 17] (fun ok i wr => ∃ k : Nat, k ≤ 8 ∧ i = .int .i64 k ∧ ok = .bool true ∧ ∃ m, wr = W.drewN m) (fun _ i _ => 8 - (intOf i).toNat)
  case atStart => exact ⟨0, by omega, rfl, rfl, 0, rfl⟩
  case round =>
    obtain ⟨k, hk, rfl, rfl, m, rfl⟩ := hrel
    by_cases hlt : k < 8
    · have ck := H0.cl k hlt
      go_wp2_with fail
      obtain ⟨W2, hW2⟩ : ∃ W2, W.drewN m = W2 := ⟨_, rfl⟩
      rw [hW2]
      have HW2 := Lib.hid hW2
      clear hW2
      go_loopw [3, 29] (fun ok j wr => ∃ l : Nat, l ≤ k ∧ j = .int .i64 l ∧ ok = .bool true ∧ ∃ m, wr = W.drewN m) (fun _ j _ => k - (intOf j).toNat)
      case atStart => exact ⟨0, by omega, rfl, rfl, m, HW2.out.symm⟩
      case round =>
        obtain ⟨l, hl, rfl, rfl, m2, rfl⟩ := hrel
        by_cases hlk : l < k
        · have cl := H0.cl l (by omega)
          have q := H0.e8.neq hlt (show l < 8 by omega) hlk
          go_wp2_with fail
          go_quiet (fail)
          go_wp2_with fail
          go_roundw
          case rel => exact ⟨l + 1, by omega, by go_num, rfl, _, rfl⟩
          case measure => simp [intOf]; omega
        · go_wp2_with fail
          go_roundw
          case rel => exact ⟨k + 1, by omega, by go_num, rfl, _, rfl⟩
          case measure => simp [intOf]; omega
    · have g5 := H0.g5
      go_wp2_with fail
      have H1 := H0.below ((below_drewN (Below.refl W.heap.size W) m).alloc (Nat.le_refl _) (.cells #[.int .i64 3, .iface 82 (.pointer (some (A 5)))] 35))
      have hbel1 : Below w.heap.size w ((W.drewN m).alloc (.cells #[.int .i64 3, .iface 82 (.pointer (some (A 5)))] 35)) := (below_drewN hbel m).alloc hbel.size _
      have hc0 : ((W.drewN m).alloc (.cells #[.int .i64 3, .iface 82 (.pointer (some (A 5)))] 35)).cell? ⟨W.heap.size, 0, none⟩ = some (.int .i64 3) := World.cell?_alloc_at _ _ _ _ rfl
      have hc1 : ((W.drewN m).alloc (.cells #[.int .i64 3, .iface 82 (.pointer (some (A 5)))] 35)).cell? ⟨W.heap.size, 1, none⟩ = some (.iface 82 (.pointer (some (A 5)))) := World.cell?_alloc_at _ _ _ _ rfl
      have hsz : W.heap.size < ((W.drewN m).alloc (.cells #[.int .i64 3, .iface 82 (.pointer (some (A 5)))] 35)).heap.size := by simp
      obtain ⟨W1, hW1⟩ : ∃ W1, (W.drewN m).alloc (.cells #[.int .i64 3, .iface 82 (.pointer (some (A 5)))] 35) = W1 := ⟨_, rfl⟩
      rw [hW1] at H1 hbel1 hc0 hc1 hsz ⊢
      clear hW1
      have h8 := H1.l8
      have hs1 := H1.sz
      refine (of_hold W.heap.size (A 5) W1 hsz (by omega) hc0 hc1 H1.g5 H1.g8).mono ?_
      rintro e w2 ⟨rfl, hb2⟩
      have H2 := H1.below hb2
      have hbel2 := hbel1.trans (hb2.mono (by omega))
      clear H0 H1 hbel hbel1 hb2 hc0 hc1 g5
      obtain ⟨_, _, _, _, _, _, r0, r1, r2, r3, fr⟩ := H2
      go_wp2_with fail
      refine bodyPost_ret (v := .tuple #[.bool true, .agg #[.int .i64 8, .int .i64 3, .int .i64 0, .string ⟨#[]⟩]]) (by simp [results, Tryd.results4, go_sem, r0, r1, r2, r3]) rfl ⟨rfl, ?_⟩
      repeat (refine Below.setCell ?_ (by simp) _)
      exact hbel2

set_option maxRecDepth 100000 in
set_option maxHeartbeats 1000000 in
theorem names_any (A : Nat → Addr) (w : World) (hs : 8 < w.heap.size) (h8 : Eight A w)
    (g0 : w.cell? ⟨0, 0, none⟩ = some (.iface 82 (.pointer (some (A 0))))) (g1 : w.cell? ⟨1, 0, none⟩ = some (.iface 82 (.pointer (some (A 1)))))
    (g2 : w.cell? ⟨2, 0, none⟩ = some (.iface 82 (.pointer (some (A 2))))) (g3 : w.cell? ⟨3, 0, none⟩ = some (.iface 82 (.pointer (some (A 3)))))
    (g4 : w.cell? ⟨4, 0, none⟩ = some (.iface 82 (.pointer (some (A 4))))) (g5 : w.cell? ⟨5, 0, none⟩ = some (.iface 82 (.pointer (some (A 5)))))
    (g6 : w.cell? ⟨6, 0, none⟩ = some (.iface 82 (.pointer (some (A 6))))) (g7 : w.cell? ⟨7, 0, none⟩ = some (.iface 82 (.pointer (some (A 7)))))
    (gh : w.cell? ⟨8, 0, none⟩ = some (.iface 68 (.agg #[.pointer (some ⟨9, 28, none⟩)]))) :
    Calls Tryd.prog 3 #[] w fun e w' => e = .returned (.bool true) ∧ Below w.heap.size w w' := by
  have HC := Lib.hid (same_any A w hs h8 g0 g1 g2 g3 g4 g5 g6 g7 gh)
  clear h8 g0 g1 g2 g3 g4 g5 g6 g7 gh
  go_enter Tryd.func3, Tryd.ntmps3
  go_wp2_with fail
  refine HC.out.mono ?_
  rintro e w1 ⟨rfl, hb1⟩
  go_wp2_with fail
  go_ret
  exact ⟨rfl, hb1.alloc hb1.size _⟩
end Go.Proofs.YtacjjmdhiphckaaDoor
