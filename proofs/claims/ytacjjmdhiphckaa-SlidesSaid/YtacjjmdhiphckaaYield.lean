/- Slides: the function that Windows.All hands to the window's iterator. -/
import Derived.Test.YtacjjmdhiphckaaMem
import Derived.Test.YtacjjmdhiphckaaProg
import Derived.WalkLawsBesides
import Derived.Deep.RegionLaw
import Derived.BigQuiet
import Derived.Deep.QuietTactic
namespace Go.Proofs.Ytacjjmdhiphckaa
open Go.RowKit

theorem Try.info2 : (Try.prog.info? 2).map (fun i => (i.zero, i.size, i.bytes)) = some (some (.int .i64 0), 1, 8) := by kernel_rfl

theorem ownsRow_tch {W W' : World} {base : Nat} {e : TypeId} {size : Nat} {v : Value} {n : Nat} {xs : List Value} {S : Nat → Prop} (h : W.ownsRow base e size v n xs) (ht : Tch S W W') (hn : ∀ g, v.ownBlock = some g → ¬ S g) : W'.ownsRow base e size v n xs := by
  refine ⟨h.1, ?_⟩
  rcases h.2 with h2 | ⟨g, cap, cur, rfl, hb, hg, r⟩
  · exact .inl h2
  · exact .inr ⟨g, cap, cur, rfl, hb, ht.heap hg (hn g rfl), r⟩

/-- The state of Windows.All: right, stopped, the two lists, the number. -/
structure AllSt (W : World) (base br bs bt bv bn : Nat) (n : Int) (stopped : Bool) (vt vv : Value) (ts vs : List Int) : Prop where
  hR : W.heap[br]? = some (.cells #[.bool true] 4 (0, 0))
  hS : W.heap[bs]? = some (.cells #[.bool stopped] 4 (0, 0))
  hT : W.heap[bt]? = some (.cells #[vt] 61 (0, 0))
  hV : W.heap[bv]? = some (.cells #[vv] 61 (0, 0))
  hN : W.heap[bn]? = some (.cells #[.int .i64 n] 3 (0, 0))
  ot : W.ownsRow base 2 1 vt ts.length (ts.map (Value.int .i64))
  ov : W.ownsRow base 2 1 vv vs.length (vs.map (Value.int .i64))
  ne : ∀ k, vt.ownBlock = some k → vv.ownBlock ≠ some k
  len : vs.length = ts.length
  dT : bt ≠ bv
  dR : br ≠ bs
  bb : base ≤ W.heap.size

def allFoot (br bs bt bv : Nat) (vt vv : Value) (k : Nat) : Prop := k = br ∨ k = bs ∨ k = bt ∨ k = bv ∨ vt.ownBlock = some k ∨ vv.ownBlock = some k

theorem Tch.allocR {S : Nat → Prop} {a w : World} (h : Tch S a w) (o : Obj) : Tch S a (w.alloc o) := h.trans (Tch.alloc S w o) (fun _ _ h => h)
theorem Tch.drewR {S : Nat → Prop} {a w : World} (h : Tch S a w) : Tch S a w.drew := h.trans (Tch.drewN S w 1) (fun _ _ h => h)
theorem news_at {W : World} {B : Nat} {v : Value} (h : W.cell? ⟨B, 0, none⟩ = some v) : ∀ j u, [v][j]? = some u → W.cell? ((⟨B, 0, none⟩ : Addr).add j) = some u := by
  intro j u hu
  match j, hu with
  | 0, hu => simp at hu; subst hu; simpa [Addr.add] using h
  | j + 1, hu => simp at hu
theorem owns_far {W : World} {base : Nat} {e T : TypeId} {size : Nat} {v : Value} {n : Nat} {xs : List Value} {B : Nat} {cs : Array Value} (h : W.ownsRow base e size v n xs) (hB : W.heap[B]? = some (.cells cs T (0, 0))) (hne : T ≠ e) : v.ownBlock ≠ some B := by
  intro hk
  rcases h.2 with ⟨rfl, _⟩ | ⟨g, cap, cur, rfl, hb, hg, r⟩
  · simp [Value.ownBlock] at hk
  · have hk' : g = B := by simpa [Value.ownBlock] using hk
    subst hk'
    rw [hB] at hg
    cases hg
    exact hne rfl

/-- Behind the two appends: what stands where. -/
structure AllMid (W1 w3 : World) (base br bs bt bv bn : Nat) (n : Int) (vt vv vt' vv' : Value) (ts vs : List Int) : Prop where
  hR : w3.heap[br]? = some (.cells #[.bool true] 4 (0, 0))
  hS : w3.heap[bs]? = some (.cells #[.bool false] 4 (0, 0))
  hT : w3.heap[bt]? = some (.cells #[vt] 61 (0, 0))
  hV : w3.heap[bv]? = some (.cells #[vv] 61 (0, 0))
  hN : w3.heap[bn]? = some (.cells #[.int .i64 n] 3 (0, 0))
  ot : w3.ownsRow base 2 1 vt' ts.length (ts.map (Value.int .i64))
  ov : w3.ownsRow base 2 1 vv' vs.length (vs.map (Value.int .i64))
  ne : ∀ k, vt'.ownBlock = some k → vv'.ownBlock ≠ some k
  tch : Tch (fun k => vt.ownBlock = some k ∨ vv.ownBlock = some k) W1 w3

theorem AllMid.mk' {W1 X w2 Y w3 : World} {base br bs bt bv bn g1 g2 c1 c2 : Nat} {n t x : Int} {vt vv : Value} {ts vs : List Int} (h : AllSt W1 base br bs bt bv bn n false vt vv ts vs)
    (hX : Tch (fun _ => False) W1 X) (hg1 : X.grownBy w2 vt.ownBlock) (ho1 : w2.ownsRow base 2 1 (.slice (some ⟨g1, 0, none⟩) (ts.length + 1) c1) (ts.length + 1) (ts.map (Value.int .i64) ++ [.int .i64 t])) (ha1 : vt.ownBlock = some g1 ∨ g1 = X.heap.size) (hl1 : g1 < w2.heap.size)
    (hY : Tch (fun _ => False) w2 Y) (hg2 : Y.grownBy w3 vv.ownBlock) (ho2 : w3.ownsRow base 2 1 (.slice (some ⟨g2, 0, none⟩) (vs.length + 1) c2) (vs.length + 1) (vs.map (Value.int .i64) ++ [.int .i64 x])) (ha2 : vv.ownBlock = some g2 ∨ g2 = Y.heap.size) :
    AllMid W1 w3 base br bs bt bv bn n vt vv (.slice (some ⟨g1, 0, none⟩) (ts.length + 1) c1) (.slice (some ⟨g2, 0, none⟩) (vs.length + 1) c2) (ts ++ [t]) (vs ++ [x]) := by
  have vvlt : ∀ k, vv.ownBlock = some k → k < W1.heap.size := fun k hk => (h.ov.lt k hk).2
  have hT : Tch (fun k => vt.ownBlock = some k ∨ vv.ownBlock = some k) W1 w3 := by
    refine ((hX.mono (fun _ _ h => h.elim)).trans (Tch.of_grownBy hg1) (fun j _ h => .inl h)).trans ((hY.mono (T := fun k => vv.ownBlock = some k) (fun _ _ h => h.elim)).trans (Tch.of_grownBy hg2) (fun j _ h => h)) (fun j _ h => .inr h)
  have far : ∀ {B : Nat} {cs : Array Value} {T : TypeId}, W1.heap[B]? = some (.cells cs T (0, 0)) → T ≠ 2 → w3.heap[B]? = some (.cells cs T (0, 0)) := fun hB hne =>
    hT.heap hB (fun s => s.elim (owns_far h.ot hB hne) (owns_far h.ov hB hne))
  have hsX := hX.size
  have hs1 := hg1.size
  have hsY := hY.size
  have g1vv : vv.ownBlock ≠ some g1 := by
    intro e
    rcases ha1 with e1 | e1
    · exact h.ne g1 e1 e
    · have := vvlt g1 e; omega
  refine ⟨far h.hR (by decide), far h.hS (by decide), far h.hT (by decide), far h.hV (by decide), far h.hN (by decide), ?_, ?_, ?_, hT⟩
  · rw [List.length_append, List.map_append]
    exact ownsRow_tch (ownsRow_tch ho1 hY (fun _ _ h => h)) (Tch.of_grownBy hg2) (fun g hg e => g1vv (by rw [e, ← hg]; rfl))
  · rw [List.length_append, List.map_append]
    exact ho2
  · intro k hk e
    have hk1 : g1 = k := by simpa [Value.ownBlock] using hk
    have hk2 : g2 = k := by simpa [Value.ownBlock] using e
    subst hk1
    rcases ha2 with e2 | e2
    · exact g1vv (by rw [e2, hk2])
    · omega

theorem AllMid.two {W1 w3 : World} {base br bs bt bv bn : Nat} {n : Int} {vt vv vt' vv' : Value} {ts vs : List Int} (_ : AllMid W1 w3 base br bs bt bv bn n vt vv vt' vv' ts vs) {k k' : Nat} {c c' : Array Value} {t t' : TypeId} (h1 : w3.heap[k]? = some (.cells c t (0, 0))) (h2 : w3.heap[k']? = some (.cells c' t' (0, 0))) (hne : t ≠ t') : k ≠ k' := by
  intro he
  subst he
  rw [h1] at h2
  cases h2
  exact hne rfl

theorem AllMid.fin {w W1 w3 : World} {base br bs bt bv bn : Nat} {n : Int} {vt vv vt' vv' : Value} {ts vs : List Int} (m : AllMid W1 w3 base br bs bt bv bn n vt vv vt' vv' ts vs) (hw : Tch (· = br) w W1) (hlen : vs.length = ts.length) (dT : bt ≠ bv) (dR : br ≠ bs) (bb : base ≤ w.heap.size) (stop : Bool) :
    AllSt (((w3.setCell ⟨bt, 0, none⟩ vt').setCell ⟨bv, 0, none⟩ vv').setCell ⟨bs, 0, none⟩ (.bool stop)) base br bs bt bv bn n stop vt' vv' ts vs ∧ Tch (allFoot br bs bt bv vt vv) w (((w3.setCell ⟨bt, 0, none⟩ vt').setCell ⟨bv, 0, none⟩ vv').setCell ⟨bs, 0, none⟩ (.bool stop)) := by
  have two : ∀ {k k' : Nat} {c c' : Array Value} {t t' : TypeId}, w3.heap[k]? = some (.cells c t (0, 0)) → w3.heap[k']? = some (.cells c' t' (0, 0)) → t ≠ t' → k ≠ k' := by
    intro k k' c c' t t' h1 h2 hne he
    subst he
    rw [h1] at h2
    cases h2
    exact hne rfl
  have e1 := two m.hT m.hR (by decide)
  have e2 := two m.hT m.hS (by decide)
  have e3 := two m.hT m.hN (by decide)
  have e4 := two m.hV m.hR (by decide)
  have e5 := two m.hV m.hS (by decide)
  have e6 := two m.hV m.hN (by decide)
  have e7 := two m.hS m.hN (by decide)
  have tt : Tch (fun k => k = bt ∨ k = bv ∨ k = bs) w3 (((w3.setCell ⟨bt, 0, none⟩ vt').setCell ⟨bv, 0, none⟩ vv').setCell ⟨bs, 0, none⟩ (.bool stop)) :=
    ((Tch.setCell (S := fun k => k = bt ∨ k = bv ∨ k = bs) w3 (a := ⟨bt, 0, none⟩) (.inl rfl) _).trans (Tch.setCell (S := fun k => k = bt ∨ k = bv ∨ k = bs) _ (a := ⟨bv, 0, none⟩) (.inr (.inl rfl)) _) (fun _ _ h => h)).trans (Tch.setCell (S := fun k => k = bt ∨ k = bv ∨ k = bs) _ (a := ⟨bs, 0, none⟩) (.inr (.inr rfl)) _) (fun _ _ h => h)
  have hsz : w.heap.size ≤ w3.heap.size := Nat.le_trans hw.size m.tch.size
  refine ⟨⟨tt.heap m.hR (fun s => by rcases s with s | s | s; exact e1 s.symm; exact e4 s.symm; exact dR s), ?_, ?_, ?_, tt.heap m.hN (fun s => by rcases s with s | s | s; exact e3 s.symm; exact e6 s.symm; exact e7 s.symm), ?_, ?_, m.ne, hlen, dT, dR, by have := tt.size; omega⟩, ?_⟩
  · refine heap_setCell_at (o := 0) (c := #[.bool false]) ?_ _
    rw [Below.heap_setCell _ _ _ _ e5.symm, Below.heap_setCell _ _ _ _ e2.symm]
    exact m.hS
  · rw [Below.heap_setCell _ _ _ _ e2, Below.heap_setCell _ _ _ _ dT]
    exact heap_setCell_at (o := 0) m.hT _
  · rw [Below.heap_setCell _ _ _ _ e5]
    refine heap_setCell_at (o := 0) (c := #[vv]) ?_ _
    rw [Below.heap_setCell _ _ _ _ (Ne.symm dT)]
    exact m.hV
  · exact ownsRow_tch m.ot tt (fun g hg s => by
      rcases s with rfl | rfl | rfl
      · exact owns_far m.ot m.hT (by decide) hg
      · exact owns_far m.ot m.hV (by decide) hg
      · exact owns_far m.ot m.hS (by decide) hg)
  · exact ownsRow_tch m.ov tt (fun g hg s => by
      rcases s with rfl | rfl | rfl
      · exact owns_far m.ov m.hT (by decide) hg
      · exact owns_far m.ov m.hV (by decide) hg
      · exact owns_far m.ov m.hS (by decide) hg)
  · refine ((hw.mono (T := allFoot br bs bt bv vt vv) (fun _ _ h => .inl h)).trans m.tch (fun _ _ h => h.elim (fun e => .inr (.inr (.inr (.inr (.inl e))))) (fun e => .inr (.inr (.inr (.inr (.inr e))))))).trans tt (fun _ _ h => ?_)
    rcases h with h | h | h
    · exact .inr (.inr (.inl h))
    · exact .inr (.inr (.inr (.inl h)))
    · exact .inr (.inl h)

theorem AllSt.setR {w : World} {base br bs bt bv bn : Nat} {n : Int} {vt vv : Value} {ts vs : List Int} (h : AllSt w base br bs bt bv bn n false vt vv ts vs) :
    AllSt (w.setCell ⟨br, 0, none⟩ (.bool true)) base br bs bt bv bn n false vt vv ts vs ∧ Tch (· = br) w (w.setCell ⟨br, 0, none⟩ (.bool true)) := by
  have two : ∀ {k k' : Nat} {c c' : Array Value} {t t' : TypeId}, w.heap[k]? = some (.cells c t (0, 0)) → w.heap[k']? = some (.cells c' t' (0, 0)) → t ≠ t' → k ≠ k' := by
    intro k k' c c' t t' h1 h2 hne he
    subst he
    rw [h1] at h2
    cases h2
    exact hne rfl
  have tt : Tch (· = br) w (w.setCell ⟨br, 0, none⟩ (.bool true)) := Tch.setCell (S := (· = br)) _ (a := ⟨br, 0, none⟩) rfl _
  refine ⟨⟨heap_setCell_at (o := 0) h.hR _, tt.heap h.hS h.dR.symm, tt.heap h.hT (two h.hT h.hR (by decide)), tt.heap h.hV (two h.hV h.hR (by decide)), tt.heap h.hN (two h.hN h.hR (by decide)), ownsRow_tch h.ot tt (fun g hg e => owns_far h.ot h.hR (by decide) (by rw [hg, e])), ownsRow_tch h.ov tt (fun g hg e => owns_far h.ov h.hR (by decide) (by rw [hg, e])), h.ne, h.len, h.dT, h.dR, by have := tt.size; have := h.bb; omega⟩, tt⟩

set_option maxRecDepth 100000 in
set_option maxHeartbeats 20000000 in
theorem yield_any (t x n : Int) (base br bs bt bv bn : Nat) (vt vv : Value) (ts vs : List Int) (w : World) (h : AllSt w base br bs bt bv bn n false vt vv ts vs) (hl : ts.length < 100) (stop : Bool) (hn : ((ts.length : Int) + 1 == n) = stop) :
    Calls Try.prog 32 #[.int .i64 t, .int .i64 x, .pointer (some ⟨br, 0, none⟩), .pointer (some ⟨bs, 0, none⟩), .pointer (some ⟨bt, 0, none⟩), .pointer (some ⟨bv, 0, none⟩), .pointer (some ⟨bn, 0, none⟩)] w fun e w' =>
      e = .returned (.bool (!stop)) ∧ ∃ vt' vv', AllSt w' base br bs bt bv bn n stop vt' vv' (ts ++ [t]) (vs ++ [x]) ∧ Tch (allFoot br bs bt bv vt vv) w w' := by
  obtain ⟨i0, hi, hz0, hz1, hz2⟩ := info_parts Try.info2
  obtain ⟨H1, HT1⟩ := h.setR
  have cR := cell_of_one h.hR
  have cS := cell_of_one h.hS
  have fR := free_of_one h.hR
  have hbw := h.bb
  have dT := h.dT
  have dR := h.dR
  have lenv := h.len
  clear h
  go_enter Try.func32, Try.ntmps32
  go_wp2_with fail
  obtain ⟨W1, hW1⟩ : ∃ W1, w.setCell ⟨br, 0, none⟩ (.bool true) = W1 := ⟨_, rfl⟩
  rw [hW1] at H1 HT1 ⊢
  clear hW1 cR cS fR
  have hlv : vs.length < 100 := by omega
  have HLv := Lib.hid lenv
  clear lenv
  have cT := cell_of_one H1.hT
  have cV := cell_of_one H1.hV
  have bb := H1.bb
  have ot := H1.ot
  have ov := H1.ov
  have vtlt : ∀ k, vt.ownBlock = some k → k < W1.heap.size := fun k hk => (H1.ot.lt k hk).2
  have vvlt : ∀ k, vv.ownBlock = some k → k < W1.heap.size := fun k hk => (H1.ov.lt k hk).2
  have lV := lt_of_block H1.hV
  have vtV := owns_far H1.ot H1.hV (by decide)
  have lV1 : bv < W1.heap.size + 1 := by omega
  have neo : vv.ownBlock = none ∨ vv.ownBlock ≠ vt.ownBlock := by
    cases hv : vv.ownBlock with
    | none => exact .inl rfl
    | some k => exact .inr (fun e => H1.ne k e.symm hv)
  have lT := lt_of_block H1.hT
  have lT1 : bt < W1.heap.size + 1 := by omega
  go_region_law (first
    | (refine step_append_lies _ ?_ (.tmp 15) (.tmp 17) 61 ?_ base 2 i0 _ 1 8 Try.underlying61 hi hz0 hz1 hz2 rfl (by decide) vt ts.length (ts.map (Value.int .i64)) ?_ ?_ ⟨W1.heap.size, 0, none⟩ 1 1 [.int .i64 t] ?_ rfl ?_ (by simp [Value.oneCell']) (by decide) (by unfold maxLen; omega) (by omega) ?_ _ rfl ?_
       · rfl
       · rfl
       · simp [Act.eval]
       · first | exact (ot.alloc _).drew | exact ((ot.alloc _).alloc _).drew
       · (simp [Act.eval]; done)
       · (refine news_at ?_; simp [World.cell?_alloc_at, World.cell?_alloc_past]; done)
       · (simp; omega)
       intro g1 cap1 w2 hown1 hgrow1 hat1 hlt1
       have cV2 : w2.cell? ⟨bv, 0, none⟩ = some vv := by
         refine hgrow1.cell (v := vv) (a := ⟨bv, 0, none⟩) ?_ (Ne.symm vtV)
         simp [World.cell?_alloc_past, lV, lV1]
         exact cV
       have lV2 : bv < w2.heap.size := by have := hgrow1.size; simp at this; omega)
    | (refine step_append_lies _ ?_ (.tmp 15) (.tmp 17) 61 ?_ base 2 i0 _ 1 8 Try.underlying61 hi hz0 hz1 hz2 rfl (by decide) vt ts.length (ts.map (Value.int .i64)) ?_ ?_ ⟨W1.heap.size + 1, 0, none⟩ 1 1 [.int .i64 t] ?_ rfl ?_ (by simp [Value.oneCell']) (by decide) (by unfold maxLen; omega) (by omega) ?_ _ rfl ?_
       · rfl
       · rfl
       · simp [Act.eval]
       · first | exact (ot.alloc _).drew | exact ((ot.alloc _).alloc _).drew
       · (simp [Act.eval]; done)
       · (refine news_at ?_; simp [World.cell?_alloc_at]; done)
       · (simp; omega)
       intro g1 cap1 w2 hown1 hgrow1 hat1 hlt1
       have cV2 : w2.cell? ⟨bv, 0, none⟩ = some vv := by
         refine hgrow1.cell (v := vv) (a := ⟨bv, 0, none⟩) ?_ (Ne.symm vtV)
         simp [World.cell?_alloc_past, lV, lV1]
         exact cV
       have lV2 : bv < w2.heap.size := by have := hgrow1.size; simp at this; omega)
    | (refine step_append_lies _ ?_ (.tmp 19) (.tmp 21) 61 ?_ base 2 i0 _ 1 8 Try.underlying61 hi hz0 hz1 hz2 rfl (by decide) vv vs.length (vs.map (Value.int .i64)) ?_ ?_ ⟨W1.heap.size, 0, none⟩ 1 1 [.int .i64 x] ?_ rfl ?_ (by simp [Value.oneCell']) (by decide) (by unfold maxLen; omega) (by omega) ?_ _ rfl ?_
       · rfl
       · rfl
       · simp [Act.eval]
       · first | exact (ov.alloc _).drew.kept hgrow1 neo | exact ((ov.alloc _).alloc _).drew.kept hgrow1 neo | exact ((ov.alloc _).drew.kept hgrow1 neo).alloc _ | exact (((ov.alloc _).alloc _).drew.kept hgrow1 neo).alloc _
       · (simp [Act.eval]; done)
       · (refine news_at ?_; refine hgrow1.cell ?_ (fun e => absurd (vtlt (W1.heap.size) e.symm) (by omega)); simp [World.cell?_alloc_at, World.cell?_alloc_past]; done)
       · (have := hgrow1.size; simp at this ⊢; omega)
       intro g2 cap2 w3 hown2 hgrow2 hat2 hlt2
       have M := AllMid.mk' H1 (by first | exact ((Tch.refl _ _).allocR _).drewR | exact (((Tch.refl _ _).allocR _).allocR _).drewR) hgrow1 hown1 hat1 hlt1 (by first | exact Tch.refl _ _ | exact (Tch.refl _ _).allocR _) hgrow2 hown2 hat2
       have cT3 := cell_of_one M.hT
       have fT3 := free_of_one M.hT
       have cV3 := cell_of_one M.hV
       have fV3 := free_of_one M.hV)
    | (refine step_append_lies _ ?_ (.tmp 19) (.tmp 21) 61 ?_ base 2 i0 _ 1 8 Try.underlying61 hi hz0 hz1 hz2 rfl (by decide) vv vs.length (vs.map (Value.int .i64)) ?_ ?_ ⟨W1.heap.size + 1, 0, none⟩ 1 1 [.int .i64 x] ?_ rfl ?_ (by simp [Value.oneCell']) (by decide) (by unfold maxLen; omega) (by omega) ?_ _ rfl ?_
       · rfl
       · rfl
       · simp [Act.eval]
       · first | exact (ov.alloc _).drew.kept hgrow1 neo | exact ((ov.alloc _).alloc _).drew.kept hgrow1 neo | exact ((ov.alloc _).drew.kept hgrow1 neo).alloc _ | exact (((ov.alloc _).alloc _).drew.kept hgrow1 neo).alloc _
       · (simp [Act.eval]; done)
       · (refine news_at ?_; refine hgrow1.cell ?_ (fun e => absurd (vtlt (W1.heap.size + 1) e.symm) (by omega)); simp [World.cell?_alloc_at]; done)
       · (have := hgrow1.size; simp at this ⊢; omega)
       intro g2 cap2 w3 hown2 hgrow2 hat2 hlt2
       have M := AllMid.mk' H1 (by first | exact ((Tch.refl _ _).allocR _).drewR | exact (((Tch.refl _ _).allocR _).allocR _).drewR) hgrow1 hown1 hat1 hlt1 (by first | exact Tch.refl _ _ | exact (Tch.refl _ _).allocR _) hgrow2 hown2 hat2
       have cT3 := cell_of_one M.hT
       have fT3 := free_of_one M.hT
       have cV3 := cell_of_one M.hV
       have fV3 := free_of_one M.hV)
    | (refine step_append_lies _ ?_ (.tmp 19) (.tmp 21) 61 ?_ base 2 i0 _ 1 8 Try.underlying61 hi hz0 hz1 hz2 rfl (by decide) vv vs.length (vs.map (Value.int .i64)) ?_ ?_ ⟨w2.heap.size, 0, none⟩ 1 1 [.int .i64 x] ?_ rfl ?_ (by simp [Value.oneCell']) (by decide) (by unfold maxLen; omega) (by omega) ?_ _ rfl ?_
       · rfl
       · rfl
       · simp [Act.eval]
       · first | exact (ov.alloc _).drew.kept hgrow1 neo | exact ((ov.alloc _).alloc _).drew.kept hgrow1 neo | exact ((ov.alloc _).drew.kept hgrow1 neo).alloc _ | exact (((ov.alloc _).alloc _).drew.kept hgrow1 neo).alloc _
       · (simp [Act.eval]; done)
       · (refine news_at ?_; simp [World.cell?_alloc_at]; done)
       · (have := hgrow1.size; simp at this ⊢; omega)
       intro g2 cap2 w3 hown2 hgrow2 hat2 hlt2
       have M := AllMid.mk' H1 (by first | exact ((Tch.refl _ _).allocR _).drewR | exact (((Tch.refl _ _).allocR _).allocR _).drewR) hgrow1 hown1 hat1 hlt1 (by first | exact Tch.refl _ _ | exact (Tch.refl _ _).allocR _) hgrow2 hown2 hat2
       have cT3 := cell_of_one M.hT
       have fT3 := free_of_one M.hT
       have cV3 := cell_of_one M.hV
       have fV3 := free_of_one M.hV))
  all_goals
    have cS3 := cell_of_one M.hS
    have fS3 := free_of_one M.hS
    have cN3 := cell_of_one M.hN
  all_goals
    have e12 := M.two M.hT M.hS (by decide)
    have e13 := M.two M.hT M.hN (by decide)
    have e14 := M.two M.hV M.hS (by decide)
    have e15 := M.two M.hV M.hN (by decide)
    have e16 := Ne.symm dT
    have FIN := M.fin HT1 (by simp [HLv.out]) dT dR hbw
    clear M H1 HT1 ot ov vtlt vvlt neo
    cases stop
  all_goals
    have hk : decide ((1000 : Int) < (ts.length : Int) + 1) = false := by simp; omega
    go_wp2
    go_ret
    first
      | exact ⟨rfl, _, _, FIN _⟩
      | (simp only [hk]; exact ⟨rfl, _, _, FIN _⟩)
end Go.Proofs.Ytacjjmdhiphckaa
