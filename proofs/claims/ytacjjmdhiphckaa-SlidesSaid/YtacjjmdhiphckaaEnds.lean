/- Slides: two windows side by side: Len, Ends, Push, Advance. -/
import Derived.Test.YtacjjmdhiphckaaBest
namespace Go.Proofs.Ytacjjmdhiphckaa
open Go.RowKit

/-- Two windows side by side. -/
structure Wins (W : World) (p a b : Nat) (wid now : Int) (va vb : Value) (xs : List (Int × Int)) : Prop where
  hp : W.heap[p]? = some (.cells #[.pointer (some ⟨a, 0, none⟩), .pointer (some ⟨b, 0, none⟩)] 38 (0, 0))
  ha : W.heap[a]? = some (.cells #[.int .i64 wid, .int .i64 now, va] 47 (0, 0))
  hb : W.heap[b]? = some (.cells #[.int .i64 wid, .int .i64 now, vb] 50 (0, 0))
  ra : Row ei 84 W va xs
  rb : Row es 86 W vb xs

/-- The blocks that two windows stand in. -/
def wfoot (p a b : Nat) (va vb : Value) (k : Nat) : Prop := k = p ∨ k = a ∨ k = b ∨ va.ownBlock = some k ∨ vb.ownBlock = some k

theorem Wins.kept {W W' : World} {p a b : Nat} {wid now : Int} {va vb : Value} {xs : List (Int × Int)} {S : Nat → Prop} (h : Wins W p a b wid now va vb xs) (ht : Tch S W W') (hs : ∀ k, wfoot p a b va vb k → ¬ S k) : Wins W' p a b wid now va vb xs :=
  ⟨ht.heap h.hp (hs _ (.inl rfl)), ht.heap h.ha (hs _ (.inr (.inl rfl))), ht.heap h.hb (hs _ (.inr (.inr (.inl rfl)))), h.ra.kept ht (fun g hg => hs g (.inr (.inr (.inr (.inl hg))))), h.rb.kept ht (fun g hg => hs g (.inr (.inr (.inr (.inr hg)))))⟩
theorem Wins.lt {W : World} {p a b : Nat} {wid now : Int} {va vb : Value} {xs : List (Int × Int)} (h : Wins W p a b wid now va vb xs) {k : Nat} (hk : wfoot p a b va vb k) : k < W.heap.size := by
  rcases hk with rfl | rfl | rfl | hk | hk
  · exact lt_of_block h.hp
  · exact lt_of_block h.ha
  · exact lt_of_block h.hb
  · obtain ⟨c, hc⟩ := h.ra.blk _ hk; exact lt_of_block hc
  · obtain ⟨c, hc⟩ := h.rb.blk _ hk; exact lt_of_block hc
theorem Wins.below {W W' : World} {p a b : Nat} {wid now : Int} {va vb : Value} {xs : List (Int × Int)} (h : Wins W p a b wid now va vb xs) (hb : Below W.heap.size W W') : Wins W' p a b wid now va vb xs :=
  h.kept (Tch.of_below hb) (fun k hk hn => by have := h.lt hk; omega)

set_option maxRecDepth 100000 in
/-- Windows.Len. -/
theorem lens (W : World) (p a b : Nat) (wid now : Int) (va vb : Value) (xs : List (Int × Int)) (h : Wins W p a b wid now va vb xs) :
    Calls Try.prog 10 #[.pointer (some ⟨p, 0, none⟩)] W fun e w' => e = .returned (.tuple #[.int .i64 xs.length, .int .i64 xs.length]) ∧ ∃ n, w' = W.drewN n := by
  obtain ⟨a1, c1, rfl⟩ := h.ra.len
  obtain ⟨a2, c2, rfl⟩ := h.rb.len
  have p0 : W.cell? ⟨p, 0, none⟩ = some (.pointer (some ⟨a, 0, none⟩)) := by rw [cell_of_row W p 0 _ _ _ h.hp]; rfl
  have p1 : W.cell? ⟨p, 1, none⟩ = some (.pointer (some ⟨b, 0, none⟩)) := by rw [cell_of_row W p 1 _ _ _ h.hp]; rfl
  have ha := h.ha
  have hb := h.hb
  have HA := Lib.hid ha
  have HB := Lib.hid hb
  clear ha hb h
  go_enter Try.func10, Try.ntmps10
  go_wp2_with fail
  go_quiet (first | (go_at_call 18; exact Calls.quiet_of_same ((len_int a wid now _ _ _ (W.drewN _) HA.out).mono fun e w' h => ⟨h.1, h.2.symm⟩)) | (go_at_call 19; exact Calls.quiet_of_same ((len_str b wid now _ _ _ (W.drewN _) HB.out).mono fun e w' h => ⟨h.1, h.2.symm⟩)))
  go_wp2_with fail
  go_ret2
  exact ⟨rfl, _, rfl⟩

set_option maxRecDepth 100000 in
/-- Windows.Ends. -/
theorem ends_any (most : Bool) (W : World) (p a b : Nat) (wid now : Int) (va vb : Value) (xs : List (Int × Int)) (hl : xs.length ≤ 16) (h : Wins W p a b wid now va vb xs) :
    Calls Try.prog 20 #[.pointer (some ⟨p, 0, none⟩), .bool most] W fun e w' =>
      e = .returned (.tuple #[.int .i64 (outI most xs xs.length), .bool (decide (0 < xs.length)), .string (outS most xs xs.length), .bool (decide (0 < xs.length))]) ∧ Below W.heap.size W w' := by
  have hplt := lt_of_block h.hp
  have p0 : W.cell? ⟨p, 0, none⟩ = some (.pointer (some ⟨a, 0, none⟩)) := by rw [cell_of_row W p 0 _ _ _ h.hp]; rfl
  have p1 : W.cell? ⟨p, 1, none⟩ = some (.pointer (some ⟨b, 0, none⟩)) := by rw [cell_of_row W p 1 _ _ _ h.hp]; rfl
  cases most
  · go_enter Try.func20, Try.ntmps20
    go_wp2_with fail
    refine (end_int_least a wid now va W xs hl h.ha h.ra).mono ?_
    rintro e w1 ⟨rfl, hb1⟩
    have q1 := (hb1.cell (p := ⟨p, 1, none⟩) hplt).trans p1
    have h1 := h.below hb1
    go_wp2_with fail
    refine (end_str_least b wid now vb w1 xs hl h1.hb h1.rb).mono ?_
    rintro e w2 ⟨rfl, hb2⟩
    go_wp2_with fail
    refine bodyPost_ret (v := .tuple #[.int .i64 (outI false xs xs.length), .bool (decide (0 < xs.length)), .string (outS false xs xs.length), .bool (decide (0 < xs.length))]) (by simp [results, Try.results20, go_sem]) rfl ⟨rfl, hb1.trans (hb2.mono hb1.size)⟩
  · go_enter Try.func20, Try.ntmps20
    go_wp2_with fail
    refine (end_int_most a wid now va W xs hl h.ha h.ra).mono ?_
    rintro e w1 ⟨rfl, hb1⟩
    have q1 := (hb1.cell (p := ⟨p, 1, none⟩) hplt).trans p1
    have h1 := h.below hb1
    go_wp2_with fail
    refine (end_str_most b wid now vb w1 xs hl h1.hb h1.rb).mono ?_
    rintro e w2 ⟨rfl, hb2⟩
    go_wp2_with fail
    refine bodyPost_ret (v := .tuple #[.int .i64 (outI true xs xs.length), .bool (decide (0 < xs.length)), .string (outS true xs xs.length), .bool (decide (0 < xs.length))]) (by simp [results, Try.results20, go_sem]) rfl ⟨rfl, hb1.trans (hb2.mono hb1.size)⟩

theorem Wins.ne {W : World} {p a b : Nat} {wid now : Int} {va vb : Value} {xs : List (Int × Int)} (h : Wins W p a b wid now va vb xs) : p ≠ a ∧ p ≠ b ∧ a ≠ b ∧ va.ownBlock ≠ some p ∧ va.ownBlock ≠ some a ∧ va.ownBlock ≠ some b ∧ vb.ownBlock ≠ some p ∧ vb.ownBlock ≠ some a ∧ vb.ownBlock ≠ some b ∧ (∀ k, va.ownBlock = some k → vb.ownBlock ≠ some k) := by
  have two : ∀ {k k' : Nat} {c c' : Array Value} {t t' : TypeId}, W.heap[k]? = some (.cells c t (0, 0)) → W.heap[k']? = some (.cells c' t' (0, 0)) → t ≠ t' → k ≠ k' := by
    intro k k' c c' t t' h1 h2 hne he
    subst he
    rw [h1] at h2
    cases h2
    exact hne rfl
  refine ⟨two h.hp h.ha (by decide), two h.hp h.hb (by decide), two h.ha h.hb (by decide), h.ra.far h.hp (by decide), h.ra.far h.ha (by decide), h.ra.far h.hb (by decide), h.rb.far h.hp (by decide), h.rb.far h.ha (by decide), h.rb.far h.hb (by decide), fun k hk hk' => ?_⟩
  obtain ⟨c, hc⟩ := h.ra.blk _ hk
  obtain ⟨c', hc'⟩ := h.rb.blk _ hk'
  exact two hc hc' (by decide) rfl

set_option maxRecDepth 100000 in
/-- Windows.Push, the time past. -/
theorem wpush_no (W : World) (p a b : Nat) (wid now t x : Int) (va vb : Value) (xs : List (Int × Int)) (hlt : t < now) (h : Wins W p a b wid now va vb xs) :
    Calls Try.prog 15 #[.pointer (some ⟨p, 0, none⟩), .int .i64 t, .int .i64 x, .string (keyS x)] W fun e w' => e = .returned (.tuple #[.bool false, .bool false]) ∧ W = w' := by
  have p0 : W.cell? ⟨p, 0, none⟩ = some (.pointer (some ⟨a, 0, none⟩)) := by rw [cell_of_row W p 0 _ _ _ h.hp]; rfl
  have p1 : W.cell? ⟨p, 1, none⟩ = some (.pointer (some ⟨b, 0, none⟩)) := by rw [cell_of_row W p 1 _ _ _ h.hp]; rfl
  have C1 := Lib.hid (push_int_no a t wid now va x W hlt h.ha)
  have C2 := Lib.hid (push_str_no b t wid now vb x W hlt h.hb)
  clear hlt h
  go_enter Try.func15, Try.ntmps15
  go_wp2_with fail
  refine C1.out.mono ?_
  rintro e w1 ⟨rfl, rfl⟩
  go_wp2_with fail
  refine C2.out.mono ?_
  rintro e w1 ⟨rfl, rfl⟩
  go_wp2_with fail
  go_ret2
  exact ⟨rfl, rfl⟩

set_option maxRecDepth 100000 in
/-- Windows.Advance, the time past. -/
theorem wadv_no (W : World) (p a b : Nat) (wid now t : Int) (va vb : Value) (xs : List (Int × Int)) (hlt : t < now) (h : Wins W p a b wid now va vb xs) :
    Calls Try.prog 16 #[.pointer (some ⟨p, 0, none⟩), .int .i64 t] W fun e w' => e = .returned (.tuple #[.bool false, .bool false]) ∧ W = w' := by
  have p0 : W.cell? ⟨p, 0, none⟩ = some (.pointer (some ⟨a, 0, none⟩)) := by rw [cell_of_row W p 0 _ _ _ h.hp]; rfl
  have p1 : W.cell? ⟨p, 1, none⟩ = some (.pointer (some ⟨b, 0, none⟩)) := by rw [cell_of_row W p 1 _ _ _ h.hp]; rfl
  have C1 := Lib.hid (adv_int_no a t wid now va W hlt h.ha)
  have C2 := Lib.hid (adv_str_no b t wid now vb W hlt h.hb)
  clear hlt h
  go_enter Try.func16, Try.ntmps16
  go_wp2_with fail
  refine C1.out.mono ?_
  rintro e w1 ⟨rfl, rfl⟩
  go_wp2_with fail
  refine C2.out.mono ?_
  rintro e w1 ⟨rfl, rfl⟩
  go_wp2_with fail
  go_ret2
  exact ⟨rfl, rfl⟩

set_option maxRecDepth 100000 in
set_option maxHeartbeats 1000000 in
/-- Windows.Push. -/
theorem wpush_yes (W : World) (p a b : Nat) (wid now t x : Int) (va vb : Value) (xs : List (Int × Int)) (hge : now ≤ t) (ht : Rng t) (h3 : wid ≤ 9223372036854775807) (hxs : ∀ x ∈ xs, Rng x.1) (hl : xs.length ≤ 16) (h : Wins W p a b wid now va vb xs) :
    Calls Try.prog 15 #[.pointer (some ⟨p, 0, none⟩), .int .i64 t, .int .i64 x, .string (keyS x)] W fun e w' => e = .returned (.tuple #[.bool true, .bool true]) ∧
      ∃ va' vb', Wins w' p a b wid t va' vb' (pushL wid t xs x) ∧ (∀ k, wfoot p a b va' vb' k → wfoot p a b va vb k ∨ W.heap.size ≤ k) ∧ Tch (wfoot p a b va vb) W w' := by
  have hplt := lt_of_block h.hp
  have p0 : W.cell? ⟨p, 0, none⟩ = some (.pointer (some ⟨a, 0, none⟩)) := by rw [cell_of_row W p 0 _ _ _ h.hp]; rfl
  obtain ⟨n1, n2, n3, n4, n5, n6, n7, n8, n9, n10⟩ := h.ne
  have C1 := Lib.hid (push_int_yes a t wid now va x W xs hge ht h3 hxs hl h.ha h.ra)
  go_enter Try.func15, Try.ntmps15
  go_wp2_with fail
  refine C1.out.mono ?_
  rintro e w1 ⟨rfl, va', hA1, hrA1, hvA1, hT1⟩
  clear C1 p0
  have hp1 := hT1.heap h.hp (fun s => s.elim n1 n4)
  have hb1 := hT1.heap h.hb (fun s => s.elim (fun e => n3 e.symm) n6)
  have rb1 := h.rb.kept hT1 (fun g hg s => s.elim (fun e => n8 (by rw [hg, e])) (fun e => n10 g e hg))
  have p1 : w1.cell? ⟨p, 1, none⟩ = some (.pointer (some ⟨b, 0, none⟩)) := by rw [cell_of_row w1 p 1 _ _ _ hp1]; rfl
  have C2 := Lib.hid (push_str_yes b t wid now vb x w1 xs hge ht h3 hxs hl hb1 rb1)
  have HH := Lib.hid h
  clear h
  have HA := Lib.hid hA1
  have HP := Lib.hid hp1
  clear hA1 hp1 hb1
  go_wp2_with fail
  refine C2.out.mono ?_
  rintro e w2 ⟨rfl, vb', hB2, hrB2, hvB2, hT2⟩
  go_wp2_with fail
  go_ret2
  have hs1 := hT1.size
  have va_lt : ∀ k, va'.ownBlock = some k → k < w1.heap.size := fun k hk => by obtain ⟨c, hc⟩ := hrA1.blk _ hk; exact lt_of_block hc
  have two : ∀ {k k' : Nat} {c c' : Array Value} {t t' : TypeId}, w1.heap[k]? = some (.cells c t (0, 0)) → w1.heap[k']? = some (.cells c' t' (0, 0)) → t ≠ t' → k ≠ k' := by
    intro k k' c c' t t' h1 h2 hne he
    subst he
    rw [h1] at h2
    cases h2
    exact hne rfl
  have hb1 : w1.heap[b]? = some (.cells #[.int .i64 wid, .int .i64 now, vb] 50 (0, 0)) := hT1.heap HH.out.hb (fun s => s.elim (fun e => n3 e.symm) n6)
  refine ⟨rfl, va', vb', ⟨hT2.heap HP.out (fun s => s.elim n2 n7), hT2.heap HA.out (fun s => s.elim n3 n8), hB2, hrA1.kept hT2 (fun g hg s => ?_), hrB2⟩, fun k hk => ?_, hT1.mono (fun j _ s => s.elim (fun e => .inr (.inl e)) (fun e => .inr (.inr (.inr (.inl e))))) |>.trans hT2 (fun j _ s => s.elim (fun e => .inr (.inr (.inl e))) (fun e => .inr (.inr (.inr (.inr e)))))⟩
  · obtain ⟨c, hc⟩ := hrA1.blk _ hg
    rcases s with rfl | s
    · exact two hc hb1 (by decide) rfl
    · obtain ⟨c', hc'⟩ := rb1.blk _ s
      exact two hc hc' (by decide) rfl
  · rcases hk with hk | hk | hk | hk | hk
    · exact .inl (.inl hk)
    · exact .inl (.inr (.inl hk))
    · exact .inl (.inr (.inr (.inl hk)))
    · rcases hvA1 k hk with e | e
      · exact .inl (.inr (.inr (.inr (.inl e))))
      · exact .inr e
    · rcases hvB2 k hk with e | e
      · exact .inl (.inr (.inr (.inr (.inr e))))
      · exact .inr (by omega)

set_option maxRecDepth 100000 in
set_option maxHeartbeats 1000000 in
/-- Windows.Advance. -/
theorem wadv_yes (W : World) (p a b : Nat) (wid now t : Int) (va vb : Value) (xs : List (Int × Int)) (hge : now ≤ t) (h3 : wid ≤ 9223372036854775807) (hxs : ∀ x ∈ xs, Rng x.1) (hl : xs.length ≤ 16) (h : Wins W p a b wid now va vb xs) :
    Calls Try.prog 16 #[.pointer (some ⟨p, 0, none⟩), .int .i64 t] W fun e w' => e = .returned (.tuple #[.bool true, .bool true]) ∧
      ∃ va' vb', Wins w' p a b wid t va' vb' (xs.dropWhile fun x => !inB wid t x.1) ∧ (∀ k, wfoot p a b va' vb' k → wfoot p a b va vb k ∨ W.heap.size ≤ k) ∧ Tch (wfoot p a b va vb) W w' := by
  have hplt := lt_of_block h.hp
  have p0 : W.cell? ⟨p, 0, none⟩ = some (.pointer (some ⟨a, 0, none⟩)) := by rw [cell_of_row W p 0 _ _ _ h.hp]; rfl
  obtain ⟨n1, n2, n3, n4, n5, n6, n7, n8, n9, n10⟩ := h.ne
  have C1 := Lib.hid (adv_int_yes a t wid now va W xs hge h3 hxs hl h.ha h.ra)
  go_enter Try.func16, Try.ntmps16
  go_wp2_with fail
  refine C1.out.mono ?_
  rintro e w1 ⟨rfl, va', hA1, hrA1, hvA1, hT1⟩
  clear C1 p0
  have hp1 := hT1.heap h.hp n1
  have hb1 := hT1.heap h.hb (fun e => n3 e.symm)
  have rb1 := h.rb.kept hT1 (fun g hg e => n8 (by rw [hg, e]))
  have p1 : w1.cell? ⟨p, 1, none⟩ = some (.pointer (some ⟨b, 0, none⟩)) := by rw [cell_of_row w1 p 1 _ _ _ hp1]; rfl
  have C2 := Lib.hid (adv_str_yes b t wid now vb w1 xs hge h3 hxs hl hb1 rb1)
  have HH := Lib.hid h
  clear h
  have HA := Lib.hid hA1
  have HP := Lib.hid hp1
  clear hA1 hp1 hb1
  go_wp2_with fail
  refine C2.out.mono ?_
  rintro e w2 ⟨rfl, vb', hB2, hrB2, hvB2, hT2⟩
  go_wp2_with fail
  go_ret2
  refine ⟨rfl, va', vb', ⟨hT2.heap HP.out n2, hT2.heap HA.out n3, hB2, hrA1.kept hT2 (fun g hg e => n6 (by rw [← hvA1, hg, e])), hrB2⟩, fun k hk => .inl ?_, hT1.mono (fun j _ s => .inr (.inl s)) |>.trans hT2 (fun j _ s => .inr (.inr (.inl s)))⟩
  rcases hk with hk | hk | hk | hk | hk
  · exact .inl hk
  · exact .inr (.inl hk)
  · exact .inr (.inr (.inl hk))
  · exact .inr (.inr (.inr (.inl (by rw [← hvA1]; exact hk))))
  · exact .inr (.inr (.inr (.inr (by rw [← hvB2]; exact hk))))
end Go.Proofs.Ytacjjmdhiphckaa
