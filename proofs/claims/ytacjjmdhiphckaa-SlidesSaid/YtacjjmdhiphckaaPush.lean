/- Slides: Push of a window. -/
import Derived.Test.YtacjjmdhiphckaaAdv
import Derived.Deep.DrawnRows
namespace Go.Proofs.Ytacjjmdhiphckaa
open Go.RowKit

/-- What a window has behind a Push. -/
def pushL (wid t : Int) (xs : List (Int × Int)) (v : Int) : List (Int × Int) :=
  let ys := xs.dropWhile fun x => !inB wid t x.1
  if inB wid t t then (if 16 < ys.length + 1 then (ys ++ [(t, v)]).drop 1 else ys ++ [(t, v)]) else ys

theorem keepB {w1 w3 : World} {n B : Nat} {o ob : Obj} {row : Option Nat} (hB : w1.heap[B]? = some ob) (hg : ((w1.drewN n).alloc o).grownBy w3 row) (hne : row ≠ some B) : w3.heap[B]? = some ob := by
  have hlt := lt_of_block hB
  rw [hg.block B (by simp; omega) (fun e => hne e.symm), Below.heap_alloc (w1.drewN n) _ _ hlt]
  exact hB
theorem Row.far {e : Int → Value} {eT T : TypeId} {W : World} {v : Value} {xs : List (Int × Int)} {B : Nat} {cs : Array Value} (h : Row e eT W v xs) (hB : W.heap[B]? = some (.cells cs T (0, 0))) (hne : T ≠ eT) : v.ownBlock ≠ some B := by
  intro hk
  obtain ⟨cur, hc⟩ := h.blk B hk
  rw [hB] at hc
  cases hc
  exact hne rfl

theorem push_fin {e : Int → Value} {eT T : TypeId} {w w1 w3 : World} {B n g off m cap : Nat} {o : Obj} {a b v v1 : Value} {ys zs : List (Int × Int)} (hne : T ≠ eT) (ht1 : Tch (· = B) w w1) (hv1 : v1.ownBlock = v.ownBlock) (hB1 : w1.heap[B]? = some (.cells #[a, b, v1] T (0, 0))) (hr1 : Row e eT w1 v1 ys)
    (hg3 : ((w1.drewN n).alloc o).grownBy w3 v1.ownBlock) (hr3 : Row e eT w3 (.slice (some ⟨g, off, none⟩) m cap) zs) (hb3 : v1.ownBlock = some g ∨ ((w1.drewN n).alloc o).heap.size ≤ g) :
    (w3.setCell ⟨B, 2, none⟩ (.slice (some ⟨g, off, none⟩) m cap)).heap[B]? = some (.cells #[a, b, .slice (some ⟨g, off, none⟩) m cap] T (0, 0)) ∧ Row e eT (w3.setCell ⟨B, 2, none⟩ (.slice (some ⟨g, off, none⟩) m cap)) (.slice (some ⟨g, off, none⟩) m cap) zs ∧
      (∀ k, (Value.slice (some ⟨g, off, none⟩) m cap).ownBlock = some k → v.ownBlock = some k ∨ w.heap.size ≤ k) ∧ Tch (fun k => k = B ∨ v.ownBlock = some k) w (w3.setCell ⟨B, 2, none⟩ (.slice (some ⟨g, off, none⟩) m cap)) := by
  have hB3 := keepB hB1 hg3 (hr1.far hB1 hne)
  have hgB := hr3.far hB3 hne
  have hT : Tch (fun k => k = B ∨ v.ownBlock = some k) w w3 := by
    refine (ht1.mono (fun _ _ h => Or.inl h)).trans (((Tch.drewN (fun k => k = B ∨ v.ownBlock = some k) w1 n).trans (Tch.alloc _ _ o) (fun _ _ h => h)).trans (Tch.of_grownBy hg3) (fun j _ h => .inr (by rw [← hv1]; exact h))) (fun _ _ h => h)
  have hT2 : Tch (· = B) w3 (w3.setCell ⟨B, 2, none⟩ (.slice (some ⟨g, off, none⟩) m cap)) := Tch.setCell (S := (· = B)) _ (a := ⟨B, 2, none⟩) rfl _
  refine ⟨heap_setCell_at (o := 2) hB3 _, hr3.kept hT2 (fun k hk h => hgB (by rw [hk, h])), fun k hk => ?_, hT.trans hT2 (fun _ _ h => .inl h)⟩
  have hk' : g = k := by simpa [Value.ownBlock] using hk
  subst hk'
  rcases hb3 with h | h
  · left; rw [← hv1]; exact h
  · right
    have := ht1.size
    simp at h
    omega

theorem push_fin2 {e : Int → Value} {eT T : TypeId} {w W4 w5 : World} {B base g2 cap2 : Nat} {S : Nat → Prop} {a b v c : Value} {zs : List (Int × Int)} (hne : T ≠ eT) (k4 : Tch S w W4) (hB : W4.heap[B]? = some (.cells #[a, b, c] T (0, 0))) (hS : S B)
    (ho : w5.ownsRow base eT 2 (.slice (some ⟨g2, 0, none⟩) 16 cap2) 16 (flat e zs)) (hg : W4.drew.grownBy w5 none) (hlt : W4.drew.heap.size ≤ g2) (hz : (flat e zs).length = 16 * 2) :
    (w5.setCell ⟨B, 2, none⟩ (.slice (some ⟨g2, 0, none⟩) 16 cap2)).heap[B]? = some (.cells #[a, b, .slice (some ⟨g2, 0, none⟩) 16 cap2] T (0, 0)) ∧ Row e eT (w5.setCell ⟨B, 2, none⟩ (.slice (some ⟨g2, 0, none⟩) 16 cap2)) (.slice (some ⟨g2, 0, none⟩) 16 cap2) zs ∧
      (∀ k, (Value.slice (some ⟨g2, 0, none⟩) 16 cap2).ownBlock = some k → v.ownBlock = some k ∨ w.heap.size ≤ k) ∧ Tch S w (w5.setCell ⟨B, 2, none⟩ (.slice (some ⟨g2, 0, none⟩) 16 cap2)) := by
  have hz' : zs.length = 16 := by rw [flat_length] at hz; omega
  have hB5 : w5.heap[B]? = some (.cells #[a, b, c] T (0, 0)) := (hg.block B (lt_of_block hB) (by simp)).trans hB
  have hr5 : Row e eT w5 (.slice (some ⟨g2, 0, none⟩) 16 cap2) zs := Row.of_owns (base := base) (by rw [hz']; exact ho)
  have hgB := hr5.far hB5 hne
  have hT2 : Tch (· = B) w5 (w5.setCell ⟨B, 2, none⟩ (.slice (some ⟨g2, 0, none⟩) 16 cap2)) := Tch.setCell (S := (· = B)) _ (a := ⟨B, 2, none⟩) rfl _
  refine ⟨heap_setCell_at (o := 2) hB5 _, hr5.kept hT2 (fun k hk h => hgB (by rw [hk, h])), fun k hk => ?_, (k4.trans ((Tch.drewN S W4 1).trans ((Tch.of_grownBy hg).mono (fun _ _ h => by cases h)) (fun _ _ h => h)) (fun _ _ h => h)).trans hT2 (fun j _ h => by rw [h]; exact hS)⟩
  have hk' : g2 = k := by simpa [Value.ownBlock] using hk
  subst hk'
  right
  have := k4.size
  simp at hlt
  omega

theorem Try.info84 : (Try.prog.info? 84).map (fun i => (i.zero, i.size, i.bytes)) = some (some (.agg #[.int .i64 0, (.int .i64 0)]), 2, 16) := by kernel_rfl

set_option maxRecDepth 100000 in
theorem push_int_no (B : Nat) (t wid now : Int) (v : Value) (x : Int) (w : World) (hlt : t < now) (hB : w.heap[B]? = some (.cells #[.int .i64 wid, .int .i64 now, v] 47 (0, 0))) :
    Calls Try.prog 23 #[.pointer (some ⟨B, 0, none⟩), .int .i64 t, (.int .i64 x)] w fun e w' => e = .returned (.bool false) ∧ w = w' := by
  have C := Lib.hid (adv_int_no B t wid now v w hlt hB)
  clear hB hlt
  go_enter Try.func23, Try.ntmps23
  go_wp2_with (go_at_call 25; refine C.out.mono ?_; rintro e w' ⟨rfl, rfl⟩)
  go_ret
  exact ⟨rfl, rfl⟩

set_option maxRecDepth 100000 in
set_option maxHeartbeats 2000000 in
theorem push_int_yes (B : Nat) (t wid now : Int) (v : Value) (x : Int) (w : World) (xs : List (Int × Int)) (hge : now ≤ t) (ht : Rng t) (h3 : wid ≤ 9223372036854775807) (hxs : ∀ x ∈ xs, Rng x.1) (hl : xs.length ≤ 16)
    (hB : w.heap[B]? = some (.cells #[.int .i64 wid, .int .i64 now, v] 47 (0, 0))) (hr : Row ei 84 w v xs) :
    Calls Try.prog 23 #[.pointer (some ⟨B, 0, none⟩), .int .i64 t, (.int .i64 x)] w fun e w' => e = .returned (.bool true) ∧
      ∃ v', w'.heap[B]? = some (.cells #[.int .i64 wid, .int .i64 t, v'] 47 (0, 0)) ∧ Row ei 84 w' v' (pushL wid t xs x) ∧ (∀ k, v'.ownBlock = some k → v.ownBlock = some k ∨ w.heap.size ≤ k) ∧ Tch (fun k => k = B ∨ v.ownBlock = some k) w w' := by
  obtain ⟨i0, hi, hz0, hz1, hz2⟩ := info_parts Try.info84
  have C := Lib.hid (adv_int_yes B t wid now v w xs hge h3 hxs hl hB hr)
  clear hB
  go_enter Try.func23, Try.ntmps23
  go_wp2_with fail
  refine C.out.mono ?_
  rintro e w1 ⟨rfl, v1, hB1, hr1, hv1, ht1⟩
  clear C
  have hys : (xs.dropWhile fun x => !inB wid t x.1).length ≤ 16 := Nat.le_trans (List.dropWhile_sublist _).length_le hl
  obtain ⟨ys, hys0⟩ : ∃ ys, (xs.dropWhile fun x => !inB wid t x.1) = ys := ⟨_, rfl⟩
  have HP : Hid (pushL wid t xs x = if inB wid t t then (if 16 < ys.length + 1 then (ys ++ [(t, x)]).drop 1 else ys ++ [(t, x)]) else ys) := Lib.hid (by unfold pushL; rw [hys0])
  rw [hys0] at hr1 hys
  clear hys0
  have HB1 := Lib.hid hB1
  clear hB1
  by_cases hin : inB wid t t = true
  · have C2 := Lib.hid (gone_int_no B t wid t v1 w1 ht h3 hin HB1.out)
    have HI := Lib.hid hin
    clear hin
    go_wp2_with fail
    refine C2.out.mono ?_
    rintro e w2 ⟨rfl, n2, rfl⟩
    clear C2
    have d2 : w1.cell? ⟨B, 2, none⟩ = some v1 := by rw [cell_of_row w1 B 2 _ _ _ HB1.out]; rfl
    have f2 : ∀ o, w1.frozen? ⟨B, o, none⟩ = false := fun o => frozen_of_row w1 B o _ _ HB1.out
    have hlt1 : B < w1.heap.size := lt_of_block HB1.out
    have hvB := hr1.far HB1.out (by decide)
    have hrA : Row ei 84 ((w1.drewN n2).alloc (.cells #[.int .i64 t, (.int .i64 x)] 84)) v1 ys := hr1.kept ((Tch.drewN (fun _ => False) w1 n2).trans (Tch.alloc (fun _ => False) _ _) (fun _ _ h => h)) (fun _ _ h => h)
    have hA0 : ((w1.drewN n2).alloc (.cells #[.int .i64 t, (.int .i64 x)] 84)).cell? ⟨w1.heap.size, 0, none⟩ = some (.int .i64 t) := World.cell?_alloc_at _ _ _ _ rfl
    have hA1 : ((w1.drewN n2).alloc (.cells #[.int .i64 t, (.int .i64 x)] 84)).cell? ⟨w1.heap.size, 1, none⟩ = some (.int .i64 x) := World.cell?_alloc_at _ _ _ _ rfl
    have HA0 := Lib.hid hA0
    have HA1 := Lib.hid hA1
    clear hA0 hA1
    by_cases h16 : 16 < ys.length + 1
    · have hy16 : ys.length = 16 := by omega
      go_wp2_with (at_builtin; refine wpList_append_row _ rfl (.tmp 18) (.tmp 22) 45 rfl ei 84 i0 _ 16 Try.underlying45 hi hz0 hz1 hz2 rfl v1 ys rfl hrA (t, x) rfl ⟨w1.heap.size, 0, none⟩ 1 rfl HA0.out HA1.out (by omega) (by decide) ?_; intro g off cap w3 hr3 hg3 hb3; have d3 : w3.cell? ⟨B, 2, none⟩ = some v1 := (by rw [cell_of_row w3 B 2 _ _ _ (keepB HB1.out hg3 hvB)]; rfl); have f3 : ∀ o, w3.frozen? ⟨B, o, none⟩ = false := (fun o => frozen_of_row w3 B o _ _ (keepB HB1.out hg3 hvB)))
      have hr3' : Row ei 84 w3 (.slice (some ⟨g, off, none⟩) 17 cap) (ys ++ [(t, x)]) := by have h := hr3; rw [hy16] at h; exact h
      obtain ⟨k1, k2, k3, k4⟩ := push_fin (by decide) ht1 hv1 HB1.out hr1 hg3 hr3' hb3
      obtain ⟨W4, hW4⟩ : ∃ W4, w3.setCell ⟨B, 2, none⟩ (.slice (some ⟨g, off, none⟩) 17 cap) = W4 := ⟨_, rfl⟩
      rw [hW4] at k1 k2 k4 ⊢
      clear hW4 hr3 hr3' hg3 hb3 d3 f3 hrA HA0 HA1 d2 f2 hlt1 hvB hr1
      have hcap := k2.cap.2.1
      have hn1 : ¬ cap = 1 := by omega
      have hc17 : (17 : Int) ≤ (cap : Int) := by omega
      have hcells := Lib.hid (k2.cells 1)
      have hlen17 : (flat ei ((ys ++ [(t, x)]).drop 1)).length = 16 * 2 := by rw [flat_length]; simp [hy16]
      have HL := Lib.hid hlen17
      have HK1 := Lib.hid k1
      have hBlt : B < W4.heap.size := lt_of_block k1
      have d4 : W4.cell? ⟨B, 2, none⟩ = some (.slice (some ⟨g, off, none⟩) 17 cap) := by rw [cell_of_row W4 B 2 _ _ _ k1]; rfl
      have f4 : W4.frozen? ⟨B, 2, none⟩ = false := frozen_of_row W4 B 2 _ _ k1
      have HY := Lib.hid hy16
      clear hlen17 k1 hy16 h16
      go_region_law ((refine step_append_fresh _ (by rfl) _ _ _ (by rfl) 84 i0 _ 2 16 Try.underlying45 hi hz0 hz1 hz2 rfl (by decide) ⟨g, off, none⟩ (by simp [Act.eval, Act.put]) ⟨g, off + 2, none⟩ 16 (cap - 1) (flat ei ((ys ++ [(t, x)]).drop 1)) (by simp [Act.eval, Act.put]) HL.out (by intro j u hu; rw [Addr.add_lit]; exact hcells.out j u hu) (by decide) (by decide) (by decide) ?_; intro g2 cap2 w5 hown2 hgrow2 hlt2; have d5 := (hgrow2.cell_far ⟨B, 2, none⟩ hBlt (by simp)).trans d4; have f5 := (hgrow2.frozen_far ⟨B, 2, none⟩ hBlt (by simp)).trans f4))
      all_goals
        go_wp2
        go_ret
        have HI2 := HP.out
        rw [if_pos HI.out, if_pos (by rw [HY.out]; decide)] at HI2
        obtain ⟨m1, m2, m3, m4⟩ := push_fin2 (v := v) (by decide) k4 HK1.out (.inl rfl) hown2 hgrow2 hlt2 HL.out
        exact ⟨rfl, _, m1, by rw [HI2]; exact m2, m3, m4⟩
    · go_wp2_with (at_builtin; refine wpList_append_row _ rfl (.tmp 18) (.tmp 22) 45 rfl ei 84 i0 _ 16 Try.underlying45 hi hz0 hz1 hz2 rfl v1 ys rfl hrA (t, x) rfl ⟨w1.heap.size, 0, none⟩ 1 rfl HA0.out HA1.out (by omega) (by decide) ?_; intro g off cap w3 hr3 hg3 hb3; have d3 : w3.cell? ⟨B, 2, none⟩ = some v1 := (by rw [cell_of_row w3 B 2 _ _ _ (keepB HB1.out hg3 hvB)]; rfl); have f3 : ∀ o, w3.frozen? ⟨B, o, none⟩ = false := (fun o => frozen_of_row w3 B o _ _ (keepB HB1.out hg3 hvB)))
      go_ret
      have HI2 := HP.out
      rw [if_pos HI.out, if_neg h16] at HI2
      obtain ⟨k1, k2, k3, k4⟩ := push_fin (by decide) ht1 hv1 HB1.out hr1 hg3 hr3 hb3
      exact ⟨rfl, _, k1, by rw [HI2]; exact k2, k3, k4⟩
  · have hin' : inB wid t t = false := by simpa using hin
    have C2 := Lib.hid (gone_int_yes B t wid t v1 w1 ht h3 hin' HB1.out)
    have HI := Lib.hid hin'
    clear hin hin'
    go_wp2_with fail
    refine C2.out.mono ?_
    rintro e w2 ⟨rfl, n2, rfl⟩
    go_wp2_with fail
    go_ret
    have HI2 := HP.out
    rw [if_neg (by rw [HI.out]; decide)] at HI2
    refine ⟨rfl, v1, HB1.out, by rw [HI2]; exact hr1.kept (Tch.drewN (fun _ => False) w1 n2) (fun _ _ h => h), fun k hk => .inl (by rw [← hv1]; exact hk), ?_⟩
    exact (ht1.mono (fun _ _ h => Or.inl h)).trans (Tch.drewN _ _ _) (fun _ _ h => h)
theorem Try.info86 : (Try.prog.info? 86).map (fun i => (i.zero, i.size, i.bytes)) = some (some (.agg #[.int .i64 0, (.string ⟨#[]⟩)]), 2, 24) := by kernel_rfl

set_option maxRecDepth 100000 in
theorem push_str_no (B : Nat) (t wid now : Int) (v : Value) (x : Int) (w : World) (hlt : t < now) (hB : w.heap[B]? = some (.cells #[.int .i64 wid, .int .i64 now, v] 50 (0, 0))) :
    Calls Try.prog 24 #[.pointer (some ⟨B, 0, none⟩), .int .i64 t, (.string (keyS x))] w fun e w' => e = .returned (.bool false) ∧ w = w' := by
  have C := Lib.hid (adv_str_no B t wid now v w hlt hB)
  clear hB hlt
  go_enter Try.func24, Try.ntmps24
  go_wp2_with (go_at_call 26; refine C.out.mono ?_; rintro e w' ⟨rfl, rfl⟩)
  go_ret
  exact ⟨rfl, rfl⟩

set_option maxRecDepth 100000 in
set_option maxHeartbeats 2000000 in
theorem push_str_yes (B : Nat) (t wid now : Int) (v : Value) (x : Int) (w : World) (xs : List (Int × Int)) (hge : now ≤ t) (ht : Rng t) (h3 : wid ≤ 9223372036854775807) (hxs : ∀ x ∈ xs, Rng x.1) (hl : xs.length ≤ 16)
    (hB : w.heap[B]? = some (.cells #[.int .i64 wid, .int .i64 now, v] 50 (0, 0))) (hr : Row es 86 w v xs) :
    Calls Try.prog 24 #[.pointer (some ⟨B, 0, none⟩), .int .i64 t, (.string (keyS x))] w fun e w' => e = .returned (.bool true) ∧
      ∃ v', w'.heap[B]? = some (.cells #[.int .i64 wid, .int .i64 t, v'] 50 (0, 0)) ∧ Row es 86 w' v' (pushL wid t xs x) ∧ (∀ k, v'.ownBlock = some k → v.ownBlock = some k ∨ w.heap.size ≤ k) ∧ Tch (fun k => k = B ∨ v.ownBlock = some k) w w' := by
  obtain ⟨i0, hi, hz0, hz1, hz2⟩ := info_parts Try.info86
  have C := Lib.hid (adv_str_yes B t wid now v w xs hge h3 hxs hl hB hr)
  clear hB
  go_enter Try.func24, Try.ntmps24
  go_wp2_with fail
  refine C.out.mono ?_
  rintro e w1 ⟨rfl, v1, hB1, hr1, hv1, ht1⟩
  clear C
  have hys : (xs.dropWhile fun x => !inB wid t x.1).length ≤ 16 := Nat.le_trans (List.dropWhile_sublist _).length_le hl
  obtain ⟨ys, hys0⟩ : ∃ ys, (xs.dropWhile fun x => !inB wid t x.1) = ys := ⟨_, rfl⟩
  have HP : Hid (pushL wid t xs x = if inB wid t t then (if 16 < ys.length + 1 then (ys ++ [(t, x)]).drop 1 else ys ++ [(t, x)]) else ys) := Lib.hid (by unfold pushL; rw [hys0])
  rw [hys0] at hr1 hys
  clear hys0
  have HB1 := Lib.hid hB1
  clear hB1
  by_cases hin : inB wid t t = true
  · have C2 := Lib.hid (gone_str_no B t wid t v1 w1 ht h3 hin HB1.out)
    have HI := Lib.hid hin
    clear hin
    go_wp2_with fail
    refine C2.out.mono ?_
    rintro e w2 ⟨rfl, n2, rfl⟩
    clear C2
    have d2 : w1.cell? ⟨B, 2, none⟩ = some v1 := by rw [cell_of_row w1 B 2 _ _ _ HB1.out]; rfl
    have f2 : ∀ o, w1.frozen? ⟨B, o, none⟩ = false := fun o => frozen_of_row w1 B o _ _ HB1.out
    have hlt1 : B < w1.heap.size := lt_of_block HB1.out
    have hvB := hr1.far HB1.out (by decide)
    have hrA : Row es 86 ((w1.drewN n2).alloc (.cells #[.int .i64 t, (.string (keyS x))] 86)) v1 ys := hr1.kept ((Tch.drewN (fun _ => False) w1 n2).trans (Tch.alloc (fun _ => False) _ _) (fun _ _ h => h)) (fun _ _ h => h)
    have hA0 : ((w1.drewN n2).alloc (.cells #[.int .i64 t, (.string (keyS x))] 86)).cell? ⟨w1.heap.size, 0, none⟩ = some (.int .i64 t) := World.cell?_alloc_at _ _ _ _ rfl
    have hA1 : ((w1.drewN n2).alloc (.cells #[.int .i64 t, (.string (keyS x))] 86)).cell? ⟨w1.heap.size, 1, none⟩ = some (.string (keyS x)) := World.cell?_alloc_at _ _ _ _ rfl
    have HA0 := Lib.hid hA0
    have HA1 := Lib.hid hA1
    clear hA0 hA1
    by_cases h16 : 16 < ys.length + 1
    · have hy16 : ys.length = 16 := by omega
      go_wp2_with (at_builtin; refine wpList_append_row _ rfl (.tmp 18) (.tmp 22) 48 rfl es 86 i0 _ 24 Try.underlying48 hi hz0 hz1 hz2 rfl v1 ys rfl hrA (t, x) rfl ⟨w1.heap.size, 0, none⟩ 1 rfl HA0.out HA1.out (by omega) (by decide) ?_; intro g off cap w3 hr3 hg3 hb3; have d3 : w3.cell? ⟨B, 2, none⟩ = some v1 := (by rw [cell_of_row w3 B 2 _ _ _ (keepB HB1.out hg3 hvB)]; rfl); have f3 : ∀ o, w3.frozen? ⟨B, o, none⟩ = false := (fun o => frozen_of_row w3 B o _ _ (keepB HB1.out hg3 hvB)))
      have hr3' : Row es 86 w3 (.slice (some ⟨g, off, none⟩) 17 cap) (ys ++ [(t, x)]) := by have h := hr3; rw [hy16] at h; exact h
      obtain ⟨k1, k2, k3, k4⟩ := push_fin (by decide) ht1 hv1 HB1.out hr1 hg3 hr3' hb3
      obtain ⟨W4, hW4⟩ : ∃ W4, w3.setCell ⟨B, 2, none⟩ (.slice (some ⟨g, off, none⟩) 17 cap) = W4 := ⟨_, rfl⟩
      rw [hW4] at k1 k2 k4 ⊢
      clear hW4 hr3 hr3' hg3 hb3 d3 f3 hrA HA0 HA1 d2 f2 hlt1 hvB hr1
      have hcap := k2.cap.2.1
      have hn1 : ¬ cap = 1 := by omega
      have hc17 : (17 : Int) ≤ (cap : Int) := by omega
      have hcells := Lib.hid (k2.cells 1)
      have hlen17 : (flat es ((ys ++ [(t, x)]).drop 1)).length = 16 * 2 := by rw [flat_length]; simp [hy16]
      have HL := Lib.hid hlen17
      have HK1 := Lib.hid k1
      have hBlt : B < W4.heap.size := lt_of_block k1
      have d4 : W4.cell? ⟨B, 2, none⟩ = some (.slice (some ⟨g, off, none⟩) 17 cap) := by rw [cell_of_row W4 B 2 _ _ _ k1]; rfl
      have f4 : W4.frozen? ⟨B, 2, none⟩ = false := frozen_of_row W4 B 2 _ _ k1
      have HY := Lib.hid hy16
      clear hlen17 k1 hy16 h16
      go_region_law ((refine step_append_fresh _ (by rfl) _ _ _ (by rfl) 86 i0 _ 2 24 Try.underlying48 hi hz0 hz1 hz2 rfl (by decide) ⟨g, off, none⟩ (by simp [Act.eval, Act.put]) ⟨g, off + 2, none⟩ 16 (cap - 1) (flat es ((ys ++ [(t, x)]).drop 1)) (by simp [Act.eval, Act.put]) HL.out (by intro j u hu; rw [Addr.add_lit]; exact hcells.out j u hu) (by decide) (by decide) (by decide) ?_; intro g2 cap2 w5 hown2 hgrow2 hlt2; have d5 := (hgrow2.cell_far ⟨B, 2, none⟩ hBlt (by simp)).trans d4; have f5 := (hgrow2.frozen_far ⟨B, 2, none⟩ hBlt (by simp)).trans f4))
      all_goals
        go_wp2
        go_ret
        have HI2 := HP.out
        rw [if_pos HI.out, if_pos (by rw [HY.out]; decide)] at HI2
        obtain ⟨m1, m2, m3, m4⟩ := push_fin2 (v := v) (by decide) k4 HK1.out (.inl rfl) hown2 hgrow2 hlt2 HL.out
        exact ⟨rfl, _, m1, by rw [HI2]; exact m2, m3, m4⟩
    · go_wp2_with (at_builtin; refine wpList_append_row _ rfl (.tmp 18) (.tmp 22) 48 rfl es 86 i0 _ 24 Try.underlying48 hi hz0 hz1 hz2 rfl v1 ys rfl hrA (t, x) rfl ⟨w1.heap.size, 0, none⟩ 1 rfl HA0.out HA1.out (by omega) (by decide) ?_; intro g off cap w3 hr3 hg3 hb3; have d3 : w3.cell? ⟨B, 2, none⟩ = some v1 := (by rw [cell_of_row w3 B 2 _ _ _ (keepB HB1.out hg3 hvB)]; rfl); have f3 : ∀ o, w3.frozen? ⟨B, o, none⟩ = false := (fun o => frozen_of_row w3 B o _ _ (keepB HB1.out hg3 hvB)))
      go_ret
      have HI2 := HP.out
      rw [if_pos HI.out, if_neg h16] at HI2
      obtain ⟨k1, k2, k3, k4⟩ := push_fin (by decide) ht1 hv1 HB1.out hr1 hg3 hr3 hb3
      exact ⟨rfl, _, k1, by rw [HI2]; exact k2, k3, k4⟩
  · have hin' : inB wid t t = false := by simpa using hin
    have C2 := Lib.hid (gone_str_yes B t wid t v1 w1 ht h3 hin' HB1.out)
    have HI := Lib.hid hin'
    clear hin hin'
    go_wp2_with fail
    refine C2.out.mono ?_
    rintro e w2 ⟨rfl, n2, rfl⟩
    go_wp2_with fail
    go_ret
    have HI2 := HP.out
    rw [if_neg (by rw [HI.out]; decide)] at HI2
    refine ⟨rfl, v1, HB1.out, by rw [HI2]; exact hr1.kept (Tch.drewN (fun _ => False) w1 n2) (fun _ _ h => h), fun k hk => .inl (by rw [← hv1]; exact hk), ?_⟩
    exact (ht1.mono (fun _ _ h => Or.inl h)).trans (Tch.drewN _ _ _) (fun _ _ h => h)
end Go.Proofs.Ytacjjmdhiphckaa
