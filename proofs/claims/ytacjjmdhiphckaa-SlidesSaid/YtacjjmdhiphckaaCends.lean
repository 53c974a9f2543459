/- Slides: ends of a case. -/
import Derived.Test.YtacjjmdhiphckaaCase
namespace Go.Proofs.Ytacjjmdhiphckaa
open Go.RowKit

theorem bl_irr : ∀ l : List UInt8, Op.bytesLess l l = false
  | [] => rfl
  | a :: x => by simp [Op.bytesLess, bl_irr x]
theorem bl_tri : ∀ l m : List UInt8, Op.bytesLess l m = false → l ≠ m → Op.bytesLess m l = true
  | [], [], _, h => absurd rfl h
  | [], _ :: _, h, _ => by simp [Op.bytesLess] at h
  | _ :: _, [], _, _ => rfl
  | a :: x, b :: y, h, hne => by
    simp [Op.bytesLess] at h ⊢
    by_cases hab : a = b
    · subst hab
      right
      refine ⟨rfl, bl_tri x y (by simpa using h) (fun e => hne (by rw [e]))⟩
    · left
      have h1 := h.1
      rcases Nat.lt_trichotomy a.toNat b.toNat with h' | h' | h'
      · exact absurd h' (by have := UInt8.le_iff_toNat_le.1 h1; omega)
      · exact absurd (UInt8.toNat_inj.1 h') hab
      · exact UInt8.lt_iff_toNat_lt.2 h'
theorem bl_asym : ∀ l m : List UInt8, Op.bytesLess l m = true → Op.bytesLess m l = false
  | _, [], h => by simp [Op.bytesLess] at h
  | [], _ :: _, _ => rfl
  | a :: x, b :: y, h => by
    simp [Op.bytesLess] at h ⊢
    rcases h with h | ⟨rfl, h⟩
    · have h' := UInt8.lt_iff_toNat_lt.1 h
      refine ⟨UInt8.le_iff_toNat_le.2 (by omega), fun e => ?_⟩
      subst e
      omega
    · exact ⟨UInt8.le_refl _, fun _ => bl_asym x y h⟩

/-- Three ways two texts may stand to each other. -/
theorem s_tri (a b : ByteArray) : (Op.bytesLess a.toList b.toList = true ∧ (a.toList == b.toList) = false ∧ Op.bytesLess b.toList a.toList = false) ∨
    (Op.bytesLess a.toList b.toList = false ∧ (a.toList == b.toList) = true ∧ Op.bytesLess b.toList a.toList = false) ∨ (Op.bytesLess a.toList b.toList = false ∧ (a.toList == b.toList) = false ∧ Op.bytesLess b.toList a.toList = true) := by
  by_cases he : a.toList = b.toList
  · right; left
    rw [he]
    exact ⟨bl_irr _, by simp, bl_irr _⟩
  · cases h : Op.bytesLess a.toList b.toList with
    | true => exact .inl ⟨rfl, by simpa using he, bl_asym _ _ h⟩
    | false => exact .inr (.inr ⟨rfl, by simpa using he, bl_tri _ _ h he⟩)

theorem outI_next (most : Bool) (xs : List (Int × Int)) {k : Nat} {x : Int × Int} (hx : xs[k]? = some x) :
    outI most xs (max (k + 1) 1) = if (if most then decide (outI most xs (max k 1) < x.2) else decide (x.2 < outI most xs (max k 1))) = true then x.2 else outI most xs (max k 1) := by
  rw [Nat.max_eq_left (by omega : 1 ≤ k + 1)]
  by_cases hk : k = 0
  · subst hk
    rw [show max 0 1 = 1 from rfl, outI_one most xs hx]
    simp
  · rw [Nat.max_eq_left (by omega : 1 ≤ k)]
    by_cases h : (if most then decide (outI most xs k < x.2) else decide (x.2 < outI most xs k)) = true
    · rw [if_pos h]; exact outI_yes most xs hx hk h
    · rw [if_neg h]; exact outI_no most xs hx hk (Bool.eq_false_iff.2 h)
theorem outS_next (most : Bool) (xs : List (Int × Int)) {k : Nat} {x : Int × Int} (hx : xs[k]? = some x) :
    outS most xs (max (k + 1) 1) = if (if most then lessS (outS most xs (max k 1)) (keyS x.2) else lessS (keyS x.2) (outS most xs (max k 1))) = true then keyS x.2 else outS most xs (max k 1) := by
  rw [Nat.max_eq_left (by omega : 1 ≤ k + 1)]
  by_cases hk : k = 0
  · subst hk
    rw [show max 0 1 = 1 from rfl, outS_one most xs hx]
    simp
  · rw [Nat.max_eq_left (by omega : 1 ≤ k)]
    by_cases h : (if most then lessS (outS most xs k) (keyS x.2) else lessS (keyS x.2) (outS most xs k)) = true
    · rw [if_pos h]; exact outS_yes most xs hx hk h
    · rw [if_neg h]; exact outS_no most xs hx hk (Bool.eq_false_iff.2 h)

set_option maxRecDepth 100000 in
set_option maxHeartbeats 8000000 in
theorem cends_true (W : World) (c p a b : Nat) (wid now : Int) (va vb lv : Value) (l : List (Int × Int)) (hl : l.length ≤ 1073741824) (h : CaseS W c p a b wid now va vb lv l) :
    Calls Try.prog 11 #[.pointer (some ⟨c, 0, none⟩), .bool true] W fun e w' => e = .returned (.bool true) ∧ Below W.heap.size W w' := by
  obtain ⟨c0, c1, c2, c3⟩ := h.cells
  have hclt := lt_of_block h.hc
  have KC := Lib.hid (h.keptc hl)
  have HH := Lib.hid h
  clear h
  go_enter Try.func11, Try.ntmps11
  obtain ⟨xs, hxs⟩ : ∃ xs, keptL wid now l = xs := ⟨_, rfl⟩
  have hl16 : xs.length ≤ 16 := by rw [← hxs]; exact keptL_le _ _ _
  rw [hxs] at KC
  have HX := Lib.hid hxs
  clear hxs
  go_upto_region 1 with fail
  go_cut [5] from 14 (fun s5 wc => Hid (wc.ownsRow W.heap.size 56 2 s5 xs.length (flat ei xs)) ∧ Hid (Below W.heap.size W wc))
  case first =>
    go_region_with (go_at_call 9; refine KC.out.mono ?_; rintro e w1 ⟨v', rfl, hk, hb⟩; have HK := Lib.hid hk; have HB := Lib.hid hb; clear hk hb)
    all_goals
      go_wp2_with fail
      go_meet
      exact ⟨HK, HB⟩
  case rest =>
    obtain ⟨HK, HB⟩ := hcut
    have d0 := (HB.out.cell (p := ⟨c, 0, none⟩) hclt).trans c0
    clear c0 c1 c2 c3
    have hws := (HH.out.below HB.out).ws
    rw [HX.out] at hws
    have HW := Lib.hid (ends_any true wc p a b wid now va vb xs hl16 hws)
    clear hws
    by_cases hn : 0 < xs.length
    · obtain ⟨g3, cap3, rfl, hc3⟩ := owns_form HK.out hn
      have L3 := owns_slt HK.out
      have hne : ((xs.length : Int) == 0) = false := by simpa using (by omega : ¬ xs.length = 0)
      have hd : decide (0 < xs.length) = true := by simpa using hn
      rw [hd] at HW
      go_wp2_with fail
      refine HW.out.mono ?_
      rintro e w2 ⟨rfl, hb2⟩
      have HC := Lib.hid ((HB.out.trans (hb2.mono HB.out.size)))
      have H3 := Lib.hid (ownsRow_below HK.out hb2)
      have L3' : g3 < w2.heap.size := by have := hb2.size; omega
      have HRv : Hid (∀ x ∈ xs, Rng x.2) := Lib.hid (by rw [← HX.out]; exact fun x hx => HH.out.rv x (keptL_mem hx))
      clear hb2 HW hd d0
      obtain ⟨⟨y1, y2⟩, hy⟩ : ∃ x, xs[0]? = some x := ⟨_, List.getElem?_eq_getElem hn⟩
      have cy := owns_cell H3.out _ _ (flat_get ei xs 0 _ hy).2
      simp only [Nat.zero_mul, Nat.zero_add] at cy
      have hry := HRv.out _ (List.mem_of_getElem? hy)
      have K0 := Lib.hid (key_any y2 w2 hry.1 hry.2)
      have HO := Lib.hid (And.intro (outI_one true xs hy) (outS_one true xs hy))
      have hn1 : (0 : Int) < (xs.length : Int) := by omega
      clear hy hry
      obtain ⟨ra, hra⟩ : ∃ r, outI true xs xs.length = r := ⟨_, rfl⟩
      obtain ⟨rs, hrs⟩ : ∃ r, outS true xs xs.length = r := ⟨_, rfl⟩
      rw [hra, hrs]
      have HR := Lib.hid (And.intro hra hrs)
      clear hra hrs
      go_wp2_with fail
      refine K0.out.mono ?_
      rintro e w3 ⟨rfl, hb3⟩
      have HN3 := Lib.hid hb3
      clear hb3 K0
      go_wp2_with fail
      go_loopw [10, 11, 12] (fun v s i wr => ∃ k : Nat, k ≤ xs.length ∧ i = .int .i64 k ∧ v = .int .i64 (outI true xs (max k 1)) ∧ s = .string (outS true xs (max k 1)) ∧ Below w2.heap.size w2 wr) (fun _ _ i _ => xs.length - (intOf i).toNat)
      case atStart => exact ⟨0, Nat.zero_le _, rfl, by rw [show max 0 1 = 1 from rfl, HO.out.1], by rw [show max 0 1 = 1 from rfl, HO.out.2], HN3.out⟩
      case round =>
        obtain ⟨k, hk, rfl, rfl, rfl, hnx⟩ := hrel
        by_cases hlt : k < xs.length
        · obtain ⟨⟨x1, x2⟩, hx⟩ : ∃ x, xs[k]? = some x := ⟨_, List.getElem?_eq_getElem hlt⟩
          have f3 := (flat_get ei xs k _ hx).2
          have cx := (hnx.cell (p := ⟨g3, k * 2 + 1, none⟩) L3').trans (owns_cell H3.out _ _ f3)
          have hrx := HRv.out _ (List.mem_of_getElem? hx)
          have K := Lib.hid (key_any x2 wr hrx.1 hrx.2)
          have HN := Lib.hid hnx
          have NI := outI_next true xs hx
          have NS := outS_next true xs hx
          dsimp only at NI NS
          have hx0 := hx
          clear hrx f3 hnx cy
          obtain ⟨v, hv⟩ : ∃ v, outI true xs (max k 1) = v := ⟨_, rfl⟩
          obtain ⟨s, hs⟩ : ∃ s, outS true xs (max k 1) = s := ⟨_, rfl⟩
          rw [hv] at NI ⊢
          rw [hs] at NS ⊢
          have HNI := Lib.hid NI
          have HNS := Lib.hid NS
          clear hv hs NI NS hx hx0
          go_wp2_with fail
          refine K.out.mono ?_
          rintro e w4 ⟨rfl, hb4⟩
          have HN4 := Lib.hid (HN.out.trans (hb4.mono HN.out.size))
          have dx := (hb4.cell (p := ⟨g3, k * 2 + 1, none⟩) (by have := HN.out.size; simp; omega)).trans cx
          clear hb4 cx K
          have rel : ∀ vv ss, outI true xs (max (k + 1) 1) = vv → outS true xs (max (k + 1) 1) = ss → ∃ k' : Nat, k' ≤ xs.length ∧ Value.int .i64 ((k : Int) + 1) = .int .i64 k' ∧ Value.int .i64 vv = .int .i64 (outI true xs (max k' 1)) ∧ Value.string ss = .string (outS true xs (max k' 1)) ∧ Below w2.heap.size w2 w4 := fun vv ss h1 h2 => ⟨k + 1, by omega, by simp, by rw [h1], by rw [h2], HN4.out⟩
          have REL := Lib.hid rel
          clear rel
          rcases Int.lt_trichotomy x2 v with hc | hc | hc
          all_goals rcases s_tri (keyS x2) s with ⟨s1, s2, s3⟩ | ⟨s1, s2, s3⟩ | ⟨s1, s2, s3⟩
          all_goals
            first
              | subst hc
              | (have i1 : (x2 == v) = false := by simpa using (by omega : ¬ x2 = v)
                 have i4 : (x2 != v) = true := by simpa using (by omega : ¬ x2 = v)
                 first
                   | have i3 : decide (v < x2) = true := by simpa using hc
                   | have i3 : decide (v < x2) = false := by simpa using (by omega : x2 ≤ v))
            go_wp2_with fail
            go_roundw
            case rel =>
              refine REL.out _ _ ?_ ?_
              · rw [HNI.out]
                simp only [if_true, decide_eq_true_eq]
                first | rfl | (split <;> first | rfl | omega)
              · rw [HNS.out]
                simp [lessS, s3]
            case measure => simp [intOf]; omega
        · obtain rfl : k = xs.length := by omega
          have HN := Lib.hid hnx
          clear hnx
          rw [Nat.max_eq_left (by omega : 1 ≤ xs.length), HR.out.1, HR.out.2]
          go_wp2_with fail
          go_ret
          exact ⟨rfl, HC.out.trans (HN.out.mono HC.out.size)⟩
    · obtain ⟨a3, cap3, rfl⟩ := sl_of_owns' HK.out
      obtain h0 : xs.length = 0 := by omega
      rw [h0, outI_zero, outS_zero] at HW
      rw [h0]
      clear h0 hn
      go_wp2_with fail
      refine HW.out.mono ?_
      rintro e w2 ⟨rfl, hb2⟩
      have HC := Lib.hid ((HB.out.trans (hb2.mono HB.out.size)))
      clear hb2 HW
      go_wp2_with fail
      go_ret
      exact ⟨rfl, HC.out⟩

set_option maxRecDepth 100000 in
set_option maxHeartbeats 8000000 in
theorem cends_false (W : World) (c p a b : Nat) (wid now : Int) (va vb lv : Value) (l : List (Int × Int)) (hl : l.length ≤ 1073741824) (h : CaseS W c p a b wid now va vb lv l) :
    Calls Try.prog 11 #[.pointer (some ⟨c, 0, none⟩), .bool false] W fun e w' => e = .returned (.bool true) ∧ Below W.heap.size W w' := by
  obtain ⟨c0, c1, c2, c3⟩ := h.cells
  have hclt := lt_of_block h.hc
  have KC := Lib.hid (h.keptc hl)
  have HH := Lib.hid h
  clear h
  go_enter Try.func11, Try.ntmps11
  obtain ⟨xs, hxs⟩ : ∃ xs, keptL wid now l = xs := ⟨_, rfl⟩
  have hl16 : xs.length ≤ 16 := by rw [← hxs]; exact keptL_le _ _ _
  rw [hxs] at KC
  have HX := Lib.hid hxs
  clear hxs
  go_upto_region 1 with fail
  go_cut [5] from 14 (fun s5 wc => Hid (wc.ownsRow W.heap.size 56 2 s5 xs.length (flat ei xs)) ∧ Hid (Below W.heap.size W wc))
  case first =>
    go_region_with (go_at_call 9; refine KC.out.mono ?_; rintro e w1 ⟨v', rfl, hk, hb⟩; have HK := Lib.hid hk; have HB := Lib.hid hb; clear hk hb)
    all_goals
      go_wp2_with fail
      go_meet
      exact ⟨HK, HB⟩
  case rest =>
    obtain ⟨HK, HB⟩ := hcut
    have d0 := (HB.out.cell (p := ⟨c, 0, none⟩) hclt).trans c0
    clear c0 c1 c2 c3
    have hws := (HH.out.below HB.out).ws
    rw [HX.out] at hws
    have HW := Lib.hid (ends_any false wc p a b wid now va vb xs hl16 hws)
    clear hws
    by_cases hn : 0 < xs.length
    · obtain ⟨g3, cap3, rfl, hc3⟩ := owns_form HK.out hn
      have L3 := owns_slt HK.out
      have hne : ((xs.length : Int) == 0) = false := by simpa using (by omega : ¬ xs.length = 0)
      have hd : decide (0 < xs.length) = true := by simpa using hn
      rw [hd] at HW
      go_wp2_with fail
      refine HW.out.mono ?_
      rintro e w2 ⟨rfl, hb2⟩
      have HC := Lib.hid ((HB.out.trans (hb2.mono HB.out.size)))
      have H3 := Lib.hid (ownsRow_below HK.out hb2)
      have L3' : g3 < w2.heap.size := by have := hb2.size; omega
      have HRv : Hid (∀ x ∈ xs, Rng x.2) := Lib.hid (by rw [← HX.out]; exact fun x hx => HH.out.rv x (keptL_mem hx))
      clear hb2 HW hd d0
      obtain ⟨⟨y1, y2⟩, hy⟩ : ∃ x, xs[0]? = some x := ⟨_, List.getElem?_eq_getElem hn⟩
      have cy := owns_cell H3.out _ _ (flat_get ei xs 0 _ hy).2
      simp only [Nat.zero_mul, Nat.zero_add] at cy
      have hry := HRv.out _ (List.mem_of_getElem? hy)
      have K0 := Lib.hid (key_any y2 w2 hry.1 hry.2)
      have HO := Lib.hid (And.intro (outI_one false xs hy) (outS_one false xs hy))
      have hn1 : (0 : Int) < (xs.length : Int) := by omega
      clear hy hry
      obtain ⟨ra, hra⟩ : ∃ r, outI false xs xs.length = r := ⟨_, rfl⟩
      obtain ⟨rs, hrs⟩ : ∃ r, outS false xs xs.length = r := ⟨_, rfl⟩
      rw [hra, hrs]
      have HR := Lib.hid (And.intro hra hrs)
      clear hra hrs
      go_wp2_with fail
      refine K0.out.mono ?_
      rintro e w3 ⟨rfl, hb3⟩
      have HN3 := Lib.hid hb3
      clear hb3 K0
      go_wp2_with fail
      go_loopw [10, 11, 12] (fun v s i wr => ∃ k : Nat, k ≤ xs.length ∧ i = .int .i64 k ∧ v = .int .i64 (outI false xs (max k 1)) ∧ s = .string (outS false xs (max k 1)) ∧ Below w2.heap.size w2 wr) (fun _ _ i _ => xs.length - (intOf i).toNat)
      case atStart => exact ⟨0, Nat.zero_le _, rfl, by rw [show max 0 1 = 1 from rfl, HO.out.1], by rw [show max 0 1 = 1 from rfl, HO.out.2], HN3.out⟩
      case round =>
        obtain ⟨k, hk, rfl, rfl, rfl, hnx⟩ := hrel
        by_cases hlt : k < xs.length
        · obtain ⟨⟨x1, x2⟩, hx⟩ : ∃ x, xs[k]? = some x := ⟨_, List.getElem?_eq_getElem hlt⟩
          have f3 := (flat_get ei xs k _ hx).2
          have cx := (hnx.cell (p := ⟨g3, k * 2 + 1, none⟩) L3').trans (owns_cell H3.out _ _ f3)
          have hrx := HRv.out _ (List.mem_of_getElem? hx)
          have K := Lib.hid (key_any x2 wr hrx.1 hrx.2)
          have HN := Lib.hid hnx
          have NI := outI_next false xs hx
          have NS := outS_next false xs hx
          dsimp only at NI NS
          have hx0 := hx
          clear hrx f3 hnx cy
          obtain ⟨v, hv⟩ : ∃ v, outI false xs (max k 1) = v := ⟨_, rfl⟩
          obtain ⟨s, hs⟩ : ∃ s, outS false xs (max k 1) = s := ⟨_, rfl⟩
          rw [hv] at NI ⊢
          rw [hs] at NS ⊢
          have HNI := Lib.hid NI
          have HNS := Lib.hid NS
          clear hv hs NI NS hx hx0
          go_wp2_with fail
          refine K.out.mono ?_
          rintro e w4 ⟨rfl, hb4⟩
          have HN4 := Lib.hid (HN.out.trans (hb4.mono HN.out.size))
          have dx := (hb4.cell (p := ⟨g3, k * 2 + 1, none⟩) (by have := HN.out.size; simp; omega)).trans cx
          clear hb4 cx K
          have rel : ∀ vv ss, outI false xs (max (k + 1) 1) = vv → outS false xs (max (k + 1) 1) = ss → ∃ k' : Nat, k' ≤ xs.length ∧ Value.int .i64 ((k : Int) + 1) = .int .i64 k' ∧ Value.int .i64 vv = .int .i64 (outI false xs (max k' 1)) ∧ Value.string ss = .string (outS false xs (max k' 1)) ∧ Below w2.heap.size w2 w4 := fun vv ss h1 h2 => ⟨k + 1, by omega, by simp, by rw [h1], by rw [h2], HN4.out⟩
          have REL := Lib.hid rel
          clear rel
          rcases Int.lt_trichotomy x2 v with hc | hc | hc
          all_goals rcases s_tri (keyS x2) s with ⟨s1, s2, s3⟩ | ⟨s1, s2, s3⟩ | ⟨s1, s2, s3⟩
          all_goals
            first
              | subst hc
              | (have i1 : (x2 == v) = false := by simpa using (by omega : ¬ x2 = v)
                 have i4 : (x2 != v) = true := by simpa using (by omega : ¬ x2 = v)
                 first
                   | have i3 : decide (v < x2) = true := by simpa using hc
                   | have i3 : decide (v < x2) = false := by simpa using (by omega : x2 ≤ v))
            go_wp2_with fail
            go_roundw
            case rel =>
              refine REL.out _ _ ?_ ?_
              · rw [HNI.out]
                simp only [if_false, decide_eq_true_eq, Bool.false_eq_true]
                first | rfl | (split <;> first | rfl | omega)
              · rw [HNS.out]
                simp [lessS, s1]
            case measure => simp [intOf]; omega
        · obtain rfl : k = xs.length := by omega
          have HN := Lib.hid hnx
          clear hnx
          rw [Nat.max_eq_left (by omega : 1 ≤ xs.length), HR.out.1, HR.out.2]
          go_wp2_with fail
          go_ret
          exact ⟨rfl, HC.out.trans (HN.out.mono HC.out.size)⟩
    · obtain ⟨a3, cap3, rfl⟩ := sl_of_owns' HK.out
      obtain h0 : xs.length = 0 := by omega
      rw [h0, outI_zero, outS_zero] at HW
      rw [h0]
      clear h0 hn
      go_wp2_with fail
      refine HW.out.mono ?_
      rintro e w2 ⟨rfl, hb2⟩
      have HC := Lib.hid ((HB.out.trans (hb2.mono HB.out.size)))
      clear hb2 HW
      go_wp2_with fail
      go_ret
      exact ⟨rfl, HC.out⟩
end Go.Proofs.Ytacjjmdhiphckaa
