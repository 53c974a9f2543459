/- Slides: the reference's Kept: of all samples that were pushed the newest sixteen that are in. -/
import Derived.Test.YtacjjmdhiphckaaAdv
import Derived.Laws.AppendOwnNone
namespace Go.Proofs.Ytacjjmdhiphckaa
open Go.RowKit

/-- The newest sixteen that are in. -/
def keptL (wid now : Int) (l : List (Int × Int)) : List (Int × Int) :=
  (l.filter fun x => inB wid now x.1).drop ((l.filter fun x => inB wid now x.1).length - 16)

theorem keptL_nil (wid now : Int) : keptL wid now [] = [] := rfl
theorem keptL_le (wid now : Int) (l : List (Int × Int)) : (keptL wid now l).length ≤ 16 := by
  unfold keptL
  rw [List.length_drop]; omega
theorem keptL_in (wid now : Int) (x : Int × Int) (r : List (Int × Int)) (h : inB wid now x.1 = true) (hl : (keptL wid now r).length < 16) : keptL wid now (x :: r) = x :: keptL wid now r := by
  unfold keptL at hl ⊢
  rw [List.length_drop] at hl
  have e : ((x :: r).filter fun x => inB wid now x.1) = x :: r.filter fun x => inB wid now x.1 := by simp [h]
  rw [e]
  rw [show (x :: r.filter fun x => inB wid now x.1).length - 16 = 0 by simp only [List.length_cons]; omega, show (r.filter fun x => inB wid now x.1).length - 16 = 0 by omega]
  rfl
theorem keptL_out (wid now : Int) (x : Int × Int) (r : List (Int × Int)) (h : inB wid now x.1 = false) : keptL wid now (x :: r) = keptL wid now r := by
  unfold keptL
  have e : ((x :: r).filter fun x => inB wid now x.1) = r.filter fun x => inB wid now x.1 := by simp [h]
  rw [e]
theorem keptL_full (wid now : Int) (a r : List (Int × Int)) (hl : (keptL wid now r).length = 16) : keptL wid now (a ++ r) = keptL wid now r := by
  unfold keptL at hl ⊢
  rw [List.length_drop] at hl
  rw [List.filter_append, List.length_append, List.drop_append, List.drop_eq_nil_of_le (by omega), List.nil_append]
  congr 1
  omega

theorem Try.info56 : (Try.prog.info? 56).map (fun i => (i.zero, i.size, i.bytes)) = some (some (.agg #[.int .i64 0, .int .i64 0]), 2, 16) := by kernel_rfl

/-- A slice of one sample that has just been built. -/
theorem owns_one {W : World} {eT : TypeId} {base : Nat} (a b : Value) (hb : base ≤ W.heap.size) : (W.alloc (.cells #[a, b] eT)).ownsRow base eT 2 (.slice (some ⟨W.heap.size, 0, none⟩) 1 1) 1 [a, b] :=
  ⟨rfl, .inr ⟨W.heap.size, 1, #[a, b], rfl, hb, heap_alloc_new W _, Nat.le_refl _, by decide, rfl, rfl⟩⟩

set_option maxRecDepth 100000 in
set_option maxHeartbeats 2000000 in
theorem kept_any (v : Value) (l : List (Int × Int)) (wid now : Int) (w : World) (hr : Row ei 56 w v l) (hl : l.length ≤ 1073741824) (hrg : ∀ x ∈ l, Rng x.1) (h3 : wid ≤ 9223372036854775807) :
    Calls Try.prog 9 #[v, .int .i64 wid, .int .i64 now] w fun e w' => ∃ v', e = .returned v' ∧ w'.ownsRow w.heap.size 56 2 v' (keptL wid now l).length (flat ei (keptL wid now l)) ∧ Below w.heap.size w w' := by
  obtain ⟨i0, hi, hz0, hz1, hz2⟩ := info_parts Try.info56
  rcases hr with ⟨rfl, rfl⟩ | ⟨g, off, cap, cur, rfl, hg, hn, hm, hs, hc⟩
  · go_enter Try.func9, Try.ntmps9
    go_wp2_with fail
    refine wp_loop_rounds 1 ?_
    rw [rounds_succ]
    go_wp2_with fail
    go_ret
    exact ⟨_, rfl, World.ownsRow_nil _ _ _ _, Below.refl _ _⟩
  · have hglt := lt_of_block hg
    have HC := Lib.hid hc
    have HG := Lib.hid hg
    clear hc hg
    go_enter Try.func9, Try.ntmps9
    go_wp2_with fail
    go_loopw [7, 8] (fun o i wr => ∃ k : Nat, k ≤ l.length ∧ i = .int .i64 ((k : Int) - 1) ∧ wr.ownsRow w.heap.size 56 2 o (keptL wid now (l.drop k)).length (flat ei (keptL wid now (l.drop k))) ∧ Below w.heap.size w wr) (fun _ i _ => (intOf i + 1).toNat)
    case atStart => exact ⟨l.length, Nat.le_refl _, rfl, by rw [List.drop_length]; exact World.ownsRow_nil _ _ _ _, Below.refl _ _⟩
    case round =>
      obtain ⟨k, hk, rfl, hown, hbl⟩ := hrel
      have hle := keptL_le wid now (l.drop k)
      obtain ⟨q, hq⟩ : ∃ q, keptL wid now (l.drop k) = q := ⟨_, rfl⟩
      have HQ := Lib.hid hq
      rw [hq] at hown hle
      clear hq
      have hsz := hbl.size
      by_cases hk0 : 1 ≤ k
      · by_cases h16 : q.length < 16
        · obtain ⟨⟨x1, x2⟩, hx⟩ : ∃ x, l[k - 1]? = some x := ⟨_, List.getElem?_eq_getElem (by omega)⟩
          have hdr : l.drop (k - 1) = (x1, x2) :: l.drop k := by
            rw [List.drop_eq_getElem_cons (by omega), show k - 1 + 1 = k by omega]
            congr 1
            rw [List.getElem?_eq_getElem (by omega)] at hx
            exact Option.some.inj hx
          have hrx : Rng x1 := hrg _ (List.mem_of_getElem? hx)
          have cx0 : wr.cell? ⟨g, off + (k - 1) * 2, none⟩ = some (.int .i64 x1) := by rw [hbl.cell (p := ⟨g, _, none⟩) hglt, cell_of_row w g _ _ _ _ HG.out]; exact (HC.out (k - 1) _ hx).1
          have cx1 : wr.cell? ⟨g, off + (k - 1) * 2 + 1, none⟩ = some (.int .i64 x2) := by rw [hbl.cell (p := ⟨g, _, none⟩) hglt, cell_of_row w g _ _ _ _ HG.out]; exact (HC.out (k - 1) _ hx).2
          have HD := Lib.hid hdr
          clear hdr hx
          by_cases hin : inB wid now x1 = true
          · have hkp : keptL wid now (l.drop (k - 1)) = (x1, x2) :: q := by rw [HD.out, keptL_in _ _ _ _ hin (by rw [HQ.out]; exact h16), HQ.out]
            have HKP := Lib.hid hkp
            have HI := Lib.hid hin
            clear hin hkp
            have ho1 := owns_one (eT := 56) (.int .i64 x1) (.int .i64 x2) hsz
            have hlen := hown.1
            rcases hown.2 with ⟨rfl, h0⟩ | ⟨go, oc, ocur, rfl, hgb, hgo, _, _, _, _⟩
            · have hq0 : q = [] := List.eq_nil_of_length_eq_zero h0
              subst hq0
              clear h0 hlen hle h16
              go_wp2_with (first | (go_at_call 17; refine (in_any x1 wid now _ hrx.1 hrx.2 h3).mono ?_; rw [HI.out]; rintro e w' ⟨rfl, rfl⟩) | (at_builtin; refine wpList_append_own_none rfl (.tmp 35) (.tmp 36) 25 rfl w.heap.size 56 i0 2 Try.underlying25 hi (.slice (some ⟨wr.heap.size, 0, none⟩) 1 1) 1 [.int .i64 x1, .int .i64 x2] rfl ho1 rfl ?_))
              go_roundw
              case rel => exact ⟨k - 1, by omega, by go_num, by rw [HKP.out]; exact ho1, hbl.alloc hsz _⟩
              case measure => simp [intOf]; omega
            · have hnews : ∀ j u, (flat ei q)[j]? = some u → (wr.alloc (.cells #[.int .i64 x1, .int .i64 x2] 56)).cell? ((⟨go, 0, none⟩ : Addr).add j) = some u := (hown.alloc _).cells (g := go) rfl
              have hone : ∀ u ∈ flat ei q, u.oneCell' = true := by
                intro u hu
                simp only [flat, List.mem_flatMap] at hu
                obtain ⟨y, _, hy⟩ := hu
                simp at hy
                rcases hy with rfl | rfl <;> rfl
              have HN := Lib.hid hnews
              have HO := Lib.hid hone
              have HL := Lib.hid hlen
              clear hnews hone hlen
              go_wp2_with (first | (go_at_call 17; refine (in_any x1 wid now _ hrx.1 hrx.2 h3).mono ?_; rw [HI.out]; rintro e w' ⟨rfl, rfl⟩) | (at_builtin; refine wpList_append_own _ rfl (.tmp 35) (.tmp 36) 25 rfl w.heap.size 56 i0 _ 2 16 Try.underlying25 hi hz0 hz1 hz2 rfl (by decide) (.slice (some ⟨wr.heap.size, 0, none⟩) 1 1) 1 [.int .i64 x1, .int .i64 x2] rfl ho1 ⟨go, 0, none⟩ q.length oc (flat ei q) rfl HL.out HN.out HO.out (by unfold maxLen; omega) (by omega) (by simp; omega) ?_; intro v' w1 hown' hgrow _))
              go_roundw
              case rel =>
                refine ⟨k - 1, by omega, by go_num, ?_, ?_⟩
                · rw [HKP.out, flat_cons]
                  rw [show ((x1, x2) :: q).length = 1 + q.length by simp; omega]
                  exact hown'
                · exact (hbl.alloc hsz _).grown hgrow (by simp; omega) (fun k hk => by simp [Value.ownBlock] at hk; omega)
              case measure => simp [intOf]; omega
          · have hin' : inB wid now x1 = false := by simpa using hin
            have HI := Lib.hid hin'
            clear hin hin'
            have hsh : ∃ a c, u7 = .slice a q.length c := by
              rcases hown.2 with ⟨h, h0⟩ | ⟨g', c', cur', h, _⟩
              · exact ⟨_, _, by rw [h, h0]⟩
              · exact ⟨_, _, h⟩
            obtain ⟨oa, oc, rfl⟩ := hsh
            go_wp2_with (go_at_call 17; refine (in_any x1 wid now _ hrx.1 hrx.2 h3).mono ?_; rw [HI.out]; rintro e w' ⟨rfl, rfl⟩)
            go_roundw
            case rel => exact ⟨k - 1, by omega, by go_num, by rw [HD.out, keptL_out _ _ _ _ HI.out, HQ.out]; exact hown, hbl⟩
            case measure => simp [intOf]; omega
        · have hsh : ∃ a c, u7 = .slice a q.length c := by
            rcases hown.2 with ⟨h, h0⟩ | ⟨g', c', cur', h, _⟩
            · exact ⟨_, _, by rw [h, h0]⟩
            · exact ⟨_, _, h⟩
          obtain ⟨oa, oc, rfl⟩ := hsh
          go_wp2_with fail
          go_ret
          have e : keptL wid now l = q := by
            rw [← List.take_append_drop k l, keptL_full _ _ _ _ (by rw [HQ.out]; omega), HQ.out]
          rw [e]
          exact ⟨_, rfl, hown, hbl⟩
      · obtain rfl : k = 0 := by omega
        have hsh : ∃ a c, u7 = .slice a q.length c := by
          rcases hown.2 with ⟨h, h0⟩ | ⟨g', c', cur', h, _⟩
          · exact ⟨_, _, by rw [h, h0]⟩
          · exact ⟨_, _, h⟩
        obtain ⟨oa, oc, rfl⟩ := hsh
        go_wp2_with fail
        go_ret
        have e : keptL wid now l = q := HQ.out
        rw [e]
        exact ⟨_, rfl, hown, hbl⟩
end Go.Proofs.Ytacjjmdhiphckaa
