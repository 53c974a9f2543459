/- Slides: what a call may touch (Tch), and a slice of samples at an offset in a block of its own (Row). -/
import Derived.WalkKit
import Derived.WalkSmall
import Derived.ArgAppend
import Derived.Lib.Hide
import Derived.Deep.AppendLies
namespace Go.Proofs.Ytacjjmdhiphckaa
open Go.RowKit

/-- From w to w' no block has turned but those in S and new ones. -/
structure Tch (S : Nat → Prop) (w w' : World) : Prop where
  os : w'.os = w.os
  tape : w'.tape = w.tape
  output : w'.output = w.output
  size : w.heap.size ≤ w'.heap.size
  block : ∀ k, k < w.heap.size → ¬ S k → w'.heap[k]? = w.heap[k]?

theorem Tch.refl (S : Nat → Prop) (w : World) : Tch S w w := ⟨rfl, rfl, rfl, Nat.le_refl _, fun _ _ _ => rfl⟩
theorem Tch.trans {S T : Nat → Prop} {a b c : World} (h : Tch S a b) (k : Tch T b c) (hs : ∀ j, j < a.heap.size → T j → S j) : Tch S a c :=
  ⟨k.os.trans h.os, k.tape.trans h.tape, k.output.trans h.output, Nat.le_trans h.size k.size, fun j hj hn =>
    (k.block j (Nat.lt_of_lt_of_le hj h.size) (fun ht => hn (hs j hj ht))).trans (h.block j hj hn)⟩
theorem Tch.mono {S T : Nat → Prop} {a b : World} (h : Tch S a b) (hs : ∀ j, j < a.heap.size → S j → T j) : Tch T a b :=
  ⟨h.os, h.tape, h.output, h.size, fun j hj hn => h.block j hj (fun s => hn (hs j hj s))⟩
theorem Tch.of_grownBy {w w' : World} {row : Option Nat} (h : w.grownBy w' row) : Tch (fun k => row = some k) w w' :=
  ⟨h.os, h.tape, h.output, h.size, fun k hk hn => h.block k hk (fun e => hn e.symm)⟩
theorem Tch.of_below {n : Nat} {w w' : World} (h : Below n w w') : Tch (fun k => n ≤ k) w w' :=
  ⟨h.os, h.tape, h.output, h.size, fun k _ hn => h.block k (by omega)⟩
theorem Tch.below {S : Nat → Prop} {n : Nat} {w w' : World} (h : Tch S w w') (hn : n ≤ w.heap.size) (hs : ∀ k, S k → n ≤ k) : Below n w w' :=
  ⟨h.os, h.tape, h.output, h.size, fun k hk => h.block k (by omega) (fun s => by have := hs k s; omega)⟩
theorem Tch.drewN (S : Nat → Prop) (w : World) (n : Nat) : Tch S w (w.drewN n) := ⟨rfl, rfl, rfl, Nat.le_refl _, fun _ _ _ => rfl⟩
theorem Tch.alloc (S : Nat → Prop) (w : World) (o : Obj) : Tch S w (w.alloc o) :=
  ⟨rfl, rfl, rfl, by simp, fun k hk _ => Below.heap_alloc w o k hk⟩
theorem Tch.setCell {S : Nat → Prop} (w : World) {a : Addr} (ha : S a.block) (v : Value) : Tch S w (w.setCell a v) :=
  ⟨rfl, rfl, rfl, by simp [World.setCell], fun k _ hn => Below.heap_setCell _ _ _ _ (fun e => hn (by rw [e]; exact ha))⟩
theorem Tch.heap {S : Nat → Prop} {w w' : World} (h : Tch S w w') {k : Nat} {o : Obj} (hk : w.heap[k]? = some o) (hn : ¬ S k) : w'.heap[k]? = some o :=
  (h.block k (lt_of_block hk) hn).trans hk

/-- A block behind a store into one of its cells. -/
theorem heap_setCell_at {w : World} {b o : Nat} {c : Array Value} {t : TypeId} {fr : Nat × Nat} (h : w.heap[b]? = some (.cells c t fr)) (v : Value) :
    (w.setCell ⟨b, o, none⟩ v).heap[b]? = some (.cells (c.setIfInBounds o v) t fr) := by
  have hlt := lt_of_block h
  have h' : w.heap[b] = .cells c t fr := by simpa [Array.getElem?_eq_getElem hlt] using h
  show (w.heap.modify b _)[b]? = _
  rw [Array.getElem?_eq_getElem (by simpa using hlt), Array.getElem_modify_self, h']
  rfl
theorem frozen_of_row (w : World) (g j : Nat) (cs : Array Value) (t : TypeId) (hg : w.heap[g]? = some (.cells cs t (0, 0))) : w.frozen? ⟨g, j, none⟩ = false := by
  simp [World.frozen?, hg]

/-- The slice value v holds the samples xs (two cells each: the time, and the value as e writes it), in a block of element type eT. -/
def Row (e : Int → Value) (eT : TypeId) (W : World) (v : Value) (xs : List (Int × Int)) : Prop :=
  (v = .slice none 0 0 ∧ xs = []) ∨
  ∃ g off cap cur, v = .slice (some ⟨g, off, none⟩) xs.length cap ∧ W.heap[g]? = some (.cells cur eT (0, 0)) ∧ xs.length ≤ cap ∧ cap ≤ maxLen ∧ off + cap * 2 ≤ cur.size ∧
    ∀ j x, xs[j]? = some x → cur[off + j * 2]? = some (.int .i64 x.1) ∧ cur[off + j * 2 + 1]? = some (e x.2)

theorem Row.kept {e : Int → Value} {eT : TypeId} {S : Nat → Prop} {W W' : World} {v : Value} {xs : List (Int × Int)} (h : Row e eT W v xs) (ht : Tch S W W') (hn : ∀ g, v.ownBlock = some g → ¬ S g) : Row e eT W' v xs := by
  rcases h with h | ⟨g, off, cap, cur, rfl, hg, r⟩
  · exact .inl h
  · exact .inr ⟨g, off, cap, cur, rfl, ht.heap hg (hn g rfl), r⟩
theorem Row.blk {e : Int → Value} {eT : TypeId} {W : World} {v : Value} {xs : List (Int × Int)} (h : Row e eT W v xs) : ∀ g, v.ownBlock = some g → ∃ cur, W.heap[g]? = some (.cells cur eT (0, 0)) := by
  intro k hk
  rcases h with ⟨rfl, _⟩ | ⟨g, off, cap, cur, rfl, hg, r⟩
  · simp [Value.ownBlock] at hk
  · simp [Value.ownBlock] at hk
    subst hk
    exact ⟨cur, hg⟩
theorem Row.len {e : Int → Value} {eT : TypeId} {W : World} {v : Value} {xs : List (Int × Int)} (h : Row e eT W v xs) : ∃ a cap, v = .slice a xs.length cap := by
  rcases h with ⟨rfl, rfl⟩ | ⟨g, off, cap, cur, rfl, r⟩
  · exact ⟨_, _, rfl⟩
  · exact ⟨_, _, rfl⟩

/-- The cells of samples, one behind the other. -/
def flat (e : Int → Value) (xs : List (Int × Int)) : List Value := xs.flatMap fun x => [.int .i64 x.1, e x.2]
theorem flat_nil (e : Int → Value) : flat e [] = [] := rfl
theorem flat_cons (e : Int → Value) (x : Int × Int) (xs : List (Int × Int)) : flat e (x :: xs) = .int .i64 x.1 :: e x.2 :: flat e xs := rfl
theorem flat_append (e : Int → Value) (xs ys : List (Int × Int)) : flat e (xs ++ ys) = flat e xs ++ flat e ys := by simp [flat]
theorem flat_length (e : Int → Value) (xs : List (Int × Int)) : (flat e xs).length = xs.length * 2 := by
  induction xs with
  | nil => rfl
  | cons x xs ih => rw [flat_cons]; simp [ih]; omega
theorem flat_get (e : Int → Value) : ∀ (xs : List (Int × Int)) (j : Nat) (x : Int × Int), xs[j]? = some x → (flat e xs)[j * 2]? = some (.int .i64 x.1) ∧ (flat e xs)[j * 2 + 1]? = some (e x.2)
  | [], j, x, h => by simp at h
  | y :: ys, 0, x, h => by simp at h; subst h; exact ⟨rfl, rfl⟩
  | y :: ys, j + 1, x, h => by
    have := flat_get e ys j x (by simpa using h)
    rw [flat_cons, show (j + 1) * 2 = j * 2 + 1 + 1 by omega]
    simpa using this

/-- What the call owns as a row of cells reads as samples. -/
theorem Row.of_owns {e : Int → Value} {eT : TypeId} {W : World} {base : Nat} {v : Value} {xs : List (Int × Int)} (h : W.ownsRow base eT 2 v xs.length (flat e xs)) : Row e eT W v xs := by
  rcases h.2 with ⟨hv, h0⟩ | ⟨g, cap, cur, hv, _, hg, hn, hm, hs, ht⟩
  · exact .inl ⟨hv, List.eq_nil_of_length_eq_zero h0⟩
  · refine .inr ⟨g, 0, cap, cur, hv, hg, hn, hm, by omega, fun j x hx => ?_⟩
    have hj : j < xs.length := by
      rcases Nat.lt_or_ge j xs.length with h | h
      · exact h
      · simp [List.getElem?_eq_none h] at hx
    have f := flat_get e xs j x hx
    rw [← ht, List.getElem?_take, List.getElem?_take, if_pos (by omega), if_pos (by omega)] at f
    simpa using f

/-- One sample appended to a row of samples: in place, or into a new block. -/
theorem run_append_row {P : Program} (w : World) (e : Int → Value) (t ty eT : TypeId) (i : TypeInfo) (z : Value) (bytes : Nat) (ht : P.underlying t = some (.slice eT)) (hi : P.info? eT = some i) (hz : i.zero = some z)
    (hsize : i.size = 2) (hby : i.bytes = bytes) (hzs : z.cells.size = 2)
    (v : Value) (xs : List (Int × Int)) (hr : Row e eT w v xs) (x : Int × Int) (he : (e x.2).oneCell' = true)
    (ad : Addr) (c : Nat) (h0 : w.cell? ad = some (.int .i64 x.1)) (h1 : w.cell? (ad.add 1) = some (e x.2))
    (hlen : xs.length + 1 ≤ 4294967296) (hbytes : bytes ≤ 64) :
    ∃ g off cap w', (Builtin.append_ #[t, t] ty #[v, .slice (some ad) 1 c]).run P w = .ok (.slice (some ⟨g, off, none⟩) (xs.length + 1) cap) w' ∧
      Row e eT w' (.slice (some ⟨g, off, none⟩) (xs.length + 1) cap) (xs ++ [x]) ∧ w.grownBy w' v.ownBlock ∧ (v.ownBlock = some g ∨ w.heap.size ≤ g) := by
  have hnews : ∀ j u, [Value.int .i64 x.1, e x.2][j]? = some u → w.cell? (ad.add j) = some u := by
    intro j u hu
    match j, hu with
    | 0, hu => simp at hu; subst hu; have : ad.add 0 = ad := by cases ad; simp [Addr.add]
               rw [this]; exact h0
    | 1, hu => simp at hu; subst hu; exact h1
    | j + 2, hu => simp at hu
  have hone : ∀ u ∈ [Value.int .i64 x.1, e x.2], u.oneCell' = true := by
    intro u hu
    simp at hu
    rcases hu with rfl | rfl
    · rfl
    · exact he
  have b2 : (xs.length + 1) * bytes ≤ 140737488355328 := Nat.le_trans (Nat.mul_le_mul hlen hbytes) (by decide)
  have b1 : xs.length + 1 ≤ maxLen := by unfold maxLen; omega
  have ofOwn : ∀ v' w', w'.ownsRow w.heap.size eT 2 v' (xs.length + 1) (flat e xs ++ [.int .i64 x.1, e x.2]) →
      ∃ g off cap, v' = .slice (some ⟨g, off, none⟩) (xs.length + 1) cap ∧ Row e eT w' v' (xs ++ [x]) ∧ w.heap.size ≤ g := by
    intro v' w' ho
    obtain ⟨g, cap, rfl, hb, _⟩ := ho.form (by omega)
    refine ⟨g, 0, cap, rfl, ?_, hb⟩
    apply Row.of_owns (base := w.heap.size)
    rw [flat_append]
    simpa [flat_cons, flat_nil] using ho
  rcases hr with ⟨rfl, rfl⟩ | ⟨g, off, cap, cur, rfl, hg, hn, hm, hs, hc⟩
  · obtain ⟨v', w', hrun, ho, hgr, _⟩ := run_append_own (P := P) w w.heap.size t ty eT i z 2 bytes ht hi hz hsize hby hzs (by decide) (.slice none 0 0) 0 [] (World.ownsRow_nil w _ eT 2) ad 1 c [.int .i64 x.1, e x.2] rfl hnews hone (by simpa using b1) (by simpa using b2) (Nat.le_refl _)
    obtain ⟨g, off, cap, rfl, hr', hb⟩ := ofOwn v' w' (by simpa [flat_nil] using ho)
    exact ⟨g, off, cap, w', by simpa using hrun, hr', hgr, .inr hb⟩
  · by_cases hroom : xs.length + 1 ≤ cap
    · have hcs : ∀ j, j < [Value.int .i64 x.1, e x.2].length → (w.cell? ⟨g, off + xs.length * i.size + j, none⟩).isSome = true := by
        intro j hj
        rw [cell_of_row w g _ cur eT _ hg]
        simp at hj ⊢
        rw [hsize]; omega
      have hrun := run_append_room_cells (P := P) w t ty eT i ht hi g off xs.length cap ad 1 c [.int .i64 x.1, e x.2] (by rw [hsize]; rfl) hnews hone hroom hcs (fun j _ => frozen_of_row w g _ cur eT hg)
      rw [hsize] at hrun
      have e1 : w.setCells g (off + xs.length * 2) [.int .i64 x.1, e x.2] = (w.setCell ⟨g, off + xs.length * 2, none⟩ (.int .i64 x.1)).setCell ⟨g, off + xs.length * 2 + 1, none⟩ (e x.2) := rfl
      have hh := heap_setCell_at (o := off + xs.length * 2 + 1) (heap_setCell_at (o := off + xs.length * 2) hg (.int .i64 x.1)) (e x.2)
      refine ⟨g, off, cap, _, hrun, ?_, ?_, .inl rfl⟩
      · refine .inr ⟨g, off, cap, _, by simp, by rw [e1]; exact hh, by simpa using hroom, hm, by simpa using hs, fun j y hy => ?_⟩
        rw [List.getElem?_append] at hy
        split at hy
        · rename_i hj
          have := hc j y hy
          simp only [Array.getElem?_setIfInBounds]
          rw [if_neg (by omega), if_neg (by omega), if_neg (by omega), if_neg (by omega)]
          exact this
        · rename_i hj
          have hj' : j = xs.length := by
            rcases Nat.lt_or_ge (j - xs.length) 1 with h | h
            · omega
            · rw [List.getElem?_eq_none (by simpa using h)] at hy; cases hy
          subst hj'
          simp at hy
          subst hy
          simp only [Array.getElem?_setIfInBounds]
          refine ⟨?_, ?_⟩
          · rw [if_neg (by omega), if_pos trivial, if_pos (by omega)]
          · rw [if_pos trivial, if_pos (by simp; omega)]
      · rw [e1]
        refine ⟨rfl, rfl, rfl, by simp [World.setCell], fun k _ hk => ?_⟩
        have hk' : k ≠ g := fun h => hk (by rw [h]; rfl)
        rw [Below.heap_setCell _ _ _ _ hk', Below.heap_setCell _ _ _ _ hk']
    · obtain ⟨v', w', hrun, ho, hgr⟩ := run_append_arg_grows (P := P) w t ty eT i z 2 bytes ht hi hz hsize hby hzs (by decide) ⟨g, off, none⟩ xs.length cap (flat e xs) (flat_length e xs) (by
          intro j u hu
          rw [Addr.add_lit, cell_of_row w g _ cur eT _ hg]
          have hj : j < xs.length * 2 := by
            rcases Nat.lt_or_ge j (xs.length * 2) with h | h
            · exact h
            · rw [List.getElem?_eq_none (by rw [flat_length]; exact h)] at hu; cases hu
          obtain ⟨k, hk⟩ : ∃ k, j = k * 2 ∨ j = k * 2 + 1 := ⟨j / 2, by omega⟩
          have hkx : k < xs.length := by omega
          have hx := hc k xs[k] (List.getElem?_eq_getElem hkx)
          have hf := flat_get e xs k xs[k] (List.getElem?_eq_getElem hkx)
          rcases hk with rfl | rfl
          · rw [hf.1] at hu; cases hu; exact hx.1
          · rw [hf.2] at hu; cases hu; rw [← Nat.add_assoc]; exact hx.2) ad 1 c [.int .i64 x.1, e x.2] rfl hnews (by omega) b1 b2
      obtain ⟨g', off', cap', rfl, hr', hb⟩ := ofOwn v' w' ho
      refine ⟨g', off', cap', w', hrun, hr', ⟨hgr.os, hgr.tape, hgr.output, hgr.size, fun k hk _ => hgr.block k hk (by simp)⟩, .inr hb⟩

theorem wpList_append_row {P : Program} (w : World) {ops : Array Oper} {rest : List Oper} {o : Oper} {a : Act} {Q : Exit → Act → World → Prop} (hgd : o.guard = none) (s x : Operand) (t : TypeId)
    (ho : o.op = .call { callee := .builtin .append, args := #[s, x], argTypes := #[t, t] })
    (e : Int → Value) (eT : TypeId) (i : TypeInfo) (z : Value) (bytes : Nat) (ht : P.underlying t = some (.slice eT)) (hi : P.info? eT = some i) (hz : i.zero = some z) (hsize : i.size = 2) (hby : i.bytes = bytes) (hzs : z.cells.size = 2)
    (v : Value) (xs : List (Int × Int)) (hs : a.eval s = v) (hr : Row e eT w v xs) (y : Int × Int) (he : (e y.2).oneCell' = true)
    (ad : Addr) (c : Nat) (hx : a.eval x = .slice (some ad) 1 c) (h0 : w.cell? ad = some (.int .i64 y.1)) (h1 : w.cell? (ad.add 1) = some (e y.2))
    (hlen : xs.length + 1 ≤ 4294967296) (hbytes : bytes ≤ 64)
    (h : ∀ g off cap w', Row e eT w' (.slice (some ⟨g, off, none⟩) (xs.length + 1) cap) (xs ++ [y]) → w.grownBy w' v.ownBlock → (v.ownBlock = some g ∨ w.heap.size ≤ g) → wpList P ops Q rest (a.put o.dst (.slice (some ⟨g, off, none⟩) (xs.length + 1) cap)) w') :
    wpList P ops Q (o :: rest) a w := by
  obtain ⟨g, off, cap, w', hr', h2, h3, h4⟩ := run_append_row (P := P) w e t o.type eT i z bytes ht hi hz hsize hby hzs v xs hr y he ad c h0 h1 hlen hbytes
  refine wpList_plain hgd fun K hK => ?_
  unfold Oper.wp execOp
  simp only [ho, resolve, invoke, builtin, Sem.run_bind, Sem.run_pure, Result.andThen_ok, List.map_toArray, List.map_cons, List.map_nil, hs, hx, hr']
  exact hK _ _ (h g off cap w' h2 h3 h4)

/-- append onto a slice without capacity, as one step of a region that draws: a new block. -/
theorem step_append_fresh {P : Program} (w : World) {ops : Array Oper} {o : Oper} {a : Act} {K : Act → World → Prop} {Q : Exit → Act → World → Prop} {E : Prop} (hgd : o.guard = none) (s x : Operand) (t : TypeId)
    (ho : o.op = .call { callee := .builtin .append, args := #[s, x], argTypes := #[t, t] })
    (eT : TypeId) (i : TypeInfo) (z : Value) (size bytes : Nat) (ht : P.underlying t = some (.slice eT)) (hi : P.info? eT = some i) (hz : i.zero = some z) (hsize : i.size = size) (hby : i.bytes = bytes) (hzs : z.cells.size = size) (hsz : 0 < size)
    (b : Addr) (hs : a.eval s = .slice (some b) 0 0)
    (ad : Addr) (m c : Nat) (news : List Value) (hx : a.eval x = .slice (some ad) m c) (hl : news.length = m * size) (hnews : ∀ j u, news[j]? = some u → w.cell? (ad.add j) = some u)
    (hm : 0 < m) (h63 : m ≤ maxLen) (hbytes : m * bytes ≤ 140737488355328)
    (h : ∀ g cap w', w'.ownsRow w.heap.size eT size (.slice (some ⟨g, 0, none⟩) m cap) m news → w.grownBy w' none → w.heap.size ≤ g → K (a.put o.dst (.slice (some ⟨g, 0, none⟩) m cap)) w') :
    if Region.wanted o (yielded ops a.tmps) = true then Oper.wp P o a w K Q else E := by
  have hw : Region.wanted o (yielded ops a.tmps) = true := by simp [Region.wanted, hgd]
  rw [if_pos hw]
  obtain ⟨v', w', hrun, ho', hgr⟩ := run_append_arg_grows (P := P) w t o.type eT i z size bytes ht hi hz hsize hby hzs hsz b 0 0 [] (by simp) (by intro j u hu; simp at hu) ad m c news hl hnews (by omega) (by omega) (by simpa using hbytes)
  rw [Nat.zero_add, List.nil_append] at ho'
  obtain ⟨g, cap, rfl, hb, _⟩ := ho'.form hm
  unfold Oper.wp execOp
  simp only [ho, resolve, invoke, builtin, Sem.run_bind, Sem.run_pure, Result.andThen_ok, List.map_toArray, List.map_cons, List.map_nil, hs, hx, hrun]
  exact h g cap w' ho' hgr hb

/-- The cells of a row from its k-th sample on. -/
theorem Row.cells {e : Int → Value} {eT : TypeId} {W : World} {g off n cap : Nat} {xs : List (Int × Int)} (h : Row e eT W (.slice (some ⟨g, off, none⟩) n cap) xs) (k : Nat) :
    ∀ j u, (flat e (xs.drop k))[j]? = some u → W.cell? ⟨g, off + k * 2 + j, none⟩ = some u := by
  rcases h with ⟨h, _⟩ | ⟨g', off', cap', cur, hv, hg, hn, hm, hs, hc⟩
  · cases h
  · cases hv
    intro j u hu
    rw [cell_of_row W g _ cur eT _ hg]
    have hj : j < (xs.drop k).length * 2 := by
      rcases Nat.lt_or_ge j ((xs.drop k).length * 2) with h | h
      · exact h
      · rw [List.getElem?_eq_none (by rw [flat_length]; exact h)] at hu; cases hu
    obtain ⟨i, hi⟩ : ∃ i, j = i * 2 ∨ j = i * 2 + 1 := ⟨j / 2, by omega⟩
    have hix : i < (xs.drop k).length := by omega
    have hx : (xs.drop k)[i]? = some (xs.drop k)[i] := List.getElem?_eq_getElem hix
    have hf := flat_get e (xs.drop k) i _ hx
    have hx' := hx
    rw [List.getElem?_drop] at hx'
    have hcc := hc (k + i) _ hx'
    rcases hi with rfl | rfl
    · rw [hf.1] at hu; cases hu
      rw [show off + k * 2 + i * 2 = off + (k + i) * 2 by omega]; exact hcc.1
    · rw [hf.2] at hu; cases hu
      rw [show off + k * 2 + (i * 2 + 1) = off + (k + i) * 2 + 1 by omega]; exact hcc.2
theorem Row.cap {e : Int → Value} {eT : TypeId} {W : World} {g off n cap : Nat} {xs : List (Int × Int)} (h : Row e eT W (.slice (some ⟨g, off, none⟩) n cap) xs) : n = xs.length ∧ n ≤ cap ∧ cap ≤ maxLen ∧ ∃ cur, W.heap[g]? = some (.cells cur eT (0, 0)) := by
  rcases h with ⟨h, _⟩ | ⟨g', off', cap', cur, hv, hg, hn, hm, hs, hc⟩
  · cases h
  · cases hv
    exact ⟨rfl, hn, hm, cur, hg⟩
end Go.Proofs.Ytacjjmdhiphckaa
