/- errors.As at a *HoldError over a sentinel: false, for each of the two targets that package plain asks for; nothing that was there turns. -/
import Derived.Test.YtacjjmdhiphckaaDoorProg
import Derived.WalkKit
import Derived.LaidEql
import Derived.Stop.Asserts
import Derived.RowKitTokens
import Derived.Lib.Hide
namespace Go.Proofs.YtacjjmdhiphckaaDoor
open Go.RowKit Go.Extern.Stop Go.Stop Go.Extern

theorem Tryd.methodKind (h : Value) (w : World) : (Go.method 218 68 (.agg #[h]) "Kind").run Tryd.prog w = .ok (32, h) w := by kernel_rfl
theorem Tryd.methodElem (h : Value) (w : World) : (Go.method 218 68 (.agg #[h]) "Elem").run Tryd.prog w = .ok (48, .agg #[h]) w := by kernel_rfl
theorem Tryd.methodImplements (h : Value) (w : World) : (Go.method 218 68 (.agg #[h]) "Implements").run Tryd.prog w = .ok (49, .agg #[h]) w := by kernel_rfl
theorem Tryd.methodAssignableTo (h : Value) (w : World) : (Go.method 218 68 (.agg #[h]) "AssignableTo").run Tryd.prog w = .ok (46, .agg #[h]) w := by kernel_rfl
theorem Tryd.methodComparable (h : Value) (w : World) : (Go.method 218 68 (.agg #[h]) "Comparable").run Tryd.prog w = .ok (47, .agg #[h]) w := by kernel_rfl
theorem Tryd.methodUnwrap (h : Addr) (w : World) : (Go.method 218 31 (.pointer (some h)) "Unwrap").run Tryd.prog w = .ok (36, .pointer (some h)) w := by kernel_rfl

theorem Tryd.typeOf31 (v : Value) (w : World) : (ReflectliteType.typeOf #[.iface 31 v]).run Tryd.prog w = .ok (.iface 68 (.agg #[.pointer (some ⟨9, 31, none⟩)])) w := by kernel_rfl
theorem Tryd.typeOf82 (v : Value) (w : World) : (ReflectliteType.typeOf #[.iface 82 v]).run Tryd.prog w = .ok (.iface 68 (.agg #[.pointer (some ⟨9, 82, none⟩)])) w := by kernel_rfl

theorem rlm (z : Sem Value) (f : TypeId → Addr → Nat → Nat → Sem Value) (v : Value) :
    ReflectliteValue.method z f #[v] = (do match ← ReflectliteValue.parts v with | none => z | some (t, a, fl) => f t a fl (fl % 32)) := rfl

theorem Tryd.noAs31 (v : Value) (xT : TypeId) (w : World) : (Instr.typeAssert (.iface 31 v) xT 72 true).run Tryd.prog w = .ok (.tuple #[.nilIface, .bool false]) w := run_typeAssert_lacksB Tryd.underlying72 (by kernel_rfl) (by kernel_rfl) v xT w
theorem Tryd.noAs82 (v : Value) (xT : TypeId) (w : World) : (Instr.typeAssert (.iface 82 v) xT 72 true).run Tryd.prog w = .ok (.tuple #[.nilIface, .bool false]) w := run_typeAssert_lacksB Tryd.underlying72 (by kernel_rfl) (by kernel_rfl) v xT w
theorem Tryd.hasUnwrap31 (v : Value) (xT : TypeId) (w : World) : (Instr.typeAssert (.iface 31 v) xT 75 true).run Tryd.prog w = .ok (.tuple #[.iface 31 v, .bool true]) w := run_typeAssert_hasB Tryd.underlying75 (by kernel_rfl) v xT w
theorem Tryd.noUnwrap82 (v : Value) (xT : TypeId) (w : World) : (Instr.typeAssert (.iface 82 v) xT 75 true).run Tryd.prog w = .ok (.tuple #[.nilIface, .bool false]) w := run_typeAssert_lacksB Tryd.underlying75 (by kernel_rfl) (by kernel_rfl) v xT w
theorem Tryd.noUnwraps82 (v : Value) (xT : TypeId) (w : World) : (Instr.typeAssert (.iface 82 v) xT 77 true).run Tryd.prog w = .ok (.tuple #[.nilIface, .bool false]) w := run_typeAssert_lacksB Tryd.underlying77 (by kernel_rfl) (by kernel_rfl) v xT w
theorem Tryd.noIs31 (v : Value) (xT : TypeId) (w : World) : (Instr.typeAssert (.iface 31 v) xT 79 true).run Tryd.prog w = .ok (.tuple #[.nilIface, .bool false]) w := run_typeAssert_lacksB Tryd.underlying79 (by kernel_rfl) (by kernel_rfl) v xT w

/-- (*HoldError).Unwrap. -/
theorem unwrap_any (b : Nat) (x : Value) (w : World) (hc : w.cell? ⟨b, 1, none⟩ = some x) :
    Calls Tryd.prog 36 #[.pointer (some ⟨b, 0, none⟩)] w fun e w' => e = .returned x ∧ w = w' := by
  go_enter Tryd.func36, Tryd.ntmps36
  go_wp2
  go_ret
  exact ⟨rfl, rfl⟩

theorem Tryd.assign31_44 (w : World) : (ReflectliteType.relation "AssignableTo" ReflectliteType.assignableTo #[.agg #[.pointer (some ⟨9, 31, none⟩)], .iface 68 (.agg #[.pointer (some ⟨9, 44, none⟩)])]).run Tryd.prog w = .ok (.bool false) w := by kernel_rfl
theorem Tryd.assign82_44 (w : World) : (ReflectliteType.relation "AssignableTo" ReflectliteType.assignableTo #[.agg #[.pointer (some ⟨9, 82, none⟩)], .iface 68 (.agg #[.pointer (some ⟨9, 44, none⟩)])]).run Tryd.prog w = .ok (.bool false) w := by kernel_rfl

theorem Tryd.valueOf47 (t : Addr) (w : World) : (ReflectliteValue.unpack (.iface 47 (.pointer (some t)))).run Tryd.prog w
    = .ok (.agg #[.pointer (some ⟨9, 47, none⟩), .pointer (some ⟨w.heap.size, 0, none⟩), .int .u64 150]) (w.alloc (.cells #[.pointer (some t)] 47)) := by kernel_rfl
theorem Tryd.type47 (a : Addr) (w : World) : (ReflectliteValue.methodAny (ReflectliteValue.valueError "reflectlite.Value.Type" 0) (fun t _ _ _ => ReflectliteType.toType t) #[.agg #[.pointer (some ⟨9, 47, none⟩), .pointer (some a), .int .u64 150]]).run Tryd.prog w
    = .ok (.iface 68 (.agg #[.pointer (some ⟨9, 47, none⟩)])) w := by kernel_rfl
theorem Tryd.kind47 (w : World) : ((ReflectliteType.abiMethod fun t => (fun a : Nat => Value.int IntKind.u8 (a : Int)) <$> Rtype.kind t) #[.pointer (some ⟨9, 47, none⟩)]).run Tryd.prog w = .ok (.int .u8 22) w := by kernel_rfl
theorem Tryd.kind44 (w : World) : ((ReflectliteType.abiMethod fun t => (fun a : Nat => Value.int IntKind.u8 (a : Int)) <$> Rtype.kind t) #[.pointer (some ⟨9, 44, none⟩)]).run Tryd.prog w = .ok (.int .u8 22) w := by kernel_rfl
theorem Tryd.parts47 (a : Addr) (w : World) : (ReflectliteValue.parts (.agg #[.pointer (some ⟨9, 47, none⟩), .pointer (some a), .int .u64 150])).run Tryd.prog w = .ok (some (47, a, 150)) w := by kernel_rfl
theorem Tryd.isNil47 (a p : Addr) (W : World) (ha : W.cell? a = some (.pointer (some p))) :
    (ReflectliteValue.method (ReflectliteValue.valueError "reflectlite.Value.IsNil" 0) ReflectliteValue.isNil #[.agg #[.pointer (some ⟨9, 47, none⟩), .pointer (some a), .int .u64 150]]).run Tryd.prog W = .ok (.bool false) W := by
  rw [rlm]
  simp only [Sem.run_bind, Tryd.parts47, Result.andThen]
  simp [ReflectliteValue.isNil, loadVar, isAgg, underlying, Tryd.underlying47, ha, Result.andThen]
theorem Tryd.elem47 (w : World) : (ReflectliteType.method ReflectliteType.elem #[.agg #[.pointer (some ⟨9, 47, none⟩)]]).run Tryd.prog w = .ok (.iface 68 (.agg #[.pointer (some ⟨9, 44, none⟩)])) w := by kernel_rfl
theorem Tryd.implements44 (w : World) : (ReflectliteType.relation "Implements" ReflectliteType.implements_ #[.agg #[.pointer (some ⟨9, 44, none⟩)], .iface 68 (.agg #[.pointer (some ⟨9, 28, none⟩)])]).run Tryd.prog w = .ok (.bool true) w := by kernel_rfl

set_option maxHeartbeats 4000000 in
theorem as_miss44 (b : Nat) (a t va : Addr) (w : World) (hb : b < w.heap.size) (hc : w.cell? ⟨b, 1, none⟩ = some (.iface 82 (.pointer (some a)))) :
    Calls Tryd.prog 13 #[.iface 31 (.pointer (some ⟨b, 0, none⟩)), .iface 47 (.pointer (some t)), .agg #[.pointer (some ⟨9, 47, none⟩), .pointer (some va), .int .u64 150], .iface 68 (.agg #[.pointer (some ⟨9, 44, none⟩)])] w
      fun e w' => e = .returned (.bool false) ∧ Below w.heap.size w w' := by
  have h14 := @run_callFunc_extern Tryd.prog 14 _ ReflectliteType.typeOf Tryd.func14 (by kernel_rfl) (by kernel_rfl) (by kernel_rfl) (by kernel_rfl)
  have h46 := @run_callFunc_extern Tryd.prog 46 _ (ReflectliteType.relation "AssignableTo" ReflectliteType.assignableTo) Tryd.func46 (by kernel_rfl) (by kernel_rfl) (by kernel_rfl) (by kernel_rfl)
  have t31 := Tryd.typeOf31
  have t82 := Tryd.typeOf82
  have mA := Tryd.methodAssignableTo
  have mU := Tryd.methodUnwrap
  have a31 := Tryd.assign31_44
  have a82 := Tryd.assign82_44
  have s1 := Tryd.noAs31
  have s2 := Tryd.noAs82
  have s3 := Tryd.hasUnwrap31
  have s4 := Tryd.noUnwrap82
  have s5 := Tryd.noUnwraps82
  have hc1 : ∀ o, (w.alloc o).cell? ⟨b, 1, none⟩ = some (.iface 82 (.pointer (some a))) := fun o => by rw [World.cell?_alloc_lt _ _ ⟨b, 1, none⟩ hb]; exact hc
  go_enter Tryd.func13, Tryd.ntmps13
  go_wp2
  refine wp_loop_rounds 2 ?_
  rw [rounds_succ]
  go_wp2
  rw [rounds_succ]
  go_wp2
  go_ret
  exact ⟨rfl, (Below.refl _ _).alloc (Nat.le_refl _) _⟩

set_option maxHeartbeats 4000000 in
theorem As_miss44 (b : Nat) (a t : Addr) (w : World) (hb : b < w.heap.size) (hc : w.cell? ⟨b, 1, none⟩ = some (.iface 82 (.pointer (some a)))) (hg : w.cell? ⟨8, 0, none⟩ = some (.iface 68 (.agg #[.pointer (some ⟨9, 28, none⟩)]))) :
    Calls Tryd.prog 8 #[.iface 31 (.pointer (some ⟨b, 0, none⟩)), .iface 47 (.pointer (some t))] w
      fun e w' => e = .returned (.bool false) ∧ Below w.heap.size w w' := by
  have h10 := @run_callFunc_extern Tryd.prog 10 _ (fun args => ReflectliteValue.unpack (args.getD 0 (.tuple #[]))) Tryd.func10 (by kernel_rfl) (by kernel_rfl) (by kernel_rfl) (by kernel_rfl)
  have h11 := @run_callFunc_extern Tryd.prog 11 _ (ReflectliteValue.methodAny (ReflectliteValue.valueError "reflectlite.Value.Type" 0) (fun t _ _ _ => ReflectliteType.toType t)) Tryd.func11 (by kernel_rfl) (by kernel_rfl) (by kernel_rfl) (by kernel_rfl)
  have h12 := @run_callFunc_extern Tryd.prog 12 _ (ReflectliteValue.method (ReflectliteValue.valueError "reflectlite.Value.IsNil" 0) ReflectliteValue.isNil) Tryd.func12 (by kernel_rfl) (by kernel_rfl) (by kernel_rfl) (by kernel_rfl)
  have h32 := @run_callFunc_extern Tryd.prog 32 _ (ReflectliteType.abiMethod fun t => do pure (.int .u8 (← Rtype.kind t))) Tryd.func32 (by kernel_rfl) (by kernel_rfl) (by kernel_rfl) (by kernel_rfl)
  have h48 := @run_callFunc_extern Tryd.prog 48 _ (ReflectliteType.method ReflectliteType.elem) Tryd.func48 (by kernel_rfl) (by kernel_rfl) (by kernel_rfl) (by kernel_rfl)
  have h49 := @run_callFunc_extern Tryd.prog 49 _ (ReflectliteType.relation "Implements" ReflectliteType.implements_) Tryd.func49 (by kernel_rfl) (by kernel_rfl) (by kernel_rfl) (by kernel_rfl)
  have f10 := Tryd.valueOf47
  have f11 := Tryd.type47
  have mK := Tryd.methodKind
  have mE := Tryd.methodElem
  have mI := Tryd.methodImplements
  have kTT := Tryd.kind47
  have kT := Tryd.kind44
  have eTT := Tryd.elem47
  have iT := Tryd.implements44
  have n12 := Tryd.isNil47 ⟨w.heap.size, 0, none⟩ t ((w.alloc (.cells #[.pointer (some t)] 47)).alloc (.cells #[.pointer (some ⟨9, 47, none⟩), .pointer (some ⟨w.heap.size, 0, none⟩), .int .u64 150] 56)) (by simp)
  have hlt : 8 < w.heap.size := by
    rcases Nat.lt_or_ge 8 w.heap.size with h | h
    · exact h
    · simp [World.cell?, Array.getElem?_eq_none h] at hg
  have hg2 : ((w.alloc (.cells #[.pointer (some t)] 47)).alloc (.cells #[.pointer (some ⟨9, 47, none⟩), .pointer (some ⟨w.heap.size, 0, none⟩), .int .u64 150] 56)).cell? ⟨8, 0, none⟩ = some (.iface 68 (.agg #[.pointer (some ⟨9, 28, none⟩)])) := by
    rw [World.cell?_alloc_lt _ _ ⟨8, 0, none⟩ (by simp; omega), World.cell?_alloc_lt _ _ ⟨8, 0, none⟩ hlt]; exact hg
  have hc2 : ((w.alloc (.cells #[.pointer (some t)] 47)).alloc (.cells #[.pointer (some ⟨9, 47, none⟩), .pointer (some ⟨w.heap.size, 0, none⟩), .int .u64 150] 56)).cell? ⟨b, 1, none⟩ = some (.iface 82 (.pointer (some a))) := by
    rw [World.cell?_alloc_lt _ _ ⟨b, 1, none⟩ (by simp; omega), World.cell?_alloc_lt _ _ ⟨b, 1, none⟩ hb]; exact hc
  have hb2 : b < ((w.alloc (.cells #[.pointer (some t)] 47)).alloc (.cells #[.pointer (some ⟨9, 47, none⟩), .pointer (some ⟨w.heap.size, 0, none⟩), .int .u64 150] 56)).heap.size := by simp; omega
  have C := as_miss44 b a t ⟨w.heap.size, 0, none⟩ _ hb2 hc2
  have HC := Lib.hid C
  clear C hb2
  go_enter Tryd.func8, Tryd.ntmps8
  go_wp2_with (go_at_call 13; refine HC.out.mono ?_; rintro e w' ⟨rfl, hB⟩)
  go_ret
  exact ⟨rfl, ((((Below.refl _ _).alloc (Nat.le_refl _) _).alloc (by simp) _).trans (hB.mono (by simp; omega)))⟩

theorem Tryd.assign31_45 (w : World) : (ReflectliteType.relation "AssignableTo" ReflectliteType.assignableTo #[.agg #[.pointer (some ⟨9, 31, none⟩)], .iface 68 (.agg #[.pointer (some ⟨9, 45, none⟩)])]).run Tryd.prog w = .ok (.bool false) w := by kernel_rfl
theorem Tryd.assign82_45 (w : World) : (ReflectliteType.relation "AssignableTo" ReflectliteType.assignableTo #[.agg #[.pointer (some ⟨9, 82, none⟩)], .iface 68 (.agg #[.pointer (some ⟨9, 45, none⟩)])]).run Tryd.prog w = .ok (.bool false) w := by kernel_rfl

theorem Tryd.valueOf51 (t : Addr) (w : World) : (ReflectliteValue.unpack (.iface 51 (.pointer (some t)))).run Tryd.prog w
    = .ok (.agg #[.pointer (some ⟨9, 51, none⟩), .pointer (some ⟨w.heap.size, 0, none⟩), .int .u64 150]) (w.alloc (.cells #[.pointer (some t)] 51)) := by kernel_rfl
theorem Tryd.type51 (a : Addr) (w : World) : (ReflectliteValue.methodAny (ReflectliteValue.valueError "reflectlite.Value.Type" 0) (fun t _ _ _ => ReflectliteType.toType t) #[.agg #[.pointer (some ⟨9, 51, none⟩), .pointer (some a), .int .u64 150]]).run Tryd.prog w
    = .ok (.iface 68 (.agg #[.pointer (some ⟨9, 51, none⟩)])) w := by kernel_rfl
theorem Tryd.kind51 (w : World) : ((ReflectliteType.abiMethod fun t => (fun a : Nat => Value.int IntKind.u8 (a : Int)) <$> Rtype.kind t) #[.pointer (some ⟨9, 51, none⟩)]).run Tryd.prog w = .ok (.int .u8 22) w := by kernel_rfl
theorem Tryd.kind45 (w : World) : ((ReflectliteType.abiMethod fun t => (fun a : Nat => Value.int IntKind.u8 (a : Int)) <$> Rtype.kind t) #[.pointer (some ⟨9, 45, none⟩)]).run Tryd.prog w = .ok (.int .u8 22) w := by kernel_rfl
theorem Tryd.parts51 (a : Addr) (w : World) : (ReflectliteValue.parts (.agg #[.pointer (some ⟨9, 51, none⟩), .pointer (some a), .int .u64 150])).run Tryd.prog w = .ok (some (51, a, 150)) w := by kernel_rfl
theorem Tryd.isNil51 (a p : Addr) (W : World) (ha : W.cell? a = some (.pointer (some p))) :
    (ReflectliteValue.method (ReflectliteValue.valueError "reflectlite.Value.IsNil" 0) ReflectliteValue.isNil #[.agg #[.pointer (some ⟨9, 51, none⟩), .pointer (some a), .int .u64 150]]).run Tryd.prog W = .ok (.bool false) W := by
  rw [rlm]
  simp only [Sem.run_bind, Tryd.parts51, Result.andThen]
  simp [ReflectliteValue.isNil, loadVar, isAgg, underlying, Tryd.underlying51, ha, Result.andThen]
theorem Tryd.elem51 (w : World) : (ReflectliteType.method ReflectliteType.elem #[.agg #[.pointer (some ⟨9, 51, none⟩)]]).run Tryd.prog w = .ok (.iface 68 (.agg #[.pointer (some ⟨9, 45, none⟩)])) w := by kernel_rfl
theorem Tryd.implements45 (w : World) : (ReflectliteType.relation "Implements" ReflectliteType.implements_ #[.agg #[.pointer (some ⟨9, 45, none⟩)], .iface 68 (.agg #[.pointer (some ⟨9, 28, none⟩)])]).run Tryd.prog w = .ok (.bool true) w := by kernel_rfl

set_option maxHeartbeats 4000000 in
theorem as_miss45 (b : Nat) (a t va : Addr) (w : World) (hb : b < w.heap.size) (hc : w.cell? ⟨b, 1, none⟩ = some (.iface 82 (.pointer (some a)))) :
    Calls Tryd.prog 13 #[.iface 31 (.pointer (some ⟨b, 0, none⟩)), .iface 51 (.pointer (some t)), .agg #[.pointer (some ⟨9, 51, none⟩), .pointer (some va), .int .u64 150], .iface 68 (.agg #[.pointer (some ⟨9, 45, none⟩)])] w
      fun e w' => e = .returned (.bool false) ∧ Below w.heap.size w w' := by
  have h14 := @run_callFunc_extern Tryd.prog 14 _ ReflectliteType.typeOf Tryd.func14 (by kernel_rfl) (by kernel_rfl) (by kernel_rfl) (by kernel_rfl)
  have h46 := @run_callFunc_extern Tryd.prog 46 _ (ReflectliteType.relation "AssignableTo" ReflectliteType.assignableTo) Tryd.func46 (by kernel_rfl) (by kernel_rfl) (by kernel_rfl) (by kernel_rfl)
  have t31 := Tryd.typeOf31
  have t82 := Tryd.typeOf82
  have mA := Tryd.methodAssignableTo
  have mU := Tryd.methodUnwrap
  have a31 := Tryd.assign31_45
  have a82 := Tryd.assign82_45
  have s1 := Tryd.noAs31
  have s2 := Tryd.noAs82
  have s3 := Tryd.hasUnwrap31
  have s4 := Tryd.noUnwrap82
  have s5 := Tryd.noUnwraps82
  have hc1 : ∀ o, (w.alloc o).cell? ⟨b, 1, none⟩ = some (.iface 82 (.pointer (some a))) := fun o => by rw [World.cell?_alloc_lt _ _ ⟨b, 1, none⟩ hb]; exact hc
  go_enter Tryd.func13, Tryd.ntmps13
  go_wp2
  refine wp_loop_rounds 2 ?_
  rw [rounds_succ]
  go_wp2
  rw [rounds_succ]
  go_wp2
  go_ret
  exact ⟨rfl, (Below.refl _ _).alloc (Nat.le_refl _) _⟩

set_option maxHeartbeats 4000000 in
theorem As_miss45 (b : Nat) (a t : Addr) (w : World) (hb : b < w.heap.size) (hc : w.cell? ⟨b, 1, none⟩ = some (.iface 82 (.pointer (some a)))) (hg : w.cell? ⟨8, 0, none⟩ = some (.iface 68 (.agg #[.pointer (some ⟨9, 28, none⟩)]))) :
    Calls Tryd.prog 8 #[.iface 31 (.pointer (some ⟨b, 0, none⟩)), .iface 51 (.pointer (some t))] w
      fun e w' => e = .returned (.bool false) ∧ Below w.heap.size w w' := by
  have h10 := @run_callFunc_extern Tryd.prog 10 _ (fun args => ReflectliteValue.unpack (args.getD 0 (.tuple #[]))) Tryd.func10 (by kernel_rfl) (by kernel_rfl) (by kernel_rfl) (by kernel_rfl)
  have h11 := @run_callFunc_extern Tryd.prog 11 _ (ReflectliteValue.methodAny (ReflectliteValue.valueError "reflectlite.Value.Type" 0) (fun t _ _ _ => ReflectliteType.toType t)) Tryd.func11 (by kernel_rfl) (by kernel_rfl) (by kernel_rfl) (by kernel_rfl)
  have h12 := @run_callFunc_extern Tryd.prog 12 _ (ReflectliteValue.method (ReflectliteValue.valueError "reflectlite.Value.IsNil" 0) ReflectliteValue.isNil) Tryd.func12 (by kernel_rfl) (by kernel_rfl) (by kernel_rfl) (by kernel_rfl)
  have h32 := @run_callFunc_extern Tryd.prog 32 _ (ReflectliteType.abiMethod fun t => do pure (.int .u8 (← Rtype.kind t))) Tryd.func32 (by kernel_rfl) (by kernel_rfl) (by kernel_rfl) (by kernel_rfl)
  have h48 := @run_callFunc_extern Tryd.prog 48 _ (ReflectliteType.method ReflectliteType.elem) Tryd.func48 (by kernel_rfl) (by kernel_rfl) (by kernel_rfl) (by kernel_rfl)
  have h49 := @run_callFunc_extern Tryd.prog 49 _ (ReflectliteType.relation "Implements" ReflectliteType.implements_) Tryd.func49 (by kernel_rfl) (by kernel_rfl) (by kernel_rfl) (by kernel_rfl)
  have f10 := Tryd.valueOf51
  have f11 := Tryd.type51
  have mK := Tryd.methodKind
  have mE := Tryd.methodElem
  have mI := Tryd.methodImplements
  have kTT := Tryd.kind51
  have kT := Tryd.kind45
  have eTT := Tryd.elem51
  have iT := Tryd.implements45
  have n12 := Tryd.isNil51 ⟨w.heap.size, 0, none⟩ t ((w.alloc (.cells #[.pointer (some t)] 51)).alloc (.cells #[.pointer (some ⟨9, 51, none⟩), .pointer (some ⟨w.heap.size, 0, none⟩), .int .u64 150] 56)) (by simp)
  have hlt : 8 < w.heap.size := by
    rcases Nat.lt_or_ge 8 w.heap.size with h | h
    · exact h
    · simp [World.cell?, Array.getElem?_eq_none h] at hg
  have hg2 : ((w.alloc (.cells #[.pointer (some t)] 51)).alloc (.cells #[.pointer (some ⟨9, 51, none⟩), .pointer (some ⟨w.heap.size, 0, none⟩), .int .u64 150] 56)).cell? ⟨8, 0, none⟩ = some (.iface 68 (.agg #[.pointer (some ⟨9, 28, none⟩)])) := by
    rw [World.cell?_alloc_lt _ _ ⟨8, 0, none⟩ (by simp; omega), World.cell?_alloc_lt _ _ ⟨8, 0, none⟩ hlt]; exact hg
  have hc2 : ((w.alloc (.cells #[.pointer (some t)] 51)).alloc (.cells #[.pointer (some ⟨9, 51, none⟩), .pointer (some ⟨w.heap.size, 0, none⟩), .int .u64 150] 56)).cell? ⟨b, 1, none⟩ = some (.iface 82 (.pointer (some a))) := by
    rw [World.cell?_alloc_lt _ _ ⟨b, 1, none⟩ (by simp; omega), World.cell?_alloc_lt _ _ ⟨b, 1, none⟩ hb]; exact hc
  have hb2 : b < ((w.alloc (.cells #[.pointer (some t)] 51)).alloc (.cells #[.pointer (some ⟨9, 51, none⟩), .pointer (some ⟨w.heap.size, 0, none⟩), .int .u64 150] 56)).heap.size := by simp; omega
  have C := as_miss45 b a t ⟨w.heap.size, 0, none⟩ _ hb2 hc2
  have HC := Lib.hid C
  clear C hb2
  go_enter Tryd.func8, Tryd.ntmps8
  go_wp2_with (go_at_call 13; refine HC.out.mono ?_; rintro e w' ⟨rfl, hB⟩)
  go_ret
  exact ⟨rfl, ((((Below.refl _ _).alloc (Nat.le_refl _) _).alloc (by simp) _).trans (hB.mono (by simp; omega)))⟩

end Go.Proofs.YtacjjmdhiphckaaDoor
