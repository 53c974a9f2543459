/- errors.Is(h, e), h a *HoldError whose Err is e: true; the world is as it was. -/
import Derived.Test.YtacjjmdhiphckaaDoorAs
namespace Go.Proofs.YtacjjmdhiphckaaDoor
open Go.RowKit Go.Extern.Stop Go.Stop Go.Extern

theorem Tryd.comp82 : (Tryd.prog.info? 82).map (·.comparable) = some true := by kernel_rfl
theorem Tryd.size106 : (Tryd.prog.info? 106).map (·.size) = some 1 := by kernel_rfl
def cmpF : Array Value → Sem Value := ReflectliteType.method fun t => do Rtype.noPackHeld "Comparable" t; pure (.bool (← typeInfo t).comparable)
theorem Tryd.comparable82 (w : World) : (cmpF #[.agg #[.pointer (some ⟨9, 82, none⟩)]]).run Tryd.prog w = .ok (.bool true) w := by kernel_rfl

set_option maxHeartbeats 4000000 in
theorem is_hit (b : Nat) (a : Addr) (w : World) (hc : w.cell? ⟨b, 1, none⟩ = some (.iface 82 (.pointer (some a)))) :
    Calls Tryd.prog 15 #[.iface 31 (.pointer (some ⟨b, 0, none⟩)), .iface 82 (.pointer (some a)), .bool true] w
      fun e w' => e = .returned (.bool true) ∧ w = w' := by
  obtain ⟨i, hi, hcmp⟩ := Option.map_eq_some_iff.1 Tryd.comp82
  obtain ⟨j, hj, _⟩ := Option.map_eq_some_iff.1 Tryd.size106
  have mU := Tryd.methodUnwrap
  have s1 := Tryd.noIs31
  have s3 := Tryd.hasUnwrap31
  have q1 := fun vx vy => run_eql_iface_types (P := Tryd.prog) 31 82 vx vy Tryd.underlying28 (by decide)
  have q2 := fun w => run_eql_iface_ptr_same (P := Tryd.prog) w a Tryd.underlying28 Tryd.underlying82 hi hcmp hj
  go_enter Tryd.func15, Tryd.ntmps15
  go_wp2
  refine wp_loop_rounds 2 ?_
  rw [rounds_succ]
  go_wp2
  rw [rounds_succ]
  go_wp2
  go_ret
  exact ⟨rfl, rfl⟩

set_option maxHeartbeats 4000000 in
theorem Is_hit (b : Nat) (a : Addr) (w : World) (hc : w.cell? ⟨b, 1, none⟩ = some (.iface 82 (.pointer (some a)))) :
    Calls Tryd.prog 9 #[.iface 31 (.pointer (some ⟨b, 0, none⟩)), .iface 82 (.pointer (some a))] w
      fun e w' => e = .returned (.bool true) ∧ w = w' := by
  have h14 := @run_callFunc_extern Tryd.prog 14 _ ReflectliteType.typeOf Tryd.func14 (by kernel_rfl) (by kernel_rfl) (by kernel_rfl) (by kernel_rfl)
  have h47 := @run_callFunc_extern Tryd.prog 47 _ cmpF Tryd.func47 (by kernel_rfl) (by kernel_rfl) (by kernel_rfl) (by kernel_rfl)
  have t82 := Tryd.typeOf82
  have mC := Tryd.methodComparable
  have c82 := Tryd.comparable82
  go_enter Tryd.func9, Tryd.ntmps9
  go_wp2_with (go_at_call 15; refine (is_hit b a _ hc).mono ?_; rintro e w' ⟨rfl, rfl⟩)
  go_ret
  exact ⟨rfl, rfl⟩
end Go.Proofs.YtacjjmdhiphckaaDoor
