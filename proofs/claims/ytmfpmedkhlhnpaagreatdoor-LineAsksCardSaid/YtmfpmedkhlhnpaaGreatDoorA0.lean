import Derived.Test.YtmfpmedkhlhnpaaGreatDoorProg
import Derived.Below
import Derived.WalkKit
import Derived.KernelRfl
import Derived.RowKit
import Derived.Outline
import Derived.Laws.Rows
import Derived.Deep.MidRow
import Derived.Deep.WholeRow
import Derived.Stop.BytesEq
import Derived.Deep.QuietTactic
import Derived.BigQuiet
import Derived.Lib.Hide
namespace Go.Proofs.YtmfpmedkhlhnpaaGreatDoor
open Go.RowKit Go.Extern.Stop
set_option maxRecDepth 100000
/-- An id's cells. -/
def idc (l : List UInt8) : List Value := l.map cell
abbrev idv (l : List UInt8) : Array Value := (idc l).toArray
theorem idc_length (l : List UInt8) : (idc l).length = l.length := by simp [idc]
theorem info41 : (Tryz.prog.info? 41).map (·.size) = some 32 := by kernel_rfl
theorem und41 : Tryz.prog.underlying 41 = some (.array 32 5) := by kernel_rfl
theorem und5 : Tryz.prog.underlying 5 = some (.int .u8) := by kernel_rfl
theorem siz5 (w : World) : (sizeOf 5).run Tryz.prog w = .ok 1 w := by kernel_rfl
/-- No id. -/
def noId : List UInt8 := List.replicate 32 0
theorem noId_length : noId.length = 32 := by simp [noId]
theorem eq_ids (w : World) (a b : List UInt8) (ha : a.length = 32) (hb : b.length = 32) : (binOp .eql 41 (.agg (idv a)) (.agg (idv b))).run Tryz.prog w = .ok (.bool (a == b)) w :=
  run_eql_bytes w 41 5 32 und41 und5 siz5 a b ha hb
theorem build41 (w : World) : (Instr.build 41 #[]).run Tryz.prog w = .ok (.agg (idv noId)) w := by kernel_rfl
theorem eqg41 : Tryz.prog.eqGuardType Tryz.prog.depth 41 = false := by kernel_rfl
theorem rangeAt_new (w : World) (cs : List Value) (t : TypeId) : (w.alloc (.cells cs.toArray t)).rangeAt w.heap.size 0 cs := by
  intro j v hj
  rw [Nat.zero_add, World.cell?_alloc_at _ _ _ _ rfl]
  simpa using hj
section
variable {P : Program} {ops : Array Oper} {rest : List Oper} {o : Oper} {a : Act} {Q : Exit → Act → World → Prop}
theorem wpList_run {W w1 : World} {v : Value} (hgd : o.guard = none) (hrun : (execOp a.eval o).run P W = .ok (.value v) w1) (h : wpList P ops Q rest (a.put o.dst v) w1) : wpList P ops Q (o :: rest) a W :=
  wpList_plain hgd fun K hK => by
    unfold Oper.wp
    rw [hrun]
    exact hK _ _ h
end
section
variable (ρ : Operand → Value) (dst : Option Tmp) (ty : TypeId) (pos : String) (after : Array Edge) (g : Option (Nat × Bool)) (w : World)
theorem op_build41 : (execOp ρ ⟨dst, .build 41 #[], ty, pos, after, g⟩).run Tryz.prog w = .ok (.value (.agg (idv noId))) w := by
  simp [execOp, build41]
theorem op_eql41 (x y : Operand) (t : TypeId) (a b : List UInt8) (hx : ρ x = .agg (idv a)) (hy : ρ y = .agg (idv b)) (ha : a.length = 32) (hb : b.length = 32) :
    (execOp ρ ⟨dst, .binOp .eql 41 x y t, ty, pos, after, g⟩).run Tryz.prog w = .ok (.value (.bool (a == b))) w := by
  show (do let x ← (do eqGuard .eql 41 x y (ρ x) (ρ y); binOp .eql 41 (ρ x) (ρ y)); pure (Next.value x) : Sem Next).run Tryz.prog w = _
  rw [hx, hy, Sem.run_bind, Sem.run_bind]
  have he : (eqGuard .eql 41 x y (.agg (idv a)) (.agg (idv b))).run Tryz.prog w = .ok () w := by
    simp [eqGuard, Sem.run_bind]
  rw [he]
  simp only [Result.andThen_ok]
  rw [eq_ids w a b ha hb]; rfl
end
set_option maxHeartbeats 400000 in
theorem none_any (l : List UInt8) (hl : l.length = 32) (w : World) :
    Calls Tryz.prog 98 #[.agg (idv l)] w fun e w' => e = .returned (.bool (l == noId)) ∧ w' = w.alloc (.cells (idv l) 41) := by
  go_enter Tryz.func98, Tryz.ntmps98
  go_wp2_with (first
    | refine wpList_load_mid rfl 41 _ rfl _ _ rfl (idc l) _ (rangeAt_new _ _ _) und41 rfl (by rw [idc_length, hl]; exact info41) ?_
    | refine wpList_run rfl (op_build41 _ _ _ _ _ _ _) ?_
    | refine wpList_run rfl (op_eql41 _ _ _ _ _ _ _ _ _ _ l noId rfl rfl hl noId_length) ?_)
  go_ret
  exact ⟨rfl, rfl⟩
end Go.Proofs.YtmfpmedkhlhnpaaGreatDoor
