import Derived.Test.YtmfpmedkhlhnpaaGreatDoorA1
/- sha256.Hex (30), knapsackref02.Hex. -/
namespace Go.Proofs.YtmfpmedkhlhnpaaGreatDoor
open Go.RowKit Go.Extern.Stop Go.Proofs.YtmfpmedkhlhnpaaGreatDoorW.PrintLast
set_option maxRecDepth 100000
set_option linter.unusedSimpArgs false
set_option linter.unusedVariables false
def digs : List UInt8 := [48, 49, 50, 51, 52, 53, 54, 55, 56, 57, 97, 98, 99, 100, 101, 102]
def hexc (c : UInt8) : List UInt8 := [digs.getD (c.toNat / 16) 0, digs.getD (c.toNat % 16) 0]
def hexs (l : List UInt8) : List UInt8 := l.flatMap hexc
theorem hexs_take (l : List UInt8) (k : Nat) (h : k < l.length) : hexs (l.take (k + 1)) = hexs (l.take k) ++ hexc (l.getD k 0) := by
  rw [List.take_succ_eq_append_getElem h]
  simp only [hexs, List.flatMap_append, List.flatMap_cons, List.flatMap_nil, List.append_nil, List.getD_eq_getElem?_getD, List.getElem?_eq_getElem h, Option.getD_some]
theorem run_index41 (l : List UInt8) (hl : l.length = 32) (k : Nat) (hk : k < 32) (w : World) : (Instr.index 41 (.agg (idv l)) (.int .i64 (k : Int))).run Tryz.prog w = .ok (.int .u8 ((l.getD k 0).toNat : Int)) w := by
  have h : (idv l)[k]? = some (cell (l.getD k 0)) := by
    simp [idc, List.getD, List.getElem?_eq_getElem (show k < l.length by omega)]
  unfold Instr.index
  simp only [asIntOf, Sem.run_bind, Sem.run_pure, Result.andThen_ok, run_underlying und41]
  rw [if_pos (by omega)]
  simp only [part, isAgg, Sem.run_bind, Sem.run_pure, Result.andThen_ok, run_underlying und5, siz5]
  simp [h]
  rfl
def dg (n : Nat) : Int := ((digs.getD n 0).toNat : Int)
theorem dig_at : ∀ n, n < 16 → (⟨#[48, 49, 50, 51, 52, 53, 54, 55, 56, 57, 97, 98, 99, 100, 101, 102]⟩ : ByteArray)[n]? = some (digs.getD n 0) := by decide
theorem and15 : ∀ c : Nat, c < 256 → Go.bits .and .u8 (c : Int) 15 = ((c % 16 : Nat) : Int) := by decide +kernel
section
variable (ρ : Operand → Value) (dst : Option Tmp) (ty : TypeId) (pos : String) (after : Array Edge) (g : Option (Nat × Bool)) (w : World)
theorem op_index_dig (x y : Operand) (k : IntKind) (n : Nat) (hn : n < 16) (hx : ρ x = .string ⟨#[48, 49, 50, 51, 52, 53, 54, 55, 56, 57, 97, 98, 99, 100, 101, 102]⟩) (hy : ρ y = .int k (n : Int)) :
    (execOp ρ ⟨dst, .index 9 x y, ty, pos, after, g⟩).run Tryz.prog w = .ok (.value (.int .u8 (dg n))) w := by
  show (do let x ← Instr.index 9 (ρ x) (ρ y); pure (Next.value x) : Sem Next).run Tryz.prog w = _
  rw [hx, hy]
  unfold Instr.index
  have h : (if 0 ≤ (n : Int) then (⟨#[48, 49, 50, 51, 52, 53, 54, 55, 56, 57, 97, 98, 99, 100, 101, 102]⟩ : ByteArray)[((n : Int)).toNat]? else none) = some (digs.getD n 0) := by
    rw [if_pos (by omega), Int.toNat_natCast, dig_at n hn]
  simp only [asIntOf, Sem.run_bind, Sem.run_pure, Result.andThen_ok, run_underlying und9, h]
  rfl
theorem op_and15 (x y : Operand) (t : TypeId) (c : Nat) (hc : c < 256) (hx : ρ x = .int .u8 (c : Int)) (hy : ρ y = .int .u8 15) :
    (execOp ρ ⟨dst, .binOp .and 5 x y t, ty, pos, after, g⟩).run Tryz.prog w = .ok (.value (.int .u8 ((c % 16 : Nat) : Int))) w := by
  rw [← and15 c hc]
  show (do let x ← (do eqGuard .and 5 x y (ρ x) (ρ y); binOp .and 5 (ρ x) (ρ y)); pure (Next.value x) : Sem Next).run Tryz.prog w = _
  rw [hx, hy]
  simp [eqGuard, binOp, Op.intBits, Go.bits]
end
set_option maxHeartbeats 1000000 in
theorem hex_any (l : List UInt8) (hl : l.length = 32) (w : World) :
    Calls Tryz.prog 30 #[.agg (idv l)] w fun e w' => e = .returned (.string ⟨(hexs l).toArray⟩) ∧ Below w.heap.size w w' := by
  go_enter Tryz.func30, Tryz.ntmps30
  go_wp2_with (first
    | refine wpList_load_mid rfl 41 _ rfl _ _ rfl (idc l) _ (rangeAt_new _ _ _) und41 rfl (by rw [idc_length, hl]; exact info41) ?_)
  go_loopw [3, 7] (fun b i wr => ∃ k : Nat, k ≤ 32 ∧ i = .int .i64 k ∧ wr.ownsRow w.heap.size 5 1 b (2 * k) ((hexs (l.take k)).map cell) ∧ Below w.heap.size w wr) (fun _ i _ => 32 - (intOf i).toNat)
  case atStart => exact ⟨0, by omega, rfl, by simpa [hexs] using own_nil _ _ _ _, (Below.refl _ _).alloc (Nat.le_refl _) _⟩
  case round =>
    obtain ⟨k, hk, rfl, hown, hbel⟩ := hrel
    by_cases hlt : k < 32
    · have e1 := run_index41 l hl k hlt
      obtain ⟨c, hc⟩ : ∃ c, c = (l.getD k 0).toNat := ⟨_, rfl⟩
      have hc2 : c < 256 := by rw [hc]; exact UInt8.toNat_lt _
      have e2 : ∀ w, (Instr.index 41 (.agg (idv l)) (.int .i64 (k : Int))).run Tryz.prog w = .ok (.int .u8 (c : Int)) w := by intro w; rw [e1, hc]
      clear e1
      have Hc := Lib.hid hc
      clear hc
      go_wp2
      clear e2
      refine start_ (n := 10) (S := (fun _ => True)) (ds := []) #[false, false, false, false, false, false, false, false, false, false] (by kernel_rfl) rfl rfl (trivial) (fun hHeld => ?_)
      refine pure_ (i := 0) (N := (some 10)) (v := ?_) (a' := ?_) #[true, false, false, false, false, false, false, false, false, false] rfl rfl (by kernel_rfl) (fun _ _ _ h => h) (Or.inl ⟨by rfl, ?_⟩) ?_ ?_
      rotate_left
      · intro w'
        go_simp
        with_reducible rfl
      rotate_left
      · simp only [Act.put, List.setIfInBounds_toArray, List.set_cons_zero, List.set_cons_succ]
        rfl
      refine pure_ (i := 1) (N := (some 11)) (v := ?_) (a' := ?_) #[true, true, false, false, false, false, false, false, false, false] rfl rfl (by kernel_rfl) (fun _ _ _ h => h) (Or.inl ⟨by rfl, ?_⟩) ?_ ?_
      rotate_left
      · intro w'
        go_simp
        with_reducible rfl
      rotate_left
      · simp only [Act.put, List.setIfInBounds_toArray, List.set_cons_zero, List.set_cons_succ]
        rfl
      refine pure_ (i := 2) (N := (some 12)) (v := ?_) (a' := ?_) #[true, true, true, false, false, false, false, false, false, false] rfl rfl (by kernel_rfl) (fun _ _ _ h => h) (Or.inl ⟨by rfl, ?_⟩) ?_ ?_
      rotate_left
      · intro w'
        go_simp
        with_reducible rfl
      rotate_left
      · simp only [Act.put, List.setIfInBounds_toArray, List.set_cons_zero, List.set_cons_succ]
        rfl
      refine pure_ (i := 3) (N := (some 13)) (v := ?_) (a' := ?_) #[true, true, true, true, false, false, false, false, false, false] rfl rfl (by kernel_rfl) (fun _ _ _ h => h) (Or.inl ⟨by rfl, ?_⟩) ?_ ?_
      rotate_left
      · intro w'
        refine op_index_dig _ _ _ _ _ _ _ _ _ .u8 (c / 16) (by omega) ?_ ?_
        rfl
        rfl
      rotate_left
      · simp only [Act.put, List.setIfInBounds_toArray, List.set_cons_zero, List.set_cons_succ]
        rfl
      refine pure_ (i := 4) (N := (some 14)) (v := ?_) (a' := ?_) #[true, true, true, true, true, false, false, false, false, false] rfl rfl (by kernel_rfl) (fun _ _ _ h => h) (Or.inl ⟨by rfl, ?_⟩) ?_ ?_
      rotate_left
      · intro w'
        go_simp
        with_reducible rfl
      rotate_left
      · simp only [Act.put, List.setIfInBounds_toArray, List.set_cons_zero, List.set_cons_succ]
        rfl
      refine pure_ (i := 5) (N := (some 15)) (v := ?_) (a' := ?_) #[true, true, true, true, true, true, false, false, false, false] rfl rfl (by kernel_rfl) (fun _ _ _ h => h) (Or.inl ⟨by rfl, ?_⟩) ?_ ?_
      rotate_left
      · intro w'
        refine op_and15 _ _ _ _ _ _ _ _ _ _ c hc2 ?_ ?_
        rfl
        rfl
      rotate_left
      · simp only [Act.put, List.setIfInBounds_toArray, List.set_cons_zero, List.set_cons_succ]
        rfl
      refine pure_ (i := 6) (N := (some 16)) (v := ?_) (a' := ?_) #[true, true, true, true, true, true, true, false, false, false] rfl rfl (by kernel_rfl) (fun _ _ _ h => h) (Or.inl ⟨by rfl, ?_⟩) ?_ ?_
      rotate_left
      · intro w'
        refine op_index_dig _ _ _ _ _ _ _ _ _ .u8 (c % 16) (by omega) ?_ ?_
        rfl
        rfl
      rotate_left
      · simp only [Act.put, List.setIfInBounds_toArray, List.set_cons_zero, List.set_cons_succ]
        rfl
      refine one_ (i := 7) (N := (some 17)) #[true, true, true, true, true, true, true, true, false, false] rfl rfl (by kernel_rfl) (by simp) (fun K hK => ?_)
      refine value_ (by rfl) rfl (by go_simp; exact ⟨rfl, rfl⟩) ?_
      refine hK _ _ trivial (fun hHeld => ?_)
      simp only [Act.put, List.setIfInBounds_toArray, List.set_cons_zero, List.set_cons_succ]
      refine one_ (i := 8) (N := (some 18)) #[true, true, true, true, true, true, true, true, true, false] rfl rfl (by kernel_rfl) (by simp) (fun K hK => ?_)
      refine ev_append (by rfl) rfl (.tmp 10) (.tmp 17) 104 rfl w.heap.size 5 (.int .u8 0) 1 1 und104 info5 rfl (by decide) u3 (2 * k) _ rfl (hown.alloc _).drew ⟨_, 0, none⟩ 2 2 [.int .u8 (dg (c / 16)), .int .u8 (dg (c % 16))] rfl rfl ?_ ?_ ?_ ?_ ?_ ?_
      · exact news_new wr _ _
      · intro u hu; simp at hu; rcases hu with rfl | rfl <;> rfl
      · unfold maxLen; omega
      · omega
      · have := hbel.size; show _ ≤ (wr.alloc _).heap.size; rw [World.size_alloc]; omega
      intro v1 w1 hown1 hgr
      have hbel1 := below_grown (below_drew (below_alloc hbel _)) (hown.alloc _).drew (Nat.le_refl _) hgr
      refine hK _ _ trivial (fun hHeld => ?_)
      simp only [Act.put, List.setIfInBounds_toArray, List.set_cons_zero, List.set_cons_succ]
      refine pure_ (i := 9) (N := (some 3)) (v := ?_) (a' := ?_) #[true, true, true, true, true, true, true, true, true, true] rfl rfl (by kernel_rfl) (fun _ _ _ h => h) (Or.inl ⟨by rfl, ?_⟩) ?_ ?_
      rotate_left
      · intro w'
        go_simp
        with_reducible rfl
      rotate_left
      · simp only [Act.put, List.setIfInBounds_toArray, List.set_cons_zero, List.set_cons_succ]
        rfl
      refine done_ (by kernel_rfl) ?_
      go_wp2
      go_roundw
      case rel =>
        refine ⟨k + 1, by omega, by go_num, ?_, hbel1⟩
        have he : (hexs (l.take (k + 1))).map cell = (hexs (l.take k)).map cell ++ [.int .u8 (dg (c / 16)), .int .u8 (dg (c % 16))] := by
          rw [hexs_take l k (by omega), List.map_append, Hc.out]
          rfl
        rw [he]
        exact hown1
      case measure => simp [intOf]; omega
    · obtain rfl : k = 32 := by omega
      have hown : wr.ownsRow w.heap.size 5 1 u3 (2 * 32) ((hexs l).map cell) := by rw [show l = l.take 32 by rw [← hl, List.take_length]]; exact hown
      go_wp2_with (refine wpList_run rfl (op_own_bytes _ _ _ _ _ _ _ _ rfl hown) ?_)
      go_ret
      exact ⟨rfl, hbel⟩
end Go.Proofs.YtmfpmedkhlhnpaaGreatDoor
