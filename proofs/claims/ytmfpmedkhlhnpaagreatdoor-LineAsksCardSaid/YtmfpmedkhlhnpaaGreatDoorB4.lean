import Derived.Test.YtmfpmedkhlhnpaaGreatDoorB2
import Derived.Test.YtmfpmedkhlhnpaaGreatDoorA2
/- numerals, pieces, lines of ids: functions 37, 40, 42, 41, 39, 34. -/
namespace Go.Proofs.YtmfpmedkhlhnpaaGreatDoor
open Go.RowKit Go.Extern.Stop Go.Proofs.YtmfpmedkhlhnpaaGreatDoorW.PrintLast
set_option maxRecDepth 100000
set_option linter.unusedSimpArgs false
set_option linter.unusedVariables false
/-- A digit's byte. -/
def ddig (m : Nat) : UInt8 := UInt8.ofNat (48 + m)
theorem dec_lt {n : Nat} (h : n < 10) : Lib.decDigits n = [ddig n] := by rw [Lib.decDigits, dif_pos h]; rfl
theorem dec_ge {n : Nat} (h : ¬ n < 10) : Lib.decDigits n = Lib.decDigits (n / 10) ++ [ddig (n % 10)] := by rw [Lib.decDigits, dif_neg h]; rfl
theorem dec_len (n : Nat) : (Lib.decDigits n).length ≤ n + 1 := by
  induction n using Nat.strongRecOn with
  | ind n ih =>
    by_cases h : n < 10
    · rw [dec_lt h]; simp
    · rw [dec_ge h]
      have := ih (n / 10) (by omega)
      simp
      omega
theorem cell_dig (m : Nat) (h : m < 10) : [ddig m].map cell = [.int .u8 (48 + (m : Int))] := by
  simp [cell, ddig]
  omega
section
variable (ρ : Operand → Value) (dst : Option Tmp) (ty : TypeId) (pos : String) (after : Array Edge) (g : Option (Nat × Bool)) (w : World)
theorem op_quo10 (x y : Operand) (t : TypeId) (n : Nat) (hx : ρ x = .int .i64 (n : Int)) (hy : ρ y = .int .i64 10) (hn : n ≤ 1000000000000000000) :
    (execOp ρ ⟨dst, .binOp .quo 3 x y t, ty, pos, after, g⟩).run Tryz.prog w = .ok (.value (.int .i64 (((n / 10 : Nat)) : Int))) w := by
  show (do let x ← (do eqGuard .quo 3 x y (ρ x) (ρ y); binOp .quo 3 (ρ x) (ρ y)); pure (Next.value x) : Sem Next).run Tryz.prog w = _
  rw [hx, hy]
  have h : (n : Int).tdiv 10 = ((n / 10 : Nat) : Int) := by rw [Int.tdiv_eq_ediv_of_nonneg (by omega)]; omega
  have hw := IntWalk.i64_in ((n / 10 : Nat) : Int) (by omega)
  simp [eqGuard, binOp, Op.intDiv, h]
  simpa using hw
theorem op_rem10 (x y : Operand) (t : TypeId) (n : Nat) (hx : ρ x = .int .i64 (n : Int)) (hy : ρ y = .int .i64 10) :
    (execOp ρ ⟨dst, .binOp .rem 3 x y t, ty, pos, after, g⟩).run Tryz.prog w = .ok (.value (.int .i64 ((n : Int) % 10))) w := by
  show (do let x ← (do eqGuard .rem 3 x y (ρ x) (ρ y); binOp .rem 3 (ρ x) (ρ y)); pure (Next.value x) : Sem Next).run Tryz.prog w = _
  rw [hx, hy]
  have h : (n : Int).tmod 10 = (n : Int) % 10 := by rw [Int.tmod_eq_emod_of_nonneg (by omega)]
  simp [eqGuard, binOp, Op.intDiv, h]
end
set_option maxHeartbeats 1000000 in
theorem fig20_any (n : Nat) : n ≤ 1000000000000000000 → ∀ w : World, Calls Tryz.prog 37 #[.int .i64 (n : Int)] w fun e w' => e = .returned (.string (bs (Lib.decDigits n))) ∧ Below w.heap.size w w' := by
  induction n using Nat.strongRecOn with
  | ind n ih0 =>
  intro hn w
  by_cases h : n < 10
  · have hd := Lib.hid (dec_lt h)
    have hdig := Lib.hid (cell_dig n h)
    clear ih0
    go_enter Tryz.func37, Tryz.ntmps37
    go_wp2_with (refine wpList_run rfl (op_new_bytes _ _ _ _ _ _ _ _ 1 [ddig n] _ rfl rfl (by decide) (by rw [hdig.out])) ?_)
    go_ret
    exact ⟨by rw [hd.out]; rfl, (Below.refl _ _).alloc (Nat.le_refl _) _⟩
  · have hd := Lib.hid (dec_ge h)
    have ih : ∀ m, m < n → m ≤ 1000000000000000000 → ∀ w : World, Calls Tryz.prog 37 #[.int .i64 (m : Int)] w fun e w' => e = .returned (.string (bs (Lib.decDigits m))) ∧ Below w.heap.size w w' := ih0
    have ih := Lib.hid ih
    clear ih0
    have hdig : Hid ([ddig (n % 10)].map cell = [.int .u8 (48 + (n : Int) % 10)]) := Lib.hid (by rw [cell_dig (n % 10) (by omega)]; simp)
    go_enter Tryz.func37, Tryz.ntmps37
    go_wp2
    refine start_ (n := 11) (S := (fun W => Below w.heap.size w W)) (ds := []) #[false, false, false, false, false, false, false, false, false, false, false] (by kernel_rfl) rfl rfl (below_drew (Below.refl _ _)) (fun hHeld => ?_)
    refine pure_ (i := 0) (N := (some 10)) (v := ?_) (a' := ?_) #[true, false, false, false, false, false, false, false, false, false, false] rfl rfl (by kernel_rfl) (fun _ _ _ h => h) (Or.inl ⟨by rfl, ?_⟩) ?_ ?_
    rotate_left
    · intro w'
      go_simp
      with_reducible rfl
    rotate_left
    · simp only [Act.put, List.setIfInBounds_toArray, List.set_cons_zero, List.set_cons_succ]
      rfl
    refine pure_ (i := 1) (N := (some 11)) (v := ?_) (a' := ?_) #[true, true, false, false, false, false, false, false, false, false, false] rfl rfl (by kernel_rfl) (fun _ _ _ h => h) (Or.inl ⟨by rfl, ?_⟩) ?_ ?_
    rotate_left
    · intro w'
      refine op_quo10 _ _ _ _ _ _ _ _ _ _ n ?_ ?_ hn
      rfl
      rfl
    rotate_left
    · simp only [Act.put, List.setIfInBounds_toArray, List.set_cons_zero, List.set_cons_succ]
      rfl
    refine pure_ (i := 3) (N := (some 13)) (v := ?_) (a' := ?_) #[true, true, false, true, false, false, false, false, false, false, false] rfl rfl (by kernel_rfl) (fun _ _ _ h => h) (Or.inl ⟨by rfl, ?_⟩) ?_ ?_
    rotate_left
    · intro w'
      go_simp
      with_reducible rfl
    rotate_left
    · simp only [Act.put, List.setIfInBounds_toArray, List.set_cons_zero, List.set_cons_succ]
      rfl
    refine pure_ (i := 4) (N := (some 14)) (v := ?_) (a' := ?_) #[true, true, false, true, true, false, false, false, false, false, false] rfl rfl (by kernel_rfl) (fun _ _ _ h => h) (Or.inl ⟨by rfl, ?_⟩) ?_ ?_
    rotate_left
    · intro w'
      refine op_rem10 _ _ _ _ _ _ _ _ _ _ n ?_ ?_
      rfl
      rfl
    rotate_left
    · simp only [Act.put, List.setIfInBounds_toArray, List.set_cons_zero, List.set_cons_succ]
      rfl
    refine pure_ (i := 5) (N := (some 15)) (v := ?_) (a' := ?_) #[true, true, false, true, true, true, false, false, false, false, false] rfl rfl (by kernel_rfl) (fun _ _ _ h => h) (Or.inl ⟨by rfl, ?_⟩) ?_ ?_
    rotate_left
    · intro w'
      have hw := IntWalk.i64_in (48 + (n : Int) % 10) (by omega)
      go_simp
      with_reducible rfl
    rotate_left
    · simp only [Act.put, List.setIfInBounds_toArray, List.set_cons_zero, List.set_cons_succ]
      rfl
    refine pure_ (i := 6) (N := (some 16)) (v := ?_) (a' := ?_) #[true, true, false, true, true, true, true, false, false, false, false] rfl rfl (by kernel_rfl) (fun _ _ _ h => h) (Or.inl ⟨by rfl, ?_⟩) ?_ ?_
    rotate_left
    · intro w'
      have hw := IntWalk.u8_in (48 + (n : Int) % 10) (by omega)
      go_simp
      with_reducible rfl
    rotate_left
    · simp only [Act.put, List.setIfInBounds_toArray, List.set_cons_zero, List.set_cons_succ]
      rfl
    refine two_ (i := 2) (j := 7) (Ni := (some 12)) (Nj := (some 17)) #[true, true, true, true, true, true, true, false, false, false, false] #[true, true, false, true, true, true, true, true, false, false, false] rfl rfl rfl rfl (by kernel_rfl) (by simp) (by simp) (fun K hK => ?_) (fun K hK => ?_)
    ·
      refine goes_ Tryz.func37 (by kernel_rfl) rfl #[.int .i64 (((n / 10 : Nat)) : Int)] (by rfl) rfl rfl (by first | rfl | simp [Act.eval]) ?_
      refine (ih.out (n / 10) (by omega) (by omega) _).mono ?_
      rintro e w1 ⟨rfl, hb⟩
      refine ⟨_, rfl, hK _ _ (below_call hHeld hb) (fun hHeld => ?_)⟩
      simp only [Act.put, List.setIfInBounds_toArray, List.set_cons_zero, List.set_cons_succ]
      refine one_ (i := 7) (N := (some 17)) #[true, true, true, true, true, true, true, true, false, false, false] rfl rfl (by kernel_rfl) (by simp) (fun K hK => ?_)
      refine ev_build (by rfl) rfl [.int .u8 (48 + (n : Int) % 10)] 5 1 1 (by first | (go_simp; done) | (go_simp; exact ⟨rfl, rfl⟩)) rfl (by decide) ?_
      intro g W1 hown7 hb
      refine hK _ _ (below_call hHeld hb) (fun hHeld => ?_)
      simp only [Act.put, List.setIfInBounds_toArray, List.set_cons_zero, List.set_cons_succ]
      refine one_ (i := 8) (N := (some 18)) #[true, true, true, true, true, true, true, true, true, false, false] rfl rfl (by kernel_rfl) (by simp) (fun K hK => ?_)
      refine ev_value (by rfl) rfl (op_own_bytes _ _ _ _ _ _ _ (.tmp 17) (xs := [ddig (n % 10)]) rfl (by rw [hdig.out]; exact hown7)) ?_
      refine hK _ _ hHeld (fun hHeld => ?_)
      simp only [Act.put, List.setIfInBounds_toArray, List.set_cons_zero, List.set_cons_succ]
      refine pure_ (i := 9) (N := (some 19)) (v := ?_) (a' := ?_) #[true, true, true, true, true, true, true, true, true, true, false] rfl rfl (by kernel_rfl) (fun _ _ _ h => h) (Or.inl ⟨by rfl, ?_⟩) ?_ ?_
      rotate_left
      · intro w'
        refine op_concat _ _ _ _ _ _ _ _ _ _ (Lib.decDigits (n / 10)) [ddig (n % 10)] ?_ ?_ ?_
        rfl
        rfl
        have := dec_len (n / 10); simp; omega
      rotate_left
      · simp only [Act.put, List.setIfInBounds_toArray, List.set_cons_zero, List.set_cons_succ]
        rfl
      refine pure_ (i := 10) (N := (some 2)) (v := ?_) (a' := ?_) #[true, true, true, true, true, true, true, true, true, true, true] rfl rfl (by kernel_rfl) (fun _ _ _ h => h) (Or.inl ⟨by rfl, ?_⟩) ?_ ?_
      rotate_left
      · intro w'
        go_simp
        with_reducible rfl
      rotate_left
      · simp only [Act.put, List.setIfInBounds_toArray, List.set_cons_zero, List.set_cons_succ]
        rfl
      refine done_ (by kernel_rfl) ?_
      go_wp2
      go_ret
      exact ⟨by rw [hd.out]; rfl, hHeld⟩
    ·
      refine ev_build (by rfl) rfl [.int .u8 (48 + (n : Int) % 10)] 5 1 1 (by first | (go_simp; done) | (go_simp; exact ⟨rfl, rfl⟩)) rfl (by decide) ?_
      intro g W1 hown7 hb
      refine hK _ _ (below_call hHeld hb) (fun hHeld => ?_)
      simp only [Act.put, List.setIfInBounds_toArray, List.set_cons_zero, List.set_cons_succ]
      refine two_ (i := 2) (j := 8) (Ni := (some 12)) (Nj := (some 18)) #[true, true, true, true, true, true, true, true, false, false, false] #[true, true, false, true, true, true, true, true, true, false, false] rfl rfl rfl rfl (by kernel_rfl) (by simp) (by simp) (fun K hK => ?_) (fun K hK => ?_)
      ·
        refine goes_ Tryz.func37 (by kernel_rfl) rfl #[.int .i64 (((n / 10 : Nat)) : Int)] (by rfl) rfl rfl (by first | rfl | simp [Act.eval]) ?_
        refine (ih.out (n / 10) (by omega) (by omega) _).mono ?_
        rintro e w1 ⟨rfl, hb⟩
        have hown7 := own_below hown7 hb
        refine ⟨_, rfl, hK _ _ (below_call hHeld hb) (fun hHeld => ?_)⟩
        simp only [Act.put, List.setIfInBounds_toArray, List.set_cons_zero, List.set_cons_succ]
        refine one_ (i := 8) (N := (some 18)) #[true, true, true, true, true, true, true, true, true, false, false] rfl rfl (by kernel_rfl) (by simp) (fun K hK => ?_)
        refine ev_value (by rfl) rfl (op_own_bytes _ _ _ _ _ _ _ (.tmp 17) (xs := [ddig (n % 10)]) rfl (by rw [hdig.out]; exact hown7)) ?_
        refine hK _ _ hHeld (fun hHeld => ?_)
        simp only [Act.put, List.setIfInBounds_toArray, List.set_cons_zero, List.set_cons_succ]
        refine pure_ (i := 9) (N := (some 19)) (v := ?_) (a' := ?_) #[true, true, true, true, true, true, true, true, true, true, false] rfl rfl (by kernel_rfl) (fun _ _ _ h => h) (Or.inl ⟨by rfl, ?_⟩) ?_ ?_
        rotate_left
        · intro w'
          refine op_concat _ _ _ _ _ _ _ _ _ _ (Lib.decDigits (n / 10)) [ddig (n % 10)] ?_ ?_ ?_
          rfl
          rfl
          have := dec_len (n / 10); simp; omega
        rotate_left
        · simp only [Act.put, List.setIfInBounds_toArray, List.set_cons_zero, List.set_cons_succ]
          rfl
        refine pure_ (i := 10) (N := (some 2)) (v := ?_) (a' := ?_) #[true, true, true, true, true, true, true, true, true, true, true] rfl rfl (by kernel_rfl) (fun _ _ _ h => h) (Or.inl ⟨by rfl, ?_⟩) ?_ ?_
        rotate_left
        · intro w'
          go_simp
          with_reducible rfl
        rotate_left
        · simp only [Act.put, List.setIfInBounds_toArray, List.set_cons_zero, List.set_cons_succ]
          rfl
        refine done_ (by kernel_rfl) ?_
        go_wp2
        go_ret
        exact ⟨by rw [hd.out]; rfl, hHeld⟩
      ·
        refine ev_value (by rfl) rfl (op_own_bytes _ _ _ _ _ _ _ (.tmp 17) (xs := [ddig (n % 10)]) rfl (by rw [hdig.out]; exact hown7)) ?_
        refine hK _ _ hHeld (fun hHeld => ?_)
        simp only [Act.put, List.setIfInBounds_toArray, List.set_cons_zero, List.set_cons_succ]
        refine one_ (i := 2) (N := (some 12)) #[true, true, true, true, true, true, true, true, true, false, false] rfl rfl (by kernel_rfl) (by simp) (fun K hK => ?_)
        refine goes_ Tryz.func37 (by kernel_rfl) rfl #[.int .i64 (((n / 10 : Nat)) : Int)] (by rfl) rfl rfl (by first | rfl | simp [Act.eval]) ?_
        refine (ih.out (n / 10) (by omega) (by omega) _).mono ?_
        rintro e w1 ⟨rfl, hb⟩
        have hown7 := own_below hown7 hb
        refine ⟨_, rfl, hK _ _ (below_call hHeld hb) (fun hHeld => ?_)⟩
        simp only [Act.put, List.setIfInBounds_toArray, List.set_cons_zero, List.set_cons_succ]
        refine pure_ (i := 9) (N := (some 19)) (v := ?_) (a' := ?_) #[true, true, true, true, true, true, true, true, true, true, false] rfl rfl (by kernel_rfl) (fun _ _ _ h => h) (Or.inl ⟨by rfl, ?_⟩) ?_ ?_
        rotate_left
        · intro w'
          refine op_concat _ _ _ _ _ _ _ _ _ _ (Lib.decDigits (n / 10)) [ddig (n % 10)] ?_ ?_ ?_
          rfl
          rfl
          have := dec_len (n / 10); simp; omega
        rotate_left
        · simp only [Act.put, List.setIfInBounds_toArray, List.set_cons_zero, List.set_cons_succ]
          rfl
        refine pure_ (i := 10) (N := (some 2)) (v := ?_) (a' := ?_) #[true, true, true, true, true, true, true, true, true, true, true] rfl rfl (by kernel_rfl) (fun _ _ _ h => h) (Or.inl ⟨by rfl, ?_⟩) ?_ ?_
        rotate_left
        · intro w'
          go_simp
          with_reducible rfl
        rotate_left
        · simp only [Act.put, List.setIfInBounds_toArray, List.set_cons_zero, List.set_cons_succ]
          rfl
        refine done_ (by kernel_rfl) ?_
        go_wp2
        go_ret
        exact ⟨by rw [hd.out]; rfl, hHeld⟩
end Go.Proofs.YtmfpmedkhlhnpaaGreatDoor
