import Derived.Test.YtmfpmedkhlhnpaaGreatDoorP4
import Derived.Laws.BitsAllLaws
/- functions 110, 93, 71. -/
namespace Go.Proofs.YtmfpmedkhlhnpaaGreatDoor
open Go.RowKit Go.Extern.Stop Go.Proofs.YtmfpmedkhlhnpaaGreatDoorW.PrintLast
set_option maxRecDepth 100000
set_option linter.unusedSimpArgs false
set_option linter.unusedVariables false
theorem i64_or_nat (a b : Nat) (ha : a < 2 ^ 40) (hb : b < 2 ^ 40) : bits .or .i64 (a : Int) (b : Int) = ((a ||| b : Nat) : Int) := by
  have hx : a ||| b < 2 ^ 40 := Nat.or_lt_two_pow ha hb
  show IntKind.i64.wrap ((BitVec.ofInt 64 (a : Int) ||| BitVec.ofInt 64 (b : Int)).toNat : Int) = _
  have h1 : (BitVec.ofInt 64 (a : Int)).toNat = a := by rw [BitVec.toNat_ofInt]; omega
  have h2 : (BitVec.ofInt 64 (b : Int)).toNat = b := by rw [BitVec.toNat_ofInt]; omega
  rw [BitVec.toNat_or, h1, h2]
  exact IntWalk.i64_in _ (by omega)
theorem or_16 (n d : Nat) (hd : d < 16) : (n * 16) ||| d = n * 16 + d := by
  have := Nat.shiftLeft_add_eq_or_of_lt (i := 4) (b := d) (by omega) n
  rw [Nat.shiftLeft_eq] at this
  exact this.symm
section
variable (ρ : Operand → Value) (dst : Option Tmp) (ty : TypeId) (pos : String) (after : Array Edge) (g : Option (Nat × Bool)) (w : World)
theorem op_shl4 (x y : Operand) (t : TypeId) (n : Nat) (hn : n < 2 ^ 30) (hx : ρ x = .int .i64 (n : Int)) (hy : ρ y = .int .u64 4) :
    (execOp ρ ⟨dst, .binOp .shl 3 x y t, ty, pos, after, g⟩).run Tryz.prog w = .ok (.value (.int .i64 ((n * 16 : Nat) : Int))) w := by
  show (do let x ← (do eqGuard .shl 3 x y (ρ x) (ρ y); binOp .shl 3 (ρ x) (ρ y)); pure (Next.value x) : Sem Next).run Tryz.prog w = _
  rw [hx, hy, eqGuard_shl, binOp_shl, shift_shl .i64 .u64 (n : Int) 4 (by omega) (by decide), IntWalk.i64_in _ (by simp; omega)]
  simp
theorem op_or4 (x y : Operand) (t : TypeId) (n d : Nat) (hn : n < 2 ^ 30) (hd : d < 16) (hx : ρ x = .int .i64 ((n * 16 : Nat) : Int)) (hy : ρ y = .int .i64 (d : Int)) :
    (execOp ρ ⟨dst, .binOp .or 3 x y t, ty, pos, after, g⟩).run Tryz.prog w = .ok (.value (.int .i64 ((n * 16 + d : Nat) : Int))) w := by
  rw [← or_16 n d hd, ← i64_or_nat (n * 16) d (by omega) (by omega)]
  show (do let x ← (do eqGuard .or 3 x y (ρ x) (ρ y); binOp .or 3 (ρ x) (ρ y)); pure (Next.value x) : Sem Next).run Tryz.prog w = _
  rw [hx, hy]
  simp [eqGuard, binOp, Op.intBits, Go.bits]
end
/-- A figure's value; below 0: it is none. -/
def hexI (c : UInt8) : Int := Lib.indexByte digs c
theorem indexByte_lt (l : List UInt8) (c : UInt8) : Lib.indexByte l c < l.length ∨ Lib.indexByte l c = -1 := by
  induction l with
  | nil => exact .inr rfl
  | cons b l ih =>
    unfold Lib.indexByte
    split
    · left; rw [List.length_cons]; omega
    · split
      · exact .inr rfl
      · rename_i h1 h2
        rcases ih with h | h
        · left; simp; omega
        · rw [h] at h2; exact absurd rfl h2
theorem hexI_lt (c : UInt8) : -1 ≤ hexI c ∧ hexI c < 16 := by
  have h1 := Lib.indexByte_ge digs c
  have h2 := indexByte_lt digs c
  have h3 : (digs.length : Int) = 16 := rfl
  unfold hexI
  omega
theorem byte115_any (l : List UInt8) (k c : Nat) (i : Int) (Hc : Hid (c = (l.getD k 0).toNat)) (hi : Hid (i = hexI (l.getD k 0))) (w : World) :
    Calls Tryz.prog 115 #[.string (bs digs), .int .u8 (c : Int)] w fun e w' => e = .returned (.int .i64 i) ∧ w' = w :=
  (Tryz.strings_IndexByte (bs digs) (c : Int) w).mono fun e w' ⟨he, hw⟩ => ⟨by rw [he, hi.out, hexI, Hc.out, Int.toNat_natCast, Nat.toUInt8_eq, UInt8.ofNat_toNat], hw⟩
/-- The number of the first k figures. -/
def numTo (l : List UInt8) : Nat → Option Nat
  | 0 => some 0
  | k + 1 => match numTo l k with
    | none => none
    | some n => if hexI (l.getD k 0) < 0 then none else some (n * 16 + (hexI (l.getD k 0)).toNat)
def numP (l : List UInt8) : Int := if l.length < 4 then -1 else match numTo l 4 with | some n => (n : Int) | none => -1
theorem numTo_none {l : List UInt8} {k : Nat} (h : numTo l (k + 1) = none) (hk : k < 4) : numTo l 4 = none := by
  have step : ∀ j, numTo l j = none → numTo l (j + 1) = none := fun j hj => by rw [numTo, hj]
  obtain ⟨d, hd⟩ : ∃ d, 4 = k + 1 + d := ⟨3 - k, by omega⟩
  rw [hd]
  clear hd hk
  induction d with
  | zero => exact h
  | succ d ih => exact step _ ih
theorem numTo_bad {l : List UInt8} {k n : Nat} (h : Hid (numTo l k = some n)) {i : Int} (hi : Hid (i = hexI (l.getD k 0))) (h0 : i < 0) (hk : k < 4) (hl : ¬ l.length < 4) : Hid (numP l = -1) := Lib.hid (by
  have : numTo l (k + 1) = none := by rw [numTo, h.out, ← hi.out]; simp [h0]
  rw [numP, if_neg hl, numTo_none this hk])
theorem numTo_good {l : List UInt8} {k n : Nat} (h : Hid (numTo l k = some n)) {d : Nat} (hi : Hid ((d : Int) = hexI (l.getD k 0))) : Hid (numTo l (k + 1) = some (n * 16 + d)) := Lib.hid (by
  rw [numTo, h.out]
  show (if hexI (l.getD k 0) < 0 then none else some (n * 16 + (hexI (l.getD k 0)).toNat)) = _
  rw [← hi.out, if_neg (by omega), Int.toNat_natCast])
set_option maxHeartbeats 1000000 in
theorem number110_any (l : List UInt8) (hl : l.length ≤ 9223372036854775807) (w : World) : Calls Tryz.prog 110 #[.string (bs l)] w fun e w' => e = .returned (.int .i64 (numP l)) ∧ w = w' := by
  by_cases h4 : l.length < 4
  · have hp : Hid (numP l = -1) := Lib.hid (by rw [numP, if_pos h4])
    go_enter Tryz.func110, Tryz.ntmps110
    go_wp2
    go_ret
    exact ⟨by rw [hp.out]; rfl, rfl⟩
  · go_enter Tryz.func110, Tryz.ntmps110
    go_wp2
    go_loop [3, 9] (fun s i => ∃ k n : Nat, k ≤ 4 ∧ i = .int .i64 k ∧ s = .int .i64 n ∧ n < 16 ^ k ∧ Hid (numTo l k = some n)) (fun _ i => 4 - (intOf i).toNat)
    case atStart => exact ⟨0, 0, by omega, rfl, rfl, by omega, Lib.hid rfl⟩
    case round =>
      obtain ⟨k, n, hk, rfl, rfl, hn, Hn⟩ := hrel
      by_cases hlt : k < 4
      · obtain ⟨c, hc2, Hc⟩ := byte_at l k
        have hkl : k < l.length := by omega
        have hn30 : n < 2 ^ 30 := Nat.lt_of_lt_of_le hn (by have : k ≤ 3 := by omega
                                                            calc 16 ^ k ≤ 16 ^ 3 := Nat.pow_le_pow_right (by omega) this
                                                              _ ≤ 2 ^ 30 := by decide)
        have hb := hexI_lt (l.getD k 0)
        obtain ⟨i, hi⟩ : ∃ i, Hid (i = hexI (l.getD k 0)) := ⟨_, Lib.hid rfl⟩
        rw [← hi.out] at hb
        by_cases h0 : i < 0
        · have hno := numTo_bad Hn hi h0 hlt h4
          go_wp2_with (first
            | (refine wpList_run rfl (op_index_str' _ _ _ _ _ _ _ _ _ l k c hkl Hc rfl rfl) ?_)
            | (go_at_call 115; refine (byte115_any l k c i Hc hi _).mono ?_; rintro e w1 ⟨rfl, rfl⟩))
          go_ret
          exact ⟨by rw [hno.out]; rfl, rfl⟩
        · obtain ⟨d, rfl⟩ := Int.eq_ofNat_of_zero_le (by omega : 0 ≤ i)
          have hd : d < 16 := by omega
          have hnx := numTo_good Hn hi
          have hpw : n * 16 + d < 16 ^ (k + 1) := by rw [Nat.pow_succ]; omega
          clear hb
          go_wp2_with (first
            | (refine wpList_run rfl (op_index_str' _ _ _ _ _ _ _ _ _ l k c hkl Hc rfl rfl) ?_)
            | (go_at_call 115; refine (byte115_any l k c d Hc hi _).mono ?_; rintro e w1 ⟨rfl, rfl⟩)
            | (refine wpList_run rfl (op_shl4 _ _ _ _ _ _ _ _ _ _ n hn30 rfl rfl) ?_)
            | (refine wpList_run rfl (op_or4 _ _ _ _ _ _ _ _ _ _ n d hn30 hd rfl rfl) ?_))
          go_round
          case rel => exact ⟨k + 1, n * 16 + d, by omega, by go_num, rfl, hpw, hnx⟩
          case measure => simp [intOf]; omega
      · obtain rfl : k = 4 := by omega
        have hp : Hid (numP l = n) := Lib.hid (by rw [numP, if_neg h4, Hn.out])
        go_wp2
        go_ret
        exact ⟨by rw [hp.out]; rfl, rfl⟩
end Go.Proofs.YtmfpmedkhlhnpaaGreatDoor
