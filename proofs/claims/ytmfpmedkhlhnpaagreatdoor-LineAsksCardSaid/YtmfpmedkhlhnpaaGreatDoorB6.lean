import Derived.Test.YtmfpmedkhlhnpaaGreatDoorB3
import Derived.Test.YtmfpmedkhlhnpaaGreatDoorB4
import Derived.Test.YtmfpmedkhlhnpaaGreatDoorA3
/- functions 23, 6, 34, 40, 42, 41, 39. -/
namespace Go.Proofs.YtmfpmedkhlhnpaaGreatDoor
open Go.RowKit Go.Extern.Stop Go.Proofs.YtmfpmedkhlhnpaaGreatDoorW.PrintLast
set_option maxRecDepth 100000
set_option linter.unusedSimpArgs false
set_option linter.unusedVariables false
/-- It returns a bool that, if it is true, tells P. -/
def Tells (P : Prop) (e : Ending) : Prop := ∃ b, e = .returned (.bool b) ∧ (b = true → P)
theorem Tells.no {P : Prop} : Tells P (.returned (.bool false)) := ⟨false, rfl, fun h => by cases h⟩
theorem Tells.of {P : Prop} {b : Bool} (h : b = true → P) : Tells P (.returned (.bool b)) := ⟨b, rfl, h⟩
def Short (ss : List (List UInt8)) : Prop := ss.length ≤ 30 ∧ ∀ s ∈ ss, s.length ≤ 100
theorem short_next {ss : List (List UInt8)} {k : Nat} {s : List UInt8} (h : Hid (∀ i, i < k → (ss.getD i []).length ≤ 100)) (hs : Hid (s = ss.getD k [])) (hl : s.length ≤ 100) : Hid (∀ i, i < k + 1 → (ss.getD i []).length ≤ 100) :=
  Lib.hid fun i hi => by
    by_cases e : i = k
    · rw [e, ← hs.out]; exact hl
    · exact h.out i (by omega)
theorem short_end {ss : List (List UInt8)} (h : Hid (∀ i, i < ss.length → (ss.getD i []).length ≤ 100)) (hn : ss.length ≤ 30) : Short ss :=
  ⟨hn, fun s hs => by
    obtain ⟨i, hi, rfl⟩ := List.mem_iff_getElem.1 hs
    have := h.out i hi
    rwa [List.getD_eq_getElem?_getD, List.getElem?_eq_getElem hi] at this⟩
set_option maxHeartbeats 1000000 in
theorem words23_any (ss : List (List UInt8)) (A : Option Addr) (ca : Nat) (hn : ss.length ≤ 9223372036854775807) (w : World) (hA : Rd w A (strc ss)) :
    Calls Tryz.prog 23 #[.slice A ss.length ca] w fun e w' => Tells (Short ss) e ∧ w = w' := by
  go_enter Tryz.func23, Tryz.ntmps23
  go_wp2
  go_loop [3] (fun i => ∃ k : Nat, k ≤ ss.length ∧ k ≤ 30 ∧ i = .int .i64 k ∧ Hid (∀ i, i < k → (ss.getD i []).length ≤ 100)) (fun i => ss.length - (intOf i).toNat)
  case atStart => exact ⟨0, by omega, by omega, rfl, Lib.hid (fun i hi => by omega)⟩
  case round =>
    obtain ⟨k, hk, hk30, rfl, hall⟩ := hrel
    by_cases hlt : k < ss.length
    · by_cases h30 : k < 30
      · obtain ⟨b1, o1, s, rfl, c1, hs⟩ := hA.strN k hlt
        by_cases hl : s.length ≤ 100
        · have hnx := short_next hall hs hl
          go_wp2
          go_round
          case rel => exact ⟨k + 1, by omega, by omega, by go_num, hnx⟩
          case measure => simp [intOf]; omega
        · go_wp2
          go_ret
          exact ⟨Tells.no, rfl⟩
      · have hb : decide ((ss.length : Int) ≤ 30) = false := by simp; omega
        go_wp2
        go_ret
        exact ⟨Tells.no, rfl⟩
    · obtain rfl : k = ss.length := by omega
      have hsh := Lib.hid (short_end hall (by omega))
      go_wp2
      go_ret
      exact ⟨Tells.of fun _ => hsh.out, rfl⟩
def capP (ss : List (List UInt8)) (i : Nat) : Bool := wordOk (ss.getD i []) && (i == 0 || slt (ss.getD (i - 1) []) (ss.getD i []))
def capsOk (ss : List (List UInt8)) : Bool := (List.range ss.length).all (capP ss) && decide (ss.length ≤ 20)
theorem slt_total : ∀ a b : List UInt8, (slt a b || a == b) = !(slt b a)
  | [], [] => by simp [slt, Op.bytesLess]
  | [], b :: y => by simp [slt, Op.bytesLess]
  | a :: x, [] => by simp [slt, Op.bytesLess]
  | a :: x, b :: y => by
    have ih := slt_total x y
    simp only [slt] at ih ⊢
    simp only [Op.bytesLess]
    by_cases h : a = b
    · subst h
      simp only [UInt8.lt_irrefl, decide_false, Bool.false_or, beq_self_eq_true, Bool.true_and]
      rw [← ih]
      simp
    · have h1 : (a == b) = false := beq_eq_false_iff_ne.2 h
      have h2 : (b == a) = false := beq_eq_false_iff_ne.2 (fun e => h e.symm)
      have h3 : ((a :: x) == (b :: y)) = false := by simp [h]
      rw [h1, h2, h3]
      simp only [Bool.false_and, Bool.or_false]
      by_cases hl : a < b
      · have : ¬ b < a := UInt8.lt_asymm hl
        simp [hl, this]
      · have : b < a := by
          rcases UInt8.lt_or_lt_of_ne h with h' | h'
          · exact absurd h' hl
          · exact h'
        simp [hl, this]
theorem caps_end {ss : List (List UInt8)} (h : Hid ((List.range ss.length).all (capP ss) = true)) : Hid (capsOk ss = decide (ss.length ≤ 20)) := Lib.hid (by rw [capsOk, h.out]; rfl)
theorem caps_no {ss : List (List UInt8)} {k : Nat} (hk : k < ss.length) (h : capP ss k = false) : Hid (capsOk ss = false) := Lib.hid (by rw [capsOk, range_no hk h]; rfl)
theorem cap_pos {ss : List (List UInt8)} {k : Nat} {s1 s0 : List UInt8} (h1 : Hid (s1 = ss.getD k [])) (h0 : Hid (s0 = ss.getD (k - 1) [])) (hk : ¬ k = 0) (hw : wordOk s1 = true) : capP ss k = !(slt s1 s0 || s1 == s0) := by
  rw [capP, ← h1.out, ← h0.out, hw, slt_total]
  simp [hk]
theorem cap_zero {ss : List (List UInt8)} {k : Nat} {s1 : List UInt8} (h1 : Hid (s1 = ss.getD k [])) (hk : k = 0) (hw : wordOk s1 = true) : capP ss k = true := by
  rw [capP, ← h1.out, hw, hk]; rfl
theorem cap_word {ss : List (List UInt8)} {k : Nat} {s1 : List UInt8} (h1 : Hid (s1 = ss.getD k [])) (hw : wordOk s1 = false) : capP ss k = false := by
  rw [capP, ← h1.out, hw]; rfl
theorem mem_getD {ss : List (List UInt8)} {k : Nat} (hk : k < ss.length) {s : List UInt8} (h : Hid (s = ss.getD k [])) : s ∈ ss := by
  rw [h.out, List.getD_eq_getElem?_getD, List.getElem?_eq_getElem hk]
  exact List.getElem_mem hk
set_option maxHeartbeats 1000000 in
theorem fine10_any (ss : List (List UInt8)) (A : Option Addr) (ca : Nat) (hn : ss.length ≤ 9223372036854775807) (hl : ∀ s ∈ ss, s.length ≤ 9223372036854775807) (w : World) (hA : Rd w A (strc ss)) :
    Calls Tryz.prog 34 #[.slice A ss.length ca] w fun e w' => e = .returned (.bool (capsOk ss)) ∧ Below w.heap.size w w' := by
  have HL := Lib.hid hl
  clear hl
  go_enter Tryz.func34, Tryz.ntmps34
  go_wp2
  go_loopw [3] (fun i wr => ∃ k : Nat, k ≤ ss.length ∧ i = .int .i64 k ∧ Hid ((List.range k).all (capP ss) = true) ∧ Below w.heap.size w wr) (fun i _ => ss.length - (intOf i).toNat)
  case atStart => exact ⟨0, by omega, rfl, by simp [Hid], Below.refl _ _⟩
  case round =>
    obtain ⟨k, hk, rfl, hall, hbel⟩ := hrel
    by_cases hlt : k < ss.length
    · obtain ⟨b1, o1, s1, rfl, c1, hs1⟩ := (hA.below hbel).strN k hlt
      have hl1 := HL.out s1 (mem_getD hlt hs1)
      by_cases hw : wordOk s1 = true
      · go_wp2_with (go_at_call 67; refine (word10_any s1 hl1 _).mono ?_; rintro e w1 ⟨rfl, rfl⟩)
        by_cases h0 : k = 0
        · have hnx := range_next hall (cap_zero hs1 h0 hw)
          have hk0 : decide (0 < (k : Int)) = false := by simp; omega
          have H0 := Lib.hid h0
          clear h0
          try go_wp2
          refine start_ (n := 14) (S := (fun _ => True)) (ds := []) #[false, false, false, false, false, false, false, false, false, false, false, false, false, false] (by kernel_rfl) rfl rfl (trivial) (fun hHeld => ?_)
          refine pure_ (i := 0) (N := (some 18)) (v := ?_) (a' := ?_) #[true, false, false, false, false, false, false, false, false, false, false, false, false, false] rfl rfl (by kernel_rfl) (fun _ _ _ h => h) (Or.inl ⟨by rfl, ?_⟩) ?_ ?_
          rotate_left
          · intro w'
            go_simp
            with_reducible rfl
          rotate_left
          · simp only [Act.put, List.setIfInBounds_toArray, List.set_cons_zero, List.set_cons_succ]
            rfl
          refine pure_ (i := 1) (N := (some 19)) (v := ?_) (a' := ?_) #[true, true, false, false, false, false, false, false, false, false, false, false, false, false] rfl rfl (by kernel_rfl) (fun _ _ _ h => h) (Or.inl ⟨by rfl, ?_⟩) ?_ ?_
          rotate_left
          · intro w'
            refine op_gtr _ _ _ _ _ _ _ _ _ _ _ (k : Int) 0 false hk0 ?_ ?_
            rfl
            rfl
          rotate_left
          · simp only [Act.put, List.setIfInBounds_toArray, List.set_cons_zero, List.set_cons_succ]
            rfl
          refine pure_ (i := 2) (N := (some 20)) (v := ?_) (a' := ?_) #[true, true, true, false, false, false, false, false, false, false, false, false, false, false] rfl rfl (by kernel_rfl) (fun _ _ _ h => h) (Or.inl ⟨by rfl, ?_⟩) ?_ ?_
          rotate_left
          · intro w'
            go_simp
            with_reducible rfl
          rotate_left
          · simp only [Act.put, List.setIfInBounds_toArray, List.set_cons_zero, List.set_cons_succ]
            rfl
          refine pure_ (i := 3) (N := (some 21)) (v := undef) (a' := ?_) #[true, true, true, true, false, false, false, false, false, false, false, false, false, false] rfl rfl (by kernel_rfl) (fun _ _ _ h => h) (Or.inr ⟨by rfl, rfl⟩) ?_ ?_
          rotate_left
          · simp only [Act.put, List.setIfInBounds_toArray, List.set_cons_zero, List.set_cons_succ]
            rfl
          refine pure_ (i := 4) (N := (some 22)) (v := undef) (a' := ?_) #[true, true, true, true, true, false, false, false, false, false, false, false, false, false] rfl rfl (by kernel_rfl) (fun _ _ _ h => h) (Or.inr ⟨by rfl, rfl⟩) ?_ ?_
          rotate_left
          · simp only [Act.put, List.setIfInBounds_toArray, List.set_cons_zero, List.set_cons_succ]
            rfl
          refine pure_ (i := 5) (N := (some 23)) (v := undef) (a' := ?_) #[true, true, true, true, true, true, false, false, false, false, false, false, false, false] rfl rfl (by kernel_rfl) (fun _ _ _ h => h) (Or.inr ⟨by rfl, rfl⟩) ?_ ?_
          rotate_left
          · simp only [Act.put, List.setIfInBounds_toArray, List.set_cons_zero, List.set_cons_succ]
            rfl
          refine pure_ (i := 6) (N := (some 24)) (v := undef) (a' := ?_) #[true, true, true, true, true, true, true, false, false, false, false, false, false, false] rfl rfl (by kernel_rfl) (fun _ _ _ h => h) (Or.inr ⟨by rfl, rfl⟩) ?_ ?_
          rotate_left
          · simp only [Act.put, List.setIfInBounds_toArray, List.set_cons_zero, List.set_cons_succ]
            rfl
          refine pure_ (i := 7) (N := (some 25)) (v := undef) (a' := ?_) #[true, true, true, true, true, true, true, true, false, false, false, false, false, false] rfl rfl (by kernel_rfl) (fun _ _ _ h => h) (Or.inr ⟨by rfl, rfl⟩) ?_ ?_
          rotate_left
          · simp only [Act.put, List.setIfInBounds_toArray, List.set_cons_zero, List.set_cons_succ]
            rfl
          refine pure_ (i := 8) (N := (some 26)) (v := undef) (a' := ?_) #[true, true, true, true, true, true, true, true, true, false, false, false, false, false] rfl rfl (by kernel_rfl) (fun _ _ _ h => h) (Or.inr ⟨by rfl, rfl⟩) ?_ ?_
          rotate_left
          · simp only [Act.put, List.setIfInBounds_toArray, List.set_cons_zero, List.set_cons_succ]
            rfl
          refine pure_ (i := 9) (N := (some 27)) (v := undef) (a' := ?_) #[true, true, true, true, true, true, true, true, true, true, false, false, false, false] rfl rfl (by kernel_rfl) (fun _ _ _ h => h) (Or.inr ⟨by rfl, rfl⟩) ?_ ?_
          rotate_left
          · simp only [Act.put, List.setIfInBounds_toArray, List.set_cons_zero, List.set_cons_succ]
            rfl
          refine pure_ (i := 10) (N := (some 28)) (v := undef) (a' := ?_) #[true, true, true, true, true, true, true, true, true, true, true, false, false, false] rfl rfl (by kernel_rfl) (fun _ _ _ h => h) (Or.inr ⟨by rfl, rfl⟩) ?_ ?_
          rotate_left
          · simp only [Act.put, List.setIfInBounds_toArray, List.set_cons_zero, List.set_cons_succ]
            rfl
          refine pure_ (i := 11) (N := (some 29)) (v := undef) (a' := ?_) #[true, true, true, true, true, true, true, true, true, true, true, true, false, false] rfl rfl (by kernel_rfl) (fun _ _ _ h => h) (Or.inr ⟨by rfl, rfl⟩) ?_ ?_
          rotate_left
          · simp only [Act.put, List.setIfInBounds_toArray, List.set_cons_zero, List.set_cons_succ]
            rfl
          refine pure_ (i := 12) (N := (some 30)) (v := undef) (a' := ?_) #[true, true, true, true, true, true, true, true, true, true, true, true, true, false] rfl rfl (by kernel_rfl) (fun _ _ _ h => h) (Or.inr ⟨by rfl, rfl⟩) ?_ ?_
          rotate_left
          · simp only [Act.put, List.setIfInBounds_toArray, List.set_cons_zero, List.set_cons_succ]
            rfl
          refine pure_ (i := 13) (N := (some 31)) (v := ?_) (a' := ?_) #[true, true, true, true, true, true, true, true, true, true, true, true, true, true] rfl rfl (by kernel_rfl) (fun _ _ _ h => h) (Or.inl ⟨by rfl, ?_⟩) ?_ ?_
          rotate_left
          · intro w'
            go_simp
            with_reducible rfl
          rotate_left
          · simp only [Act.put, List.setIfInBounds_toArray, List.set_cons_zero, List.set_cons_succ]
            rfl
          refine done_ (by kernel_rfl) ?_
          go_wp2
          go_roundw
          case rel => exact ⟨k + 1, by omega, by go_num, hnx, below_drew hbel⟩
          case measure => simp [intOf]; omega
        · have hk0 : decide (0 < (k : Int)) = true := by simp; omega
          obtain ⟨b2, o2, s0, e2, c0, hs0⟩ := (hA.below hbel).strN (k - 1) (by omega)
          injection e2 with e2; injection e2 with e3 e4; subst e3 e4
          have hcp := cap_pos hs1 hs0 h0 hw
          try go_wp2
          refine start_ (n := 14) (S := (fun W => W.cell? ⟨b1, o1 + k, none⟩ = some (.string (bs s1)) ∧ W.cell? ⟨b1, o1 + (k - 1), none⟩ = some (.string (bs s0)))) (ds := []) #[false, false, false, false, false, false, false, false, false, false, false, false, false, false] (by kernel_rfl) rfl rfl (⟨by simpa using c1, by simpa using c0⟩) (fun hHeld => ?_)
          refine pure_ (i := 0) (N := (some 18)) (v := ?_) (a' := ?_) #[true, false, false, false, false, false, false, false, false, false, false, false, false, false] rfl rfl (by kernel_rfl) (fun _ _ _ h => h) (Or.inl ⟨by rfl, ?_⟩) ?_ ?_
          rotate_left
          · intro w'
            go_simp
            with_reducible rfl
          rotate_left
          · simp only [Act.put, List.setIfInBounds_toArray, List.set_cons_zero, List.set_cons_succ]
            rfl
          refine pure_ (i := 1) (N := (some 19)) (v := ?_) (a' := ?_) #[true, true, false, false, false, false, false, false, false, false, false, false, false, false] rfl rfl (by kernel_rfl) (fun _ _ _ h => h) (Or.inl ⟨by rfl, ?_⟩) ?_ ?_
          rotate_left
          · intro w'
            refine op_gtr _ _ _ _ _ _ _ _ _ _ _ (k : Int) 0 true hk0 ?_ ?_
            rfl
            rfl
          rotate_left
          · simp only [Act.put, List.setIfInBounds_toArray, List.set_cons_zero, List.set_cons_succ]
            rfl
          refine pure_ (i := 2) (N := (some 20)) (v := ?_) (a' := ?_) #[true, true, true, false, false, false, false, false, false, false, false, false, false, false] rfl rfl (by kernel_rfl) (fun _ _ _ h => h) (Or.inl ⟨by rfl, ?_⟩) ?_ ?_
          rotate_left
          · intro w'
            go_simp
            with_reducible rfl
          rotate_left
          · simp only [Act.put, List.setIfInBounds_toArray, List.set_cons_zero, List.set_cons_succ]
            rfl
          refine pure_ (i := 3) (N := (some 21)) (v := ?_) (a' := ?_) #[true, true, true, true, false, false, false, false, false, false, false, false, false, false] rfl rfl (by kernel_rfl) (fun _ _ _ h => h) (Or.inl ⟨by rfl, ?_⟩) ?_ ?_
          rotate_left
          · intro w'
            go_simp
            with_reducible rfl
          rotate_left
          · simp only [Act.put, List.setIfInBounds_toArray, List.set_cons_zero, List.set_cons_succ]
            rfl
          refine pure_ (i := 4) (N := (some 22)) (v := ?_) (a' := ?_) #[true, true, true, true, true, false, false, false, false, false, false, false, false, false] rfl rfl (by kernel_rfl) (fun _ _ _ h => h) (Or.inl ⟨by rfl, ?_⟩) ?_ ?_
          rotate_left
          · intro w'
            go_simp
            with_reducible rfl
          rotate_left
          · simp only [Act.put, List.setIfInBounds_toArray, List.set_cons_zero, List.set_cons_succ]
            rfl
          refine pure_ (i := 5) (N := (some 23)) (v := ?_) (a' := ?_) #[true, true, true, true, true, true, false, false, false, false, false, false, false, false] rfl rfl (by kernel_rfl) (fun _ _ _ h => h) (Or.inl ⟨by rfl, ?_⟩) ?_ ?_
          rotate_left
          · intro w'
            go_simp
            with_reducible rfl
          rotate_left
          · simp only [Act.put, List.setIfInBounds_toArray, List.set_cons_zero, List.set_cons_succ]
            rfl
          refine take_ (i := 6) (N := (some 24)) (v := ?_) (a' := ?_) #[true, true, true, true, true, true, true, false, false, false, false, false, false, false] rfl rfl (by kernel_rfl) (fun _ _ _ h => h) (Or.inl ⟨by rfl, ?_⟩) hHeld ?_ ?_
          rotate_left
          · intro w' hS'
            have h1 := hS'.1
            go_simp
            with_reducible rfl
          rotate_left
          · simp only [Act.put, List.setIfInBounds_toArray, List.set_cons_zero, List.set_cons_succ]
            rfl
          refine pure_ (i := 7) (N := (some 25)) (v := ?_) (a' := ?_) #[true, true, true, true, true, true, true, true, false, false, false, false, false, false] rfl rfl (by kernel_rfl) (fun _ _ _ h => h) (Or.inl ⟨by rfl, ?_⟩) ?_ ?_
          rotate_left
          · intro w'
            go_simp
            with_reducible rfl
          rotate_left
          · simp only [Act.put, List.setIfInBounds_toArray, List.set_cons_zero, List.set_cons_succ]
            rfl
          refine pure_ (i := 8) (N := (some 26)) (v := ?_) (a' := ?_) #[true, true, true, true, true, true, true, true, true, false, false, false, false, false] rfl rfl (by kernel_rfl) (fun _ _ _ h => h) (Or.inl ⟨by rfl, ?_⟩) ?_ ?_
          rotate_left
          · intro w'
            go_simp
            with_reducible rfl
          rotate_left
          · simp only [Act.put, List.setIfInBounds_toArray, List.set_cons_zero, List.set_cons_succ]
            rfl
          refine pure_ (i := 9) (N := (some 27)) (v := ?_) (a' := ?_) #[true, true, true, true, true, true, true, true, true, true, false, false, false, false] rfl rfl (by kernel_rfl) (fun _ _ _ h => h) (Or.inl ⟨by rfl, ?_⟩) ?_ ?_
          rotate_left
          · intro w'
            have hw := IntWalk.i64_in ((k : Int) - 1) (by omega)
            go_simp
            with_reducible rfl
          rotate_left
          · simp only [Act.put, List.setIfInBounds_toArray, List.set_cons_zero, List.set_cons_succ]
            rfl
          refine pure_ (i := 10) (N := (some 28)) (v := ?_) (a' := ?_) #[true, true, true, true, true, true, true, true, true, true, true, false, false, false] rfl rfl (by kernel_rfl) (fun _ _ _ h => h) (Or.inl ⟨by rfl, ?_⟩) ?_ ?_
          rotate_left
          · intro w'
            have hw := IntWalk.i64_in ((k : Int) - 1) (by omega)
            have hi : ((k : Int) - 1).toNat = k - 1 := by omega
            have h0 : 0 ≤ (k : Int) - 1 := by omega
            have h1k : 1 ≤ (k : Int) := by omega
            have h9 : (k : Int) - 1 < (ss.length : Int) := by omega
            go_simp
            with_reducible rfl
          rotate_left
          · simp only [Act.put, List.setIfInBounds_toArray, List.set_cons_zero, List.set_cons_succ]
            rfl
          refine take_ (i := 11) (N := (some 29)) (v := ?_) (a' := ?_) #[true, true, true, true, true, true, true, true, true, true, true, true, false, false] rfl rfl (by kernel_rfl) (fun _ _ _ h => h) (Or.inl ⟨by rfl, ?_⟩) hHeld ?_ ?_
          rotate_left
          · intro w' hS'
            have h1 := hS'.2
            go_simp
            with_reducible rfl
          rotate_left
          · simp only [Act.put, List.setIfInBounds_toArray, List.set_cons_zero, List.set_cons_succ]
            rfl
          refine pure_ (i := 12) (N := (some 30)) (v := ?_) (a' := ?_) #[true, true, true, true, true, true, true, true, true, true, true, true, true, false] rfl rfl (by kernel_rfl) (fun _ _ _ h => h) (Or.inl ⟨by rfl, ?_⟩) ?_ ?_
          rotate_left
          · intro w'
            refine op_str_leq _ _ _ _ _ _ _ _ _ _ s1 s0 ?_ ?_
            rfl
            rfl
          rotate_left
          · simp only [Act.put, List.setIfInBounds_toArray, List.set_cons_zero, List.set_cons_succ]
            rfl
          refine pure_ (i := 13) (N := (some 31)) (v := ?_) (a' := ?_) #[true, true, true, true, true, true, true, true, true, true, true, true, true, true] rfl rfl (by kernel_rfl) (fun _ _ _ h => h) (Or.inl ⟨by rfl, ?_⟩) ?_ ?_
          rotate_left
          · intro w'
            go_simp
            with_reducible rfl
          rotate_left
          · simp only [Act.put, List.setIfInBounds_toArray, List.set_cons_zero, List.set_cons_succ]
            rfl
          refine done_ (by kernel_rfl) ?_
          by_cases hle : (slt s1 s0 || s1 == s0) = true
          · have hno := caps_no hlt (by rw [hcp, hle]; rfl)
            simp only [hle]
            go_wp2
            go_ret
            exact ⟨by rw [hno.out]; rfl, below_drew hbel⟩
          · have hle : (slt s1 s0 || s1 == s0) = false := by simpa using hle
            have hnx := range_next hall (by rw [hcp, hle]; rfl)
            simp only [hle]
            go_wp2
            go_roundw
            case rel => exact ⟨k + 1, by omega, by go_num, hnx, below_drew hbel⟩
            case measure => simp [intOf]; omega
      · have hw : wordOk s1 = false := by simpa using hw
        have hno := caps_no hlt (cap_word hs1 hw)
        go_wp2_with (go_at_call 67; refine (word10_any s1 hl1 _).mono ?_; rintro e w1 ⟨rfl, rfl⟩)
        go_ret
        exact ⟨by rw [hno.out]; rfl, hbel⟩
    · obtain rfl : k = ss.length := by omega
      have hw := caps_end hall
      go_wp2
      go_ret
      exact ⟨by rw [hw.out]; first | (simp [*]; done) | (simp [*]; omega) | (simp; omega), hbel⟩
def numLine (word : List UInt8) (n : Nat) : List UInt8 := if n = 0 then [] else pk (word ++ 32 :: Lib.decDigits n)
set_option maxHeartbeats 1000000 in
theorem num40_any (word : List UInt8) (n : Nat) (hw : word.length ≤ 20) (hn : n ≤ 10000000) (hd : (Lib.decDigits n).length ≤ 20) (w : World) :
    Calls Tryz.prog 40 #[.string (bs word), .int .i64 (n : Int)] w fun e w' => e = .returned (.string (bs (numLine word n))) ∧ Below w.heap.size w w' := by
  by_cases h0 : n = 0
  · have hb : ((n : Int) == 0) = true := by rw [h0]; rfl
    have hc : Hid (numLine word n = []) := Lib.hid (by simp [numLine, h0])
    clear h0
    go_enter Tryz.func40, Tryz.ntmps40
    go_wp2
    go_ret
    exact ⟨by rw [hc.out]; rfl, Below.refl _ _⟩
  · have hb : ((n : Int) == 0) = false := beq_eq_false_iff_ne.2 (by omega)
    have hc : Hid (numLine word n = pk (word ++ 32 :: Lib.decDigits n)) := Lib.hid (by simp [numLine, h0])
    go_enter Tryz.func40, Tryz.ntmps40
    go_wp2_with (refine wpList_run rfl (op_concat _ _ _ _ _ _ _ _ _ _ word [32] rfl rfl (by simp; omega)) ?_)
    refine (fig20_any n (by omega) _).mono ?_; rintro e w1 ⟨rfl, hb1⟩
    go_wp2_with (refine wpList_run rfl (op_concat _ _ _ _ _ _ _ _ _ _ (word ++ [32]) (Lib.decDigits n) rfl rfl (by simp; omega)) ?_)
    refine (one20_any _ (by simp; omega) _).mono ?_; rintro e w2 ⟨rfl, hb2⟩
    go_wp2
    go_ret
    exact ⟨by rw [hc.out]; rfl, below_call hb1 hb2⟩
section
variable (ρ : Operand → Value) (dst : Option Tmp) (ty : TypeId) (pos : String) (after : Array Edge) (g : Option (Nat × Bool)) (w : World)
theorem op_idaddr (x y : Operand) (b k : Nat) (hk : k < 32) (hx : ρ x = .pointer (some ⟨b, 0, none⟩)) (hy : ρ y = .int .i64 (k : Int)) :
    (execOp ρ ⟨dst, .indexAddr 41 x y, ty, pos, after, g⟩).run Tryz.prog w = .ok (.value (.pointer (some ⟨b, k, none⟩))) w := by
  show (do let x ← Instr.indexAt 41 (ρ x) (ρ y); pure (Next.value x) : Sem Next).run Tryz.prog w = _
  rw [hx, hy, Sem.run_bind, run_indexAt_array (P := Tryz.prog) w 41 ⟨b, 0, none⟩ .i64 (k : Int) (by kernel_rfl)]
  have h32 : Tryz.prog.arrayLen 41 = 32 := by kernel_rfl
  have hs : Tryz.prog.elem 41 = 5 := by kernel_rfl
  rw [h32, hs, if_pos ⟨by omega, by omega⟩, siz5]
  simp [Addr.add_mid]
end
theorem below_callG {B : Nat} {w W W1 : World} (h : Below B w W) (hB : B ≤ w.heap.size) (hb : Below W.heap.size W W1) : Below B w W1 :=
  h.trans ⟨hb.os, hb.tape, hb.output, hb.size, fun i hi => hb.block i (Nat.lt_of_lt_of_le hi (Nat.le_trans hB h.size))⟩
theorem hexs_take41 (l : List UInt8) (k : Nat) (h : k < l.length) (c : Nat) (hc : Hid (c = (l.getD k 0).toNat)) : hexs (l.take (k + 1)) = hexs (l.take k) ++ [digs.getD ((c : Int) / 16).toNat 0] ++ [digs.getD ((c : Int) % 16).toNat 0] := by
  rw [hexs_take l k h, hexc, ← hc.out, show ((c : Int) / 16).toNat = c / 16 by omega, show ((c : Int) % 16).toNat = c % 16 by omega]
  simp
theorem hexs_length (l : List UInt8) : (hexs l).length = 2 * l.length := by
  induction l with
  | nil => rfl
  | cons a r ih => simp [hexs, hexc] at ih ⊢; omega
set_option maxHeartbeats 1000000 in
theorem hex41_any (l : List UInt8) (hl : l.length = 32) (w : World) :
    Calls Tryz.prog 41 #[.agg (idv l)] w fun e w' => e = .returned (.string (bs (hexs l))) ∧ Below w.heap.size w w' := by
  have hnew := rangeAt_new w (idc l) 41
  go_enter Tryz.func41, Tryz.ntmps41
  go_wp2
  go_loopw [3, 4] (fun s i wr => ∃ k : Nat, k ≤ 32 ∧ i = .int .i64 k ∧ s = .string (bs (hexs (l.take k))) ∧ Below (w.heap.size + 1) (w.alloc (.cells (idv l) 41)) wr) (fun _ i _ => 32 - (intOf i).toNat)
  case atStart => exact ⟨0, by omega, rfl, by simp [hexs], by simpa using Below.refl _ _⟩
  case round =>
    obtain ⟨k, hk, rfl, rfl, hbel1⟩ := hrel
    have hbel : Below w.heap.size w wr := (below_alloc (Below.refl _ _) (.cells (idv l) 41)).trans (hbel1.mono (by omega))
    by_cases hlt : k < 32
    · obtain ⟨c, hc2, Hc⟩ := byte_at l k
      have hcell : wr.cell? ⟨w.heap.size, k, none⟩ = some (.int .u8 (c : Int)) := by
        rw [hbel1.cell (p := ⟨w.heap.size, k, none⟩) (by simp)]
        have := hnew k (cell (l.getD k 0)) (by simp [idc, List.getD_eq_getElem?_getD, List.getElem?_eq_getElem (show k < l.length by omega)])
        rw [Nat.zero_add] at this
        rw [this, Hc.out]; rfl
      have hj := Lib.hid (hexs_take41 l k (by omega) c Hc)
      have hlen : (hexs (l.take k)).length ≤ 64 := by rw [hexs_length, List.length_take]; omega
      obtain ⟨j1, Hj⟩ : ∃ j1, Hid (hexs (l.take k) = j1) := ⟨_, Lib.hid rfl⟩
      rw [Hj.out] at hlen ⊢
      go_wp2
      refine start_ (n := 16) (S := (fun W => W.cell? ⟨w.heap.size, k, none⟩ = some (.int .u8 (c : Int)) ∧ Below (w.heap.size + 1) (w.alloc (.cells (idv l) 41)) W)) (ds := []) #[false, false, false, false, false, false, false, false, false, false, false, false, false, false, false, false] (by kernel_rfl) rfl rfl (⟨by simpa using hcell, below_drew hbel1⟩) (fun hHeld => ?_)
      refine pure_ (i := 0) (N := (some 9)) (v := ?_) (a' := ?_) #[true, false, false, false, false, false, false, false, false, false, false, false, false, false, false, false] rfl rfl (by kernel_rfl) (fun _ _ _ h => h) (Or.inl ⟨by rfl, ?_⟩) ?_ ?_
      rotate_left
      · intro w'
        go_simp
        with_reducible rfl
      rotate_left
      · simp only [Act.put, List.setIfInBounds_toArray, List.set_cons_zero, List.set_cons_succ]
        rfl
      refine pure_ (i := 1) (N := (some 10)) (v := ?_) (a' := ?_) #[true, true, false, false, false, false, false, false, false, false, false, false, false, false, false, false] rfl rfl (by kernel_rfl) (fun _ _ _ h => h) (Or.inl ⟨by rfl, ?_⟩) ?_ ?_
      rotate_left
      · intro w'
        go_simp
        with_reducible rfl
      rotate_left
      · simp only [Act.put, List.setIfInBounds_toArray, List.set_cons_zero, List.set_cons_succ]
        rfl
      refine pure_ (i := 2) (N := (some 11)) (v := ?_) (a' := ?_) #[true, true, true, false, false, false, false, false, false, false, false, false, false, false, false, false] rfl rfl (by kernel_rfl) (fun _ _ _ h => h) (Or.inl ⟨by rfl, ?_⟩) ?_ ?_
      rotate_left
      · intro w'
        refine op_idaddr _ _ _ _ _ _ _ _ _ w.heap.size k hlt ?_ ?_
        rfl
        rfl
      rotate_left
      · simp only [Act.put, List.setIfInBounds_toArray, List.set_cons_zero, List.set_cons_succ]
        rfl
      refine take_ (i := 3) (N := (some 12)) (v := ?_) (a' := ?_) #[true, true, true, true, false, false, false, false, false, false, false, false, false, false, false, false] rfl rfl (by kernel_rfl) (fun _ _ _ h => h) (Or.inl ⟨by rfl, ?_⟩) hHeld ?_ ?_
      rotate_left
      · intro w' hS'
        have h1 := hS'.1
        go_simp
        with_reducible rfl
      rotate_left
      · simp only [Act.put, List.setIfInBounds_toArray, List.set_cons_zero, List.set_cons_succ]
        rfl
      refine pure_ (i := 4) (N := (some 13)) (v := ?_) (a' := ?_) #[true, true, true, true, true, false, false, false, false, false, false, false, false, false, false, false] rfl rfl (by kernel_rfl) (fun _ _ _ h => h) (Or.inl ⟨by rfl, ?_⟩) ?_ ?_
      rotate_left
      · intro w'
        have hw := IntWalk.i64_in (c : Int) (by omega)
        go_simp
        with_reducible rfl
      rotate_left
      · simp only [Act.put, List.setIfInBounds_toArray, List.set_cons_zero, List.set_cons_succ]
        rfl
      refine pure_ (i := 5) (N := (some 14)) (v := ?_) (a' := ?_) #[true, true, true, true, true, true, false, false, false, false, false, false, false, false, false, false] rfl rfl (by kernel_rfl) (fun _ _ _ h => h) (Or.inl ⟨by rfl, ?_⟩) ?_ ?_
      rotate_left
      · intro w'
        refine op_quo _ _ _ _ _ _ _ _ _ _ _ (c : Int) 16 ?_ ?_ (by omega) (by omega) (by omega)
        rfl
        rfl
      rotate_left
      · simp only [Act.put, List.setIfInBounds_toArray, List.set_cons_zero, List.set_cons_succ]
        rfl
      refine pure_ (i := 8) (N := (some 17)) (v := ?_) (a' := ?_) #[true, true, true, true, true, true, false, false, true, false, false, false, false, false, false, false] rfl rfl (by kernel_rfl) (fun _ _ _ h => h) (Or.inl ⟨by rfl, ?_⟩) ?_ ?_
      rotate_left
      · intro w'
        go_simp
        with_reducible rfl
      rotate_left
      · simp only [Act.put, List.setIfInBounds_toArray, List.set_cons_zero, List.set_cons_succ]
        rfl
      refine pure_ (i := 9) (N := (some 18)) (v := ?_) (a' := ?_) #[true, true, true, true, true, true, false, false, true, true, false, false, false, false, false, false] rfl rfl (by kernel_rfl) (fun _ _ _ h => h) (Or.inl ⟨by rfl, ?_⟩) ?_ ?_
      rotate_left
      · intro w'
        refine op_idaddr _ _ _ _ _ _ _ _ _ w.heap.size k hlt ?_ ?_
        rfl
        rfl
      rotate_left
      · simp only [Act.put, List.setIfInBounds_toArray, List.set_cons_zero, List.set_cons_succ]
        rfl
      refine take_ (i := 10) (N := (some 19)) (v := ?_) (a' := ?_) #[true, true, true, true, true, true, false, false, true, true, true, false, false, false, false, false] rfl rfl (by kernel_rfl) (fun _ _ _ h => h) (Or.inl ⟨by rfl, ?_⟩) hHeld ?_ ?_
      rotate_left
      · intro w' hS'
        have h1 := hS'.1
        go_simp
        with_reducible rfl
      rotate_left
      · simp only [Act.put, List.setIfInBounds_toArray, List.set_cons_zero, List.set_cons_succ]
        rfl
      refine pure_ (i := 11) (N := (some 20)) (v := ?_) (a' := ?_) #[true, true, true, true, true, true, false, false, true, true, true, true, false, false, false, false] rfl rfl (by kernel_rfl) (fun _ _ _ h => h) (Or.inl ⟨by rfl, ?_⟩) ?_ ?_
      rotate_left
      · intro w'
        have hw := IntWalk.i64_in (c : Int) (by omega)
        go_simp
        with_reducible rfl
      rotate_left
      · simp only [Act.put, List.setIfInBounds_toArray, List.set_cons_zero, List.set_cons_succ]
        rfl
      refine pure_ (i := 12) (N := (some 21)) (v := ?_) (a' := ?_) #[true, true, true, true, true, true, false, false, true, true, true, true, true, false, false, false] rfl rfl (by kernel_rfl) (fun _ _ _ h => h) (Or.inl ⟨by rfl, ?_⟩) ?_ ?_
      rotate_left
      · intro w'
        refine op_rem _ _ _ _ _ _ _ _ _ _ _ (c : Int) 16 ?_ ?_ (by omega) (by omega)
        rfl
        rfl
      rotate_left
      · simp only [Act.put, List.setIfInBounds_toArray, List.set_cons_zero, List.set_cons_succ]
        rfl
      refine one_ (i := 6) (N := (some 15)) #[true, true, true, true, true, true, true, false, true, true, true, true, true, false, false, false] rfl rfl (by kernel_rfl) (by simp) (fun K hK => ?_)
      refine goes_ Tryz.func70 (by kernel_rfl) rfl #[.int .i64 ((c : Int) / 16)] (by rfl) rfl rfl (by first | rfl | simp [Act.eval]) ?_
      refine (digit02_any ((c : Int) / 16) (by omega) (by omega) _).mono ?_
      rintro e w1 ⟨rfl, hb⟩
      refine ⟨_, rfl, hK _ _ (⟨cell_below hb hHeld.1, below_callG hHeld.2 (by simp) hb⟩) (fun hHeld => ?_)⟩
      simp only [Act.put, List.setIfInBounds_toArray, List.set_cons_zero, List.set_cons_succ]
      refine pure_ (i := 7) (N := (some 16)) (v := ?_) (a' := ?_) #[true, true, true, true, true, true, true, true, true, true, true, true, true, false, false, false] rfl rfl (by kernel_rfl) (fun _ _ _ h => h) (Or.inl ⟨by rfl, ?_⟩) ?_ ?_
      rotate_left
      · intro w'
        refine op_concat _ _ _ _ _ _ _ _ _ _ j1 [digs.getD ((c : Int) / 16).toNat 0] ?_ ?_ ?_
        rfl
        rfl
        simp; omega
      rotate_left
      · simp only [Act.put, List.setIfInBounds_toArray, List.set_cons_zero, List.set_cons_succ]
        rfl
      refine one_ (i := 13) (N := (some 22)) #[true, true, true, true, true, true, true, true, true, true, true, true, true, true, false, false] rfl rfl (by kernel_rfl) (by simp) (fun K hK => ?_)
      refine goes_ Tryz.func70 (by kernel_rfl) rfl #[.int .i64 ((c : Int) % 16)] (by rfl) rfl rfl (by first | rfl | simp [Act.eval]) ?_
      refine (digit02_any ((c : Int) % 16) (by omega) (by omega) _).mono ?_
      rintro e w1 ⟨rfl, hb⟩
      refine ⟨_, rfl, hK _ _ (⟨cell_below hb hHeld.1, below_callG hHeld.2 (by simp) hb⟩) (fun hHeld => ?_)⟩
      simp only [Act.put, List.setIfInBounds_toArray, List.set_cons_zero, List.set_cons_succ]
      refine pure_ (i := 14) (N := (some 23)) (v := ?_) (a' := ?_) #[true, true, true, true, true, true, true, true, true, true, true, true, true, true, true, false] rfl rfl (by kernel_rfl) (fun _ _ _ h => h) (Or.inl ⟨by rfl, ?_⟩) ?_ ?_
      rotate_left
      · intro w'
        refine op_concat _ _ _ _ _ _ _ _ _ _ (j1 ++ [digs.getD ((c : Int) / 16).toNat 0]) [digs.getD ((c : Int) % 16).toNat 0] ?_ ?_ ?_
        rfl
        rfl
        simp; omega
      rotate_left
      · simp only [Act.put, List.setIfInBounds_toArray, List.set_cons_zero, List.set_cons_succ]
        rfl
      refine pure_ (i := 15) (N := (some 3)) (v := ?_) (a' := ?_) #[true, true, true, true, true, true, true, true, true, true, true, true, true, true, true, true] rfl rfl (by kernel_rfl) (fun _ _ _ h => h) (Or.inl ⟨by rfl, ?_⟩) ?_ ?_
      rotate_left
      · intro w'
        go_simp
        with_reducible rfl
      rotate_left
      · simp only [Act.put, List.setIfInBounds_toArray, List.set_cons_zero, List.set_cons_succ]
        rfl
      refine done_ (by kernel_rfl) ?_
      go_wp2
      go_roundw
      case rel => exact ⟨k + 1, by omega, by go_num, by rw [hj.out, Hj.out]; simp, hHeld.2⟩
      case measure => simp [intOf]; omega
    · obtain rfl : k = 32 := by omega
      have ht : l.take 32 = l := by rw [← hl, List.take_length]
      rw [ht]
      go_wp2
      go_ret
      exact ⟨rfl, hbel⟩
/-- Pieces of nine hundred bytes, as lines. -/
def piecesB (l : List UInt8) : List UInt8 := if h : l.length ≤ 900 then (if l = [] then [] else pk l) else pk (l.take 900) ++ piecesB (l.drop 900)
termination_by l.length
decreasing_by simp; omega
theorem pieces_nil : piecesB [] = [] := by rw [piecesB]; simp
theorem pieces_one {l : List UInt8} (h : l.length ≤ 900) (hn : ¬ l = []) : piecesB l = pk l := by rw [piecesB, dif_pos h, if_neg hn]
theorem pieces_more {l : List UInt8} (h : ¬ l.length ≤ 900) : piecesB l = pk (l.take 900) ++ piecesB (l.drop 900) := by rw [piecesB, dif_neg h]
theorem pieces_len (l : List UInt8) : (piecesB l).length ≤ 5 * l.length := by
  induction h : l.length using Nat.strongRecOn generalizing l with
  | ind n ih =>
    by_cases h9 : l.length ≤ 900
    · by_cases hn : l = []
      · subst hn; rw [pieces_nil]; simp
      · rw [pieces_one h9 hn]
        have : 0 < l.length := List.length_pos_iff.2 hn
        simp [pk, figs]; omega
    · rw [pieces_more h9]
      have := ih (l.drop 900).length (by rw [List.length_drop]; omega) (l.drop 900) rfl
      simp [pk, figs] at this ⊢
      omega
set_option maxHeartbeats 1000000 in
theorem pieces42_any : ∀ (l : List UInt8), l.length ≤ 100000 → ∀ w : World, Calls Tryz.prog 42 #[.string (bs l)] w fun e w' => e = .returned (.string (bs (piecesB l))) ∧ Below w.heap.size w w' := by
  intro l
  induction h : l.length using Nat.strongRecOn generalizing l with
  | ind n ih0 =>
  intro hn w
  subst h
  have ih : Hid (∀ m : List UInt8, m.length < l.length → m.length ≤ 100000 → ∀ w : World, Calls Tryz.prog 42 #[.string (bs m)] w fun e w' => e = .returned (.string (bs (piecesB m))) ∧ Below w.heap.size w w') := Lib.hid fun m h1 h2 w => ih0 m.length h1 m rfl h2 w
  clear ih0
  by_cases he : l = []
  · subst he
    have hp := Lib.hid pieces_nil
    go_enter Tryz.func42, Tryz.ntmps42
    go_wp2
    go_ret
    exact ⟨by rw [hp.out]; rfl, Below.refl _ _⟩
  · have hb : (l == ([] : List UInt8)) = false := by simpa using he
    have hb2 : l.isEmpty = false := by simpa using he
    have HE := Lib.hid he
    clear he
    by_cases h9 : l.length ≤ 900
    · have hp := Lib.hid (pieces_one h9 HE.out)
      go_enter Tryz.func42, Tryz.ntmps42
      go_wp2_with (refine wpList_run rfl (op_str_eqlB _ _ _ _ _ _ _ _ _ _ l [] false hb rfl rfl) ?_)
      refine (one20_any l (by omega) _).mono ?_; rintro e w1 ⟨rfl, hb1⟩
      go_wp2
      go_ret
      exact ⟨by rw [hp.out]; rfl, hb1⟩
    · have hp := Lib.hid (pieces_more h9)
      go_enter Tryz.func42, Tryz.ntmps42
      go_wp2_with (refine wpList_run rfl (op_str_eqlB _ _ _ _ _ _ _ _ _ _ l [] false hb rfl rfl) ?_)
      refine start_ (n := 8) (S := (fun W => Below w.heap.size w W)) (ds := []) #[false, false, false, false, false, false, false, false] (by kernel_rfl) rfl rfl (below_drew (Below.refl _ _)) (fun hHeld => ?_)
      refine pure_ (i := 0) (N := (some 10)) (v := ?_) (a' := ?_) #[true, false, false, false, false, false, false, false] rfl rfl (by kernel_rfl) (fun _ _ _ h => h) (Or.inl ⟨by rfl, ?_⟩) ?_ ?_
      rotate_left
      · intro w'
        go_simp
        with_reducible rfl
      rotate_left
      · simp only [Act.put, List.setIfInBounds_toArray, List.set_cons_zero, List.set_cons_succ]
        rfl
      refine pure_ (i := 1) (N := (some 11)) (v := ?_) (a' := ?_) #[true, true, false, false, false, false, false, false] rfl rfl (by kernel_rfl) (fun _ _ _ h => h) (Or.inl ⟨by rfl, ?_⟩) ?_ ?_
      rotate_left
      · intro w'
        refine op_slice_take _ _ _ _ _ _ _ _ _ l 900 (by omega) ?_ ?_
        rfl
        rfl
      rotate_left
      · simp only [Act.put, List.setIfInBounds_toArray, List.set_cons_zero, List.set_cons_succ]
        rfl
      refine pure_ (i := 3) (N := (some 13)) (v := ?_) (a' := ?_) #[true, true, false, true, false, false, false, false] rfl rfl (by kernel_rfl) (fun _ _ _ h => h) (Or.inl ⟨by rfl, ?_⟩) ?_ ?_
      rotate_left
      · intro w'
        go_simp
        with_reducible rfl
      rotate_left
      · simp only [Act.put, List.setIfInBounds_toArray, List.set_cons_zero, List.set_cons_succ]
        rfl
      refine pure_ (i := 4) (N := (some 14)) (v := ?_) (a' := ?_) #[true, true, false, true, true, false, false, false] rfl rfl (by kernel_rfl) (fun _ _ _ h => h) (Or.inl ⟨by rfl, ?_⟩) ?_ ?_
      rotate_left
      · intro w'
        refine op_slice_drop _ _ _ _ _ _ _ _ _ l 900 (by omega) ?_ ?_
        rfl
        rfl
      rotate_left
      · simp only [Act.put, List.setIfInBounds_toArray, List.set_cons_zero, List.set_cons_succ]
        rfl
      refine one_ (i := 2) (N := (some 12)) #[true, true, true, true, true, false, false, false] rfl rfl (by kernel_rfl) (by simp) (fun K hK => ?_)
      refine goes_ Tryz.func36 (by kernel_rfl) rfl #[.string (bs (l.take 900))] (by rfl) rfl rfl (by first | rfl | simp [Act.eval]) ?_
      refine (one20_any (l.take 900) (by simp; omega) _).mono ?_
      rintro e w1 ⟨rfl, hb⟩
      refine ⟨_, rfl, hK _ _ (below_call hHeld hb) (fun hHeld => ?_)⟩
      simp only [Act.put, List.setIfInBounds_toArray, List.set_cons_zero, List.set_cons_succ]
      refine one_ (i := 5) (N := (some 15)) #[true, true, true, true, true, true, false, false] rfl rfl (by kernel_rfl) (by simp) (fun K hK => ?_)
      refine goes_ Tryz.func42 (by kernel_rfl) rfl #[.string (bs (l.drop 900))] (by rfl) rfl rfl (by first | rfl | simp [Act.eval]) ?_
      refine (ih.out (l.drop 900) (by rw [List.length_drop]; omega) (by simp; omega) _).mono ?_
      rintro e w1 ⟨rfl, hb⟩
      refine ⟨_, rfl, hK _ _ (below_call hHeld hb) (fun hHeld => ?_)⟩
      simp only [Act.put, List.setIfInBounds_toArray, List.set_cons_zero, List.set_cons_succ]
      refine pure_ (i := 6) (N := (some 16)) (v := ?_) (a' := ?_) #[true, true, true, true, true, true, true, false] rfl rfl (by kernel_rfl) (fun _ _ _ h => h) (Or.inl ⟨by rfl, ?_⟩) ?_ ?_
      rotate_left
      · intro w'
        refine op_concat _ _ _ _ _ _ _ _ _ _ (pk (l.take 900)) (piecesB (l.drop 900)) ?_ ?_ ?_
        rfl
        rfl
        have := pieces_len (l.drop 900); simp [pk, figs]; simp at this; omega
      rotate_left
      · simp only [Act.put, List.setIfInBounds_toArray, List.set_cons_zero, List.set_cons_succ]
        rfl
      refine pure_ (i := 7) (N := (some 2)) (v := ?_) (a' := ?_) #[true, true, true, true, true, true, true, true] rfl rfl (by kernel_rfl) (fun _ _ _ h => h) (Or.inl ⟨by rfl, ?_⟩) ?_ ?_
      rotate_left
      · intro w'
        go_simp
        with_reducible rfl
      rotate_left
      · simp only [Act.put, List.setIfInBounds_toArray, List.set_cons_zero, List.set_cons_succ]
        rfl
      refine done_ (by kernel_rfl) ?_
      go_wp2
      go_ret
      exact ⟨by rw [hp.out]; rfl, hHeld⟩
/-- A line of each id. -/
def idLine (word id : List UInt8) : List UInt8 := pk (word ++ 32 :: hexs id)
def idLines (word : List UInt8) (l : List (List UInt8)) : List UInt8 := l.flatMap (idLine word)
theorem idLines_next (word : List UInt8) (l : List (List UInt8)) (k : Nat) (s : List UInt8) (h : l[k]? = some s) : idLines word (l.take (k + 1)) = idLines word (l.take k) ++ idLine word s := by
  obtain ⟨hk, hs⟩ := List.getElem?_eq_some_iff.1 h
  rw [List.take_succ_eq_append_getElem hk, hs]
  simp only [idLines, List.flatMap_append, List.flatMap_cons, List.flatMap_nil, List.append_nil]
theorem idLines_len (word : List UInt8) (hw : word.length ≤ 20) (l : List (List UInt8)) (h : ∀ x ∈ l, x.length = 32) : (idLines word l).length ≤ 100 * l.length := by
  induction l with
  | nil => simp [idLines]
  | cons a r ih =>
    have := ih (fun x hx => h x (List.mem_cons_of_mem _ hx))
    have ha := h a (List.mem_cons_self ..)
    simp only [idLines, List.flatMap_cons, List.length_append] at this ⊢
    simp only [idLine, pk, figs, List.length_append, List.length_cons, List.length_nil, hexs_length, ha]
    omega
set_option maxHeartbeats 1000000 in
theorem ids39_any (word : List UInt8) (hw : word.length ≤ 20) (l : List (List UInt8)) (A : Option Addr) (ca : Nat) (hn : l.length ≤ 1000) (hl : ∀ x ∈ l, x.length = 32) (w : World) (hA : Rd w A (idsc l)) :
    Calls Tryz.prog 39 #[.string (bs word), .slice A l.length ca] w fun e w' => e = .returned (.string (bs (idLines word l))) ∧ Below w.heap.size w w' := by
  have HL := Lib.hid hl
  clear hl
  go_enter Tryz.func39, Tryz.ntmps39
  go_wp2
  go_loopw [5, 6] (fun s i wr => ∃ k : Nat, k ≤ l.length ∧ i = .int .i64 k ∧ s = .string (bs (idLines word (l.take k))) ∧ Below w.heap.size w wr) (fun _ i _ => l.length - (intOf i).toNat)
  case atStart => exact ⟨0, by omega, rfl, by simp [idLines], Below.refl _ _⟩
  case round =>
    obtain ⟨k, hk, rfl, rfl, hbel⟩ := hrel
    by_cases hlt : k < l.length
    · obtain ⟨b1, o1, s, rfl, c1, hs1⟩ := Rd.at (n := 32) (by omega) (hA.below hbel) (fun x hx => by rw [idc_length]; exact HL.out x hx) k hlt
      have hs32 := HL.out s (List.mem_of_getElem? hs1)
      have hnx := Lib.hid (idLines_next word l k s hs1)
      have hlen : (idLines word (l.take k)).length ≤ 100000 := by
        have := idLines_len word hw (l.take k) (fun x hx => HL.out x (List.mem_of_mem_take hx))
        rw [List.length_take] at this
        omega
      have hx : (hexs s).length = 64 := by rw [hexs_length, hs32]
      have hp : (pk (word ++ 32 :: hexs s)).length ≤ 200 := by simp [pk, figs, hx]; omega
      clear hs1
      obtain ⟨j1, Hj⟩ : ∃ j1, Hid (idLines word (l.take k) = j1) := ⟨_, Lib.hid rfl⟩
      rw [Hj.out] at hlen ⊢
      have HX := Lib.hid hx
      have HS := Lib.hid hs32
      clear hx hs32
      go_wp2_with (first
        | (refine wpList_load_mid rfl 41 _ rfl b1 (o1 + k * 32) rfl (idc s) _ c1 und41 rfl (by rw [idc_length, HS.out]; exact info41) ?_)
        | (refine wpList_run rfl (op_concat _ _ _ _ _ _ _ _ _ _ word [32] rfl rfl (by simp; omega)) ?_))
      refine (hex41_any s HS.out _).mono ?_; rintro e w1 ⟨rfl, hb1⟩
      go_wp2_with (refine wpList_run rfl (op_concat _ _ _ _ _ _ _ _ _ _ (word ++ [32]) (hexs s) rfl rfl (by simp; have := HX.out; omega)) ?_)
      refine (one20_any _ (by simp; have := HX.out; omega) _).mono ?_; rintro e w2 ⟨rfl, hb2⟩
      go_wp2_with (refine wpList_run rfl (op_concat _ _ _ _ _ _ _ _ _ _ j1 (pk (word ++ 32 :: hexs s)) rfl rfl (by omega)) ?_)
      go_roundw
      case rel => exact ⟨k + 1, by omega, by go_num, by rw [hnx.out, Hj.out]; rfl, below_call (below_call hbel hb1) hb2⟩
      case measure => simp [intOf]; omega
    · obtain rfl : k = l.length := by omega
      rw [List.take_length]
      go_wp2
      go_ret
      exact ⟨rfl, hbel⟩

end Go.Proofs.YtmfpmedkhlhnpaaGreatDoor
