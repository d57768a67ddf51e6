import Derived.Test.YtmfpmedkhlhnpaaGreatDoorB1
/- digits, four figures, a line's bytes: functions 70, 109, 92, 68, 36. -/
namespace Go.Proofs.YtmfpmedkhlhnpaaGreatDoor
open Go.RowKit Go.Extern.Stop Go.Proofs.YtmfpmedkhlhnpaaGreatDoorW.PrintLast
set_option maxRecDepth 100000
set_option linter.unusedSimpArgs false
set_option linter.unusedVariables false
theorem dig_lo : ∀ n : Nat, n < 10 → (48 + (n : Int)) = ((digs.getD n 0).toNat : Int) := by decide
theorem dig_hi : ∀ n : Nat, n < 16 → ¬ n < 10 → (87 + (n : Int)) = ((digs.getD n 0).toNat : Int) := by decide
def figs (n : Nat) : List UInt8 := [digs.getD (n / 4096) 0, digs.getD (n / 256 % 16) 0, digs.getD (n / 16 % 16) 0, digs.getD (n % 16) 0]
theorem digit02_any (x : Int) (h0 : 0 ≤ x) (h16 : x < 16) (w : World) :
    Calls Tryz.prog 70 #[.int .i64 x] w fun e w' => e = .returned (.string (bs [digs.getD x.toNat 0])) ∧ Below w.heap.size w w' := by
  by_cases h : x < 10
  · have hd0 := dig_lo x.toNat (by omega)
    rw [Int.toNat_of_nonneg h0] at hd0
    have hd := Lib.hid hd0
    clear hd0
    go_enter Tryz.func70, Tryz.ntmps70
    go_wp2_with (refine wpList_run rfl (op_new_bytes _ _ _ _ _ _ _ _ 1 [digs.getD x.toNat 0] _ rfl rfl (by decide) (by rw [hd.out]; rfl)) ?_)
    go_ret
    exact ⟨rfl, (Below.refl _ _).alloc (Nat.le_refl _) _⟩
  · have hd0 := dig_hi x.toNat (by omega) (by omega)
    rw [Int.toNat_of_nonneg h0] at hd0
    have hd := Lib.hid hd0
    clear hd0
    go_enter Tryz.func70, Tryz.ntmps70
    go_wp2_with (refine wpList_run rfl (op_new_bytes _ _ _ _ _ _ _ _ 1 [digs.getD x.toNat 0] _ rfl rfl (by decide) (by rw [hd.out]; rfl)) ?_)
    go_ret
    exact ⟨rfl, (Below.refl _ _).alloc (Nat.le_refl _) _⟩
theorem digit07_any (x : Int) (h0 : 0 ≤ x) (h16 : x < 16) (w : World) :
    Calls Tryz.prog 109 #[.int .i64 x] w fun e w' => e = .returned (.string (bs [digs.getD x.toNat 0])) ∧ Below w.heap.size w w' := by
  by_cases h : x < 10
  · have hd0 := dig_lo x.toNat (by omega)
    rw [Int.toNat_of_nonneg h0] at hd0
    have hd := Lib.hid hd0
    clear hd0
    go_enter Tryz.func109, Tryz.ntmps109
    go_wp2_with (refine wpList_run rfl (op_new_bytes _ _ _ _ _ _ _ _ 1 [digs.getD x.toNat 0] _ rfl rfl (by decide) (by rw [hd.out]; rfl)) ?_)
    go_ret
    exact ⟨rfl, (Below.refl _ _).alloc (Nat.le_refl _) _⟩
  · have hd0 := dig_hi x.toNat (by omega) (by omega)
    rw [Int.toNat_of_nonneg h0] at hd0
    have hd := Lib.hid hd0
    clear hd0
    go_enter Tryz.func109, Tryz.ntmps109
    go_wp2_with (refine wpList_run rfl (op_new_bytes _ _ _ _ _ _ _ _ 1 [digs.getD x.toNat 0] _ rfl rfl (by decide) (by rw [hd.out]; rfl)) ?_)
    go_ret
    exact ⟨rfl, (Below.refl _ _).alloc (Nat.le_refl _) _⟩
theorem figs_int (x : Int) (h0 : 0 ≤ x) : figs x.toNat = [digs.getD (x / 4096).toNat 0] ++ [digs.getD (x / 256 % 16).toNat 0] ++ [digs.getD (x / 16 % 16).toNat 0] ++ [digs.getD (x % 16).toNat 0] := by
  obtain ⟨n, rfl⟩ := Int.eq_ofNat_of_zero_le h0
  simp only [figs, Int.toNat_natCast]
  rw [show ((n : Int) / 4096).toNat = n / 4096 by omega, show ((n : Int) / 256 % 16).toNat = n / 256 % 16 by omega, show ((n : Int) / 16 % 16).toNat = n / 16 % 16 by omega, show ((n : Int) % 16).toNat = n % 16 by omega]
  rfl
set_option maxHeartbeats 400000 in
theorem fig07_any (x : Int) (h0 : 0 ≤ x) (h1 : x < 65536) (w : World) :
    Calls Tryz.prog 92 #[.int .i64 x] w fun e w' => e = .returned (.string (bs (figs x.toNat))) ∧ Below w.heap.size w w' := by
  have hf := Lib.hid (figs_int x h0)
  go_enter Tryz.func92, Tryz.ntmps92
  go_wp2_with fail
  refine (digit07_any _ (by omega) (by omega) _).mono ?_; rintro e w1 ⟨rfl, hb1⟩
  go_wp2_with fail
  refine (digit07_any _ (by omega) (by omega) _).mono ?_; rintro e w2 ⟨rfl, hb2⟩
  go_wp2_with (refine wpList_run rfl (op_concat _ _ _ _ _ _ _ _ _ _ _ _ (by rfl) (by rfl) (by simp)) ?_)
  refine (digit07_any _ (by omega) (by omega) _).mono ?_; rintro e w3 ⟨rfl, hb3⟩
  go_wp2_with (refine wpList_run rfl (op_concat _ _ _ _ _ _ _ _ _ _ _ _ (by rfl) (by rfl) (by simp)) ?_)
  refine (digit07_any _ (by omega) (by omega) _).mono ?_; rintro e w4 ⟨rfl, hb4⟩
  go_wp2_with (refine wpList_run rfl (op_concat _ _ _ _ _ _ _ _ _ _ _ _ (by rfl) (by rfl) (by simp)) ?_)
  go_ret
  exact ⟨by rw [hf.out]; rfl, below_call (below_call (below_call hb1 hb2) hb3) hb4⟩
/-- A Data line's bytes. -/
def pk (l : List UInt8) : List UInt8 := figs (4 + l.length) ++ l
set_option maxHeartbeats 400000 in
theorem bytes07_any (l : List UInt8) (hl : l.length ≤ 60000) (w : World) :
    Calls Tryz.prog 68 #[.agg #[.int .i64 0, .string (bs l)]] w fun e w' => e = .returned (.string (bs (pk l))) ∧ Below w.heap.size w w' := by
  have hp0 : pk l = figs (4 + (l.length : Int)).toNat ++ l := by rw [show (4 + (l.length : Int)).toNat = 4 + l.length by omega]; rfl
  have hp := Lib.hid hp0
  clear hp0
  go_enter Tryz.func68, Tryz.ntmps68
  go_wp2
  refine start_ (n := 9) (S := (fun W => W.cell? ⟨w.heap.size, 1, none⟩ = some (.string (bs l)) ∧ Below w.heap.size w W)) (ds := []) #[false, false, false, false, false, false, false, false, false] (by kernel_rfl) rfl rfl (⟨by simp, below_drew (below_alloc (Below.refl _ _) _)⟩) (fun hHeld => ?_)
  refine pure_ (i := 0) (N := (some 6)) (v := ?_) (a' := ?_) #[true, false, false, false, false, false, false, false, false] rfl rfl (by kernel_rfl) (fun _ _ _ h => h) (Or.inl ⟨by rfl, ?_⟩) ?_ ?_
  rotate_left
  · intro w'
    go_simp
    with_reducible rfl
  rotate_left
  · simp only [Act.put, List.setIfInBounds_toArray, List.set_cons_zero, List.set_cons_succ]
    rfl
  refine take_ (i := 1) (N := (some 7)) (v := ?_) (a' := ?_) #[true, true, false, false, false, false, false, false, false] rfl rfl (by kernel_rfl) (fun _ _ _ h => h) (Or.inl ⟨by rfl, ?_⟩) hHeld ?_ ?_
  rotate_left
  · intro w' hS'
    have h1 := hS'.1
    go_simp
    with_reducible rfl
  rotate_left
  · simp only [Act.put, List.setIfInBounds_toArray, List.set_cons_zero, List.set_cons_succ]
    rfl
  refine pure_ (i := 2) (N := (some 8)) (v := ?_) (a' := ?_) #[true, true, true, false, false, false, false, false, false] rfl rfl (by kernel_rfl) (fun _ _ _ h => h) (Or.inl ⟨by rfl, ?_⟩) ?_ ?_
  rotate_left
  · intro w'
    go_simp
    with_reducible rfl
  rotate_left
  · simp only [Act.put, List.setIfInBounds_toArray, List.set_cons_zero, List.set_cons_succ]
    rfl
  refine pure_ (i := 3) (N := (some 9)) (v := ?_) (a' := ?_) #[true, true, true, true, false, false, false, false, false] rfl rfl (by kernel_rfl) (fun _ _ _ h => h) (Or.inl ⟨by rfl, ?_⟩) ?_ ?_
  rotate_left
  · intro w'
    have hw := IntWalk.i64_in (4 + (l.length : Int)) (by omega)
    go_simp
    with_reducible rfl
  rotate_left
  · simp only [Act.put, List.setIfInBounds_toArray, List.set_cons_zero, List.set_cons_succ]
    rfl
  refine pure_ (i := 5) (N := (some 11)) (v := ?_) (a' := ?_) #[true, true, true, true, false, true, false, false, false] rfl rfl (by kernel_rfl) (fun _ _ _ h => h) (Or.inl ⟨by rfl, ?_⟩) ?_ ?_
  rotate_left
  · intro w'
    go_simp
    with_reducible rfl
  rotate_left
  · simp only [Act.put, List.setIfInBounds_toArray, List.set_cons_zero, List.set_cons_succ]
    rfl
  refine take_ (i := 6) (N := (some 12)) (v := ?_) (a' := ?_) #[true, true, true, true, false, true, true, false, false] rfl rfl (by kernel_rfl) (fun _ _ _ h => h) (Or.inl ⟨by rfl, ?_⟩) hHeld ?_ ?_
  rotate_left
  · intro w' hS'
    have h1 := hS'.1
    go_simp
    with_reducible rfl
  rotate_left
  · simp only [Act.put, List.setIfInBounds_toArray, List.set_cons_zero, List.set_cons_succ]
    rfl
  refine one_ (i := 4) (N := (some 10)) #[true, true, true, true, true, true, true, false, false] rfl rfl (by kernel_rfl) (by simp) (fun K hK => ?_)
  refine goes_ Tryz.func92 (by kernel_rfl) rfl #[.int .i64 (4 + (l.length : Int))] (by rfl) rfl rfl (by first | rfl | simp [Act.eval]) ?_
  refine (fig07_any (4 + (l.length : Int)) (by omega) (by omega) _).mono ?_
  rintro e w1 ⟨rfl, hb⟩
  refine ⟨_, rfl, hK _ _ (⟨cell_below hb hHeld.1, below_call hHeld.2 hb⟩) (fun hHeld => ?_)⟩
  simp only [Act.put, List.setIfInBounds_toArray, List.set_cons_zero, List.set_cons_succ]
  refine pure_ (i := 7) (N := (some 13)) (v := ?_) (a' := ?_) #[true, true, true, true, true, true, true, true, false] rfl rfl (by kernel_rfl) (fun _ _ _ h => h) (Or.inl ⟨by rfl, ?_⟩) ?_ ?_
  rotate_left
  · intro w'
    refine op_concat _ _ _ _ _ _ _ _ _ _ (figs (4 + (l.length : Int)).toNat) l ?_ ?_ ?_
    rfl
    rfl
    simp [figs]; omega
  rotate_left
  · simp only [Act.put, List.setIfInBounds_toArray, List.set_cons_zero, List.set_cons_succ]
    rfl
  refine pure_ (i := 8) (N := (some 2)) (v := ?_) (a' := ?_) #[true, true, true, true, true, true, true, true, true] rfl rfl (by kernel_rfl) (fun _ _ _ h => h) (Or.inl ⟨by rfl, ?_⟩) ?_ ?_
  rotate_left
  · intro w'
    go_simp
    with_reducible rfl
  rotate_left
  · simp only [Act.put, List.setIfInBounds_toArray, List.set_cons_zero, List.set_cons_succ]
    rfl
  refine done_ (by kernel_rfl) ?_
  go_wp2
  go_ret
  exact ⟨by rw [hp.out]; rfl, hHeld.2⟩
set_option maxHeartbeats 400000 in
theorem one20_any (l : List UInt8) (hl : l.length ≤ 60000) (w : World) :
    Calls Tryz.prog 36 #[.string (bs l)] w fun e w' => e = .returned (.string (bs (pk l))) ∧ Below w.heap.size w w' := by
  go_enter Tryz.func36, Tryz.ntmps36
  go_wp2_with (go_at_call 68; refine (bytes07_any l hl _).mono ?_; rintro e w1 ⟨rfl, hb1⟩)
  go_ret
  exact ⟨rfl, hb1⟩
end Go.Proofs.YtmfpmedkhlhnpaaGreatDoor
