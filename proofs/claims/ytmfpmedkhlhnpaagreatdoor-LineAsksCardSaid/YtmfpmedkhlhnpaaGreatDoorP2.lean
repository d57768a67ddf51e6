import Derived.Test.YtmfpmedkhlhnpaaGreatDoorP1
import Derived.Test.YtmfpmedkhlhnpaaGreatDoorB6
/- functions 91, 66, 29, 28. -/
namespace Go.Proofs.YtmfpmedkhlhnpaaGreatDoor
open Go.RowKit Go.Extern.Stop Go.Proofs.YtmfpmedkhlhnpaaGreatDoorW.PrintLast
set_option maxRecDepth 100000
set_option linter.unusedSimpArgs false
set_option linter.unusedVariables false
theorem i64_and15 (n : Nat) (h : n < 65536) : bits .and .i64 (n : Int) 15 = ((n % 16 : Nat) : Int) := by
  have := bits_mask .i64 32 (by decide) (fun n h0 h1 => IntWalk.i64_in n (by omega)) 4 (by decide) (n : Int) (by omega) (by omega)
  rw [show ((2 : Int) ^ 4 - 1) = 15 from rfl, show ((2 : Int) ^ 4) = 16 from rfl] at this
  rw [this]; omega
section
variable (ρ : Operand → Value) (dst : Option Tmp) (ty : TypeId) (pos : String) (after : Array Edge) (g : Option (Nat × Bool)) (w : World)
theorem op_shr (x y : Operand) (t : TypeId) (n k : Nat) (hk : k ≤ 64) (hx : ρ x = .int .i64 (n : Int)) (hy : ρ y = .int .u64 (k : Int)) :
    (execOp ρ ⟨dst, .binOp .shr 3 x y t, ty, pos, after, g⟩).run Tryz.prog w = .ok (.value (.int .i64 ((n / 2 ^ k : Nat) : Int))) w := by
  show (do let x ← (do eqGuard .shr 3 x y (ρ x) (ρ y); binOp .shr 3 (ρ x) (ρ y)); pure (Next.value x) : Sem Next).run Tryz.prog w = _
  rw [hx, hy, eqGuard_shr, binOp_shr, shift_shr .i64 .u64 (n : Int) (k : Int) (by omega) (by show (k : Int) ≤ 64; omega)]
  simp
theorem op_and15i (x y : Operand) (t : TypeId) (n : Nat) (hn : n < 65536) (hx : ρ x = .int .i64 (n : Int)) (hy : ρ y = .int .i64 15) :
    (execOp ρ ⟨dst, .binOp .and 3 x y t, ty, pos, after, g⟩).run Tryz.prog w = .ok (.value (.int .i64 ((n % 16 : Nat) : Int))) w := by
  rw [← i64_and15 n hn]
  show (do let x ← (do eqGuard .and 3 x y (ρ x) (ρ y); binOp .and 3 (ρ x) (ρ y)); pure (Next.value x) : Sem Next).run Tryz.prog w = _
  rw [hx, hy]
  simp [eqGuard, binOp, Op.intBits, Go.bits]
end
theorem figs_cells (n : Nat) (h : n < 65536) : (figs n).map cell = [.int .u8 (dg (n / 2 ^ 12 % 16)), .int .u8 (dg (n / 2 ^ 8 % 16)), .int .u8 (dg (n / 2 ^ 4 % 16)), .int .u8 (dg (n % 16))] := by
  have e1 : n / 2 ^ 12 % 16 = n / 4096 := by omega
  have e2 : n / 2 ^ 8 % 16 = n / 256 % 16 := by omega
  have e3 : n / 2 ^ 4 % 16 = n / 16 % 16 := by omega
  rw [e1, e2, e3]
  rfl
set_option maxHeartbeats 1000000 in
theorem fig91_any (n : Nat) (h : n < 65536) (w : World) : Calls Tryz.prog 91 #[.int .i64 (n : Int)] w fun e w' => e = .returned (.string (bs (figs n))) ∧ Below w.heap.size w w' := by
  have hf := Lib.hid (figs_cells n h)
  go_enter Tryz.func91, Tryz.ntmps91
  go_wp2
  refine start_ (n := 18) (S := (fun V => Below w.heap.size w V)) (ds := []) #[false, false, false, false, false, false, false, false, false, false, false, false, false, false, false, false, false, false] (by kernel_rfl) rfl rfl (below_drew (Below.refl _ _)) (fun hHeld => ?_)
  refine pure_ (i := 0) (N := (some 3)) (v := ?_) (a' := ?_) #[true, false, false, false, false, false, false, false, false, false, false, false, false, false, false, false, false, false] rfl rfl (by kernel_rfl) (fun _ _ _ h => h) (Or.inl ⟨by rfl, ?_⟩) ?_ ?_
  rotate_left
  · intro w'
    go_simp
    with_reducible rfl
  rotate_left
  · simp only [Act.put, List.setIfInBounds_toArray, List.set_cons_zero, List.set_cons_succ]
    rfl
  refine pure_ (i := 1) (N := (some 4)) (v := ?_) (a' := ?_) #[true, true, false, false, false, false, false, false, false, false, false, false, false, false, false, false, false, false] rfl rfl (by kernel_rfl) (fun _ _ _ h => h) (Or.inl ⟨by rfl, ?_⟩) ?_ ?_
  rotate_left
  · intro w'
    refine op_shr _ _ _ _ _ _ _ _ _ _ n 12 (by omega) ?_ ?_
    rfl
    rfl
  rotate_left
  · simp only [Act.put, List.setIfInBounds_toArray, List.set_cons_zero, List.set_cons_succ]
    rfl
  refine pure_ (i := 2) (N := (some 5)) (v := ?_) (a' := ?_) #[true, true, true, false, false, false, false, false, false, false, false, false, false, false, false, false, false, false] rfl rfl (by kernel_rfl) (fun _ _ _ h => h) (Or.inl ⟨by rfl, ?_⟩) ?_ ?_
  rotate_left
  · intro w'
    refine op_and15i _ _ _ _ _ _ _ _ _ _ (n / 2 ^ 12) (by omega) ?_ ?_
    rfl
    rfl
  rotate_left
  · simp only [Act.put, List.setIfInBounds_toArray, List.set_cons_zero, List.set_cons_succ]
    rfl
  refine pure_ (i := 3) (N := (some 6)) (v := ?_) (a' := ?_) #[true, true, true, true, false, false, false, false, false, false, false, false, false, false, false, false, false, false] rfl rfl (by kernel_rfl) (fun _ _ _ h => h) (Or.inl ⟨by rfl, ?_⟩) ?_ ?_
  rotate_left
  · intro w'
    refine op_index_dig _ _ _ _ _ _ _ _ _ .i64 (n / 2 ^ 12 % 16) (by omega) ?_ ?_
    rfl
    rfl
  rotate_left
  · simp only [Act.put, List.setIfInBounds_toArray, List.set_cons_zero, List.set_cons_succ]
    rfl
  refine pure_ (i := 4) (N := (some 7)) (v := ?_) (a' := ?_) #[true, true, true, true, true, false, false, false, false, false, false, false, false, false, false, false, false, false] rfl rfl (by kernel_rfl) (fun _ _ _ h => h) (Or.inl ⟨by rfl, ?_⟩) ?_ ?_
  rotate_left
  · intro w'
    go_simp
    with_reducible rfl
  rotate_left
  · simp only [Act.put, List.setIfInBounds_toArray, List.set_cons_zero, List.set_cons_succ]
    rfl
  refine pure_ (i := 5) (N := (some 8)) (v := ?_) (a' := ?_) #[true, true, true, true, true, true, false, false, false, false, false, false, false, false, false, false, false, false] rfl rfl (by kernel_rfl) (fun _ _ _ h => h) (Or.inl ⟨by rfl, ?_⟩) ?_ ?_
  rotate_left
  · intro w'
    refine op_shr _ _ _ _ _ _ _ _ _ _ n 8 (by omega) ?_ ?_
    rfl
    rfl
  rotate_left
  · simp only [Act.put, List.setIfInBounds_toArray, List.set_cons_zero, List.set_cons_succ]
    rfl
  refine pure_ (i := 6) (N := (some 9)) (v := ?_) (a' := ?_) #[true, true, true, true, true, true, true, false, false, false, false, false, false, false, false, false, false, false] rfl rfl (by kernel_rfl) (fun _ _ _ h => h) (Or.inl ⟨by rfl, ?_⟩) ?_ ?_
  rotate_left
  · intro w'
    refine op_and15i _ _ _ _ _ _ _ _ _ _ (n / 2 ^ 8) (by omega) ?_ ?_
    rfl
    rfl
  rotate_left
  · simp only [Act.put, List.setIfInBounds_toArray, List.set_cons_zero, List.set_cons_succ]
    rfl
  refine pure_ (i := 7) (N := (some 10)) (v := ?_) (a' := ?_) #[true, true, true, true, true, true, true, true, false, false, false, false, false, false, false, false, false, false] rfl rfl (by kernel_rfl) (fun _ _ _ h => h) (Or.inl ⟨by rfl, ?_⟩) ?_ ?_
  rotate_left
  · intro w'
    refine op_index_dig _ _ _ _ _ _ _ _ _ .i64 (n / 2 ^ 8 % 16) (by omega) ?_ ?_
    rfl
    rfl
  rotate_left
  · simp only [Act.put, List.setIfInBounds_toArray, List.set_cons_zero, List.set_cons_succ]
    rfl
  refine pure_ (i := 8) (N := (some 11)) (v := ?_) (a' := ?_) #[true, true, true, true, true, true, true, true, true, false, false, false, false, false, false, false, false, false] rfl rfl (by kernel_rfl) (fun _ _ _ h => h) (Or.inl ⟨by rfl, ?_⟩) ?_ ?_
  rotate_left
  · intro w'
    go_simp
    with_reducible rfl
  rotate_left
  · simp only [Act.put, List.setIfInBounds_toArray, List.set_cons_zero, List.set_cons_succ]
    rfl
  refine pure_ (i := 9) (N := (some 12)) (v := ?_) (a' := ?_) #[true, true, true, true, true, true, true, true, true, true, false, false, false, false, false, false, false, false] rfl rfl (by kernel_rfl) (fun _ _ _ h => h) (Or.inl ⟨by rfl, ?_⟩) ?_ ?_
  rotate_left
  · intro w'
    refine op_shr _ _ _ _ _ _ _ _ _ _ n 4 (by omega) ?_ ?_
    rfl
    rfl
  rotate_left
  · simp only [Act.put, List.setIfInBounds_toArray, List.set_cons_zero, List.set_cons_succ]
    rfl
  refine pure_ (i := 10) (N := (some 13)) (v := ?_) (a' := ?_) #[true, true, true, true, true, true, true, true, true, true, true, false, false, false, false, false, false, false] rfl rfl (by kernel_rfl) (fun _ _ _ h => h) (Or.inl ⟨by rfl, ?_⟩) ?_ ?_
  rotate_left
  · intro w'
    refine op_and15i _ _ _ _ _ _ _ _ _ _ (n / 2 ^ 4) (by omega) ?_ ?_
    rfl
    rfl
  rotate_left
  · simp only [Act.put, List.setIfInBounds_toArray, List.set_cons_zero, List.set_cons_succ]
    rfl
  refine pure_ (i := 11) (N := (some 14)) (v := ?_) (a' := ?_) #[true, true, true, true, true, true, true, true, true, true, true, true, false, false, false, false, false, false] rfl rfl (by kernel_rfl) (fun _ _ _ h => h) (Or.inl ⟨by rfl, ?_⟩) ?_ ?_
  rotate_left
  · intro w'
    refine op_index_dig _ _ _ _ _ _ _ _ _ .i64 (n / 2 ^ 4 % 16) (by omega) ?_ ?_
    rfl
    rfl
  rotate_left
  · simp only [Act.put, List.setIfInBounds_toArray, List.set_cons_zero, List.set_cons_succ]
    rfl
  refine pure_ (i := 12) (N := (some 15)) (v := ?_) (a' := ?_) #[true, true, true, true, true, true, true, true, true, true, true, true, true, false, false, false, false, false] rfl rfl (by kernel_rfl) (fun _ _ _ h => h) (Or.inl ⟨by rfl, ?_⟩) ?_ ?_
  rotate_left
  · intro w'
    go_simp
    with_reducible rfl
  rotate_left
  · simp only [Act.put, List.setIfInBounds_toArray, List.set_cons_zero, List.set_cons_succ]
    rfl
  refine pure_ (i := 13) (N := (some 16)) (v := ?_) (a' := ?_) #[true, true, true, true, true, true, true, true, true, true, true, true, true, true, false, false, false, false] rfl rfl (by kernel_rfl) (fun _ _ _ h => h) (Or.inl ⟨by rfl, ?_⟩) ?_ ?_
  rotate_left
  · intro w'
    refine op_and15i _ _ _ _ _ _ _ _ _ _ (n) (by omega) ?_ ?_
    rfl
    rfl
  rotate_left
  · simp only [Act.put, List.setIfInBounds_toArray, List.set_cons_zero, List.set_cons_succ]
    rfl
  refine pure_ (i := 14) (N := (some 17)) (v := ?_) (a' := ?_) #[true, true, true, true, true, true, true, true, true, true, true, true, true, true, true, false, false, false] rfl rfl (by kernel_rfl) (fun _ _ _ h => h) (Or.inl ⟨by rfl, ?_⟩) ?_ ?_
  rotate_left
  · intro w'
    refine op_index_dig _ _ _ _ _ _ _ _ _ .i64 (n % 16) (by omega) ?_ ?_
    rfl
    rfl
  rotate_left
  · simp only [Act.put, List.setIfInBounds_toArray, List.set_cons_zero, List.set_cons_succ]
    rfl
  refine one_ (i := 15) (N := (some 18)) #[true, true, true, true, true, true, true, true, true, true, true, true, true, true, true, true, false, false] rfl rfl (by kernel_rfl) (by simp) (fun K hK => ?_)
  refine ev_build (by rfl) rfl [.int .u8 (dg (n / 2 ^ 12 % 16)), .int .u8 (dg (n / 2 ^ 8 % 16)), .int .u8 (dg (n / 2 ^ 4 % 16)), .int .u8 (dg (n % 16))] 5 1 4 (by first | (go_simp; done) | (go_simp; exact ⟨rfl, rfl⟩)) rfl (by decide) ?_
  intro g8 W8 hown8 hb8
  refine hK _ _ (below_call hHeld hb8) (fun hHeld => ?_)
  simp only [Act.put, List.setIfInBounds_toArray, List.set_cons_zero, List.set_cons_succ]
  refine one_ (i := 16) (N := (some 19)) #[true, true, true, true, true, true, true, true, true, true, true, true, true, true, true, true, true, false] rfl rfl (by kernel_rfl) (by simp) (fun K hK => ?_)
  refine ev_value (by rfl) rfl (op_own_bytes _ _ _ _ _ _ _ (.tmp 18) (xs := figs n) rfl (by rw [hf.out]; exact hown8)) ?_
  refine hK _ _ hHeld (fun hHeld => ?_)
  simp only [Act.put, List.setIfInBounds_toArray, List.set_cons_zero, List.set_cons_succ]
  refine pure_ (i := 17) (N := (some 2)) (v := ?_) (a' := ?_) #[true, true, true, true, true, true, true, true, true, true, true, true, true, true, true, true, true, true] rfl rfl (by kernel_rfl) (fun _ _ _ h => h) (Or.inl ⟨by rfl, ?_⟩) ?_ ?_
  rotate_left
  · intro w'
    go_simp
    with_reducible rfl
  rotate_left
  · simp only [Act.put, List.setIfInBounds_toArray, List.set_cons_zero, List.set_cons_succ]
    rfl
  refine done_ (by kernel_rfl) ?_
  go_wp2
  go_ret
  exact ⟨rfl, hHeld⟩
def PkFine (p : Pk) : Prop := (p.kind = 0 ∧ p.load.length ≤ 1000) ∨ (p.kind = 1 ∧ p.load = []) ∨ (p.kind = 2 ∧ p.load = [])
def pkB (p : Pk) : List UInt8 := if p.kind = 0 then pk p.load else if p.kind = 1 then figs 0 else figs 1
def pksB (l : List Pk) : List UInt8 := l.flatMap pkB
theorem pksB_next (l : List Pk) (k : Nat) (s : Pk) (h : l[k]? = some s) : pksB (l.take (k + 1)) = pksB (l.take k) ++ pkB s := by
  obtain ⟨hk, hs⟩ := List.getElem?_eq_some_iff.1 h
  rw [List.take_succ_eq_append_getElem hk, hs]
  simp only [pksB, List.flatMap_append, List.flatMap_cons, List.flatMap_nil, List.append_nil]
theorem pksB_len (l : List Pk) (h : ∀ p ∈ l, PkFine p) : (pksB l).length ≤ 2000 * l.length := by
  induction l with
  | nil => simp [pksB]
  | cons a r ih =>
    have := ih (fun x hx => h x (List.mem_cons_of_mem _ hx))
    have ha := h a (List.mem_cons_self ..)
    simp only [pksB, List.flatMap_cons, List.length_append, List.length_cons] at this ⊢
    have : (pkB a).length ≤ 2000 := by
      rcases ha with ⟨h0, h1⟩ | ⟨h0, h1⟩ | ⟨h0, h1⟩
      · simp [pkB, h0, pk, figs]; omega
      · simp [pkB, h0, figs]
      · simp [pkB, h0, figs]
    omega
theorem pk_cells {W : World} {A : Option Addr} {ls : List Pk} (h : Rd W A (pksc ls)) (k : Nat) (hk : k < ls.length) : ∃ b o p, A = some ⟨b, o, none⟩ ∧ W.cell? ⟨b, o + k * 2, none⟩ = some (.int .i64 p.kind) ∧ W.cell? ⟨b, o + k * 2 + 1, none⟩ = some (.string (bs p.load)) ∧ ls[k]? = some p := by
  obtain ⟨b, o, p, e, hr, hp⟩ := Rd.at (f := pkc) (n := 2) (by omega) h (fun x _ => rfl) k hk
  exact ⟨b, o, p, e, hr 0 _ rfl, hr 1 _ rfl, hp⟩
set_option maxHeartbeats 2000000 in
theorem put66_any (ls : List Pk) (A : Option Addr) (ca : Nat) (hn : ls.length ≤ 100000) (hf : ∀ p ∈ ls, PkFine p) (w : World) (hA : Rd w A (pksc ls)) :
    Calls Tryz.prog 66 #[.slice A ls.length ca] w fun e w' => e = .returned (.tuple #[.string (bs (pksB ls)), .int .i64 0]) ∧ Below w.heap.size w w' := by
  have HF := Lib.hid hf
  clear hf
  go_enter Tryz.func66, Tryz.ntmps66
  go_wp2
  go_loopw [4, 6, 9] (fun s _ i wr => ∃ k : Nat, k ≤ ls.length ∧ i = .int .i64 k ∧ s = .string (bs (pksB (ls.take k))) ∧ Below w.heap.size w wr) (fun _ _ i _ => ls.length - (intOf i).toNat)
  case atStart => exact ⟨0, by omega, rfl, by simp [pksB], Below.refl _ _⟩
  case round =>
    obtain ⟨k, hk, rfl, rfl, hbel⟩ := hrel
    by_cases hlt : k < ls.length
    · obtain ⟨b1, o1, p, rfl, c0, c1, hp⟩ := pk_cells (hA.below hbel) k hlt
      have hpf := HF.out p (List.mem_of_getElem? hp)
      have hlen : (pksB (ls.take k)).length ≤ 200000000 := by
        have := pksB_len (ls.take k) (fun x hx => HF.out x (List.mem_of_mem_take hx))
        rw [List.length_take] at this
        omega
      have hnx := Lib.hid (pksB_next ls k p hp)
      clear hp
      obtain ⟨j1, Hj⟩ : ∃ j1, Hid (pksB (ls.take k) = j1) := ⟨_, Lib.hid rfl⟩
      rw [Hj.out] at hlen ⊢
      obtain ⟨kd, l⟩ := p
      simp only at c0 c1
      rcases hpf with ⟨h0, h1⟩ | ⟨h0, h1⟩ | ⟨h0, h1⟩
      · simp only at h0 h1
        subst h0
        have hpk : Hid (pkB ⟨0, l⟩ = figs (4 + l.length) ++ l) := Lib.hid rfl
        go_wp2
        refine start_ (n := 11) (S := (fun V => Below w.heap.size w V ∧ Boxed wr [.int .i64 0, .string (bs l)] 73 V)) (ds := []) #[false, false, false, false, false, false, false, false, false, false, false] (by kernel_rfl) rfl rfl (⟨below_drew (below_alloc hbel _), (Boxed.start wr [.int .i64 0, .string (bs l)] 73).drew⟩) (fun hHeld => ?_)
        refine pure_ (i := 0) (N := (some 23)) (v := ?_) (a' := ?_) #[true, false, false, false, false, false, false, false, false, false, false] rfl rfl (by kernel_rfl) (fun _ _ _ h => h) (Or.inl ⟨by rfl, ?_⟩) ?_ ?_
        rotate_left
        · intro w'
          go_simp
          with_reducible rfl
        rotate_left
        · simp only [Act.put, List.setIfInBounds_toArray, List.set_cons_zero, List.set_cons_succ]
          rfl
        refine pure_ (i := 1) (N := (some 24)) (v := ?_) (a' := ?_) #[true, true, false, false, false, false, false, false, false, false, false] rfl rfl (by kernel_rfl) (fun _ _ _ h => h) (Or.inl ⟨by rfl, ?_⟩) ?_ ?_
        rotate_left
        · intro w'
          go_simp
          with_reducible rfl
        rotate_left
        · simp only [Act.put, List.setIfInBounds_toArray, List.set_cons_zero, List.set_cons_succ]
          rfl
        refine take_ (i := 2) (N := (some 25)) (v := ?_) (a' := ?_) #[true, true, true, false, false, false, false, false, false, false, false] rfl rfl (by kernel_rfl) (fun _ _ _ h => h) (Or.inl ⟨by rfl, ?_⟩) hHeld ?_ ?_
        rotate_left
        · intro w' hS'
          have h1 := hS'.2.cell 1 (.string (bs l)) rfl
          go_simp
          with_reducible rfl
        rotate_left
        · simp only [Act.put, List.setIfInBounds_toArray, List.set_cons_zero, List.set_cons_succ]
          rfl
        refine pure_ (i := 3) (N := (some 26)) (v := ?_) (a' := ?_) #[true, true, true, true, false, false, false, false, false, false, false] rfl rfl (by kernel_rfl) (fun _ _ _ h => h) (Or.inl ⟨by rfl, ?_⟩) ?_ ?_
        rotate_left
        · intro w'
          go_simp
          with_reducible rfl
        rotate_left
        · simp only [Act.put, List.setIfInBounds_toArray, List.set_cons_zero, List.set_cons_succ]
          rfl
        refine pure_ (i := 4) (N := (some 27)) (v := ?_) (a' := ?_) #[true, true, true, true, true, false, false, false, false, false, false] rfl rfl (by kernel_rfl) (fun _ _ _ h => h) (Or.inl ⟨by rfl, ?_⟩) ?_ ?_
        rotate_left
        · intro w'
          have hw := IntWalk.i64_in (4 + (l.length : Int)) (by omega)
          go_simp
          with_reducible rfl
        rotate_left
        · simp only [Act.put, List.setIfInBounds_toArray, List.set_cons_zero, List.set_cons_succ]
          rfl
        refine pure_ (i := 6) (N := (some 29)) (v := ?_) (a' := ?_) #[true, true, true, true, true, false, true, false, false, false, false] rfl rfl (by kernel_rfl) (fun _ _ _ h => h) (Or.inl ⟨by rfl, ?_⟩) ?_ ?_
        rotate_left
        · intro w'
          go_simp
          with_reducible rfl
        rotate_left
        · simp only [Act.put, List.setIfInBounds_toArray, List.set_cons_zero, List.set_cons_succ]
          rfl
        refine take_ (i := 7) (N := (some 30)) (v := ?_) (a' := ?_) #[true, true, true, true, true, false, true, true, false, false, false] rfl rfl (by kernel_rfl) (fun _ _ _ h => h) (Or.inl ⟨by rfl, ?_⟩) hHeld ?_ ?_
        rotate_left
        · intro w' hS'
          have h1 := hS'.2.cell 1 (.string (bs l)) rfl
          go_simp
          with_reducible rfl
        rotate_left
        · simp only [Act.put, List.setIfInBounds_toArray, List.set_cons_zero, List.set_cons_succ]
          rfl
        refine one_ (i := 5) (N := (some 28)) #[true, true, true, true, true, true, true, true, false, false, false] rfl rfl (by kernel_rfl) (by simp) (fun K hK => ?_)
        refine goes_ Tryz.func91 (by kernel_rfl) rfl #[.int .i64 (((4 + l.length : Nat)) : Int)] (by rfl) rfl rfl (by first | rfl | simp [Act.eval]) ?_
        refine (fig91_any (4 + l.length) (by omega) _).mono ?_
        rintro e w1 ⟨rfl, hb⟩
        refine ⟨_, rfl, hK _ _ (⟨below_call hHeld.1 hb, hHeld.2.call hb⟩) (fun hHeld => ?_)⟩
        simp only [Act.put, List.setIfInBounds_toArray, List.set_cons_zero, List.set_cons_succ]
        refine pure_ (i := 8) (N := (some 31)) (v := ?_) (a' := ?_) #[true, true, true, true, true, true, true, true, true, false, false] rfl rfl (by kernel_rfl) (fun _ _ _ h => h) (Or.inl ⟨by rfl, ?_⟩) ?_ ?_
        rotate_left
        · intro w'
          refine op_concat _ _ _ _ _ _ _ _ _ _ (figs (4 + l.length)) l ?_ ?_ ?_
          rfl
          rfl
          simp [figs]; omega
        rotate_left
        · simp only [Act.put, List.setIfInBounds_toArray, List.set_cons_zero, List.set_cons_succ]
          rfl
        refine pure_ (i := 9) (N := (some 32)) (v := ?_) (a' := ?_) #[true, true, true, true, true, true, true, true, true, true, false] rfl rfl (by kernel_rfl) (fun _ _ _ h => h) (Or.inl ⟨by rfl, ?_⟩) ?_ ?_
        rotate_left
        · intro w'
          refine op_concat _ _ _ _ _ _ _ _ _ _ j1 (figs (4 + l.length) ++ l) ?_ ?_ ?_
          rfl
          rfl
          simp [figs]; omega
        rotate_left
        · simp only [Act.put, List.setIfInBounds_toArray, List.set_cons_zero, List.set_cons_succ]
          rfl
        refine pure_ (i := 10) (N := (some 4)) (v := ?_) (a' := ?_) #[true, true, true, true, true, true, true, true, true, true, true] rfl rfl (by kernel_rfl) (fun _ _ _ h => h) (Or.inl ⟨by rfl, ?_⟩) ?_ ?_
        rotate_left
        · intro w'
          go_simp
          with_reducible rfl
        rotate_left
        · simp only [Act.put, List.setIfInBounds_toArray, List.set_cons_zero, List.set_cons_succ]
          rfl
        refine done_ (by kernel_rfl) ?_
        go_wp2
        go_roundw
        case rel => exact ⟨k + 1, by omega, by go_num, by rw [hnx.out, Hj.out, hpk.out], hHeld.1⟩
        case measure => simp [intOf]; omega
      · simp only at h0 h1
        subst h0 h1
        have hpk : Hid (pkB ⟨1, []⟩ = figs 0) := Lib.hid rfl
        go_wp2_with (first
          | (refine wpList_runG (by rfl) (op_str_eqlB _ _ _ _ _ _ _ _ _ _ [] [] true rfl rfl rfl) ?_))
        refine (fig91_any 0 (by omega) _).mono ?_; rintro e w1 ⟨rfl, hb1⟩
        go_wp2_with (refine wpList_run rfl (op_concat _ _ _ _ _ _ _ _ _ _ j1 (figs 0) rfl rfl (by simp [figs]; omega)) ?_)
        go_roundw
        case rel => exact ⟨k + 1, by omega, by go_num, by rw [hnx.out, Hj.out, hpk.out], below_call (below_alloc hbel _) hb1⟩
        case measure => simp [intOf]; omega
      · simp only at h0 h1
        subst h0 h1
        have hpk : Hid (pkB ⟨2, []⟩ = figs 1) := Lib.hid rfl
        go_wp2_with (first
          | (refine wpList_runG (by rfl) (op_str_eqlB _ _ _ _ _ _ _ _ _ _ [] [] true rfl rfl rfl) ?_))
        refine (fig91_any 1 (by omega) _).mono ?_; rintro e w1 ⟨rfl, hb1⟩
        go_wp2_with (refine wpList_run rfl (op_concat _ _ _ _ _ _ _ _ _ _ j1 (figs 1) rfl rfl (by simp [figs]; omega)) ?_)
        go_roundw
        case rel => exact ⟨k + 1, by omega, by go_num, by rw [hnx.out, Hj.out, hpk.out], below_call (below_alloc hbel _) hb1⟩
        case measure => simp [intOf]; omega
    · obtain rfl : k = ls.length := by omega
      rw [List.take_length]
      go_wp2
      go_ret2
      exact ⟨rfl, hbel⟩
def numPks (word : List UInt8) (n : Nat) : List Pk := if n = 0 then [] else [⟨0, word ++ 32 :: Lib.decDigits n⟩]
set_option maxHeartbeats 1000000 in
theorem num29_any (base g : Nat) (ls : List Pk) (word : List UInt8) (n : Nat) (W : World) (hE : Env W) (hW : Wr base g W ls) (hw : word.length ≤ 20) (hn : n ≤ 9999999) (hl : ls.length ≤ 50000) :
    Calls Tryz.prog 29 #[.pointer (some ⟨g, 0, none⟩), .string (bs word), .int .i64 (n : Int)] W fun e W' => e = .returned (.tuple #[]) ∧ Wr base g W' (ls ++ numPks word n) ∧ Below base W W' := by
  have hlt := hW.lt
  have hbg := hW.1
  by_cases h0 : n = 0
  · have hb : ((n : Int) != 0) = false := by rw [h0]; rfl
    have hc : Hid (ls ++ numPks word n = ls) := Lib.hid (by simp [numPks, h0])
    clear h0
    go_enter Tryz.func29, Tryz.ntmps29
    go_wp2
    go_end0
    exact ⟨rfl, by rw [hc.out]; exact hW, Below.refl _ _⟩
  · have hb : ((n : Int) != 0) = true := by rw [bne_iff_ne]; omega
    have hc : Hid (ls ++ numPks word n = ls ++ [⟨0, Lib.join [word, Lib.decDigits n] [32]⟩]) := Lib.hid (by simp [numPks, h0, Lib.join, List.intercalate])
    have hd := dec_len7 hn
    have HW := Lib.hid hW
    clear hW
    go_enter Tryz.func29, Tryz.ntmps29
    go_wp2_with fail
    refine (itoa26_any n (by omega) W hE).mono ?_; rintro e w1 ⟨rfl, hb1⟩
    go_wp2_with fail
    refine (words25_any base g ls [word, Lib.decDigits n] _ 2 _ ((HW.out.below hb1).below (Below.alloc (Below.refl _ _) (Nat.le_refl _) _)) (fun _ => ⟨_, _, rfl, rangeAt_new w1 [.string (bs word), .string (bs (Lib.decDigits n))] 9⟩) (by simp) (by omega) (by simp) (by simp [Lib.join, List.intercalate]; omega)).mono ?_
    rintro e w2 ⟨rfl, hw2, hb2⟩
    go_wp2
    go_end0
    have hs1 := hb1.size
    exact ⟨rfl, by rw [hc.out]; exact hw2, ((hb1.mono (by omega)).alloc (by omega) _).trans hb2⟩
set_option maxHeartbeats 1000000 in
theorem ids28_any (base g : Nat) (ls : List Pk) (word : List UInt8) (l : List (List UInt8)) (A : Option Addr) (ca : Nat) (W : World) (hW : Wr base g W ls) (hi : ∀ x ∈ l, x.length = 32) (hw : word.length ≤ 20) (hn : l.length ≤ 1000) (hl : ls.length ≤ 50000) (w0 : World) (hb0 : Below base w0 W) (hA0 : Rd w0 A (idsc l)) (hbase : base = w0.heap.size) :
    Calls Tryz.prog 28 #[.pointer (some ⟨g, 0, none⟩), .string (bs word), .slice A l.length ca] W fun e W' => e = .returned (.tuple #[]) ∧ Wr base g W' (ls ++ l.map fun x => ⟨0, word ++ 32 :: hexs x⟩) ∧ Below base w0 W' := by
  have HI := Lib.hid hi
  have HB := Lib.hid hbase
  clear hi hbase
  go_enter Tryz.func28, Tryz.ntmps28
  go_wp2
  go_loopw [7, 10] (fun _ i wr => ∃ k : Nat, k ≤ l.length ∧ i = .int .i64 k ∧ Wr base g wr (ls ++ (l.take k).map fun x => ⟨0, word ++ 32 :: hexs x⟩) ∧ Below base w0 wr) (fun _ i _ => l.length - (intOf i).toNat)
  case atStart => exact ⟨0, by omega, rfl, by simpa using hW, hb0⟩
  case round =>
    obtain ⟨k, hk, rfl, hwr, hbel⟩ := hrel
    have hbase := HB.out
    by_cases hlt : k < l.length
    · obtain ⟨b1, o1, s, rfl, c1, hs1⟩ := Rd.at (n := 32) (by omega) (hA0.below (by rw [← hbase]; exact hbel)) (fun x hx => by rw [idc_length]; exact HI.out x hx) k hlt
      have hs32 := HI.out s (List.mem_of_getElem? hs1)
      have hx : (hexs s).length = 64 := by rw [hexs_length, hs32]
      have hnx : Hid (ls ++ (l.take (k + 1)).map (fun x => (⟨0, word ++ 32 :: hexs x⟩ : Pk)) = (ls ++ (l.take k).map fun x => ⟨0, word ++ 32 :: hexs x⟩) ++ [⟨0, Lib.join [word, hexs s] [32]⟩]) := by
        obtain ⟨hk2, hs2⟩ := List.getElem?_eq_some_iff.1 hs1
        refine Lib.hid ?_
        rw [List.take_succ_eq_append_getElem hk2, hs2]
        simp [Lib.join, List.intercalate]
      have hll : (ls ++ (l.take k).map fun x => (⟨0, word ++ 32 :: hexs x⟩ : Pk)).length ≤ 100000 := by simp; omega
      have HX := Lib.hid hx
      have HS := Lib.hid hs32
      have HW := Lib.hid hwr
      have HL := Lib.hid hll
      have hlt2 := hwr.lt
      have hbg := hwr.1
      clear hx hs32 hwr hll hs1 hbase
      go_wp2_with (first
        | (refine wpList_load_mid rfl 41 _ rfl b1 (o1 + k * 32) rfl (idc s) _ c1 und41 rfl (by rw [idc_length, HS.out]; exact info41) ?_)
        | (refine wpList_run rfl (op_allocZ _ _ _ _ _ _ _ 41 zero41) ?_)
        | (refine wpList_store_new rfl 41 _ _ rfl _ (idv s) rfl rfl (by rw [List.size_toArray, idc_length, HS.out]; exact info41) (by rw [zsize41, List.size_toArray, idc_length, HS.out]) (idv_one s) ?_)
        | (refine wpList_load_mid rfl 41 _ rfl wr.heap.size 0 rfl (idc s) _ (rangeAt_new _ _ _) und41 rfl (by rw [idc_length, HS.out]; exact info41) ?_))
      refine (hex_any s HS.out _).mono ?_; rintro e w1 ⟨rfl, hb1⟩
      have hsz := hb1.size
      simp only [World.size_alloc] at hsz
      go_wp2_with fail
      refine (words25_any base g _ [word, hexs s] _ 2 _ (((HW.out.below (Below.alloc (Below.refl _ _) (Nat.le_refl _) _)).below hb1).below (Below.alloc (Below.refl _ _) (Nat.le_refl _) _)) (fun _ => ⟨_, _, rfl, rangeAt_new w1 [.string (bs word), .string (bs (hexs s))] 9⟩) (by simp) HL.out (by simp) (by simp [Lib.join, List.intercalate]; have := HX.out; omega)).mono ?_
      rintro e w2 ⟨rfl, hw2, hb2⟩
      go_wp2
      go_roundw
      case rel => exact ⟨k + 1, by omega, by go_num, by rw [hnx.out]; exact hw2, (((hbel.alloc (by omega) _).trans (hb1.mono (by simp; omega))).alloc (by omega) _).trans hb2⟩
      case measure => simp [intOf]; omega
    · obtain rfl : k = l.length := by omega
      rw [List.take_length] at hwr
      go_wp2
      go_end0
      exact ⟨rfl, hwr, hbel⟩
end Go.Proofs.YtmfpmedkhlhnpaaGreatDoor
