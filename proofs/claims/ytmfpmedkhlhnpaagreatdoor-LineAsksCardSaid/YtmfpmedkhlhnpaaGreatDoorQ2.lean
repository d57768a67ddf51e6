import Derived.Test.YtmfpmedkhlhnpaaGreatDoorQ1
/- functions 93, 71. -/
namespace Go.Proofs.YtmfpmedkhlhnpaaGreatDoor
open Go.RowKit Go.Extern.Stop Go.Proofs.YtmfpmedkhlhnpaaGreatDoorW.PrintLast
set_option maxRecDepth 100000
set_option linter.unusedSimpArgs false
set_option linter.unusedVariables false
theorem ba_mid (l : List UInt8) (a b : Nat) : (bs l).extract a b = bs ((l.take b).drop a) := by
  apply ByteArray.ext
  simp [ByteArray.data_extract, List.extract_eq_take_drop, List.drop_take]
theorem op_slice_mid (ρ : Operand → Value) (dst : Option Tmp) (ty : TypeId) (pos : String) (after : Array Edge) (g : Option (Nat × Bool)) (w : World) (x y z : Operand) (l : List UInt8) (a b : Nat) (hab : a ≤ b) (hb : b ≤ l.length) (hx : ρ x = .string (bs l)) (hy : ρ y = .int .i64 (a : Int)) (hz : ρ z = .int .i64 (b : Int)) :
    (execOp ρ ⟨dst, .slice 9 x (some y) (some z) none, ty, pos, after, g⟩).run Tryz.prog w = .ok (.value (.string (bs ((l.take b).drop a)))) w := by
  show (do let x ← Instr.sliceAt 9 (ρ x) (some (ρ y)) (some (ρ z)) none; pure (Next.value x) : Sem Next).run Tryz.prog w = _
  rw [hx, hy, hz, Sem.run_bind, run_sliceAt_string (P := Tryz.prog) _ _ _ _ _ _ und9, ← ba_mid]
  unfold Instr.slice
  simp [run_underlying und9, Instr.sliceBounds, Instr.sliceBound, asIntOf, bs_size, hab, hb]
theorem ev_store_new {P : Program} {w : World} {oi : Oper} {a : Act} {K : Act → World → Prop} {Q : Exit → Act → World → Prop} {b : Bool} (hw : b = true) (hN : oi.dst = none) (t : TypeId) (x y : Operand) (ho : oi.op = .store t x y) (c c' : Array Value)
    (hx : a.eval x = .pointer (some ⟨w.heap.size, 0, none⟩)) (hy : a.eval y = .agg c') (hi : (P.info? t).map (·.size) = some c'.size) (hsz : c.size = c'.size) (h1 : c'.all (·.oneCell') = true)
    (h : K a (w.alloc (.cells c' t))) : if b = true then oi.wp P a (w.alloc (.cells c t)) K Q else K (a.put none undef) (w.alloc (.cells c t)) := by
  refine ev_ hw ?_
  have hr : (execOp a.eval oi).run P (w.alloc (.cells c t)) = .ok .skip (w.alloc (.cells c' t)) := by
    unfold execOp
    simp only [ho, hx, hy, Sem.run_bind, run_storeAt_new w t c c' hi hsz h1, Result.andThen_ok]
    rfl
  unfold Oper.wp
  rw [hr]
  show K (a.put oi.dst undef) _
  rw [hN]
  exact h
theorem one2 (i : Int) (s : ByteArray) : (#[.int .i64 i, .string s] : Array Value).all (·.oneCell') = true := by
  rw [Array.all_eq_true_iff_forall_mem]
  intro v hv
  simp only [List.mem_toArray, List.mem_cons, List.not_mem_nil, or_false] at hv
  rcases hv with rfl | rfl <;> rfl
theorem zero73 : ((Tryz.prog.info? 73).bind (·.zero)).isSome = true := by kernel_rfl
theorem und73 : Tryz.prog.underlying 73 = some (.struct (Tryz.prog.fieldsOf 73)) := by kernel_rfl
theorem zsize73 : (zeroCells 73).size = 2 := by kernel_rfl
/-- The line that a text begins with. -/
def getP (l : List UInt8) : Pk × List UInt8 × Int :=
  if numP l = 0 then (⟨1, []⟩, l.drop 4, 0) else if numP l = 1 then (⟨2, []⟩, l.drop 4, 0)
  else if numP l < 4 ∨ 1004 < numP l ∨ (l.length : Int) < numP l then (⟨0, []⟩, [], 2)
  else (⟨0, (l.take (numP l).toNat).drop 4⟩, l.drop (numP l).toNat, 0)
theorem numP_len {l : List UInt8} (h : 0 ≤ numP l) : 4 ≤ l.length := by
  rw [numP] at h
  split at h
  · omega
  · omega
def getV (l : List UInt8) : Value := .tuple #[.agg (pkc (getP l).1).toArray, .string (bs (getP l).2.1), .int .i64 (getP l).2.2]
set_option maxHeartbeats 2000000 in
theorem get93_any (l : List UInt8) (hl : l.length ≤ 1000000000) (w : World) : Calls Tryz.prog 93 #[.string (bs l)] w fun e w' => e = .returned (getV l) ∧ Below w.heap.size w w' := by
  obtain ⟨n, hn⟩ : ∃ n, Hid (numP l = n) := ⟨_, Lib.hid rfl⟩
  by_cases h0 : n = 0
  · subst h0
    have h4 := numP_len (l := l) (by rw [hn.out]; exact Int.le_refl _)
    have hg : Hid (getV l = .tuple #[.agg (pkc ⟨1, []⟩).toArray, .string (bs (l.drop 4)), .int .i64 0]) := Lib.hid (by rw [getV, getP, hn.out, if_pos rfl])
    go_enter Tryz.func93, Tryz.ntmps93
    go_wp2_with (first
      | (refine wpList_run rfl (op_allocZ _ _ _ _ _ _ _ 73 zero73) ?_)
      | (go_at_call 110; refine (number110_any l (by omega) _).mono ?_; rintro e w1 ⟨rfl, rfl⟩; simp only [hn.out]))
    refine start_ (n := 6) (S := (fun _ => True)) (ds := []) #[false, false, false, false, false, false] (by kernel_rfl) rfl rfl (trivial) (fun hHeld => ?_)
    refine pure_ (i := 0) (N := (some 11)) (v := ?_) (a' := ?_) #[true, false, false, false, false, false] rfl rfl (by kernel_rfl) (fun _ _ _ h => h) (Or.inl ⟨by rfl, ?_⟩) ?_ ?_
    rotate_left
    · intro w'
      go_simp
      first | with_reducible rfl | rfl
    rotate_left
    · simp only [Act.put, List.setIfInBounds_toArray, List.set_cons_zero, List.set_cons_succ]
      rfl
    refine pure_ (i := 1) (N := (some 12)) (v := ?_) (a' := ?_) #[true, true, false, false, false, false] rfl rfl (by kernel_rfl) (fun _ _ _ h => h) (Or.inl ⟨by rfl, ?_⟩) ?_ ?_
    rotate_left
    · intro w'
      go_simp
      with_reducible rfl
    rotate_left
    · simp only [Act.put, List.setIfInBounds_toArray, List.set_cons_zero, List.set_cons_succ]
      rfl
    refine pure_ (i := 2) (N := (some 13)) (v := ?_) (a' := ?_) #[true, true, true, false, false, false] rfl rfl (by kernel_rfl) (fun _ _ _ h => h) (Or.inl ⟨by rfl, ?_⟩) ?_ ?_
    rotate_left
    · intro w'
      refine op_slice_drop _ _ _ _ _ _ _ _ _ l 4 ?_ ?_ ?_
      omega
      rfl
      rfl
    rotate_left
    · simp only [Act.put, List.setIfInBounds_toArray, List.set_cons_zero, List.set_cons_succ]
      rfl
    refine one_ (i := 3) (N := none) #[true, true, true, true, false, false] rfl rfl (by kernel_rfl) (by simp) (fun K hK => ?_)
    refine ev_store_new (w := w.drew) (by rfl) rfl 73 _ _ rfl (zeroCells 73) #[.int .i64 1, .string (bs [])] rfl rfl (by kernel_rfl) zsize73 (one2 _ _) ?_
    refine hK _ _ trivial (fun hHeld => ?_)
    try simp only [Act.put, List.setIfInBounds_toArray, List.set_cons_zero, List.set_cons_succ]
    refine pure_ (i := 4) (N := (some 3)) (v := ?_) (a' := ?_) #[true, true, true, true, true, false] rfl rfl (by kernel_rfl) (fun _ _ _ h => h) (Or.inl ⟨by rfl, ?_⟩) ?_ ?_
    rotate_left
    · intro w'
      go_simp
      with_reducible rfl
    rotate_left
    · simp only [Act.put, List.setIfInBounds_toArray, List.set_cons_zero, List.set_cons_succ]
      rfl
    refine pure_ (i := 5) (N := (some 4)) (v := ?_) (a' := ?_) #[true, true, true, true, true, true] rfl rfl (by kernel_rfl) (fun _ _ _ h => h) (Or.inl ⟨by rfl, ?_⟩) ?_ ?_
    rotate_left
    · intro w'
      go_simp
      with_reducible rfl
    rotate_left
    · simp only [Act.put, List.setIfInBounds_toArray, List.set_cons_zero, List.set_cons_succ]
      rfl
    refine done_ (by kernel_rfl) ?_
    go_wp2
    exact bodyPost_ret (v := .tuple #[.agg (pkc ⟨1, []⟩).toArray, .string (bs (l.drop 4)), .int .i64 0]) (by simp [results, Tryz.results93, go_sem]) rfl ⟨by rw [hg.out], below_drew (below_alloc (Below.refl _ _) _)⟩
  by_cases h1 : n = 1
  · subst h1
    have h4 := numP_len (l := l) (by rw [hn.out]; decide)
    have hg : Hid (getV l = .tuple #[.agg (pkc ⟨2, []⟩).toArray, .string (bs (l.drop 4)), .int .i64 0]) := Lib.hid (by rw [getV, getP, hn.out, if_neg (by decide), if_pos rfl])
    go_enter Tryz.func93, Tryz.ntmps93
    go_wp2_with (first
      | (refine wpList_run rfl (op_allocZ _ _ _ _ _ _ _ 73 zero73) ?_)
      | (go_at_call 110; refine (number110_any l (by omega) _).mono ?_; rintro e w1 ⟨rfl, rfl⟩; simp only [hn.out]))
    refine start_ (n := 6) (S := (fun _ => True)) (ds := []) #[false, false, false, false, false, false] (by kernel_rfl) rfl rfl (trivial) (fun hHeld => ?_)
    refine pure_ (i := 0) (N := (some 17)) (v := ?_) (a' := ?_) #[true, false, false, false, false, false] rfl rfl (by kernel_rfl) (fun _ _ _ h => h) (Or.inl ⟨by rfl, ?_⟩) ?_ ?_
    rotate_left
    · intro w'
      go_simp
      first | with_reducible rfl | rfl
    rotate_left
    · simp only [Act.put, List.setIfInBounds_toArray, List.set_cons_zero, List.set_cons_succ]
      rfl
    refine pure_ (i := 1) (N := (some 18)) (v := ?_) (a' := ?_) #[true, true, false, false, false, false] rfl rfl (by kernel_rfl) (fun _ _ _ h => h) (Or.inl ⟨by rfl, ?_⟩) ?_ ?_
    rotate_left
    · intro w'
      go_simp
      with_reducible rfl
    rotate_left
    · simp only [Act.put, List.setIfInBounds_toArray, List.set_cons_zero, List.set_cons_succ]
      rfl
    refine pure_ (i := 2) (N := (some 19)) (v := ?_) (a' := ?_) #[true, true, true, false, false, false] rfl rfl (by kernel_rfl) (fun _ _ _ h => h) (Or.inl ⟨by rfl, ?_⟩) ?_ ?_
    rotate_left
    · intro w'
      refine op_slice_drop _ _ _ _ _ _ _ _ _ l 4 ?_ ?_ ?_
      omega
      rfl
      rfl
    rotate_left
    · simp only [Act.put, List.setIfInBounds_toArray, List.set_cons_zero, List.set_cons_succ]
      rfl
    refine one_ (i := 3) (N := none) #[true, true, true, true, false, false] rfl rfl (by kernel_rfl) (by simp) (fun K hK => ?_)
    refine ev_store_new (w := w.drew) (by rfl) rfl 73 _ _ rfl (zeroCells 73) #[.int .i64 2, .string (bs [])] rfl rfl (by kernel_rfl) zsize73 (one2 _ _) ?_
    refine hK _ _ trivial (fun hHeld => ?_)
    try simp only [Act.put, List.setIfInBounds_toArray, List.set_cons_zero, List.set_cons_succ]
    refine pure_ (i := 4) (N := (some 3)) (v := ?_) (a' := ?_) #[true, true, true, true, true, false] rfl rfl (by kernel_rfl) (fun _ _ _ h => h) (Or.inl ⟨by rfl, ?_⟩) ?_ ?_
    rotate_left
    · intro w'
      go_simp
      with_reducible rfl
    rotate_left
    · simp only [Act.put, List.setIfInBounds_toArray, List.set_cons_zero, List.set_cons_succ]
      rfl
    refine pure_ (i := 5) (N := (some 4)) (v := ?_) (a' := ?_) #[true, true, true, true, true, true] rfl rfl (by kernel_rfl) (fun _ _ _ h => h) (Or.inl ⟨by rfl, ?_⟩) ?_ ?_
    rotate_left
    · intro w'
      go_simp
      with_reducible rfl
    rotate_left
    · simp only [Act.put, List.setIfInBounds_toArray, List.set_cons_zero, List.set_cons_succ]
      rfl
    refine done_ (by kernel_rfl) ?_
    go_wp2
    exact bodyPost_ret (v := .tuple #[.agg (pkc ⟨2, []⟩).toArray, .string (bs (l.drop 4)), .int .i64 0]) (by simp [results, Tryz.results93, go_sem]) rfl ⟨by rw [hg.out], below_drew (below_alloc (Below.refl _ _) _)⟩
  have b0 : (n == 0) = false := beq_eq_false_iff_ne.2 h0
  have b1 : (n == 1) = false := beq_eq_false_iff_ne.2 h1
  by_cases hbad : n < 4 ∨ 1004 < n ∨ (l.length : Int) < n
  · have hg : Hid (getV l = .tuple #[.agg (pkc ⟨0, []⟩).toArray, .string (bs []), .int .i64 2]) := Lib.hid (by rw [getV, getP, hn.out, if_neg h0, if_neg h1, if_pos hbad])
    have hbad' : (decide (n < 4) = true) ∨ (decide (n < 4) = false ∧ decide (1004 < n) = true) ∨ (decide (n < 4) = false ∧ decide (1004 < n) = false ∧ decide ((l.length : Int) < n) = true) := by
      by_cases c1 : n < 4
      · exact .inl (decide_eq_true c1)
      · by_cases c2 : 1004 < n
        · exact .inr (.inl ⟨decide_eq_false c1, decide_eq_true c2⟩)
        · exact .inr (.inr ⟨decide_eq_false c1, decide_eq_false c2, decide_eq_true (by omega)⟩)
    clear hbad h0 h1
    rcases hbad' with c1 | ⟨c1, c2⟩ | ⟨c1, c2, c3⟩
    all_goals
      go_enter Tryz.func93, Tryz.ntmps93
      go_wp2_with (first
        | (refine wpList_run rfl (op_allocZ _ _ _ _ _ _ _ 73 zero73) ?_)
        | (go_at_call 110; refine (number110_any l (by omega) _).mono ?_; rintro e w1 ⟨rfl, rfl⟩; simp only [hn.out])
        | (refine wpList_store_new rfl 73 _ _ rfl _ #[.int .i64 0, .string (bs [])] rfl rfl (by kernel_rfl) zsize73 (one2 _ _) ?_))
      exact bodyPost_ret (v := .tuple #[.agg (pkc ⟨0, []⟩).toArray, .string (bs []), .int .i64 2]) (by simp [results, Tryz.results93, go_sem]) rfl ⟨by rw [hg.out], below_alloc (Below.refl _ _) _⟩
  · have hg : Hid (getV l = .tuple #[.agg (pkc ⟨0, (l.take n.toNat).drop 4⟩).toArray, .string (bs (l.drop n.toNat)), .int .i64 0]) := Lib.hid (by rw [getV, getP, hn.out, if_neg h0, if_neg h1, if_neg hbad])
    have c1 : decide (n < 4) = false := decide_eq_false (by omega)
    have c2 : decide (1004 < n) = false := decide_eq_false (by omega)
    have c3 : decide ((l.length : Int) < n) = false := decide_eq_false (by omega)
    obtain ⟨m, rfl⟩ := Int.eq_ofNat_of_zero_le (by omega : 0 ≤ n)
    have hm4 : 4 ≤ m := by omega
    have hml : m ≤ l.length := by omega
    rw [Int.toNat_natCast] at hg
    clear hbad h0 h1
    go_enter Tryz.func93, Tryz.ntmps93
    go_wp2_with (first
      | (refine wpList_run rfl (op_allocZ _ _ _ _ _ _ _ 73 zero73) ?_)
      | (go_at_call 110; refine (number110_any l (by omega) _).mono ?_; rintro e w1 ⟨rfl, rfl⟩; simp only [hn.out]))
    refine start_ (n := 10) (S := (fun _ => True)) (ds := []) #[false, false, false, false, false, false, false, false, false, false] (by kernel_rfl) rfl rfl (trivial) (fun hHeld => ?_)
    refine pure_ (i := 0) (N := (some 34)) (v := ?_) (a' := ?_) #[true, false, false, false, false, false, false, false, false, false] rfl rfl (by kernel_rfl) (fun _ _ _ h => h) (Or.inl ⟨by rfl, ?_⟩) ?_ ?_
    rotate_left
    · intro w'
      go_simp
      with_reducible rfl
    rotate_left
    · simp only [Act.put, List.setIfInBounds_toArray, List.set_cons_zero, List.set_cons_succ]
      rfl
    refine pure_ (i := 1) (N := (some 35)) (v := ?_) (a' := ?_) #[true, true, false, false, false, false, false, false, false, false] rfl rfl (by kernel_rfl) (fun _ _ _ h => h) (Or.inl ⟨by rfl, ?_⟩) ?_ ?_
    rotate_left
    · intro w'
      go_simp
      with_reducible rfl
    rotate_left
    · simp only [Act.put, List.setIfInBounds_toArray, List.set_cons_zero, List.set_cons_succ]
      rfl
    refine pure_ (i := 2) (N := (some 36)) (v := ?_) (a' := ?_) #[true, true, true, false, false, false, false, false, false, false] rfl rfl (by kernel_rfl) (fun _ _ _ h => h) (Or.inl ⟨by rfl, ?_⟩) ?_ ?_
    rotate_left
    · intro w'
      refine op_slice_mid _ _ _ _ _ _ _ _ _ _ l 4 m ?_ ?_ ?_ ?_ ?_
      omega
      omega
      rfl
      rfl
      rfl
    rotate_left
    · simp only [Act.put, List.setIfInBounds_toArray, List.set_cons_zero, List.set_cons_succ]
      rfl
    refine pure_ (i := 3) (N := (some 37)) (v := ?_) (a' := ?_) #[true, true, true, true, false, false, false, false, false, false] rfl rfl (by kernel_rfl) (fun _ _ _ h => h) (Or.inl ⟨by rfl, ?_⟩) ?_ ?_
    rotate_left
    · intro w'
      go_simp
      first | with_reducible rfl | rfl
    rotate_left
    · simp only [Act.put, List.setIfInBounds_toArray, List.set_cons_zero, List.set_cons_succ]
      rfl
    refine pure_ (i := 4) (N := (some 38)) (v := ?_) (a' := ?_) #[true, true, true, true, true, false, false, false, false, false] rfl rfl (by kernel_rfl) (fun _ _ _ h => h) (Or.inl ⟨by rfl, ?_⟩) ?_ ?_
    rotate_left
    · intro w'
      go_simp
      with_reducible rfl
    rotate_left
    · simp only [Act.put, List.setIfInBounds_toArray, List.set_cons_zero, List.set_cons_succ]
      rfl
    refine pure_ (i := 5) (N := (some 39)) (v := ?_) (a' := ?_) #[true, true, true, true, true, true, false, false, false, false] rfl rfl (by kernel_rfl) (fun _ _ _ h => h) (Or.inl ⟨by rfl, ?_⟩) ?_ ?_
    rotate_left
    · intro w'
      go_simp
      with_reducible rfl
    rotate_left
    · simp only [Act.put, List.setIfInBounds_toArray, List.set_cons_zero, List.set_cons_succ]
      rfl
    refine pure_ (i := 6) (N := (some 40)) (v := ?_) (a' := ?_) #[true, true, true, true, true, true, true, false, false, false] rfl rfl (by kernel_rfl) (fun _ _ _ h => h) (Or.inl ⟨by rfl, ?_⟩) ?_ ?_
    rotate_left
    · intro w'
      refine op_slice_drop _ _ _ _ _ _ _ _ _ l m ?_ ?_ ?_
      omega
      rfl
      rfl
    rotate_left
    · simp only [Act.put, List.setIfInBounds_toArray, List.set_cons_zero, List.set_cons_succ]
      rfl
    refine one_ (i := 7) (N := none) #[true, true, true, true, true, true, true, true, false, false] rfl rfl (by kernel_rfl) (by simp) (fun K hK => ?_)
    refine ev_store_new (w := w.drew) (by rfl) rfl 73 _ _ rfl (zeroCells 73) #[.int .i64 0, .string (bs ((l.take m).drop 4))] rfl rfl (by kernel_rfl) zsize73 (one2 _ _) ?_
    refine hK _ _ trivial (fun hHeld => ?_)
    try simp only [Act.put, List.setIfInBounds_toArray, List.set_cons_zero, List.set_cons_succ]
    refine pure_ (i := 8) (N := (some 3)) (v := ?_) (a' := ?_) #[true, true, true, true, true, true, true, true, true, false] rfl rfl (by kernel_rfl) (fun _ _ _ h => h) (Or.inl ⟨by rfl, ?_⟩) ?_ ?_
    rotate_left
    · intro w'
      go_simp
      with_reducible rfl
    rotate_left
    · simp only [Act.put, List.setIfInBounds_toArray, List.set_cons_zero, List.set_cons_succ]
      rfl
    refine pure_ (i := 9) (N := (some 4)) (v := ?_) (a' := ?_) #[true, true, true, true, true, true, true, true, true, true] rfl rfl (by kernel_rfl) (fun _ _ _ h => h) (Or.inl ⟨by rfl, ?_⟩) ?_ ?_
    rotate_left
    · intro w'
      go_simp
      with_reducible rfl
    rotate_left
    · simp only [Act.put, List.setIfInBounds_toArray, List.set_cons_zero, List.set_cons_succ]
      rfl
    refine done_ (by kernel_rfl) ?_
    go_wp2
    exact bodyPost_ret (v := .tuple #[.agg (pkc ⟨0, (l.take m).drop 4⟩).toArray, .string (bs (l.drop m)), .int .i64 0]) (by simp [results, Tryz.results93, go_sem]) rfl ⟨by rw [hg.out], below_drew (below_alloc (Below.refl _ _) _)⟩
theorem getP_rest {l : List UInt8} (hn : ¬ l = []) (h : (getP l).2.2 = 0) : (getP l).2.1.length < l.length := by
  have hl := List.length_pos_iff.2 hn
  rw [getP] at h ⊢
  split
  · rw [List.length_drop]; omega
  · split
    · rw [List.length_drop]; omega
    · split
      · rename_i h1 h2 h3; rw [if_neg h1, if_neg h2, if_pos h3] at h; exact absurd h (by decide)
      · rw [List.length_drop]; omega
/-- The lines that a text is. -/
def allP (l : List UInt8) : Option (List Pk) := if h : l = [] then some [] else if h2 : (getP l).2.2 = 0 then (allP (getP l).2.1).map ((getP l).1 :: ·) else none
termination_by l.length
decreasing_by exact getP_rest h h2
theorem allP_nil : allP [] = some [] := by rw [allP]; simp
theorem allP_bad {l : List UInt8} (hn : ¬ l = []) (h : ¬ (getP l).2.2 = 0) : allP l = none := by rw [allP, dif_neg hn, dif_neg h]
theorem allP_more {l : List UInt8} (hn : ¬ l = []) (h : (getP l).2.2 = 0) : allP l = (allP (getP l).2.1).map ((getP l).1 :: ·) := by rw [allP, dif_neg hn, dif_pos h]
def AllRes (l : List UInt8) (W w' : World) (e : Ending) : Prop := match allP l with
  | some ps => ∃ v, e = .returned (.tuple #[v, .int .i64 0]) ∧ w'.ownsRow W.heap.size 73 2 v ps.length (pksc ps)
  | none => e = .returned (.tuple #[.slice none 0 0, .int .i64 2])
theorem getP_err (l : List UInt8) : (getP l).2.2 = 0 ∨ (getP l).2.2 = 2 := by
  rw [getP]
  split
  · exact .inl rfl
  · split
    · exact .inl rfl
    · split
      · exact .inr rfl
      · exact .inl rfl
set_option maxHeartbeats 2000000 in
theorem all71_any (l : List UInt8) (hl : l.length ≤ 1000000) (w : World) : Calls Tryz.prog 71 #[.string (bs l)] w fun e w' => AllRes l w w' e ∧ Below w.heap.size w w' := by
  go_enter Tryz.func71, Tryz.ntmps71
  go_wp2
  go_loopw [0, 4] (fun s v wr => ∃ j : List UInt8, ∃ pre : List Pk, ∃ u : Value, s = .string (bs j) ∧ u = v ∧ pre.length + j.length ≤ l.length ∧ Hid (allP l = (allP j).map (pre ++ ·)) ∧ wr.ownsRow w.heap.size 73 2 u pre.length (pksc pre) ∧ Below w.heap.size w wr) (fun s _ _ => match s with | .string x => x.size | _ => 0)
  case atStart => exact ⟨l, [], _, rfl, rfl, by simp, Lib.hid (by simp), own_nil _ _ _ _, Below.refl _ _⟩
  case round =>
    obtain ⟨j, pre, u, rfl, rfl, hlen, hall, ho, hbel⟩ := hrel
    by_cases hj0 : j = []
    · subst hj0
      have hfin : Hid (allP l = some pre) := Lib.hid (by rw [hall.out, allP_nil]; simp)
      go_wp2
      go_ret2
      refine ⟨?_, hbel⟩
      rw [AllRes, hfin.out]
      exact ⟨u, rfl, ho⟩
    · have hjp : 0 < j.length := List.length_pos_iff.2 hj0
      have hb : (j == []) = false := by simpa using hj0
      obtain ⟨p, hp⟩ : ∃ p, Hid ((getP j).1 = p) := ⟨_, Lib.hid rfl⟩
      obtain ⟨rest, hrest⟩ : ∃ p, Hid ((getP j).2.1 = p) := ⟨_, Lib.hid rfl⟩
      obtain ⟨er, her⟩ : ∃ p, Hid ((getP j).2.2 = p) := ⟨_, Lib.hid rfl⟩
      have hv : Hid (getV j = .tuple #[.agg #[.int .i64 p.kind, .string (bs p.load)], .string (bs rest), .int .i64 er]) := Lib.hid (by rw [getV, hp.out, hrest.out, her.out])
      have h2 := getP_err j
      rw [her.out] at h2
      by_cases he : er = 0
      · subst he
        have hrl : rest.length < j.length := by rw [← hrest.out]; exact getP_rest hj0 her.out
        have hnx : Hid (allP l = (allP rest).map ((pre ++ [p]) ++ ·)) := Lib.hid (by
          rw [hall.out, allP_more hj0 her.out, hp.out, hrest.out]
          cases allP rest <;> simp)
        clear hj0 h2
        go_wp2_with (first
          | (refine wpList_runG (by rfl) (op_str_neqB _ _ _ _ _ _ _ _ _ _ j [] true (by rw [hb]; rfl) rfl rfl) ?_)
          | (go_at_call 93; refine (get93_any j (by omega) _).mono ?_; rintro e w1 ⟨rfl, hb1⟩; simp only [hv.out])
          | (refine wpList_run rfl (op_allocZ _ _ _ _ _ _ _ 73 zero73) ?_)
          | (refine wpList_store_new rfl 73 _ _ rfl _ #[.int .i64 p.kind, .string (bs p.load)] rfl rfl (by kernel_rfl) zsize73 (one2 _ _) ?_)
          | (refine wpList_load_mid rfl 73 _ rfl w1.heap.size 0 rfl (pkc p) _ (rangeAt_new w1 (pkc p) 73) und73 rfl (by kernel_rfl) ?_)
          | (refine wpList_append rfl (.tmp 19) (.tmp 21) 63 rfl w.heap.size 73 (.agg #[.int .i64 0, .string ⟨#[]⟩]) 2 24 und63 info73 rfl (by decide) u pre.length (pksc pre) rfl (own_below (own_below (own_below ho hb1) (below_alloc (Below.refl _ _) _)) (below_alloc (Below.refl _ _) _)) ⟨w1.heap.size + 1, 0, none⟩ 1 1 [.int .i64 p.kind, .string (bs p.load)] rfl rfl (by have h := news_new (w1.alloc (.cells (pkc p).toArray 73)) [.int .i64 p.kind, .string (bs p.load)] 73; rwa [World.size_alloc] at h) ?_ ?_ ?_ ?_ ?_))
        · intro u hu; simp at hu; rcases hu with rfl | rfl <;> rfl
        · unfold maxLen; omega
        · omega
        · have := hbel.size; have := hb1.size; simp; omega
        intro v9 W9 hown9 hgr9
        have hb9 : Below w.heap.size w W9 := (((below_call hbel hb1).alloc (by have := hbel.size; have := hb1.size; omega) _).alloc (by have := hbel.size; have := hb1.size; simp; omega) _).grown hgr9 (by have := hbel.size; have := hb1.size; simp; omega) (own_base ho)
        go_wp2
        go_roundw
        case rel => exact ⟨rest, pre ++ [p], v9, rfl, rfl, by simp; omega, hnx, by simpa [pksc] using hown9, hb9⟩
        case measure => exact hrl
      · have he : er = 2 := by omega
        subst he
        have hno : Hid (allP l = none) := Lib.hid (by rw [hall.out, allP_bad hj0 (by rw [her.out]; decide)]; rfl)
        clear hj0 h2
        go_wp2_with (first
          | (refine wpList_runG (by rfl) (op_str_neqB _ _ _ _ _ _ _ _ _ _ j [] true (by rw [hb]; rfl) rfl rfl) ?_)
          | (go_at_call 93; refine (get93_any j (by omega) _).mono ?_; rintro e w1 ⟨rfl, hb1⟩; simp only [hv.out])
          | (refine wpList_run rfl (op_allocZ _ _ _ _ _ _ _ 73 zero73) ?_)
          | (refine wpList_store_new rfl 73 _ _ rfl _ #[.int .i64 p.kind, .string (bs p.load)] rfl rfl (by kernel_rfl) zsize73 (one2 _ _) ?_))
        go_ret2
        refine ⟨?_, (below_call hbel hb1).alloc (by have := hbel.size; have := hb1.size; omega) _⟩
        rw [AllRes, hno.out]
        rfl
end Go.Proofs.YtmfpmedkhlhnpaaGreatDoor
