import Derived.Test.YtmfpmedkhlhnpaaGreatDoorS1
/- functions 77 (band.Put), 50 (bands). -/
namespace Go.Proofs.YtmfpmedkhlhnpaaGreatDoor
open Go.RowKit Go.Extern.Stop Go.Proofs.YtmfpmedkhlhnpaaGreatDoorW.PrintLast
set_option maxRecDepth 100000
set_option linter.unusedSimpArgs false
set_option linter.unusedVariables false
theorem bandPks_nil (c : UInt8) : bandPks c [] = [] := by rw [bandPks, chunks_nil]; rfl
theorem bandPks_piece (c : UInt8) {j : List UInt8} (h : ¬ j = []) (n : Nat) (hn : n = min 900 j.length) : bandPks c j = ⟨0, [c] ++ j.take n⟩ :: bandPks c (j.drop n) := by
  have e : chunks j = j.take n :: chunks (j.drop n) := by
    rw [chunks_cons h]
    rcases Nat.le_total 900 j.length with hle | hle
    · have : n = 900 := by omega
      subst this; rfl
    · have : n = j.length := by omega
      subst this
      rw [List.take_of_length_le hle, List.drop_of_length_le hle, List.take_length, List.drop_length]
  rw [bandPks, e]; rfl
theorem bandPks_len (c : UInt8) (l : List UInt8) : (bandPks c l).length ≤ l.length := by rw [bandPks, List.length_map]; exact chunks_len l
/-- append onto a row of the call's own of a row of the call's own, nil or not. -/
theorem wpList_appendO {P : Program} {ops : Array Oper} {rest : List Oper} {w : World} {oi : Oper} {a : Act} {Q : Exit → Act → World → Prop} (hgd : oi.guard = none) (s x : Operand) (t : TypeId)
    (ho : oi.op = .call { callee := .builtin .append, args := #[s, x], argTypes := #[t, t] })
    (base : Nat) (e : TypeId) (z : Value) (size bytes : Nat) (ht : P.underlying t = some (.slice e)) (hinfo : (P.info? e).map (fun i => (i.zero, i.size, i.bytes)) = some (some z, size, bytes)) (hzs : z.cells.size = size) (hsz : 0 < size)
    (v : Value) (n : Nat) (xs : List Value) (hs : a.eval s = v) (hown : w.ownsRow base e size v n xs)
    (b2 : Nat) (u : Value) (m : Nat) (news : List Value) (hx : a.eval x = u) (hown2 : w.ownsRow b2 e size u m news) (h1 : ∀ u ∈ news, u.oneCell' = true)
    (h63 : n + m ≤ maxLen) (hbytes : (n + m) * bytes ≤ 140737488355328) (hbase : base ≤ w.heap.size)
    (h : ∀ v' w', w'.ownsRow base e size v' (n + m) (xs ++ news) → w.grownBy w' v.ownBlock → (v'.ownBlock = v.ownBlock ∨ v'.ownBlock = some w.heap.size) → wpList P ops Q rest (a.put oi.dst v') w') : wpList P ops Q (oi :: rest) a w := by
  obtain ⟨i0, hi, hzz⟩ := Option.map_eq_some_iff.1 hinfo
  simp only [Prod.mk.injEq] at hzz
  obtain ⟨hz0, hz1, hz2⟩ := hzz
  refine wpList_plain hgd fun K hK => ?_
  have key : ∃ v' w', (Builtin.append_ #[t, t] oi.type #[v, u]).run P w = .ok v' w' ∧ w'.ownsRow base e size v' (n + m) (xs ++ news) ∧ w.grownBy w' v.ownBlock ∧ (v'.ownBlock = v.ownBlock ∨ v'.ownBlock = some w.heap.size) := by
    rcases hown2.2 with ⟨rfl, rfl⟩ | ⟨g, cap, cur, rfl, hb, hh, _⟩
    · have hn : news = [] := List.eq_nil_of_length_eq_zero (by simpa using hown2.1)
      subst hn
      have hr : (Builtin.append_ #[t, t] oi.type #[v, .slice none 0 0]).run P w = .ok v w := by
        rcases hown.2 with ⟨rfl, rfl⟩ | ⟨g, cap, cur, rfl, _, _, hnc, _⟩
        · simp [Builtin.append_, run_underlying ht, sizeOf, typeInfo, hi, Builtin.lenOf, Builtin.firstCells]
        · simp [Builtin.append_, run_underlying ht, sizeOf, typeInfo, hi, Builtin.lenOf, Builtin.firstCells, hnc, storeCells]
      exact ⟨v, w, hr, by simpa using hown, ⟨rfl, rfl, rfl, Nat.le_refl _, fun _ _ _ => rfl⟩, .inl rfl⟩
    · obtain ⟨v', w', hr, h2, h3, -, h5⟩ := run_append_own_at (P := P) w base t oi.type e i0 z size bytes ht hi hz0 hz1 hz2 hzs hsz v n xs hown ⟨g, 0, none⟩ m cap news hown2.1 (fun j q hj => hown2.cells (g := g) rfl j q hj) h1 h63 hbytes hbase
      exact ⟨v', w', hr, h2, h3, h5⟩
  obtain ⟨v', w', hr, h2, h3, h5⟩ := key
  unfold Oper.wp execOp
  simp only [ho, resolve, invoke, builtin, Sem.run_bind, Sem.run_pure, Result.andThen_ok, List.map_toArray, List.map_cons, List.map_nil, hs, hx, hr]
  exact hK _ _ (h v' w' h2 h3 h5)
theorem own_lt' {w : World} {base : Nat} {e : TypeId} {size n : Nat} {v : Value} {xs : List Value} (h : w.ownsRow base e size v n xs) (k : Nat) (hk : v.ownBlock = some k) : k < w.heap.size := by
  obtain ⟨A, c, rfl⟩ := own_slice h
  cases A with
  | none => simp [Value.ownBlock] at hk
  | some x => have := (own_addr h (x := x) rfl).2.2; simp [Value.ownBlock] at hk; omega
theorem pks_ones (ps : List Pk) : ∀ v ∈ pksc ps, v.oneCell' = true := by
  intro v hv
  obtain ⟨p, -, hp⟩ := List.mem_flatMap.1 hv
  simp only [pkc, List.mem_cons, List.not_mem_nil, or_false] at hp
  rcases hp with rfl | rfl <;> rfl
def BandRes (c : UInt8) (l : List UInt8) (w w' : World) (e : Ending) : Prop := ∃ v, e = .returned (.tuple #[v, .int .i64 0]) ∧ w'.ownsRow w.heap.size 73 2 v (bandPks c l).length (pksc (bandPks c l))
set_option maxHeartbeats 2000000 in
theorem band77_1 (l : List UInt8) (hl : l.length ≤ 10000) (W : World) : Calls Tryz.prog 77 #[.int .i64 1, .string (bs l), .int .i64 900] W fun e W' => BandRes 1 l W W' e ∧ Below W.heap.size W W' := by
  go_enter Tryz.func77, Tryz.ntmps77
  try go_wp2
  go_loopw [1, 8] (fun s o wr => ∃ j : List UInt8, ∃ pre : List Pk, ∃ u : Value, s = .string (bs j) ∧ u = o ∧ pre.length + j.length ≤ l.length ∧ Hid (pre ++ bandPks 1 j = bandPks 1 l) ∧ wr.ownsRow W.heap.size 73 2 u pre.length (pksc pre) ∧ Below W.heap.size W wr) (fun s _ _ => match s with | .string x => x.size | _ => 0)
  case atStart => exact ⟨l, [], _, rfl, rfl, by simp, Lib.hid rfl, own_nil _ _ _ _, Below.refl _ _⟩
  case round =>
    obtain ⟨j, pre, u, rfl, rfl, hlen, heq, ho, hbel⟩ := hrel
    have hszb := hbel.size
    by_cases hj0 : j = []
    · subst hj0
      go_wp2
      go_ret2
      exact ⟨⟨u, rfl, by rw [← heq.out, bandPks_nil, List.append_nil]; exact ho⟩, hbel⟩
    · have hjp : 0 < j.length := List.length_pos_iff.2 hj0
      have hb : (j == []) = false := by simpa using hj0
      obtain ⟨n, hn⟩ : ∃ n, n = min 900 j.length := ⟨_, rfl⟩
      have hpc := Lib.hid (bandPks_piece 1 hj0 n hn)
      have hnj : n ≤ j.length := by omega
      have hn1 : 1 ≤ n := by omega
      have hmin : min (900 : Int) (j.length : Int) = (n : Int) := by omega
      have Hn := Lib.hid hn
      clear hj0 hn
      go_wp2_with (first | (refine wpList_runG (by rfl) (op_str_neqB _ _ _ _ _ _ _ _ _ _ j [] true (by rw [hb]; rfl) rfl rfl) ?_))
      refine start_ (n := 13) (S := (fun V => Below wr.heap.size wr V)) (ds := [11]) #[false, false, false, false, false, false, false, false, false, false, false, false, false] (by kernel_rfl) rfl rfl (below_drew (Below.refl _ _)) (fun hHeld => ?_)
      refine pure_ (i := 0) (N := (some 30)) (v := ?_) (a' := ?_) #[true, false, false, false, false, false, false, false, false, false, false, false, false] rfl rfl (by kernel_rfl) (fun _ _ _ h => h) (Or.inl ⟨by rfl, ?_⟩) ?_ ?_
      rotate_left
      · intro w'
        go_simp
        with_reducible rfl
      rotate_left
      · simp only [Act.put, List.setIfInBounds_toArray, List.set_cons_zero, List.set_cons_succ]
        rfl
      refine pure_ (i := 1) (N := (some 31)) (v := ?_) (a' := ?_) #[true, true, false, false, false, false, false, false, false, false, false, false, false] rfl rfl (by kernel_rfl) (fun _ _ _ h => h) (Or.inl ⟨by rfl, ?_⟩) ?_ ?_
      rotate_left
      · intro w'
        go_simp
        with_reducible rfl
      rotate_left
      · simp only [Act.put, List.setIfInBounds_toArray, List.set_cons_zero, List.set_cons_succ]
        rfl
      refine pure_ (i := 2) (N := (some 32)) (v := ?_) (a' := ?_) #[true, true, true, false, false, false, false, false, false, false, false, false, false] rfl rfl (by kernel_rfl) (fun _ _ _ h => h) (Or.inl ⟨by rfl, ?_⟩) ?_ ?_
      rotate_left
      · intro w'
        go_simp
        with_reducible rfl
      rotate_left
      · simp only [Act.put, List.setIfInBounds_toArray, List.set_cons_zero, List.set_cons_succ]
        rfl
      refine pure_ (i := 5) (N := (some 35)) (v := ?_) (a' := ?_) #[true, true, true, false, false, true, false, false, false, false, false, false, false] rfl rfl (by kernel_rfl) (fun _ _ _ h => h) (Or.inl ⟨by rfl, ?_⟩) ?_ ?_
      rotate_left
      · intro w'
        go_simp
        with_reducible rfl
      rotate_left
      · simp only [Act.put, List.setIfInBounds_toArray, List.set_cons_zero, List.set_cons_succ]
        rfl
      refine pure_ (i := 6) (N := (some 36)) (v := ?_) (a' := ?_) #[true, true, true, false, false, true, true, false, false, false, false, false, false] rfl rfl (by kernel_rfl) (fun _ _ _ h => h) (Or.inl ⟨by rfl, ?_⟩) ?_ ?_
      rotate_left
      · intro w'
        go_simp
        with_reducible rfl
      rotate_left
      · simp only [Act.put, List.setIfInBounds_toArray, List.set_cons_zero, List.set_cons_succ]
        rfl
      refine pure_ (i := 7) (N := (some 37)) (v := ?_) (a' := ?_) #[true, true, true, false, false, true, true, true, false, false, false, false, false] rfl rfl (by kernel_rfl) (fun _ _ _ h => h) (Or.inl ⟨by rfl, ?_⟩) ?_ ?_
      rotate_left
      · intro w'
        refine op_slice_take _ _ _ _ _ _ _ _ _ j n hnj ?_ ?_
        rfl
        rfl
      rotate_left
      · simp only [Act.put, List.setIfInBounds_toArray, List.set_cons_zero, List.set_cons_succ]
        rfl
      refine one_ (i := 3) (N := (some 33)) #[true, true, true, true, false, true, true, true, false, false, false, false, false] rfl rfl (by kernel_rfl) (by simp) (fun K hK => ?_)
      refine ev_build (by rfl) rfl [.int .u8 1] 5 1 1 (by first | (go_simp; done) | (go_simp; rfl) | (go_simp; exact ⟨rfl, rfl⟩)) rfl (by decide) ?_
      intro g3 W3 hown3 hb3
      refine hK _ _ (below_call hHeld hb3) (fun hHeld => ?_)
      simp only [Act.put, List.setIfInBounds_toArray, List.set_cons_zero, List.set_cons_succ]
      refine one_ (i := 4) (N := (some 34)) #[true, true, true, true, true, true, true, true, false, false, false, false, false] rfl rfl (by kernel_rfl) (by simp) (fun K hK => ?_)
      refine ev_value (by rfl) rfl (op_own_bytes _ _ _ _ _ _ _ (.tmp 33) (xs := [1]) rfl hown3) ?_
      refine hK _ _ hHeld (fun hHeld => ?_)
      simp only [Act.put, List.setIfInBounds_toArray, List.set_cons_zero, List.set_cons_succ]
      refine pure_ (i := 8) (N := (some 38)) (v := ?_) (a' := ?_) #[true, true, true, true, true, true, true, true, true, false, false, false, false] rfl rfl (by kernel_rfl) (fun _ _ _ h => h) (Or.inl ⟨by rfl, ?_⟩) ?_ ?_
      rotate_left
      · intro w'
        refine op_concat _ _ _ _ _ _ _ _ _ _ [1] (j.take n) ?_ ?_ ?_
        rfl
        rfl
        simp; omega
      rotate_left
      · simp only [Act.put, List.setIfInBounds_toArray, List.set_cons_zero, List.set_cons_succ]
        rfl
      refine pure_ (i := 9) (N := (some 39)) (v := ?_) (a' := ?_) #[true, true, true, true, true, true, true, true, true, true, false, false, false] rfl rfl (by kernel_rfl) (fun _ _ _ h => h) (Or.inl ⟨by rfl, ?_⟩) ?_ ?_
      rotate_left
      · intro w'
        go_simp
        with_reducible rfl
      rotate_left
      · simp only [Act.put, List.setIfInBounds_toArray, List.set_cons_zero, List.set_cons_succ]
        rfl
      refine one_ (i := 10) (N := (some 40)) #[true, true, true, true, true, true, true, true, true, true, true, false, false] rfl rfl (by kernel_rfl) (by simp) (fun K hK => ?_)
      refine ev_build (by rfl) rfl [.int .i64 0, .string (bs ([1] ++ j.take n))] 73 2 1 (by first | (go_simp; done) | (go_simp; rfl) | (go_simp; exact ⟨rfl, rfl⟩)) rfl (by decide) ?_
      intro g8 W8 hown8 hb8
      refine hK _ _ (below_call hHeld hb8) (fun hHeld => ?_)
      simp only [Act.put, List.setIfInBounds_toArray, List.set_cons_zero, List.set_cons_succ]
      refine last_ (i := 11) (N := (some 41)) #[true, true, true, true, true, true, true, true, true, true, true, true, false] rfl rfl (by kernel_rfl) (by simp) (fun K hK => ?_)
      have hoV := own_below ho hHeld
      have hszV := hHeld.size
      refine ev_append (by rfl) rfl (.tmp 30) (.tmp 40) 63 rfl W.heap.size 73 (.agg #[.int .i64 0, .string ⟨#[]⟩]) 2 24 und63 info73 rfl (by decide) u pre.length (pksc pre) rfl hoV ⟨g8, 0, none⟩ 1 1 [.int .i64 0, .string (bs ([1] ++ j.take n))] rfl rfl ?_ ?_ ?_ ?_ ?_ ?_
      · intro j u hj; rw [Addr.add_mid, Nat.zero_add]; have := hown8.cells (g := g8) rfl j u hj; rwa [Addr.add_mid, Nat.zero_add] at this
      · intro u hu; simp at hu; rcases hu with rfl | rfl <;> rfl
      · unfold maxLen; omega
      · omega
      · omega
      intro v9 W9 hown9 hgr9
      have hb9 : Below W.heap.size wr W9 := (hHeld.mono hszb).grown hgr9 (by omega) (own_base hoV)
      refine hK _ _ ?_
      simp only [Act.put, List.setIfInBounds_toArray, List.set_cons_zero, List.set_cons_succ]
      refine pure_ (i := 12) (N := (some 8)) (v := ?_) (a' := ?_) #[true, true, true, true, true, true, true, true, true, true, true, true, true] rfl rfl (by kernel_rfl) (fun _ _ _ h => h) (Or.inl ⟨by rfl, ?_⟩) ?_ ?_
      rotate_left
      · intro w'
        go_simp
        with_reducible rfl
      rotate_left
      · simp only [Act.put, List.setIfInBounds_toArray, List.set_cons_zero, List.set_cons_succ]
        rfl
      refine done_ (by kernel_rfl) ?_
      go_wp2_with (first | (refine wpList_runG (by rfl) (op_slice_drop _ _ _ _ _ _ _ _ _ j n hnj rfl rfl) ?_))
      go_roundw
      case rel => exact ⟨j.drop n, pre ++ [⟨0, [1] ++ j.take n⟩], v9, rfl, rfl, by simp; omega, Lib.hid (by rw [← heq.out, hpc.out]; simp), by simpa [pksc] using hown9, hbel.trans hb9⟩
      case measure => show (j.drop n).length < j.length; rw [List.length_drop]; omega
set_option maxHeartbeats 2000000 in
theorem band77_2 (l : List UInt8) (hl : l.length ≤ 10000) (W : World) : Calls Tryz.prog 77 #[.int .i64 2, .string (bs l), .int .i64 900] W fun e W' => BandRes 2 l W W' e ∧ Below W.heap.size W W' := by
  go_enter Tryz.func77, Tryz.ntmps77
  try go_wp2
  go_loopw [1, 8] (fun s o wr => ∃ j : List UInt8, ∃ pre : List Pk, ∃ u : Value, s = .string (bs j) ∧ u = o ∧ pre.length + j.length ≤ l.length ∧ Hid (pre ++ bandPks 2 j = bandPks 2 l) ∧ wr.ownsRow W.heap.size 73 2 u pre.length (pksc pre) ∧ Below W.heap.size W wr) (fun s _ _ => match s with | .string x => x.size | _ => 0)
  case atStart => exact ⟨l, [], _, rfl, rfl, by simp, Lib.hid rfl, own_nil _ _ _ _, Below.refl _ _⟩
  case round =>
    obtain ⟨j, pre, u, rfl, rfl, hlen, heq, ho, hbel⟩ := hrel
    have hszb := hbel.size
    by_cases hj0 : j = []
    · subst hj0
      go_wp2
      go_ret2
      exact ⟨⟨u, rfl, by rw [← heq.out, bandPks_nil, List.append_nil]; exact ho⟩, hbel⟩
    · have hjp : 0 < j.length := List.length_pos_iff.2 hj0
      have hb : (j == []) = false := by simpa using hj0
      obtain ⟨n, hn⟩ : ∃ n, n = min 900 j.length := ⟨_, rfl⟩
      have hpc := Lib.hid (bandPks_piece 2 hj0 n hn)
      have hnj : n ≤ j.length := by omega
      have hn1 : 1 ≤ n := by omega
      have hmin : min (900 : Int) (j.length : Int) = (n : Int) := by omega
      have Hn := Lib.hid hn
      clear hj0 hn
      go_wp2_with (first | (refine wpList_runG (by rfl) (op_str_neqB _ _ _ _ _ _ _ _ _ _ j [] true (by rw [hb]; rfl) rfl rfl) ?_))
      refine start_ (n := 13) (S := (fun V => Below wr.heap.size wr V)) (ds := [11]) #[false, false, false, false, false, false, false, false, false, false, false, false, false] (by kernel_rfl) rfl rfl (below_drew (Below.refl _ _)) (fun hHeld => ?_)
      refine pure_ (i := 0) (N := (some 30)) (v := ?_) (a' := ?_) #[true, false, false, false, false, false, false, false, false, false, false, false, false] rfl rfl (by kernel_rfl) (fun _ _ _ h => h) (Or.inl ⟨by rfl, ?_⟩) ?_ ?_
      rotate_left
      · intro w'
        go_simp
        with_reducible rfl
      rotate_left
      · simp only [Act.put, List.setIfInBounds_toArray, List.set_cons_zero, List.set_cons_succ]
        rfl
      refine pure_ (i := 1) (N := (some 31)) (v := ?_) (a' := ?_) #[true, true, false, false, false, false, false, false, false, false, false, false, false] rfl rfl (by kernel_rfl) (fun _ _ _ h => h) (Or.inl ⟨by rfl, ?_⟩) ?_ ?_
      rotate_left
      · intro w'
        go_simp
        with_reducible rfl
      rotate_left
      · simp only [Act.put, List.setIfInBounds_toArray, List.set_cons_zero, List.set_cons_succ]
        rfl
      refine pure_ (i := 2) (N := (some 32)) (v := ?_) (a' := ?_) #[true, true, true, false, false, false, false, false, false, false, false, false, false] rfl rfl (by kernel_rfl) (fun _ _ _ h => h) (Or.inl ⟨by rfl, ?_⟩) ?_ ?_
      rotate_left
      · intro w'
        go_simp
        with_reducible rfl
      rotate_left
      · simp only [Act.put, List.setIfInBounds_toArray, List.set_cons_zero, List.set_cons_succ]
        rfl
      refine pure_ (i := 5) (N := (some 35)) (v := ?_) (a' := ?_) #[true, true, true, false, false, true, false, false, false, false, false, false, false] rfl rfl (by kernel_rfl) (fun _ _ _ h => h) (Or.inl ⟨by rfl, ?_⟩) ?_ ?_
      rotate_left
      · intro w'
        go_simp
        with_reducible rfl
      rotate_left
      · simp only [Act.put, List.setIfInBounds_toArray, List.set_cons_zero, List.set_cons_succ]
        rfl
      refine pure_ (i := 6) (N := (some 36)) (v := ?_) (a' := ?_) #[true, true, true, false, false, true, true, false, false, false, false, false, false] rfl rfl (by kernel_rfl) (fun _ _ _ h => h) (Or.inl ⟨by rfl, ?_⟩) ?_ ?_
      rotate_left
      · intro w'
        go_simp
        with_reducible rfl
      rotate_left
      · simp only [Act.put, List.setIfInBounds_toArray, List.set_cons_zero, List.set_cons_succ]
        rfl
      refine pure_ (i := 7) (N := (some 37)) (v := ?_) (a' := ?_) #[true, true, true, false, false, true, true, true, false, false, false, false, false] rfl rfl (by kernel_rfl) (fun _ _ _ h => h) (Or.inl ⟨by rfl, ?_⟩) ?_ ?_
      rotate_left
      · intro w'
        refine op_slice_take _ _ _ _ _ _ _ _ _ j n hnj ?_ ?_
        rfl
        rfl
      rotate_left
      · simp only [Act.put, List.setIfInBounds_toArray, List.set_cons_zero, List.set_cons_succ]
        rfl
      refine one_ (i := 3) (N := (some 33)) #[true, true, true, true, false, true, true, true, false, false, false, false, false] rfl rfl (by kernel_rfl) (by simp) (fun K hK => ?_)
      refine ev_build (by rfl) rfl [.int .u8 2] 5 1 1 (by first | (go_simp; done) | (go_simp; rfl) | (go_simp; exact ⟨rfl, rfl⟩)) rfl (by decide) ?_
      intro g3 W3 hown3 hb3
      refine hK _ _ (below_call hHeld hb3) (fun hHeld => ?_)
      simp only [Act.put, List.setIfInBounds_toArray, List.set_cons_zero, List.set_cons_succ]
      refine one_ (i := 4) (N := (some 34)) #[true, true, true, true, true, true, true, true, false, false, false, false, false] rfl rfl (by kernel_rfl) (by simp) (fun K hK => ?_)
      refine ev_value (by rfl) rfl (op_own_bytes _ _ _ _ _ _ _ (.tmp 33) (xs := [2]) rfl hown3) ?_
      refine hK _ _ hHeld (fun hHeld => ?_)
      simp only [Act.put, List.setIfInBounds_toArray, List.set_cons_zero, List.set_cons_succ]
      refine pure_ (i := 8) (N := (some 38)) (v := ?_) (a' := ?_) #[true, true, true, true, true, true, true, true, true, false, false, false, false] rfl rfl (by kernel_rfl) (fun _ _ _ h => h) (Or.inl ⟨by rfl, ?_⟩) ?_ ?_
      rotate_left
      · intro w'
        refine op_concat _ _ _ _ _ _ _ _ _ _ [2] (j.take n) ?_ ?_ ?_
        rfl
        rfl
        simp; omega
      rotate_left
      · simp only [Act.put, List.setIfInBounds_toArray, List.set_cons_zero, List.set_cons_succ]
        rfl
      refine pure_ (i := 9) (N := (some 39)) (v := ?_) (a' := ?_) #[true, true, true, true, true, true, true, true, true, true, false, false, false] rfl rfl (by kernel_rfl) (fun _ _ _ h => h) (Or.inl ⟨by rfl, ?_⟩) ?_ ?_
      rotate_left
      · intro w'
        go_simp
        with_reducible rfl
      rotate_left
      · simp only [Act.put, List.setIfInBounds_toArray, List.set_cons_zero, List.set_cons_succ]
        rfl
      refine one_ (i := 10) (N := (some 40)) #[true, true, true, true, true, true, true, true, true, true, true, false, false] rfl rfl (by kernel_rfl) (by simp) (fun K hK => ?_)
      refine ev_build (by rfl) rfl [.int .i64 0, .string (bs ([2] ++ j.take n))] 73 2 1 (by first | (go_simp; done) | (go_simp; rfl) | (go_simp; exact ⟨rfl, rfl⟩)) rfl (by decide) ?_
      intro g8 W8 hown8 hb8
      refine hK _ _ (below_call hHeld hb8) (fun hHeld => ?_)
      simp only [Act.put, List.setIfInBounds_toArray, List.set_cons_zero, List.set_cons_succ]
      refine last_ (i := 11) (N := (some 41)) #[true, true, true, true, true, true, true, true, true, true, true, true, false] rfl rfl (by kernel_rfl) (by simp) (fun K hK => ?_)
      have hoV := own_below ho hHeld
      have hszV := hHeld.size
      refine ev_append (by rfl) rfl (.tmp 30) (.tmp 40) 63 rfl W.heap.size 73 (.agg #[.int .i64 0, .string ⟨#[]⟩]) 2 24 und63 info73 rfl (by decide) u pre.length (pksc pre) rfl hoV ⟨g8, 0, none⟩ 1 1 [.int .i64 0, .string (bs ([2] ++ j.take n))] rfl rfl ?_ ?_ ?_ ?_ ?_ ?_
      · intro j u hj; rw [Addr.add_mid, Nat.zero_add]; have := hown8.cells (g := g8) rfl j u hj; rwa [Addr.add_mid, Nat.zero_add] at this
      · intro u hu; simp at hu; rcases hu with rfl | rfl <;> rfl
      · unfold maxLen; omega
      · omega
      · omega
      intro v9 W9 hown9 hgr9
      have hb9 : Below W.heap.size wr W9 := (hHeld.mono hszb).grown hgr9 (by omega) (own_base hoV)
      refine hK _ _ ?_
      simp only [Act.put, List.setIfInBounds_toArray, List.set_cons_zero, List.set_cons_succ]
      refine pure_ (i := 12) (N := (some 8)) (v := ?_) (a' := ?_) #[true, true, true, true, true, true, true, true, true, true, true, true, true] rfl rfl (by kernel_rfl) (fun _ _ _ h => h) (Or.inl ⟨by rfl, ?_⟩) ?_ ?_
      rotate_left
      · intro w'
        go_simp
        with_reducible rfl
      rotate_left
      · simp only [Act.put, List.setIfInBounds_toArray, List.set_cons_zero, List.set_cons_succ]
        rfl
      refine done_ (by kernel_rfl) ?_
      go_wp2_with (first | (refine wpList_runG (by rfl) (op_slice_drop _ _ _ _ _ _ _ _ _ j n hnj rfl rfl) ?_))
      go_roundw
      case rel => exact ⟨j.drop n, pre ++ [⟨0, [2] ++ j.take n⟩], v9, rfl, rfl, by simp; omega, Lib.hid (by rw [← heq.out, hpc.out]; simp), by simpa [pksc] using hown9, hbel.trans hb9⟩
      case measure => show (j.drop n).length < j.length; rw [List.length_drop]; omega
theorem und65s : Tryz.prog.underlying 65 = some (.struct (Tryz.prog.fieldsOf 65)) := by kernel_rfl
set_option maxHeartbeats 4000000 in
theorem bands50_any (base g : Nat) (ls : List Pk) (r : Rep) (a : RepA) (W : World) (hW : Wr base g W ls) (hs : r.sum.length = 32) (hd : r.data.length ≤ 2000) (hn : r.note.length ≤ 2000) (hl : ls.length ≤ 50000) :
    Calls Tryz.prog 50 #[.pointer (some ⟨g, 0, none⟩), .agg (repc r a).toArray] W fun e W' => e = .returned (.tuple #[]) ∧ Wr base g W' (ls ++ (bandPks 1 r.data ++ bandPks 2 r.note)) ∧ Below base W W' := by
  have hltg := hW.lt
  have hbg := hW.1
  obtain ⟨cs0, Hcs⟩ : ∃ cs, Hid (repc r a = cs) := ⟨_, Lib.hid rfl⟩
  have K43 : Hid (cs0[43]? = some (.string (bs r.data))) := Lib.hid (by rw [← Hcs.out]; exact rep_t12 r a hs)
  have K44 : Hid (cs0[44]? = some (.string (bs r.note))) := Lib.hid (by rw [← Hcs.out]; exact rep_t13 r a hs)
  rw [Hcs.out]
  have c43 := K43.out
  have hbx0 := Boxed.start W cs0 44
  have l1 := bandPks_len 1 r.data
  have l2 := bandPks_len 2 r.note
  have HW := Lib.hid hW
  clear hs hW
  go_enter Tryz.func50, Tryz.ntmps50
  go_wp2_with fail
  refine (band77_1 r.data (by omega) _).mono ?_
  rintro e W1 ⟨⟨v1, rfl, ho1⟩, hb1⟩
  have hbx1 := hbx0.call hb1
  have hltb1 := hbx1.lt
  have c44 := hbx1.cell 44 _ K44.out
  have HB1 := Lib.hid hbx1.below
  clear c43
  go_wp2_with fail
  refine (band77_2 r.note (by omega) _).mono ?_
  rintro e W2 ⟨⟨v2, rfl, ho2⟩, hb2⟩
  have hB2 : Below W.heap.size W W2 := below_call HB1.out hb2
  obtain ⟨-, v, hgW, hoW⟩ := HW.out
  have hg : W2.heap[g]? = some (.cells #[v] 65 (0, 0)) := (hB2.block g hltg).trans hgW
  have ho := own_below hoW hB2
  have hc0 : W2.cell? ⟨g, 0, none⟩ = some v := by rw [cell_of_row W2 g 0 #[v] 65 (0, 0) hg]; rfl
  have hsz2 := hB2.size
  have ho1b := own_below ho1 hb2
  have hz0 : (W.alloc (.cells cs0.toArray 44)).heap.size = W.heap.size + 1 := World.size_alloc _ _
  rw [hz0] at ho1b
  have hz1 : W.heap.size + 1 ≤ W1.heap.size := by have := hb1.size; omega
  obtain ⟨A2, c2, rfl⟩ := own_slice ho2
  have HLt := Lib.hid fun k (hk : v.ownBlock = some k) => own_lt' hoW k hk
  have HO2 := Lib.hid ho2
  have HG := Lib.hid hg
  have HO := Lib.hid ho
  have HO1 := Lib.hid ho1b
  clear hz0 c44 hgW hoW ho2 hg ho ho1b ho1
  go_wp2_with (first
    | (refine wpList_appendO rfl (.tmp 24) (.tmp 25) 63 rfl base 73 (.agg #[.int .i64 0, .string ⟨#[]⟩]) 2 24 und63 info73 rfl (by decide) v ls.length (pksc ls) rfl HO.out (W.heap.size + 1) v1 (bandPks 1 r.data).length (pksc (bandPks 1 r.data)) rfl HO1.out (pks_ones _) ?_ ?_ ?_ ?_))
  · unfold maxLen; omega
  · omega
  · omega
  intro v8 W8 hown8 hgr8 hat8
  have hg8 : W8.heap[g]? = some (.cells #[v] 65 (0, 0)) := (hgr8.block g (by omega) (fun e => own_ne HG.out HO.out e.symm)).trans HG.out
  have ho28 : W8.ownsRow W1.heap.size 73 2 (.slice A2 (bandPks 2 r.note).length c2) (bandPks 2 r.note).length (pksc (bandPks 2 r.note)) := own_kept HO2.out fun x hx => hgr8.block x.block (own_addr HO2.out hx).2.2 (fun e => by
    have h1 := (own_addr HO2.out hx).1
    have h2 := HLt.out _ e.symm
    omega)
  have hb8 : Below base W2 W8 := (Below.refl base W2).grown hgr8 (by omega) (own_base HO.out)
  have hsz8 := hb8.size
  have HO8 := Lib.hid hown8
  have HG8 := Lib.hid hg8
  have HO28 := Lib.hid ho28
  clear hown8 hgr8 hat8 hg8 ho28
  go_wp2_with (first
    | (refine wpList_appendO rfl (.tmp 26) (.tmp 27) 63 rfl base 73 (.agg #[.int .i64 0, .string ⟨#[]⟩]) 2 24 und63 info73 rfl (by decide) v8 (ls.length + (bandPks 1 r.data).length) (pksc ls ++ pksc (bandPks 1 r.data)) rfl HO8.out W1.heap.size (.slice A2 (bandPks 2 r.note).length c2) (bandPks 2 r.note).length (pksc (bandPks 2 r.note)) rfl HO28.out (pks_ones _) ?_ ?_ ?_ ?_))
  · unfold maxLen; omega
  · omega
  · omega
  intro v9 W9 hown9 hgr9 hat9
  have hg9 : W9.heap[g]? = some (.cells #[v] 65 (0, 0)) := (hgr9.block g (by omega) (fun e => own_ne HG8.out HO8.out e.symm)).trans HG8.out
  have hb9 : Below base W8 W9 := (Below.refl base W8).grown hgr9 (by omega) (own_base HO8.out)
  have hlist : pksc (ls ++ (bandPks 1 r.data ++ bandPks 2 r.note)) = pksc ls ++ (pksc (bandPks 1 r.data) ++ pksc (bandPks 2 r.note)) := by rw [pksc_append, pksc_append]
  have hlen : (ls ++ (bandPks 1 r.data ++ bandPks 2 r.note)).length = ls.length + (bandPks 1 r.data).length + (bandPks 2 r.note).length := by simp; omega
  have hfin := Wr.stored (ls := ls ++ (bandPks 1 r.data ++ bandPks 2 r.note)) (v := v9) hbg hg9 (by rw [hlen, hlist]; exact hown9)
  have HFin := Lib.hid hfin
  have HBel : Hid (Below base W (W9.setCell ⟨g, 0, none⟩ v9)) := Lib.hid (((hB2.mono (by omega)).trans (hb8.trans hb9)).setCell hbg _)
  have HV := Lib.hid (own_cells1 hown9)
  have HG9 := Lib.hid hg9
  clear hown9 hgr9 hat9 hg9 hlist hlen hfin
  go_wp2_with (first
    | (refine wpList_store1 rfl 63 _ _ rfl g v v9 65 rfl rfl HV.out.1 HV.out.2 HG9.out (by kernel_rfl) rfl ?_))
  go_end0
  exact ⟨rfl, HFin.out, HBel.out⟩
end Go.Proofs.YtmfpmedkhlhnpaaGreatDoor
