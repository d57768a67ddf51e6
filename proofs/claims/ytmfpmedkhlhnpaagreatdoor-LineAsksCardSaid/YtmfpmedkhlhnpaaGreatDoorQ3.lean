import Derived.Test.YtmfpmedkhlhnpaaGreatDoorQ2
/- functions 43, 45. -/
namespace Go.Proofs.YtmfpmedkhlhnpaaGreatDoor
open Go.RowKit Go.Extern.Stop Go.Proofs.YtmfpmedkhlhnpaaGreatDoorW.PrintLast
set_option maxRecDepth 100000
set_option linter.unusedSimpArgs false
set_option linter.unusedVariables false
theorem und22 : Tryz.prog.underlying 22 = some (.slice 9) := by kernel_rfl
theorem info9 : (Tryz.prog.info? 9).map (fun i => (i.zero, i.size, i.bytes)) = some (some (.string ⟨#[]⟩), 1, 16) := by kernel_rfl
theorem siz73 (w : World) : (sizeOf 73).run Tryz.prog w = .ok 2 w := by kernel_rfl
/-- The lines that a text is; none, if it is none. -/
def allD (l : List UInt8) : List Pk := (allP l).getD []
theorem allP_len (l : List UInt8) : ∀ ps, allP l = some ps → ps.length ≤ l.length := by
  induction h : l.length using Nat.strongRecOn generalizing l with
  | ind n ih =>
    intro ps hps
    by_cases hn : l = []
    · subst hn; rw [allP_nil] at hps; injection hps with hps; subst hps; simp
    · by_cases he : (getP l).2.2 = 0
      · rw [allP_more hn he] at hps
        obtain ⟨r, hr, rfl⟩ := Option.map_eq_some_iff.1 hps
        have hlt := getP_rest hn he
        have := ih _ (by omega) (getP l).2.1 rfl r hr
        simp; omega
      · rw [allP_bad hn he] at hps; cases hps
theorem allD_len (l : List UInt8) : (allD l).length ≤ l.length := by
  rw [allD]
  cases h : allP l with
  | none => simp
  | some ps => exact allP_len l ps h
def AllRd (l : List UInt8) (w' : World) (e : Ending) : Prop := ∃ A ca er, e = .returned (.tuple #[.slice A (allD l).length ca, .int .i64 er]) ∧ Rd w' A (pksc (allD l)) ∧ (allD l).length ≤ ca
theorem own_cap {w : World} {base : Nat} {e : TypeId} {size n : Nat} {A : Option Addr} {m c : Nat} {xs : List Value} (h : w.ownsRow base e size (.slice A m c) n xs) : n ≤ c := by
  rcases h.2 with ⟨h1, h2⟩ | ⟨g, cap, cur, h1, _, _, h2, _⟩
  · omega
  · injection h1 with _ _ h4; omega
theorem all71_rd (l : List UInt8) (hl : l.length ≤ 1000000) (w : World) : Calls Tryz.prog 71 #[.string (bs l)] w fun e w' => AllRd l w' e ∧ Below w.heap.size w w' :=
  (all71_any l hl w).mono fun e w' ⟨h, hb⟩ => ⟨by
    rw [AllRes] at h
    cases hA : allP l with
    | none =>
      rw [hA] at h
      have hD : allD l = [] := by rw [allD, hA]; rfl
      exact ⟨none, 0, 2, by rw [hD]; exact h, by rw [hD]; exact fun hn => absurd rfl hn, by rw [hD]; exact Nat.le_refl _⟩
    | some ps =>
      rw [hA] at h
      have hD : allD l = ps := by rw [allD, hA]; rfl
      obtain ⟨v, he, ho⟩ := h
      obtain ⟨A, ca, rfl⟩ := own_slice ho
      exact ⟨A, ca, 0, by rw [hD]; exact he, by rw [hD]; exact Rd.of_own ho, by rw [hD]; exact own_cap ho⟩, hb⟩
theorem und63e : Tryz.prog.underlying 63 = some (.slice (Tryz.prog.elem 63)) := by kernel_rfl
theorem siz63e (w : World) : (sizeOf (Tryz.prog.elem 63)).run Tryz.prog w = .ok 2 w := by kernel_rfl
theorem op_slice63 (ρ : Operand → Value) (dst : Option Tmp) (ty : TypeId) (pos : String) (after : Array Edge) (g : Option (Nat × Bool)) (w : World) (x y : Operand) (b o n ca k : Nat) (R : Option Addr) (hR : Hid ((if ca = k then some ⟨b, o, none⟩ else some ⟨b, o + k * 2, none⟩) = R)) (hk : k ≤ n) (hx : ρ x = .slice (some ⟨b, o, none⟩) n ca) (hy : ρ y = .int .i64 ((k : Nat) : Int)) :
    (execOp ρ ⟨dst, .slice 63 x (some y) none none, ty, pos, after, g⟩).run Tryz.prog w = .ok (.value (.slice R (n - k) (ca - k))) w := by
  rw [← hR.out]
  show (do let x ← Instr.sliceAt 63 (ρ x) (some (ρ y)) none none; pure (Next.value x) : Sem Next).run Tryz.prog w = _
  rw [hx, hy, Sem.run_bind, run_sliceAt_slice _ _ _ _ _ _ und63e, run_slice_l _ _ _ _ _ und63e .i64 (k : Int) (by omega) (by omega)]
  simp [siz63e, sliced, Addr.add_mid]
theorem rd_drop {w : World} {b o ca k : Nat} {ps : List Pk} (h : Rd w (some ⟨b, o, none⟩) (pksc ps)) (hn : ps.length ≤ ca) (hk : k ≤ ps.length) : Rd w (if ca = k then some ⟨b, o, none⟩ else some ⟨b, o + k * 2, none⟩) (pksc (ps.drop k)) := by
  have hsp : pksc ps = pksc (ps.take k) ++ pksc (ps.drop k) := by rw [← pksc_append, List.take_append_drop]
  by_cases he : ca = k
  · have : ps.drop k = [] := List.drop_eq_nil_of_le (by omega)
    rw [this]; exact fun hn => absurd rfl hn
  · rw [if_neg he]
    intro hne
    obtain ⟨b', o', e, hr⟩ := h (by
      intro h0
      rw [h0] at hsp
      exact hne (List.append_eq_nil_iff.1 hsp.symm).2)
    injection e with e; injection e with e1 e2; subst e1 e2
    refine ⟨b, o + k * 2, rfl, fun j v hj => ?_⟩
    have hl : (pksc (ps.take k)).length = k * 2 := by
      have : ∀ l : List Pk, (pksc l).length = l.length * 2 := by
        intro l; induction l with
        | nil => rfl
        | cons a r ih => simp only [pksc, List.flatMap_cons, List.length_append, List.length_cons, List.length_nil] at ih ⊢; omega
      rw [this, List.length_take, Nat.min_eq_left hk]
    have := hr (k * 2 + j) v (by rw [hsp, List.getElem?_append_right (by omega), hl, show k * 2 + j - k * 2 = j by omega]; exact hj)
    rwa [← Nat.add_assoc] at this
/-- The loads ahead of the first line that is none of data, and the lines behind it. -/
def cutP : List Pk → List (List UInt8) × List Pk
  | [] => ([], [])
  | p :: r => if p.kind = 0 then (p.load :: (cutP r).1, (cutP r).2) else ([], r)
theorem cutP_at : ∀ (ps : List Pk) (k : Nat) (p : Pk), (∀ q ∈ ps.take k, q.kind = 0) → ps[k]? = some p → ¬ p.kind = 0 → cutP ps = ((ps.take k).map (·.load), ps.drop (k + 1))
  | [], k, p, _, h, _ => by simp at h
  | a :: r, 0, p, _, h, hp => by
    simp at h; subst h
    rw [cutP, if_neg hp]; rfl
  | a :: r, k + 1, p, hz, h, hp => by
    have ha : a.kind = 0 := hz a (by simp)
    have ih := cutP_at r k p (fun q hq => hz q (by rw [List.take_succ_cons]; exact List.mem_cons_of_mem _ hq)) (by simpa using h) hp
    rw [cutP, if_pos ha, ih]; rfl
theorem cutP_all : ∀ (ps : List Pk), (∀ q ∈ ps, q.kind = 0) → cutP ps = (ps.map (·.load), [])
  | [], _ => rfl
  | a :: r, hz => by
    rw [cutP, if_pos (hz a (List.mem_cons_self ..)), cutP_all r (fun q hq => hz q (List.mem_cons_of_mem _ hq))]; rfl
def PartsRes (l : List UInt8) (w' : World) (e : Ending) : Prop := ∃ A ca B cb, e = .returned (.tuple #[.slice A (cutP (allD l)).1.length ca, .slice B (cutP (allD l)).2.length cb]) ∧ Rd w' A (strc (cutP (allD l)).1) ∧ Rd w' B (pksc (cutP (allD l)).2)
theorem strc_snoc (a : List (List UInt8)) (x : List UInt8) : strc (a ++ [x]) = strc a ++ [.string (bs x)] := by simp [strc]
def loads (l : List Pk) : List UInt8 := l.flatMap (·.load)
theorem loads_next (l : List Pk) (k : Nat) (s : Pk) (h : l[k]? = some s) : loads (l.take (k + 1)) = loads (l.take k) ++ s.load := by
  obtain ⟨hk, hs⟩ := List.getElem?_eq_some_iff.1 h
  rw [List.take_succ_eq_append_getElem hk, hs]
  simp [loads]
theorem loads_len (l : List Pk) (k : Nat) : (loads (l.take k)).length ≤ (loads l).length := by
  have : loads l = loads (l.take k) ++ loads (l.drop k) := by rw [loads, loads, loads, ← List.flatMap_append, List.take_append_drop]
  rw [this, List.length_append]; omega
set_option maxHeartbeats 1000000 in
theorem joined45_any (ps : List Pk) (A : Option Addr) (ca : Nat) (hn : ps.length ≤ 1000000) (hj : (loads ps).length ≤ 1000000) (w : World) (hA : Rd w A (pksc ps)) :
    Calls Tryz.prog 45 #[.slice A ps.length ca] w fun e w' => e = .returned (.string (bs (loads ps))) ∧ Below w.heap.size w w' := by
  go_enter Tryz.func45, Tryz.ntmps45
  go_wp2
  go_loopw [3, 8] (fun s i wr => ∃ k : Nat, k ≤ ps.length ∧ i = .int .i64 k ∧ s = .string (bs (loads (ps.take k))) ∧ Below w.heap.size w wr) (fun _ i _ => ps.length - (intOf i).toNat)
  case atStart => exact ⟨0, by omega, rfl, rfl, Below.refl _ _⟩
  case round =>
    obtain ⟨k, hk, rfl, rfl, hbel⟩ := hrel
    by_cases hlt : k < ps.length
    · obtain ⟨b1, o1, p, rfl, cu, hp⟩ := Rd.at (f := pkc) (n := 2) (by omega) (hA.below hbel) (fun x _ => rfl) k hlt
      have hnx := Lib.hid (loads_next ps k p hp)
      have hlen := loads_len ps (k + 1)
      rw [hnx.out, List.length_append] at hlen
      have cu1 := rangeAt_new wr (pkc p) 73 1 (.string (bs p.load)) rfl
      rw [Nat.zero_add] at cu1
      clear hp
      obtain ⟨j1, Hj⟩ : ∃ j1, Hid (loads (ps.take k) = j1) := ⟨_, Lib.hid rfl⟩
      rw [Hj.out] at hlen ⊢
      go_wp2_with (first
        | (refine wpList_load_mid rfl 73 _ rfl b1 (o1 + k * 2) rfl (pkc p) _ cu und73 rfl (by kernel_rfl) ?_)
        | (refine wpList_run rfl (op_allocZ _ _ _ _ _ _ _ 73 zero73) ?_)
        | (refine wpList_store_new rfl 73 _ _ rfl _ #[.int .i64 p.kind, .string (bs p.load)] rfl rfl (by kernel_rfl) zsize73 (one2 _ _) ?_)
        | (refine wpList_run rfl (op_concat _ _ _ _ _ _ _ _ _ _ j1 p.load rfl rfl (by omega)) ?_))
      go_roundw
      case rel => exact ⟨k + 1, by omega, by go_num, by rw [hnx.out, Hj.out], below_alloc hbel _⟩
      case measure => simp [intOf]; omega
    · obtain rfl : k = ps.length := by omega
      rw [List.take_length]
      go_wp2
      go_ret
      exact ⟨rfl, hbel⟩
set_option maxHeartbeats 2000000 in
theorem parts43_any (l : List UInt8) (hl : l.length ≤ 1000000) (w : World) : Calls Tryz.prog 43 #[.string (bs l)] w fun e w' => PartsRes l w' e ∧ Below w.heap.size w w' := by
  have hps : (allD l).length ≤ 1000000 := by have := allD_len l; omega
  obtain ⟨ps, Hps⟩ : ∃ ps, Hid (allD l = ps) := ⟨_, Lib.hid rfl⟩
  go_enter Tryz.func43, Tryz.ntmps43
  go_wp2_with (first | (go_at_call 71; refine (all71_rd l hl _).mono ?_; rintro e W1 ⟨⟨A, ca, er, rfl, hA, hca⟩, hb1⟩; rw [Hps.out] at hA hca hps ⊢))
  go_loopw [6, 16] (fun v i wr => ∃ k : Nat, ∃ u : Value, k ≤ ps.length ∧ i = .int .i64 k ∧ u = v ∧ wr.ownsRow W1.heap.size 9 1 u k (strc ((ps.take k).map (·.load))) ∧ Hid (∀ q ∈ ps.take k, q.kind = 0) ∧ Below W1.heap.size W1 wr) (fun _ i _ => ps.length - (intOf i).toNat)
  case atStart => exact ⟨0, _, by omega, rfl, rfl, own_nil _ _ _ _, Lib.hid (by simp), Below.refl _ _⟩
  case round =>
    obtain ⟨k, u, hk, rfl, rfl, ho, hz, hbel⟩ := hrel
    by_cases hlt : k < ps.length
    · obtain ⟨b1, o1, p, rfl, cu, hp⟩ := Rd.at (f := pkc) (n := 2) (by omega) (hA.below hbel) (fun x _ => rfl) k hlt
      have cu0 := rangeAt_new wr (pkc p) 73 0 (.int .i64 p.kind) rfl
      have cu1 := rangeAt_new wr (pkc p) 73 1 (.string (bs p.load)) rfl
      rw [Nat.zero_add] at cu0 cu1
      by_cases hk0 : p.kind = 0
      · have hb : (p.kind != 0) = false := by rw [hk0]; rfl
        have hz2 : Hid (∀ q ∈ ps.take (k + 1), q.kind = 0) := Lib.hid (by
          obtain ⟨hk2, hs2⟩ := List.getElem?_eq_some_iff.1 hp
          rw [List.take_succ_eq_append_getElem hk2, hs2]
          intro q hq
          rcases List.mem_append.1 hq with h | h
          · exact hz.out q h
          · simp only [List.mem_singleton] at h; rw [h]; exact hk0)
        have hnx : Hid (strc ((ps.take (k + 1)).map (·.load)) = strc ((ps.take k).map (·.load)) ++ [.string (bs p.load)]) := Lib.hid (by
          obtain ⟨hk2, hs2⟩ := List.getElem?_eq_some_iff.1 hp
          rw [List.take_succ_eq_append_getElem hk2, hs2, List.map_append, ← strc_snoc]; rfl)
        have hszb := hbel.size
        clear hk0 hp
        go_wp2_with (first
        | (refine wpList_load_mid rfl 73 _ rfl b1 (o1 + k * 2) rfl (pkc p) _ cu und73 rfl (by kernel_rfl) ?_)
        | (refine wpList_run rfl (op_allocZ _ _ _ _ _ _ _ 73 zero73) ?_)
        | (refine wpList_store_new rfl 73 _ _ rfl _ #[.int .i64 p.kind, .string (bs p.load)] rfl rfl (by kernel_rfl) zsize73 (one2 _ _) ?_)
          | (refine wpList_append rfl (.tmp 29) (.tmp 32) 22 rfl W1.heap.size 9 (.string ⟨#[]⟩) 1 16 und22 info9 rfl (by decide) u k _ rfl (own_below (own_below ho (below_alloc (Below.refl _ _) _)) (below_alloc (Below.refl _ _) _)) ⟨wr.heap.size + 1, 0, none⟩ 1 1 [.string (bs p.load)] rfl rfl (by have h := news_new (wr.alloc (.cells (pkc p).toArray 73)) [.string (bs p.load)] 9; rwa [World.size_alloc] at h) ?_ ?_ ?_ ?_ ?_))
        · first | rfl | (intro u hu; simp at hu; rcases hu with rfl; rfl)
        · unfold maxLen; omega
        · omega
        · first | omega | (simp; omega)
        intro v9 W9 hown9 hgr9
        have hb9 : Below W1.heap.size W1 W9 := ((hbel.alloc (by omega) _).alloc (by simp; omega) _).grown hgr9 (by simp; omega) (own_base ho)
        go_wp2
        go_roundw
        case rel => exact ⟨k + 1, v9, by omega, by go_num, rfl, by rw [hnx.out, List.map_take]; exact hown9, hz2, hb9⟩
        case measure => simp [intOf]; omega
      · have hb : (p.kind != 0) = true := by simpa using hk0
        have hcut := Lib.hid (cutP_at ps k p hz.out hp hk0)
        have hk1 : (.int .i64 ((k : Int) + 1) : Value) = .int .i64 ((k + 1 : Nat) : Int) := rfl
        obtain ⟨R9, hR9⟩ : ∃ R, Hid ((if ca = k + 1 then some (⟨b1, o1, none⟩ : Addr) else some ⟨b1, o1 + (k + 1) * 2, none⟩) = R) := ⟨_, Lib.hid rfl⟩
        have hrd := rd_drop (k := k + 1) (hA.below hbel) hca (by omega)
        rw [hR9.out] at hrd
        have hlen : Hid (((ps.take k).map (·.load)).length = k) := Lib.hid (by rw [List.length_map, List.length_take]; omega)
        obtain ⟨B, cb, rfl⟩ := own_slice ho
        clear hk0 hp
        go_wp2_with (first
        | (refine wpList_load_mid rfl 73 _ rfl b1 (o1 + k * 2) rfl (pkc p) _ cu und73 rfl (by kernel_rfl) ?_)
        | (refine wpList_run rfl (op_allocZ _ _ _ _ _ _ _ 73 zero73) ?_)
        | (refine wpList_store_new rfl 73 _ _ rfl _ #[.int .i64 p.kind, .string (bs p.load)] rfl rfl (by kernel_rfl) zsize73 (one2 _ _) ?_))
        refine start_ (n := 7) (S := (fun _ => True)) (ds := []) #[false, false, false, false, false, false, false] (by kernel_rfl) rfl rfl (trivial) (fun hHeld => ?_)
        refine pure_ (i := 0) (N := (some 24)) (v := ?_) (a' := ?_) #[true, false, false, false, false, false, false] rfl rfl (by kernel_rfl) (fun _ _ _ h => h) (Or.inl ⟨by rfl, ?_⟩) ?_ ?_
        rotate_left
        · intro w'
          go_simp
          with_reducible rfl
        rotate_left
        · simp only [Act.put, List.setIfInBounds_toArray, List.set_cons_zero, List.set_cons_succ]
          rfl
        refine pure_ (i := 1) (N := (some 25)) (v := ?_) (a' := ?_) #[true, true, false, false, false, false, false] rfl rfl (by kernel_rfl) (fun _ _ _ h => h) (Or.inl ⟨by rfl, ?_⟩) ?_ ?_
        rotate_left
        · intro w'
          go_simp
          with_reducible rfl
        rotate_left
        · simp only [Act.put, List.setIfInBounds_toArray, List.set_cons_zero, List.set_cons_succ]
          rfl
        refine pure_ (i := 2) (N := (some 26)) (v := ?_) (a' := ?_) #[true, true, true, false, false, false, false] rfl rfl (by kernel_rfl) (fun _ _ _ h => h) (Or.inl ⟨by rfl, ?_⟩) ?_ ?_
        rotate_left
        · intro w'
          go_simp
          with_reducible rfl
        rotate_left
        · simp only [Act.put, List.setIfInBounds_toArray, List.set_cons_zero, List.set_cons_succ]
          rfl
        refine pure_ (i := 3) (N := (some 27)) (v := ?_) (a' := ?_) #[true, true, true, true, false, false, false] rfl rfl (by kernel_rfl) (fun _ _ _ h => h) (Or.inl ⟨by rfl, ?_⟩) ?_ ?_
        rotate_left
        · intro w'
          have hw1 := IntWalk.i64_in ((k : Int) + 1) (by omega)
          go_simp
          with_reducible rfl
        rotate_left
        · simp only [Act.put, List.setIfInBounds_toArray, List.set_cons_zero, List.set_cons_succ]
          rfl
        refine pure_ (i := 4) (N := (some 28)) (v := ?_) (a' := ?_) #[true, true, true, true, true, false, false] rfl rfl (by kernel_rfl) (fun _ _ _ h => h) (Or.inl ⟨by rfl, ?_⟩) ?_ ?_
        rotate_left
        · intro w'
          refine op_slice63 _ _ _ _ _ _ _ _ _ b1 o1 ps.length ca (k + 1) R9 hR9 (by omega) ?_ ?_
          rfl
          rfl
        rotate_left
        · simp only [Act.put, List.setIfInBounds_toArray, List.set_cons_zero, List.set_cons_succ]
          rfl
        refine pure_ (i := 5) (N := (some 2)) (v := ?_) (a' := ?_) #[true, true, true, true, true, true, false] rfl rfl (by kernel_rfl) (fun _ _ _ h => h) (Or.inl ⟨by rfl, ?_⟩) ?_ ?_
        rotate_left
        · intro w'
          go_simp
          with_reducible rfl
        rotate_left
        · simp only [Act.put, List.setIfInBounds_toArray, List.set_cons_zero, List.set_cons_succ]
          rfl
        refine pure_ (i := 6) (N := (some 3)) (v := ?_) (a' := ?_) #[true, true, true, true, true, true, true] rfl rfl (by kernel_rfl) (fun _ _ _ h => h) (Or.inl ⟨by rfl, ?_⟩) ?_ ?_
        rotate_left
        · intro w'
          go_simp
          with_reducible rfl
        rotate_left
        · simp only [Act.put, List.setIfInBounds_toArray, List.set_cons_zero, List.set_cons_succ]
          rfl
        refine done_ (by kernel_rfl) ?_
        go_wp2
        go_ret2
        refine ⟨⟨B, cb, R9, ca - (k + 1), ?_, ?_, ?_⟩, below_call hb1 (below_drew (below_alloc hbel _))⟩
        · rw [Hps.out, hcut.out, hlen.out, List.length_drop]; rfl
        · rw [Hps.out, hcut.out]; exact (Rd.of_own ho).below (below_drew (below_alloc (Below.refl _ _) _))
        · rw [Hps.out, hcut.out]; exact hrd.below (below_drew (below_alloc (Below.refl _ _) _))
    · obtain rfl : k = ps.length := by omega
      have hcut := Lib.hid (cutP_all ps (by rw [List.take_length] at hz; exact hz.out))
      rw [List.take_length] at ho
      obtain ⟨B, cb, rfl⟩ := own_slice ho
      go_wp2
      go_ret2
      refine ⟨⟨B, cb, none, 0, ?_, ?_, ?_⟩, below_call hb1 hbel⟩
      · rw [Hps.out, hcut.out, List.length_map]; rfl
      · rw [Hps.out, hcut.out]; exact Rd.of_own ho
      · rw [Hps.out, hcut.out]; exact fun hn => absurd rfl hn
end Go.Proofs.YtmfpmedkhlhnpaaGreatDoor
