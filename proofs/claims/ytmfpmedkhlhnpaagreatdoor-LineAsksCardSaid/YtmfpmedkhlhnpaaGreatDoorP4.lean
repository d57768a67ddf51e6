import Derived.Test.YtmfpmedkhlhnpaaGreatDoorP3
/- functions 27, 31, 32. -/
namespace Go.Proofs.YtmfpmedkhlhnpaaGreatDoor
open Go.RowKit Go.Extern.Stop Go.Proofs.YtmfpmedkhlhnpaaGreatDoorW.PrintLast
set_option maxRecDepth 100000
set_option linter.unusedSimpArgs false
set_option linter.unusedVariables false
theorem own_slice {w : World} {base : Nat} {e : TypeId} {size n : Nat} {v : Value} {xs : List Value} (h : w.ownsRow base e size v n xs) : ∃ A ca, v = .slice A n ca := by
  rcases h.2 with ⟨rfl, rfl⟩ | ⟨g, cap, cur, rfl, _⟩
  · exact ⟨_, _, rfl⟩
  · exact ⟨_, _, rfl⟩
/-- append onto a row of the call's own, in a plain region. -/
theorem wpList_append {P : Program} {ops : Array Oper} {rest : List Oper} {w : World} {oi : Oper} {a : Act} {Q : Exit → Act → World → Prop} (hgd : oi.guard = none) (s x : Operand) (t : TypeId)
    (ho : oi.op = .call { callee := .builtin .append, args := #[s, x], argTypes := #[t, t] })
    (base : Nat) (e : TypeId) (z : Value) (size bytes : Nat) (ht : P.underlying t = some (.slice e)) (hinfo : (P.info? e).map (fun i => (i.zero, i.size, i.bytes)) = some (some z, size, bytes)) (hzs : z.cells.size = size) (hsz : 0 < size)
    (v : Value) (n : Nat) (xs : List Value) (hs : a.eval s = v) (hown : w.ownsRow base e size v n xs)
    (ad : Addr) (m c : Nat) (news : List Value) (hx : a.eval x = .slice (some ad) m c) (hl : news.length = m * size) (hnews : ∀ j u, news[j]? = some u → w.cell? (ad.add j) = some u) (h1 : ∀ u ∈ news, u.oneCell' = true)
    (h63 : n + m ≤ maxLen) (hbytes : (n + m) * bytes ≤ 140737488355328) (hbase : base ≤ w.heap.size)
    (h : ∀ v' w', w'.ownsRow base e size v' (n + m) (xs ++ news) → w.grownBy w' v.ownBlock → wpList P ops Q rest (a.put oi.dst v') w') : wpList P ops Q (oi :: rest) a w :=
  wpList_plain hgd fun K hK => by
    have := ev_append (K := K) (Q := Q) (b := true) (B := True) rfl rfl s x t ho base e z size bytes ht hinfo hzs hsz v n xs hs hown ad m c news hx hl hnews h1 h63 hbytes hbase (fun v' w' h1 h2 => hK _ _ (h v' w' h1 h2))
    simpa using this
def capsPks (ss : List (List UInt8)) : List Pk := if ss = [] then [] else [⟨0, [99, 97, 112, 115] ++ 32 :: Lib.join ss [32]⟩]
set_option maxHeartbeats 1000000 in
theorem caps27_any (base g : Nat) (ls : List Pk) (ss : List (List UInt8)) (A : Option Addr) (ca : Nat) (W : World) (hW : Wr base g W ls) (hA : Rd W A (strc ss)) (hok : capsOk ss = true) (hn : ss.length ≤ 20) (hl : ∀ s ∈ ss, s.length ≤ 20) (hca : ss.length ≤ ca) (hj : (Lib.join ss [32]).length ≤ 1000) (hll : ls.length ≤ 50000) :
    Calls Tryz.prog 27 #[.pointer (some ⟨g, 0, none⟩), .slice A ss.length ca] W fun e W' => e = .returned (.tuple #[]) ∧ Wr base g W' (ls ++ capsPks ss) ∧ Below base W W' := by
  have hlt := hW.lt
  have hbg := hW.1
  have HL := Lib.hid hl
  clear hl
  by_cases h0 : ss = []
  · subst h0
    have hc : Hid (ls ++ capsPks [] = ls) := Lib.hid (by simp [capsPks])
    go_enter Tryz.func27, Tryz.ntmps27
    go_wp2_with (first | (go_at_call 65; refine (put65_any [] A ca hok hn HL.out hca hj _ hA).mono ?_; rintro e w1 ⟨rfl, hb1⟩))
    go_wp2
    go_end0
    exact ⟨rfl, by rw [hc.out]; exact hW.below hb1, hb1.mono (by omega)⟩
  · have hc : Hid (capsPks ss = [⟨0, Lib.join [[99, 97, 112, 115], Lib.join ss [32]] [32]⟩]) := Lib.hid (by simp [capsPks, h0, Lib.join, List.intercalate])
    have h1 : 0 < ss.length := List.length_pos_iff.2 h0
    have hb : decide (0 < (ss.length : Int)) = true := by simp; omega
    clear h0
    go_enter Tryz.func27, Tryz.ntmps27
    go_wp2_with (first | (go_at_call 65; refine (put65_any ss A ca hok hn HL.out hca hj _ hA).mono ?_; rintro e w1 ⟨rfl, hb1⟩))
    have hsz := hb1.size
    go_wp2_with (first | (go_at_call 25; refine (words25_any base g _ [[99, 97, 112, 115], Lib.join ss [32]] _ 2 _ ((hW.below hb1).below (Below.alloc (Below.refl _ _) (Nat.le_refl _) _)) (fun _ => ⟨_, _, rfl, rangeAt_new w1 [.string (bs [99, 97, 112, 115]), .string (bs (Lib.join ss [32]))] 9⟩) (by simp) (by omega) (by simp) (by simp [Lib.join, List.intercalate] at hj ⊢; omega)).mono ?_; rintro e w2 ⟨rfl, hw2, hb2⟩))
    go_wp2
    go_end0
    exact ⟨rfl, by rw [hc.out]; exact hw2, ((hb1.mono (by omega)).alloc (by omega) _).trans hb2⟩
/-- Pieces of nine hundred bytes. -/
def chunks (l : List UInt8) : List (List UInt8) := if h : l = [] then [] else l.take 900 :: chunks (l.drop 900)
termination_by l.length
decreasing_by have := List.length_pos_iff.2 h; simp; omega
def chunkPks (l : List UInt8) : List Pk := (chunks l).map fun x => ⟨0, x⟩
theorem chunks_nil : chunks [] = [] := by rw [chunks]; simp
theorem chunks_cons {l : List UInt8} (h : ¬ l = []) : chunks l = l.take 900 :: chunks (l.drop 900) := by rw [chunks, dif_neg h]
theorem chunkPks_cons {l : List UInt8} (h : ¬ l = []) : chunkPks l = ⟨0, l.take 900⟩ :: chunkPks (l.drop 900) := by rw [chunkPks, chunks_cons h]; rfl
theorem chunkPks_piece {j : List UInt8} (h : ¬ j = []) (n : Nat) (hn : n = min 900 j.length) : chunkPks j = ⟨0, j.take n⟩ :: chunkPks (j.drop n) := by
  rw [chunkPks_cons h]
  by_cases h9 : 900 ≤ j.length
  · rw [hn, Nat.min_eq_left h9]
  · rw [hn, Nat.min_eq_right (by omega), List.take_of_length_le (by omega), List.drop_eq_nil_of_le (by omega), List.take_of_length_le (Nat.le_refl _), List.drop_eq_nil_of_le (Nat.le_refl _)]
set_option maxHeartbeats 2000000 in
theorem data31_any (base g : Nat) (ls : List Pk) (l : List UInt8) (W : World) (hW : Wr base g W ls) (hl : l.length ≤ 10000) (hn : ls.length ≤ 50000) :
    Calls Tryz.prog 31 #[.pointer (some ⟨g, 0, none⟩), .string (bs l)] W fun e W' => e = .returned (.tuple #[]) ∧ Wr base g W' (ls ++ chunkPks l) ∧ Below base W W' := by
  have hbW := hW.1
  go_enter Tryz.func31, Tryz.ntmps31
  try go_wp2
  go_loopw [1] (fun s wr => ∃ j pre : List _, ∃ pre : List Pk, s = .string (bs j) ∧ pre.length + j.length ≤ ls.length + l.length ∧ Hid (pre ++ chunkPks j = ls ++ chunkPks l) ∧ Wr base g wr pre ∧ Below base W wr) (fun s _ => match s with | .string x => x.size | _ => 0)
  case atStart => exact ⟨l, ls, ls, rfl, by omega, Lib.hid rfl, hW, Below.refl _ _⟩
  case round =>
    obtain ⟨j, -, pre, rfl, hlen, heq, hwr, hbel⟩ := hrel
    by_cases hj0 : j = []
    · subst hj0
      go_wp2
      go_end0
      exact ⟨rfl, by rw [← heq.out, chunkPks, chunks_nil, List.map_nil, List.append_nil]; exact hwr, hbel⟩
    · have hjp : 0 < j.length := List.length_pos_iff.2 hj0
      have hb : (j == []) = false := by simpa using hj0
      obtain ⟨n, hn⟩ : ∃ n, n = min 900 j.length := ⟨_, rfl⟩
      have hpc := Lib.hid (chunkPks_piece hj0 n hn)
      have hnj : n ≤ j.length := by omega
      have hn1 : 1 ≤ n := by omega
      have hmin : min (900 : Int) (j.length : Int) = (n : Int) := by omega
      have hlt := hwr.lt
      obtain ⟨hbg, v, hg, ho⟩ := hwr
      have hc0 : wr.cell? ⟨g, 0, none⟩ = some v := by rw [cell_of_row wr g 0 #[v] 65 (0, 0) hg]; rfl
      have Hn := Lib.hid hn
      clear hj0 hn
      go_wp2_with (first | (refine wpList_runG (by rfl) (op_str_neqB _ _ _ _ _ _ _ _ _ _ j [] true (by rw [hb]; rfl) rfl rfl) ?_))
      refine start_ (n := 14) (S := (fun V => V.cell? ⟨g, 0, none⟩ = some v ∧ Below wr.heap.size wr V)) (ds := [10, 13]) #[false, false, false, false, false, false, false, false, false, false, false, false, false, false] (by kernel_rfl) rfl rfl (⟨by simpa using hc0, below_drew (Below.refl _ _)⟩) (fun hHeld => ?_)
      refine pure_ (i := 0) (N := (some 10)) (v := ?_) (a' := ?_) #[true, false, false, false, false, false, false, false, false, false, false, false, false, false] rfl rfl (by kernel_rfl) (fun _ _ _ h => h) (Or.inl ⟨by rfl, ?_⟩) ?_ ?_
      rotate_left
      · intro w'
        go_simp
        with_reducible rfl
      rotate_left
      · simp only [Act.put, List.setIfInBounds_toArray, List.set_cons_zero, List.set_cons_succ]
        rfl
      refine pure_ (i := 1) (N := (some 11)) (v := ?_) (a' := ?_) #[true, true, false, false, false, false, false, false, false, false, false, false, false, false] rfl rfl (by kernel_rfl) (fun _ _ _ h => h) (Or.inl ⟨by rfl, ?_⟩) ?_ ?_
      rotate_left
      · intro w'
        go_simp
        with_reducible rfl
      rotate_left
      · simp only [Act.put, List.setIfInBounds_toArray, List.set_cons_zero, List.set_cons_succ]
        rfl
      refine pure_ (i := 2) (N := (some 12)) (v := ?_) (a' := ?_) #[true, true, true, false, false, false, false, false, false, false, false, false, false, false] rfl rfl (by kernel_rfl) (fun _ _ _ h => h) (Or.inl ⟨by rfl, ?_⟩) ?_ ?_
      rotate_left
      · intro w'
        go_simp
        with_reducible rfl
      rotate_left
      · simp only [Act.put, List.setIfInBounds_toArray, List.set_cons_zero, List.set_cons_succ]
        rfl
      refine pure_ (i := 3) (N := (some 13)) (v := ?_) (a' := ?_) #[true, true, true, true, false, false, false, false, false, false, false, false, false, false] rfl rfl (by kernel_rfl) (fun _ _ _ h => h) (Or.inl ⟨by rfl, ?_⟩) ?_ ?_
      rotate_left
      · intro w'
        go_simp
        with_reducible rfl
      rotate_left
      · simp only [Act.put, List.setIfInBounds_toArray, List.set_cons_zero, List.set_cons_succ]
        rfl
      refine take_ (i := 4) (N := (some 14)) (v := ?_) (a' := ?_) #[true, true, true, true, true, false, false, false, false, false, false, false, false, false] rfl rfl (by kernel_rfl) (fun _ _ _ h => h) (Or.inl ⟨by rfl, ?_⟩) hHeld ?_ ?_
      rotate_left
      · intro w' hS'
        have h1 := hS'.1
        go_simp
        with_reducible rfl
      rotate_left
      · simp only [Act.put, List.setIfInBounds_toArray, List.set_cons_zero, List.set_cons_succ]
        rfl
      refine pure_ (i := 5) (N := (some 15)) (v := ?_) (a' := ?_) #[true, true, true, true, true, true, false, false, false, false, false, false, false, false] rfl rfl (by kernel_rfl) (fun _ _ _ h => h) (Or.inl ⟨by rfl, ?_⟩) ?_ ?_
      rotate_left
      · intro w'
        go_simp
        with_reducible rfl
      rotate_left
      · simp only [Act.put, List.setIfInBounds_toArray, List.set_cons_zero, List.set_cons_succ]
        rfl
      refine pure_ (i := 6) (N := (some 16)) (v := ?_) (a' := ?_) #[true, true, true, true, true, true, true, false, false, false, false, false, false, false] rfl rfl (by kernel_rfl) (fun _ _ _ h => h) (Or.inl ⟨by rfl, ?_⟩) ?_ ?_
      rotate_left
      · intro w'
        go_simp
        with_reducible rfl
      rotate_left
      · simp only [Act.put, List.setIfInBounds_toArray, List.set_cons_zero, List.set_cons_succ]
        rfl
      refine pure_ (i := 7) (N := (some 17)) (v := ?_) (a' := ?_) #[true, true, true, true, true, true, true, true, false, false, false, false, false, false] rfl rfl (by kernel_rfl) (fun _ _ _ h => h) (Or.inl ⟨by rfl, ?_⟩) ?_ ?_
      rotate_left
      · intro w'
        refine op_slice_take _ _ _ _ _ _ _ _ _ j n hnj ?_ ?_
        rfl
        rfl
      rotate_left
      · simp only [Act.put, List.setIfInBounds_toArray, List.set_cons_zero, List.set_cons_succ]
        rfl
      refine pure_ (i := 8) (N := (some 18)) (v := ?_) (a' := ?_) #[true, true, true, true, true, true, true, true, true, false, false, false, false, false] rfl rfl (by kernel_rfl) (fun _ _ _ h => h) (Or.inl ⟨by rfl, ?_⟩) ?_ ?_
      rotate_left
      · intro w'
        go_simp
        first | with_reducible rfl | rfl
      rotate_left
      · simp only [Act.put, List.setIfInBounds_toArray, List.set_cons_zero, List.set_cons_succ]
        rfl
      refine one_ (i := 9) (N := (some 19)) #[true, true, true, true, true, true, true, true, true, true, false, false, false, false] rfl rfl (by kernel_rfl) (by simp) (fun K hK => ?_)
      refine ev_build (by rfl) rfl [.int .i64 0, .string (bs (j.take n))] 73 2 1 (by first | (go_simp; done) | (go_simp; exact ⟨rfl, rfl⟩)) rfl (by decide) ?_
      intro g8 W8 hown8 hb8
      refine hK _ _ (⟨cell_below hb8 hHeld.1, below_call hHeld.2 hb8⟩) (fun hHeld => ?_)
      simp only [Act.put, List.setIfInBounds_toArray, List.set_cons_zero, List.set_cons_succ]
      refine last_ (i := 10) (N := (some 20)) #[true, true, true, true, true, true, true, true, true, true, true, false, false, false] rfl rfl (by kernel_rfl) (by simp) (fun K hK => ?_)
      have hoV := own_below ho hHeld.2
      have hgV := (hHeld.2.block g hlt).trans hg
      refine ev_append (by rfl) rfl (.tmp 14) (.tmp 19) 63 rfl base 73 (.agg #[.int .i64 0, .string ⟨#[]⟩]) 2 24 und63 info73 rfl (by decide) v pre.length (pksc pre) rfl hoV ⟨g8, 0, none⟩ 1 1 [.int .i64 0, .string (bs (j.take n))] rfl rfl ?_ ?_ ?_ ?_ ?_ ?_
      · intro j u hj; rw [Addr.add_mid, Nat.zero_add]; have := hown8.cells (g := g8) rfl j u hj; rwa [Addr.add_mid, Nat.zero_add] at this
      · intro u hu; simp at hu; rcases hu with rfl | rfl <;> rfl
      · unfold maxLen; omega
      · omega
      · have := hHeld.2.size; omega
      intro v9 W9 hown9 hgr9
      have hg9 : W9.heap[g]? = some (.cells #[v] 65 (0, 0)) := (hgr9.block g (by have := hHeld.2.size; omega) (fun e => own_ne hgV hoV e.symm)).trans hgV
      have hb9 : Below base wr W9 := (hHeld.2.mono (by omega)).grown hgr9 (by have := hHeld.2.size; omega) (own_base hoV)
      refine hK _ _ ?_
      simp only [Act.put, List.setIfInBounds_toArray, List.set_cons_zero, List.set_cons_succ]
      refine pure_ (i := 11) (N := (some 21)) (v := ?_) (a' := ?_) #[true, true, true, true, true, true, true, true, true, true, true, true, false, false] rfl rfl (by kernel_rfl) (fun _ _ _ h => h) (Or.inl ⟨by rfl, ?_⟩) ?_ ?_
      rotate_left
      · intro w'
        go_simp
        with_reducible rfl
      rotate_left
      · simp only [Act.put, List.setIfInBounds_toArray, List.set_cons_zero, List.set_cons_succ]
        rfl
      refine pure_ (i := 12) (N := (some 22)) (v := ?_) (a' := ?_) #[true, true, true, true, true, true, true, true, true, true, true, true, true, false] rfl rfl (by kernel_rfl) (fun _ _ _ h => h) (Or.inl ⟨by rfl, ?_⟩) ?_ ?_
      rotate_left
      · intro w'
        go_simp
        with_reducible rfl
      rotate_left
      · simp only [Act.put, List.setIfInBounds_toArray, List.set_cons_zero, List.set_cons_succ]
        rfl
      refine last_ (i := 13) (N := none) #[true, true, true, true, true, true, true, true, true, true, true, true, true, true] rfl rfl (by kernel_rfl) (by simp) (fun K hK => ?_)
      refine ev_store1 (by rfl) rfl 63 (.tmp 22) (.tmp 20) rfl g v v9 65 rfl rfl (own_cells1 hown9).1 (own_cells1 hown9).2 hg9 (by kernel_rfl) ?_
      refine hK _ _ ?_
      refine done_ (by kernel_rfl) ?_
      have hW2 : Wr base g (W9.setCell ⟨g, 0, none⟩ v9) (pre ++ [⟨0, j.take n⟩]) := Wr.stored hbg hg9 (by simpa [pksc] using hown9)
      have hb2 : Below base wr (W9.setCell ⟨g, 0, none⟩ v9) := hb9.setCell hbg v9
      go_wp2_with (first | (refine wpList_runG (by rfl) (op_slice_drop _ _ _ _ _ _ _ _ _ j n hnj rfl rfl) ?_))
      go_roundw
      case rel => exact ⟨j.drop n, [], pre ++ [⟨0, j.take n⟩], rfl, by simp; omega, Lib.hid (by rw [← heq.out, hpc.out]; simp), hW2, hbel.trans hb2⟩
      case measure => show (j.drop n).length < j.length; rw [List.length_drop]; omega
set_option maxHeartbeats 2000000 in
theorem end32_any (base g : Nat) (ls : List Pk) (W : World) (hW : Wr base g W ls) (hn : ls.length ≤ 50000) (hf : ∀ p ∈ ls, PkFine p) :
    Calls Tryz.prog 32 #[.pointer (some ⟨g, 0, none⟩)] W fun e W' => e = .returned (.tuple #[.string (bs (pksB (ls ++ [⟨1, []⟩]))), .int .i64 0]) ∧ Below base W W' := by
  have HF := Lib.hid hf
  have hlt := hW.lt
  obtain ⟨hbg, v, hg, ho⟩ := hW
  have hc0 : W.cell? ⟨g, 0, none⟩ = some v := by rw [cell_of_row W g 0 #[v] 65 (0, 0) hg]; rfl
  clear hf
  go_enter Tryz.func32, Tryz.ntmps32
  have ho2 := own_below ho (Below.alloc (Below.refl W.heap.size W) (Nat.le_refl _) (.cells #[.int .i64 1, .string (bs [])] 73))
  go_wp2_with (first | (refine wpList_append rfl (.tmp 7) (.tmp 9) 63 rfl base 73 (.agg #[.int .i64 0, .string ⟨#[]⟩]) 2 24 und63 info73 rfl (by decide) v ls.length (pksc ls) rfl ho2 ⟨W.heap.size, 0, none⟩ 1 1 [.int .i64 1, .string (bs [])] rfl rfl (news_new W _ 73) ?_ ?_ ?_ ?_ ?_))
  · intro u hu; simp at hu; rcases hu with rfl | rfl <;> rfl
  · unfold maxLen; omega
  · omega
  · simp; omega
  intro v9 W9 hown9 hgr9
  have hb9 : Below base W W9 := ((Below.refl base W).alloc (by omega) _).grown hgr9 (by simp; omega) (own_base ho)
  obtain ⟨A, ca, rfl⟩ := own_slice hown9
  have hrd : Rd W9 A (pksc (ls ++ [⟨1, []⟩])) := by
    have := Rd.of_own hown9
    simpa [pksc] using this
  have hfin : ∀ p ∈ ls ++ [⟨1, []⟩], PkFine p := by
    intro p hp
    rcases List.mem_append.1 hp with h | h
    · exact HF.out p h
    · simp at h; subst h; exact .inr (.inl ⟨rfl, rfl⟩)
  have hlen : (ls ++ [(⟨1, []⟩ : Pk)]).length = ls.length + 1 := by simp
  have hput := put66_any (ls ++ [⟨1, []⟩]) A ca (by omega) hfin W9 hrd
  rw [hlen] at hput
  have HP := Lib.hid hput
  have hsz := hb9.size
  clear hown9 hgr9 hrd hfin hput
  go_wp2_with (first | (go_at_call 66; refine HP.out.mono ?_; rintro e w1 ⟨rfl, hb1⟩))
  go_ret2
  exact ⟨rfl, hb9.trans (hb1.mono (by omega))⟩
end Go.Proofs.YtmfpmedkhlhnpaaGreatDoor
