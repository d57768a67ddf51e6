import Derived.Test.YtmfpmedkhlhnpaaGreatDoorP0
import Derived.Test.YtmfpmedkhlhnpaaGreatDoorB3
/- functions 63 (strings.Join), 25. -/
namespace Go.Proofs.YtmfpmedkhlhnpaaGreatDoor
open Go.RowKit Go.Extern.Stop Go.Proofs.YtmfpmedkhlhnpaaGreatDoorW.PrintLast
set_option maxRecDepth 100000
set_option linter.unusedSimpArgs false
set_option linter.unusedVariables false
theorem own_cells1 {w : World} {base : Nat} {e : TypeId} {size n : Nat} {v : Value} {xs : List Value} (h : w.ownsRow base e size v n xs) : v.cells = #[v] ∧ v.oneCell' = true := by
  rcases h.2 with ⟨rfl, _⟩ | ⟨g, cap, cur, rfl, _⟩
  · exact ⟨rfl, rfl⟩
  · exact ⟨rfl, rfl⟩
theorem join63_any (ss : List (List UInt8)) (A : Option Addr) (ca : Nat) (hs : ss.length ≤ 1000) (hca : ss.length ≤ ca) (hj : (Lib.join ss [32]).length ≤ 100000) (W : World) (hA : Rd W A (strc ss)) :
    Calls Tryz.prog 63 #[.slice A ss.length ca, .string (bs [32])] W fun e W' => e = .returned (.string (bs (Lib.join ss [32]))) ∧ Below W.heap.size W W' := by
  cases ss with
  | nil =>
    refine (Tryz.strings_Join_none A ca _ W).mono fun e W' ⟨he, hw⟩ => ⟨by rw [he]; rfl, by rw [hw]; exact Below.refl _ _⟩
  | cons s r =>
    obtain ⟨b, o, rfl, hr⟩ := hA (by simp [strc])
    have hx : ((s :: r).map bs).map (·.data.toList) = s :: r := by simp [Function.comp_def]
    have h0 := hr 0 (.string (bs s)) rfl
    have := Tryz.strings_Join b o ca ((s :: r).map bs) (bs [32]) W (fun j x hj => hr j _ (by rw [show strc (s :: r) = ((s :: r).map bs).map Value.string by simp [strc], List.getElem?_map, hj]; rfl)) (World.block_lt_of_cell? W _ h0) (by simp at hs ⊢; omega) (by simpa using hca) (by rw [hx]; simpa using Nat.le_trans hj (by omega))
    rw [hx, List.length_map] at this
    exact this
set_option maxHeartbeats 1000000 in
theorem words25_any (base g : Nat) (ls : List Pk) (ss : List (List UInt8)) (A : Option Addr) (ca : Nat) (W : World) (hW : Wr base g W ls) (hA : Rd W A (strc ss)) (hca : ss.length ≤ ca) (hn : ls.length ≤ 100000) (hss : ss.length ≤ 1000) (hj : (Lib.join ss [32]).length ≤ 100000) :
    Calls Tryz.prog 25 #[.pointer (some ⟨g, 0, none⟩), .slice A ss.length ca] W fun e W' => e = .returned (.tuple #[]) ∧ Wr base g W' (ls ++ [⟨0, Lib.join ss [32]⟩]) ∧ Below base W W' := by
  have hlt := hW.lt
  obtain ⟨hbg, v, hg, ho⟩ := hW
  have hc0 : W.cell? ⟨g, 0, none⟩ = some v := by rw [cell_of_row W g 0 #[v] 65 (0, 0) hg]; rfl
  go_enter Tryz.func25, Tryz.ntmps25
  try go_wp2
  refine start_ (n := 13) (S := (fun V => V.cell? ⟨g, 0, none⟩ = some v ∧ Below W.heap.size W V)) (ds := [9, 12]) #[false, false, false, false, false, false, false, false, false, false, false, false, false] (by kernel_rfl) rfl rfl (⟨by simpa using hc0, below_drew (Below.refl _ _)⟩) (fun hHeld => ?_)
  refine pure_ (i := 0) (N := (some 4)) (v := ?_) (a' := ?_) #[true, false, false, false, false, false, false, false, false, false, false, false, false] rfl rfl (by kernel_rfl) (fun _ _ _ h => h) (Or.inl ⟨by rfl, ?_⟩) ?_ ?_
  rotate_left
  · intro w'
    go_simp
    with_reducible rfl
  rotate_left
  · simp only [Act.put, List.setIfInBounds_toArray, List.set_cons_zero, List.set_cons_succ]
    rfl
  refine pure_ (i := 1) (N := (some 5)) (v := ?_) (a' := ?_) #[true, true, false, false, false, false, false, false, false, false, false, false, false] rfl rfl (by kernel_rfl) (fun _ _ _ h => h) (Or.inl ⟨by rfl, ?_⟩) ?_ ?_
  rotate_left
  · intro w'
    go_simp
    with_reducible rfl
  rotate_left
  · simp only [Act.put, List.setIfInBounds_toArray, List.set_cons_zero, List.set_cons_succ]
    rfl
  refine pure_ (i := 2) (N := (some 6)) (v := ?_) (a' := ?_) #[true, true, true, false, false, false, false, false, false, false, false, false, false] rfl rfl (by kernel_rfl) (fun _ _ _ h => h) (Or.inl ⟨by rfl, ?_⟩) ?_ ?_
  rotate_left
  · intro w'
    go_simp
    with_reducible rfl
  rotate_left
  · simp only [Act.put, List.setIfInBounds_toArray, List.set_cons_zero, List.set_cons_succ]
    rfl
  refine pure_ (i := 3) (N := (some 7)) (v := ?_) (a' := ?_) #[true, true, true, true, false, false, false, false, false, false, false, false, false] rfl rfl (by kernel_rfl) (fun _ _ _ h => h) (Or.inl ⟨by rfl, ?_⟩) ?_ ?_
  rotate_left
  · intro w'
    go_simp
    with_reducible rfl
  rotate_left
  · simp only [Act.put, List.setIfInBounds_toArray, List.set_cons_zero, List.set_cons_succ]
    rfl
  refine take_ (i := 4) (N := (some 8)) (v := ?_) (a' := ?_) #[true, true, true, true, true, false, false, false, false, false, false, false, false] rfl rfl (by kernel_rfl) (fun _ _ _ h => h) (Or.inl ⟨by rfl, ?_⟩) hHeld ?_ ?_
  rotate_left
  · intro w' hS'
    have h1 := hS'.1
    go_simp
    with_reducible rfl
  rotate_left
  · simp only [Act.put, List.setIfInBounds_toArray, List.set_cons_zero, List.set_cons_succ]
    rfl
  refine pure_ (i := 5) (N := (some 9)) (v := ?_) (a' := ?_) #[true, true, true, true, true, true, false, false, false, false, false, false, false] rfl rfl (by kernel_rfl) (fun _ _ _ h => h) (Or.inl ⟨by rfl, ?_⟩) ?_ ?_
  rotate_left
  · intro w'
    go_simp
    with_reducible rfl
  rotate_left
  · simp only [Act.put, List.setIfInBounds_toArray, List.set_cons_zero, List.set_cons_succ]
    rfl
  refine one_ (i := 6) (N := (some 10)) #[true, true, true, true, true, true, true, false, false, false, false, false, false] rfl rfl (by kernel_rfl) (by simp) (fun K hK => ?_)
  refine goes_ Tryz.func63 (by kernel_rfl) rfl #[.slice A ss.length ca, .string (bs [32])] (by rfl) rfl rfl (by first | rfl | simp [Act.eval]) ?_
  refine (join63_any ss A ca hss hca hj _ (hA.below hHeld.2)).mono ?_
  rintro e w1 ⟨rfl, hb⟩
  refine ⟨_, rfl, hK _ _ (⟨cell_below hb hHeld.1, below_call hHeld.2 hb⟩) (fun hHeld => ?_)⟩
  simp only [Act.put, List.setIfInBounds_toArray, List.set_cons_zero, List.set_cons_succ]
  refine pure_ (i := 7) (N := (some 11)) (v := ?_) (a' := ?_) #[true, true, true, true, true, true, true, true, false, false, false, false, false] rfl rfl (by kernel_rfl) (fun _ _ _ h => h) (Or.inl ⟨by rfl, ?_⟩) ?_ ?_
  rotate_left
  · intro w'
    go_simp
    first | with_reducible rfl | rfl
  rotate_left
  · simp only [Act.put, List.setIfInBounds_toArray, List.set_cons_zero, List.set_cons_succ]
    rfl
  refine one_ (i := 8) (N := (some 12)) #[true, true, true, true, true, true, true, true, true, false, false, false, false] rfl rfl (by kernel_rfl) (by simp) (fun K hK => ?_)
  refine ev_build (by rfl) rfl [.int .i64 0, .string (bs (Lib.join ss [32]))] 73 2 1 (by first | (go_simp; done) | (go_simp; exact ⟨rfl, rfl⟩)) rfl (by decide) ?_
  intro g8 W8 hown8 hb8
  refine hK _ _ (⟨cell_below hb8 hHeld.1, below_call hHeld.2 hb8⟩) (fun hHeld => ?_)
  simp only [Act.put, List.setIfInBounds_toArray, List.set_cons_zero, List.set_cons_succ]
  refine last_ (i := 9) (N := (some 13)) #[true, true, true, true, true, true, true, true, true, true, false, false, false] rfl rfl (by kernel_rfl) (by simp) (fun K hK => ?_)
  have hoV := own_below ho hHeld.2
  have hgV := (hHeld.2.block g hlt).trans hg
  refine ev_append (by rfl) rfl (.tmp 8) (.tmp 12) 63 rfl base 73 (.agg #[.int .i64 0, .string ⟨#[]⟩]) 2 24 und63 info73 rfl (by decide) v ls.length (pksc ls) rfl hoV ⟨g8, 0, none⟩ 1 1 [.int .i64 0, .string (bs (Lib.join ss [32]))] rfl rfl ?_ ?_ ?_ ?_ ?_ ?_
  · intro j u hj; rw [Addr.add_mid, Nat.zero_add]; have := hown8.cells (g := g8) rfl j u hj; rwa [Addr.add_mid, Nat.zero_add] at this
  · intro u hu; simp at hu; rcases hu with rfl | rfl <;> rfl
  · unfold maxLen; omega
  · omega
  · have := hHeld.2.size; omega
  intro v9 W9 hown9 hgr9
  have hg9 : W9.heap[g]? = some (.cells #[v] 65 (0, 0)) := (hgr9.block g (by have := hHeld.2.size; omega) (fun e => own_ne hgV hoV e.symm)).trans hgV
  have hb9 : Below base W W9 := (hHeld.2.mono (by omega)).grown hgr9 (by have := hHeld.2.size; omega) (own_base hoV)
  refine hK _ _ ?_
  simp only [Act.put, List.setIfInBounds_toArray, List.set_cons_zero, List.set_cons_succ]
  refine pure_ (i := 10) (N := (some 14)) (v := ?_) (a' := ?_) #[true, true, true, true, true, true, true, true, true, true, true, false, false] rfl rfl (by kernel_rfl) (fun _ _ _ h => h) (Or.inl ⟨by rfl, ?_⟩) ?_ ?_
  rotate_left
  · intro w'
    go_simp
    with_reducible rfl
  rotate_left
  · simp only [Act.put, List.setIfInBounds_toArray, List.set_cons_zero, List.set_cons_succ]
    rfl
  refine pure_ (i := 11) (N := (some 15)) (v := ?_) (a' := ?_) #[true, true, true, true, true, true, true, true, true, true, true, true, false] rfl rfl (by kernel_rfl) (fun _ _ _ h => h) (Or.inl ⟨by rfl, ?_⟩) ?_ ?_
  rotate_left
  · intro w'
    go_simp
    with_reducible rfl
  rotate_left
  · simp only [Act.put, List.setIfInBounds_toArray, List.set_cons_zero, List.set_cons_succ]
    rfl
  refine last_ (i := 12) (N := none) #[true, true, true, true, true, true, true, true, true, true, true, true, true] rfl rfl (by kernel_rfl) (by simp) (fun K hK => ?_)
  refine ev_store1 (by rfl) rfl 63 (.tmp 15) (.tmp 13) rfl g v v9 65 rfl rfl (own_cells1 hown9).1 (own_cells1 hown9).2 hg9 (by kernel_rfl) ?_
  refine hK _ _ ?_
  refine done_ (by kernel_rfl) ?_
  go_wp2
  go_end0
  exact ⟨rfl, by rw [show (ls ++ [⟨0, Lib.join ss [32]⟩] : List Pk) = ls ++ [⟨0, Lib.join ss [32]⟩] from rfl]; refine Wr.stored hbg hg9 ?_; simpa [pksc] using hown9, hb9.setCell hbg _⟩
end Go.Proofs.YtmfpmedkhlhnpaaGreatDoor
