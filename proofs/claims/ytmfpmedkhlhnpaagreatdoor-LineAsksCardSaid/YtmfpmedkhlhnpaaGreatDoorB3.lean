import Derived.Test.YtmfpmedkhlhnpaaGreatDoorB2
/- words, names, lists of texts: functions 67, 33, 60, 35, 59, 48, 69, 38. -/
namespace Go.Proofs.YtmfpmedkhlhnpaaGreatDoor
open Go.RowKit Go.Extern.Stop Go.Proofs.YtmfpmedkhlhnpaaGreatDoorW.PrintLast
set_option maxRecDepth 100000
set_option linter.unusedSimpArgs false
set_option linter.unusedVariables false
def okc (c : UInt8) : Bool := decide (c.toNat = 45 ∨ 48 ≤ c.toNat ∧ c.toNat ≤ 57 ∨ 97 ≤ c.toNat ∧ c.toNat ≤ 122)
def wordOk (l : List UInt8) : Bool := l.all okc && decide (1 ≤ l.length) && decide (l.length ≤ 20)
theorem word_next {l : List UInt8} {k c : Nat} (hk : k < l.length) (hc : Hid (c = (l.getD k 0).toNat)) (h : Hid ((l.take k).all okc = true)) (ho : c = 45 ∨ 48 ≤ c ∧ c ≤ 57 ∨ 97 ≤ c ∧ c ≤ 122) : Hid ((l.take (k + 1)).all okc = true) := by
  refine Lib.hid ?_
  rw [all_take_succ _ _ _ hk, h.out, okc, ← hc.out]
  simpa using ho
theorem word_no {l : List UInt8} {k c : Nat} (hk : k < l.length) (hc : Hid (c = (l.getD k 0).toNat)) (ho : ¬ (c = 45 ∨ 48 ≤ c ∧ c ≤ 57 ∨ 97 ≤ c ∧ c ≤ 122)) : wordOk l = false := by
  rw [wordOk, all_false_of okc l k hk (by rw [okc, ← hc.out]; simpa using ho)]
  rfl
set_option maxHeartbeats 1000000 in
theorem word10_any (l : List UInt8) (hl : l.length ≤ 9223372036854775807) (w : World) :
    Calls Tryz.prog 67 #[.string (bs l)] w fun e w' => e = .returned (.bool (wordOk l)) ∧ w = w' := by
  go_enter Tryz.func67, Tryz.ntmps67
  go_wp2
  go_loop [3] (fun i => ∃ k : Nat, k ≤ l.length ∧ i = .int .i64 k ∧ Hid ((l.take k).all okc = true)) (fun i => l.length - (intOf i).toNat)
  case atStart => exact ⟨0, by omega, rfl, by simp [Hid]⟩
  case round =>
    obtain ⟨k, hk, rfl, hall⟩ := hrel
    by_cases hlt : k < l.length
    · obtain ⟨c, hc2, Hc⟩ := byte_at l k
      by_cases hok : c = 45 ∨ 48 ≤ c ∧ c ≤ 57 ∨ 97 ≤ c ∧ c ≤ 122
      · have hnx := word_next hlt Hc hall hok
        rcases hok with h | ⟨h1, h2⟩ | ⟨h1, h2⟩
        · have hb : ((c : Int) == 45) = true := by rw [h]; rfl
          clear h
          go_wp2_with (refine wpList_run rfl (op_index_str' _ _ _ _ _ _ _ _ _ l k c hlt Hc rfl rfl) ?_)
          go_round
          case rel => exact ⟨k + 1, by omega, by go_num, hnx⟩
          case measure => simp [intOf]; omega
        all_goals
          have hb : ((c : Int) == 45) = false := beq_eq_false_iff_ne.2 (by omega)
          go_wp2_with (refine wpList_run rfl (op_index_str' _ _ _ _ _ _ _ _ _ l k c hlt Hc rfl rfl) ?_)
          go_round
          case rel => exact ⟨k + 1, by omega, by go_num, hnx⟩
          case measure => simp [intOf]; omega
      · have hno := Lib.hid (word_no hlt Hc hok)
        have hb : ((c : Int) == 45) = false := beq_eq_false_iff_ne.2 (by omega)
        have h3 : c < 48 ∨ (58 ≤ c ∧ c < 97) ∨ 122 < c := by omega
        clear hok
        rcases h3 with h | ⟨h, h'⟩ | h
        all_goals
          go_wp2_with (refine wpList_run rfl (op_index_str' _ _ _ _ _ _ _ _ _ l k c hlt Hc rfl rfl) ?_)
          go_ret
          exact ⟨by rw [hno.out]; rfl, rfl⟩
    · obtain rfl : k = l.length := by omega
      have hw : Hid (wordOk l = (decide (1 ≤ l.length) && decide (l.length ≤ 20))) := by
        refine Lib.hid ?_
        rw [wordOk, ← List.take_length (l := l), hall.out]; simp
      by_cases h1 : 1 ≤ l.length
      · by_cases h2 : l.length ≤ 20
        all_goals
          go_wp2
          go_ret
          exact ⟨by rw [hw.out]; first | (simp [*]; done) | (simp [*]; omega), rfl⟩
      · go_wp2
        go_ret
        exact ⟨by rw [hw.out]; first | (simp [*]; done) | (simp [*]; omega), rfl⟩

theorem in33_any (n m : Int) (w : World) : Calls Tryz.prog 33 #[.int .i64 n, .int .i64 m] w fun e w' => e = .returned (.bool (decide (0 ≤ n) && decide (n ≤ m))) ∧ w = w' := by
  by_cases h : 0 ≤ n
  · by_cases h2 : n ≤ m
    all_goals
      go_enter Tryz.func33, Tryz.ntmps33
      go_wp2
      go_ret
      exact ⟨by first | (simp [*]; done) | (simp [*]; omega), rfl⟩
  · go_enter Tryz.func33, Tryz.ntmps33
    go_wp2
    go_ret
    exact ⟨by first | (simp [*]; done) | (simp [*]; omega), rfl⟩
theorem in60_any (n m : Int) (w : World) : Calls Tryz.prog 60 #[.int .i64 n, .int .i64 m] w fun e w' => e = .returned (.bool (decide (0 ≤ n) && decide (n ≤ m))) ∧ w = w' := by
  by_cases h : 0 ≤ n
  · by_cases h2 : n ≤ m
    all_goals
      go_enter Tryz.func60, Tryz.ntmps60
      go_wp2
      go_ret
      exact ⟨by first | (simp [*]; done) | (simp [*]; omega), rfl⟩
  · go_enter Tryz.func60, Tryz.ntmps60
    go_wp2
    go_ret
    exact ⟨by first | (simp [*]; done) | (simp [*]; omega), rfl⟩
def okn (c : UInt8) : Bool := decide (33 ≤ c.toNat ∧ c.toNat ≤ 126)
def nameOk (l : List UInt8) : Bool := l.all okn && decide (1 ≤ l.length) && decide (l.length ≤ 40)
theorem name_next {l : List UInt8} {k c : Nat} (hk : k < l.length) (hc : Hid (c = (l.getD k 0).toNat)) (h : Hid ((l.take k).all okn = true)) (h1 : 33 ≤ c) (h2 : c ≤ 126) : Hid ((l.take (k + 1)).all okn = true) := by
  refine Lib.hid ?_
  rw [all_take_succ _ _ _ hk, h.out, okn, ← hc.out]
  simp [h1, h2]
theorem name_no {l : List UInt8} {k c : Nat} (hk : k < l.length) (hc : Hid (c = (l.getD k 0).toNat)) (ho : ¬ (33 ≤ c ∧ c ≤ 126)) : nameOk l = false := by
  rw [nameOk, all_false_of okn l k hk (by rw [okn, ← hc.out]; simpa using ho)]
  rfl
theorem name_end {l : List UInt8} (h : Hid ((l.take l.length).all okn = true)) : Hid (nameOk l = (decide (1 ≤ l.length) && decide (l.length ≤ 40))) := by
  refine Lib.hid ?_
  rw [nameOk, ← List.take_length (l := l), h.out]; simp
set_option maxHeartbeats 1000000 in
theorem name09_any (l : List UInt8) (hl : l.length ≤ 9223372036854775807) (w : World) :
    Calls Tryz.prog 35 #[.string (bs l)] w fun e w' => e = .returned (.bool (nameOk l)) ∧ w = w' := by
  by_cases h1 : l.length < 1
  · have hn : Hid (nameOk l = false) := Lib.hid (by simp [nameOk]; intro _ h; omega)
    go_enter Tryz.func35, Tryz.ntmps35
    go_wp2
    go_ret
    exact ⟨by rw [hn.out]; rfl, rfl⟩
  · by_cases h2 : 40 < l.length
    · have hn : Hid (nameOk l = false) := Lib.hid (by simp [nameOk]; intro _ h; omega)
      go_enter Tryz.func35, Tryz.ntmps35
      go_wp2
      go_ret
      exact ⟨by rw [hn.out]; rfl, rfl⟩
    · go_enter Tryz.func35, Tryz.ntmps35
      go_wp2
      go_loop [3] (fun i => ∃ k : Nat, k ≤ l.length ∧ i = .int .i64 k ∧ Hid ((l.take k).all okn = true)) (fun i => l.length - (intOf i).toNat)
      case atStart => exact ⟨0, by omega, rfl, by simp [Hid]⟩
      case round =>
        obtain ⟨k, hk, rfl, hall⟩ := hrel
        by_cases hlt : k < l.length
        · obtain ⟨c, hc2, Hc⟩ := byte_at l k
          by_cases hlo : 33 ≤ c
          all_goals try have hb : decide ((c : Int) < 33) = false := by (simp; omega)
          · by_cases hhi : c ≤ 126
            · have hnx := name_next hlt Hc hall hlo hhi
              go_wp2_with (first | (refine wpList_run rfl (op_index_str' _ _ _ _ _ _ _ _ _ l k c hlt Hc rfl rfl) ?_) | (refine wpList_runG (by rfl) (op_index_str' _ _ _ _ _ _ _ _ _ l k c hlt Hc rfl rfl) ?_))
              go_round
              case rel => exact ⟨k + 1, by omega, by go_num, hnx⟩
              case measure => simp [intOf]; omega
            · have hno := Lib.hid (name_no hlt Hc (by omega))
              go_wp2_with (first | (refine wpList_run rfl (op_index_str' _ _ _ _ _ _ _ _ _ l k c hlt Hc rfl rfl) ?_) | (refine wpList_runG (by rfl) (op_index_str' _ _ _ _ _ _ _ _ _ l k c hlt Hc rfl rfl) ?_))
              go_ret
              exact ⟨by rw [hno.out]; rfl, rfl⟩
          · have hno := Lib.hid (name_no hlt Hc (by omega))
            go_wp2_with (first | (refine wpList_run rfl (op_index_str' _ _ _ _ _ _ _ _ _ l k c hlt Hc rfl rfl) ?_) | (refine wpList_runG (by rfl) (op_index_str' _ _ _ _ _ _ _ _ _ l k c hlt Hc rfl rfl) ?_))
            go_ret
            exact ⟨by rw [hno.out]; rfl, rfl⟩
        · obtain rfl : k = l.length := by omega
          have hw := name_end hall
          go_wp2
          go_ret
          exact ⟨by rw [hw.out]; first | (simp [*]; done) | (simp [*]; omega), rfl⟩
set_option maxHeartbeats 1000000 in
theorem name59_any (l : List UInt8) (hl : l.length ≤ 9223372036854775807) (w : World) :
    Calls Tryz.prog 59 #[.string (bs l)] w fun e w' => e = .returned (.bool (nameOk l)) ∧ w = w' := by
  go_enter Tryz.func59, Tryz.ntmps59
  go_wp2
  go_loop [3, 6] (fun _ i => ∃ k : Nat, k ≤ l.length ∧ i = .int .i64 k ∧ Hid ((l.take k).all okn = true)) (fun _ i => l.length - (intOf i).toNat)
  case atStart => exact ⟨0, by omega, rfl, by simp [Hid]⟩
  case round =>
    obtain ⟨k, hk, rfl, hall⟩ := hrel
    by_cases hlt : k < l.length
    · obtain ⟨c, hc2, Hc⟩ := byte_at l k
      by_cases hlo : 33 ≤ c
      all_goals try have hb : decide ((c : Int) ≤ 32) = false := by (simp; omega)
      · by_cases hhi : c ≤ 126
        · have hnx := name_next hlt Hc hall hlo hhi
          go_wp2_with (first | (refine wpList_run rfl (op_index_str' _ _ _ _ _ _ _ _ _ l k c hlt Hc rfl rfl) ?_) | (refine wpList_runG (by rfl) (op_index_str' _ _ _ _ _ _ _ _ _ l k c hlt Hc rfl rfl) ?_))
          go_round
          case rel => exact ⟨k + 1, by omega, by go_num, hnx⟩
          case measure => simp [intOf]; omega
        · have hno := Lib.hid (name_no hlt Hc (by omega))
          go_wp2_with (first | (refine wpList_run rfl (op_index_str' _ _ _ _ _ _ _ _ _ l k c hlt Hc rfl rfl) ?_) | (refine wpList_runG (by rfl) (op_index_str' _ _ _ _ _ _ _ _ _ l k c hlt Hc rfl rfl) ?_))
          go_ret
          exact ⟨by rw [hno.out]; rfl, rfl⟩
      · have hno := Lib.hid (name_no hlt Hc (by omega))
        go_wp2_with (first | (refine wpList_run rfl (op_index_str' _ _ _ _ _ _ _ _ _ l k c hlt Hc rfl rfl) ?_) | (refine wpList_runG (by rfl) (op_index_str' _ _ _ _ _ _ _ _ _ l k c hlt Hc rfl rfl) ?_))
        go_ret
        exact ⟨by rw [hno.out]; rfl, rfl⟩
    · obtain rfl : k = l.length := by omega
      have hw := name_end hall
      cases l with
      | nil =>
        go_wp2
        go_ret
        exact ⟨by rw [hw.out]; rfl, rfl⟩
      | cons a r =>
        have hne : ((a :: r) == ([] : List UInt8)) = false := rfl
        by_cases h40 : (a :: r).length ≤ 40
        all_goals
          simp only [List.length_cons] at h40
          go_wp2_with (refine wpList_run rfl (op_str_neq _ _ _ _ _ _ _ _ _ _ (a :: r) [] rfl rfl) ?_)
          go_ret
          exact ⟨by rw [hw.out]; first | (simp [*]; done) | (simp [*]; omega), rfl⟩
theorem range_next {P : Nat → Bool} {k : Nat} (h : Hid ((List.range k).all P = true)) (hp : P k = true) : Hid ((List.range (k + 1)).all P = true) := by
  refine Lib.hid ?_
  rw [List.range_succ, List.all_append, h.out]; simp [hp]
theorem range_no {P : Nat → Bool} {n k : Nat} (hk : k < n) (hp : P k = false) : (List.range n).all P = false := by
  rw [List.all_eq_false]
  exact ⟨k, by simpa using hk, by simp [hp]⟩
theorem all_same (xs ys : List (List UInt8)) (h : xs.length = ys.length) : ((List.range xs.length).all fun i => xs.getD i [] == ys.getD i []) = (xs == ys) := by
  rw [Bool.eq_iff_iff, List.all_eq_true]
  constructor
  · intro ha
    rw [beq_iff_eq]
    apply List.ext_getElem h
    intro i h1 h2
    have := ha i (by simpa using h1)
    simpa [List.getD_eq_getElem?_getD, List.getElem?_eq_getElem h1, List.getElem?_eq_getElem h2] using this
  · intro he
    rw [beq_iff_eq] at he
    subst he
    intro i _
    simp
set_option maxHeartbeats 1000000 in
theorem same10_any (xs ys : List (List UInt8)) (A B : Option Addr) (ca cb : Nat) (hx : xs.length ≤ 9223372036854775807) (w : World) (hA : Rd w A (strc xs)) (hB : Rd w B (strc ys)) :
    Calls Tryz.prog 48 #[.slice A xs.length ca, .slice B ys.length cb] w fun e w' => e = .returned (.bool (xs == ys)) ∧ Below w.heap.size w w' := by
  by_cases hl : xs.length = ys.length
  · have hb : ((xs.length : Int) != (ys.length : Int)) = false := by rw [hl]; simp
    have hs := Lib.hid (all_same xs ys hl)
    have hl' := Lib.hid hl
    clear hl
    go_enter Tryz.func48, Tryz.ntmps48
    go_wp2
    go_loopw [5] (fun i wr => ∃ k : Nat, k ≤ xs.length ∧ i = .int .i64 k ∧ Hid ((List.range k).all (fun i => xs.getD i [] == ys.getD i []) = true) ∧ Below w.heap.size w wr) (fun i _ => xs.length - (intOf i).toNat)
    case atStart => exact ⟨0, by omega, rfl, by simp [Hid], Below.refl _ _⟩
    case round =>
      obtain ⟨k, hk, rfl, hall, hbel⟩ := hrel
      by_cases hlt : k < xs.length
      · have hlt2 : k < ys.length := by rw [← hl'.out]; exact hlt
        obtain ⟨b1, o1, s1, rfl, c1, hs1⟩ := (hA.below hbel).strN k hlt
        obtain ⟨b2, o2, s2, rfl, c2, hs2⟩ := (hB.below hbel).strN k hlt2
        go_wp2
        refine start_ (n := 9) (S := (fun W => W.cell? ⟨b1, o1 + k, none⟩ = some (.string (bs s1)) ∧ W.cell? ⟨b2, o2 + k, none⟩ = some (.string (bs s2)))) (ds := []) #[false, false, false, false, false, false, false, false, false] (by kernel_rfl) rfl rfl (⟨by simpa using c1, by simpa using c2⟩) (fun hHeld => ?_)
        refine pure_ (i := 0) (N := (some 17)) (v := ?_) (a' := ?_) #[true, false, false, false, false, false, false, false, false] rfl rfl (by kernel_rfl) (fun _ _ _ h => h) (Or.inl ⟨by rfl, ?_⟩) ?_ ?_
        rotate_left
        · intro w'
          go_simp
          with_reducible rfl
        rotate_left
        · simp only [Act.put, List.setIfInBounds_toArray, List.set_cons_zero, List.set_cons_succ]
          rfl
        refine pure_ (i := 1) (N := (some 18)) (v := ?_) (a' := ?_) #[true, true, false, false, false, false, false, false, false] rfl rfl (by kernel_rfl) (fun _ _ _ h => h) (Or.inl ⟨by rfl, ?_⟩) ?_ ?_
        rotate_left
        · intro w'
          go_simp
          with_reducible rfl
        rotate_left
        · simp only [Act.put, List.setIfInBounds_toArray, List.set_cons_zero, List.set_cons_succ]
          rfl
        refine pure_ (i := 2) (N := (some 19)) (v := ?_) (a' := ?_) #[true, true, true, false, false, false, false, false, false] rfl rfl (by kernel_rfl) (fun _ _ _ h => h) (Or.inl ⟨by rfl, ?_⟩) ?_ ?_
        rotate_left
        · intro w'
          go_simp
          with_reducible rfl
        rotate_left
        · simp only [Act.put, List.setIfInBounds_toArray, List.set_cons_zero, List.set_cons_succ]
          rfl
        refine take_ (i := 3) (N := (some 20)) (v := ?_) (a' := ?_) #[true, true, true, true, false, false, false, false, false] rfl rfl (by kernel_rfl) (fun _ _ _ h => h) (Or.inl ⟨by rfl, ?_⟩) hHeld ?_ ?_
        rotate_left
        · intro w' hS'
          have h1 := hS'.1
          go_simp
          with_reducible rfl
        rotate_left
        · simp only [Act.put, List.setIfInBounds_toArray, List.set_cons_zero, List.set_cons_succ]
          rfl
        refine pure_ (i := 4) (N := (some 21)) (v := ?_) (a' := ?_) #[true, true, true, true, true, false, false, false, false] rfl rfl (by kernel_rfl) (fun _ _ _ h => h) (Or.inl ⟨by rfl, ?_⟩) ?_ ?_
        rotate_left
        · intro w'
          go_simp
          with_reducible rfl
        rotate_left
        · simp only [Act.put, List.setIfInBounds_toArray, List.set_cons_zero, List.set_cons_succ]
          rfl
        refine pure_ (i := 5) (N := (some 22)) (v := ?_) (a' := ?_) #[true, true, true, true, true, true, false, false, false] rfl rfl (by kernel_rfl) (fun _ _ _ h => h) (Or.inl ⟨by rfl, ?_⟩) ?_ ?_
        rotate_left
        · intro w'
          go_simp
          with_reducible rfl
        rotate_left
        · simp only [Act.put, List.setIfInBounds_toArray, List.set_cons_zero, List.set_cons_succ]
          rfl
        refine pure_ (i := 6) (N := (some 23)) (v := ?_) (a' := ?_) #[true, true, true, true, true, true, true, false, false] rfl rfl (by kernel_rfl) (fun _ _ _ h => h) (Or.inl ⟨by rfl, ?_⟩) ?_ ?_
        rotate_left
        · intro w'
          go_simp
          with_reducible rfl
        rotate_left
        · simp only [Act.put, List.setIfInBounds_toArray, List.set_cons_zero, List.set_cons_succ]
          rfl
        refine take_ (i := 7) (N := (some 24)) (v := ?_) (a' := ?_) #[true, true, true, true, true, true, true, true, false] rfl rfl (by kernel_rfl) (fun _ _ _ h => h) (Or.inl ⟨by rfl, ?_⟩) hHeld ?_ ?_
        rotate_left
        · intro w' hS'
          have h1 := hS'.2
          go_simp
          with_reducible rfl
        rotate_left
        · simp only [Act.put, List.setIfInBounds_toArray, List.set_cons_zero, List.set_cons_succ]
          rfl
        refine pure_ (i := 8) (N := (some 25)) (v := ?_) (a' := ?_) #[true, true, true, true, true, true, true, true, true] rfl rfl (by kernel_rfl) (fun _ _ _ h => h) (Or.inl ⟨by rfl, ?_⟩) ?_ ?_
        rotate_left
        · intro w'
          refine op_str_neq _ _ _ _ _ _ _ _ _ _ s1 s2 ?_ ?_
          rfl
          rfl
        rotate_left
        · simp only [Act.put, List.setIfInBounds_toArray, List.set_cons_zero, List.set_cons_succ]
          rfl
        refine done_ (by kernel_rfl) ?_
        by_cases he : (s1 == s2) = true
        · have hnx := range_next hall (by rw [← hs1.out, ← hs2.out]; exact he)
          simp only [he, Bool.not_true]
          go_wp2
          go_roundw
          case rel => exact ⟨k + 1, by omega, by go_num, hnx, below_drew hbel⟩
          case measure => simp [intOf]; omega
        · have he : (s1 == s2) = false := by simpa using he
          have hno : Hid ((xs == ys) = false) := Lib.hid (by rw [← hs.out]; exact range_no hlt (by rw [← hs1.out, ← hs2.out]; exact he))
          simp only [he, Bool.not_false]
          go_wp2
          go_ret
          exact ⟨by rw [hno.out]; rfl, below_drew hbel⟩
      · obtain rfl : k = xs.length := by omega
        have hyes : Hid ((xs == ys) = true) := Lib.hid (by rw [← hs.out]; exact hall.out)
        go_wp2
        go_ret
        exact ⟨by rw [hyes.out]; rfl, hbel⟩
  · have hb : ((xs.length : Int) != (ys.length : Int)) = true := by simp; omega
    have hno : Hid ((xs == ys) = false) := Lib.hid (by rw [beq_eq_false_iff_ne]; intro h; exact hl (by rw [h]))
    go_enter Tryz.func48, Tryz.ntmps48
    go_wp2
    go_ret
    exact ⟨by rw [hno.out]; rfl, Below.refl _ _⟩
def joinTo (ss : List (List UInt8)) : Nat → List UInt8
  | 0 => []
  | k + 1 => joinTo ss k ++ (if k = 0 then [] else [32]) ++ ss.getD k []
def joinS (ss : List (List UInt8)) : List UInt8 := joinTo ss ss.length
theorem joinTo_length (ss : List (List UInt8)) (m : Nat) (hm : ∀ s ∈ ss, s.length ≤ m) : ∀ k, k ≤ ss.length → (joinTo ss k).length ≤ (m + 1) * k
  | 0, _ => by simp [joinTo]
  | k + 1, h => by
    have ih := joinTo_length ss m hm k (by omega)
    have h1 : (ss.getD k []).length ≤ m := by
      rw [List.getD_eq_getElem?_getD, List.getElem?_eq_getElem (by omega)]
      exact hm _ (List.getElem_mem _)
    simp only [joinTo, List.length_append]
    have h2 : (if k = 0 then ([] : List UInt8) else [32]).length ≤ 1 := by split <;> simp
    rw [Nat.mul_succ]
    omega
set_option maxHeartbeats 1000000 in
theorem put10_any (ss : List (List UInt8)) (A : Option Addr) (ca : Nat) (hn : ss.length ≤ 1000) (hm : ∀ s ∈ ss, s.length ≤ 1000) (w : World) (hA : Rd w A (strc ss)) :
    Calls Tryz.prog 69 #[.slice A ss.length ca] w fun e w' => e = .returned (.string (bs (joinS ss))) ∧ w = w' := by
  have Hm := Lib.hid hm
  clear hm
  go_enter Tryz.func69, Tryz.ntmps69
  go_wp2
  go_loop [3, 4] (fun s i => ∃ k : Nat, k ≤ ss.length ∧ i = .int .i64 k ∧ s = .string (bs (joinTo ss k))) (fun _ i => ss.length - (intOf i).toNat)
  case atStart => exact ⟨0, by omega, rfl, rfl⟩
  case round =>
    obtain ⟨k, hk, rfl, rfl⟩ := hrel
    by_cases hlt : k < ss.length
    · obtain ⟨b1, o1, rfl, c1⟩ := hA.str k hlt
      have hlen := joinTo_length ss 1000 Hm.out k (by omega)
      have hlen2 : (joinTo ss k).length ≤ 1001000 := by omega
      have hs1 : (ss.getD k []).length ≤ 1000 := by
        rw [List.getD_eq_getElem?_getD, List.getElem?_eq_getElem hlt]
        exact Hm.out _ (List.getElem_mem _)
      have hnx : Hid (joinTo ss (k + 1) = joinTo ss k ++ (if k = 0 then [] else [32]) ++ ss.getD k []) := Lib.hid rfl
      generalize hg : ss.getD k [] = s1 at *
      clear hg
      generalize hj : joinTo ss k = j1 at *
      have Hj := Lib.hid hj
      clear hj hlen
      by_cases h0 : k = 0
      · have h0' : Hid (k = 0) := Lib.hid h0
        have hk0 : (k : Int) ≤ 0 := by omega
        clear h0
        go_wp2_with (first
          | refine wpList_run rfl (op_concat _ _ _ _ _ _ _ _ _ _ j1 s1 rfl rfl (by omega)) ?_)
        go_round
        case rel => exact ⟨k + 1, by omega, by go_num, by rw [hnx.out, if_pos h0'.out, List.append_nil]⟩
        case measure => simp [intOf]; omega
      · have hk0 : 0 < (k : Int) := by omega
        go_wp2_with (first
          | refine wpList_run rfl (op_concat _ _ _ _ _ _ _ _ _ _ j1 [32] rfl rfl (by simp; omega)) ?_
          | refine wpList_run rfl (op_concat _ _ _ _ _ _ _ _ _ _ (j1 ++ [32]) s1 rfl rfl (by simp; omega)) ?_)
        go_round
        case rel => exact ⟨k + 1, by omega, by go_num, by rw [hnx.out, if_neg h0]; simp⟩
        case measure => simp [intOf]; omega
    · obtain rfl : k = ss.length := by omega
      go_wp2
      go_ret
      exact ⟨rfl, rfl⟩
/-- 'caps ' -/
def capsB : List UInt8 := [99, 97, 112, 115, 32]
def capsLine (ss : List (List UInt8)) : List UInt8 := if ss.length = 0 then [] else pk (capsB ++ joinS ss)
set_option maxHeartbeats 1000000 in
theorem caps38_any (ss : List (List UInt8)) (A : Option Addr) (ca : Nat) (hn : ss.length ≤ 30) (hm : ∀ s ∈ ss, s.length ≤ 1000) (w : World) (hA : Rd w A (strc ss)) :
    Calls Tryz.prog 38 #[.slice A ss.length ca] w fun e w' => e = .returned (.string (bs (capsLine ss))) ∧ Below w.heap.size w w' := by
  by_cases h0 : ss.length = 0
  · have hb : ((ss.length : Int) == 0) = true := by simp [h0]
    have hc : Hid (capsLine ss = []) := Lib.hid (by simp [capsLine, h0])
    clear h0
    go_enter Tryz.func38, Tryz.ntmps38
    go_wp2
    go_ret
    exact ⟨by rw [hc.out]; rfl, Below.refl _ _⟩
  · have hb : ((ss.length : Int) == 0) = false := by simp; intro h; exact h0 (by simp [h])
    have hc : Hid (capsLine ss = pk (capsB ++ joinS ss)) := Lib.hid (by simp [capsLine, h0])
    have hj : (joinS ss).length ≤ 30030 := by have := joinTo_length ss 1000 hm ss.length (Nat.le_refl _); unfold joinS; omega
    have Hm := Lib.hid hm
    clear hm
    go_enter Tryz.func38, Tryz.ntmps38
    go_wp2_with fail
    refine (put10_any ss A ca (by omega) Hm.out w hA).mono ?_; rintro e w1 ⟨rfl, rfl⟩
    go_wp2_with (refine wpList_run rfl (op_concat _ _ _ _ _ _ _ _ _ _ capsB (joinS ss) rfl rfl (by simp [capsB]; omega)) ?_)
    refine (one20_any (capsB ++ joinS ss) (by simp [capsB]; omega) _).mono ?_; rintro e w1 ⟨rfl, hb1⟩
    go_wp2
    go_ret
    exact ⟨by rw [hc.out]; rfl, hb1⟩
end Go.Proofs.YtmfpmedkhlhnpaaGreatDoor
