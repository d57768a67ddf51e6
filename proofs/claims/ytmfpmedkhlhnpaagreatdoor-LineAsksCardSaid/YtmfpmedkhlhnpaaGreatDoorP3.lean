import Derived.Test.YtmfpmedkhlhnpaaGreatDoorP2
/- functions 102, 86. -/
namespace Go.Proofs.YtmfpmedkhlhnpaaGreatDoor
open Go.RowKit Go.Extern.Stop Go.Proofs.YtmfpmedkhlhnpaaGreatDoorW.PrintLast
set_option maxRecDepth 100000
set_option linter.unusedSimpArgs false
set_option linter.unusedVariables false
def odd (x : Nat) : Bool := decide (x ≠ 45 ∧ (x < 48 ∨ 57 < x) ∧ (x < 97 ∨ 122 < x))
set_option maxHeartbeats 1000000 in
theorem odd102_any (x : Nat) (hx : x ≤ 1114111) (w : World) : FnGives Tryz.prog 102 #[] #[.int .i32 (x : Int)] (.bool (odd x)) w := by
  show Calls Tryz.prog 102 #[.int .i32 (x : Int)] w _
  by_cases h1 : x = 45
  · have ho : Hid (odd x = false) := Lib.hid (by simp [odd, h1])
    have hb : ((x : Int) != 45) = false := by simp; omega
    clear h1
    go_enter Tryz.func102, Tryz.ntmps102
    go_wp2
    go_ret
    exact ⟨by rw [ho.out]; rfl, 0, rfl⟩
  · have hb : ((x : Int) != 45) = true := by simp; omega
    by_cases h2 : x < 48
    · have ho : Hid (odd x = true) := Lib.hid (by simp [odd]; omega)
      have hb2 : decide ((x : Int) < 48) = true := by simp; omega
      have hb3 : decide ((x : Int) < 97) = true := by simp; omega
      clear h1 h2
      go_enter Tryz.func102, Tryz.ntmps102
      go_wp2
      go_ret
      exact ⟨by rw [ho.out]; rfl, 0, rfl⟩
    · have hb2 : decide ((x : Int) < 48) = false := by simp; omega
      by_cases h3 : 57 < x
      · have hb4 : decide (57 < (x : Int)) = true := by simp; omega
        by_cases h5 : x < 97
        · have ho : Hid (odd x = true) := Lib.hid (by simp [odd]; omega)
          have hb3 : decide ((x : Int) < 97) = true := by simp; omega
          clear h1 h2 h3 h5
          go_enter Tryz.func102, Tryz.ntmps102
          go_wp2
          go_ret
          exact ⟨by rw [ho.out]; rfl, 0, rfl⟩
        · have hb3 : decide ((x : Int) < 97) = false := by simp; omega
          have hb5 : decide (122 < (x : Int)) = decide (122 < x) := by rw [decide_eq_decide]; omega
          have ho : Hid (odd x = decide (122 < x)) := Lib.hid (by rw [odd, decide_eq_decide]; omega)
          generalize decide (122 < x) = b at hb5 ho
          clear h1 h2 h3 h5
          go_enter Tryz.func102, Tryz.ntmps102
          go_wp2
          go_ret
          exact ⟨by rw [ho.out]; rfl, 0, rfl⟩
      · have hb4 : decide (57 < (x : Int)) = false := by simp; omega
        have ho : Hid (odd x = false) := Lib.hid (by simp [odd]; omega)
        clear h1 h2 h3
        go_enter Tryz.func102, Tryz.ntmps102
        go_wp2
        go_ret
        exact ⟨by rw [ho.out]; rfl, 0, rfl⟩
theorem bs_at (l : List UInt8) (k : Nat) (h : k < (bs l).size) (h' : k < l.length) : (bs l)[k]'h = l[k] := by
  simp [bs, ByteArray.getElem_eq_getElem_data]
theorem idx_all (l : List UInt8) : ∀ f pos, l.length ≤ pos + f → decide (Lib.idxFuncFrom odd true (bs l) f pos < 0) = (l.drop pos).all okc := by
  intro f
  induction f with
  | zero => intro pos h; rw [List.drop_eq_nil_of_le (by omega)]; rfl
  | succ f ih =>
    intro pos h
    by_cases hp : pos < l.length
    · have hp' : pos < (bs l).size := hp
      have hbs := bs_at l pos hp' hp
      rw [List.drop_eq_getElem_cons hp, List.all_cons]
      have hlt := (l[pos]).toNat_lt
      unfold Lib.idxFuncFrom
      rw [if_pos hp']
      by_cases ha : (l[pos]).toNat < 128
      · have hd := decode_ascii (bs l) pos hp' (by rw [hbs]; exact ha)
        rw [hd, hbs]
        by_cases hk : okc (l[pos]) = true
        · have ho : odd (l[pos]).toNat = false := by
            simp only [okc, decide_eq_true_eq] at hk
            simp only [odd, decide_eq_false_iff_not]; omega
          rw [ho, hk, if_neg (by simp), Bool.true_and]
          exact ih (pos + 1) (by omega)
        · have hk : okc (l[pos]) = false := by simpa using hk
          have ho : odd (l[pos]).toNat = true := by
            simp only [okc, decide_eq_false_iff_not] at hk
            simp only [odd, decide_eq_true_eq]; omega
          rw [ho, hk, if_pos rfl, Bool.false_and]
          simp
      · obtain ⟨hd, -⟩ := decode_high (bs l) pos hp' (by rw [hbs]; omega)
        have ho : odd (Utf8.decode (bs l) pos).1 = true := by simp only [odd, decide_eq_true_eq]; omega
        have hk : okc (l[pos]) = false := by simp only [okc, decide_eq_false_iff_not]; omega
        rw [ho, hk, if_pos rfl, Bool.false_and]
        simp
    · rw [Lib.idxFuncFrom_end _ _ _ _ _ hp, List.drop_eq_nil_of_le (by omega)]; rfl
theorem index101_any (l : List UInt8) (w : World) : Calls Tryz.prog 101 #[.string (bs l), .func (.func 102) #[] #[]] w fun e w' => (∃ i : Int, e = .returned (.int .i64 i) ∧ Hid (decide (i < 0) = l.all okc)) ∧ Below w.heap.size w w' :=
  (Tryz.strings_IndexFunc_runes 102 #[] (enters_of Tryz.func102 (by kernel_rfl) rfl) odd (bs l) w (fun W x hx _ => odd102_any x hx W)).mono fun e w' ⟨he, hb⟩ =>
    ⟨⟨_, he, Lib.hid (by rw [Lib.idxFunc, idx_all l _ 0 (by show l.length ≤ 0 + l.length; omega)]; rfl)⟩, hb⟩
set_option maxHeartbeats 1000000 in
theorem word86_any (l : List UInt8) (hl : l.length ≤ 9223372036854775807) (w : World) : Calls Tryz.prog 86 #[.string (bs l)] w fun e w' => e = .returned (.bool (wordOk l)) ∧ Below w.heap.size w w' := by
  by_cases h0 : l = []
  · subst h0
    go_enter Tryz.func86, Tryz.ntmps86
    go_wp2
    go_ret
    exact ⟨rfl, Below.refl _ _⟩
  · have h1 : 0 < l.length := List.length_pos_iff.2 h0
    have hb : (l == []) = false := by simpa using h0
    have hb' : l.isEmpty = false := by simpa using h0
    have H0 := Lib.hid h0
    clear h0
    by_cases h20 : l.length ≤ 20
    · have hb2 : decide ((l.length : Int) ≤ 20) = true := by simp; omega
      have hw : Hid (wordOk l = l.all okc) := Lib.hid (by rw [wordOk, decide_eq_true h20, decide_eq_true (show 1 ≤ l.length from h1), Bool.and_true, Bool.and_true])
      go_enter Tryz.func86, Tryz.ntmps86
      go_wp2_with (first | (refine wpList_runG (by rfl) (op_str_neqB _ _ _ _ _ _ _ _ _ _ l [] true (by rw [hb]; rfl) rfl rfl) ?_) | (go_at_call 101; refine (index101_any l _).mono ?_; rintro e w1 ⟨⟨i, rfl, hi⟩, hb1⟩))
      go_wp2
      go_ret
      exact ⟨by rw [hw.out, ← hi.out]; rfl, hb1⟩
    · have hb2 : decide ((l.length : Int) ≤ 20) = false := by simp; omega
      have hw : Hid (wordOk l = false) := Lib.hid (by rw [wordOk, decide_eq_false h20, Bool.and_false])
      go_enter Tryz.func86, Tryz.ntmps86
      go_wp2_with (first | (refine wpList_runG (by rfl) (op_str_neqB _ _ _ _ _ _ _ _ _ _ l [] true (by rw [hb]; rfl) rfl rfl) ?_))
      go_ret
      exact ⟨by rw [hw.out]; rfl, Below.refl _ _⟩
theorem cap_pos2 {ss : List (List UInt8)} {k : Nat} {s1 s0 : List UInt8} (h1 : Hid (s1 = ss.getD k [])) (h0 : Hid (s0 = ss.getD (k - 1) [])) (hk : ¬ k = 0) (hw : wordOk s1 = true) : capP ss k = slt s0 s1 := by
  rw [capP, ← h1.out, ← h0.out, hw]
  simp [hk]
theorem op_str_geqB (ρ : Operand → Value) (dst : Option Tmp) (ty : TypeId) (pos : String) (after : Array Edge) (g : Option (Nat × Bool)) (w : World) (x y : Operand) (t : TypeId) (a b : List UInt8) (r : Bool) (hr : (!slt a b) = r) (hx : ρ x = .string (bs a)) (hy : ρ y = .string (bs b)) :
    (execOp ρ ⟨dst, .binOp .geq 9 x y t, ty, pos, after, g⟩).run Tryz.prog w = .ok (.value (.bool r)) w := by
  rw [← hr]; exact op_str_geq ρ dst ty pos after g w x y t a b hx hy
set_option maxHeartbeats 1000000 in
theorem fine61_any (ss : List (List UInt8)) (A : Option Addr) (ca : Nat) (hn : ss.length ≤ 9223372036854775807) (hl : ∀ s ∈ ss, s.length ≤ 9223372036854775807) (w : World) (hA : Rd w A (strc ss)) :
    Calls Tryz.prog 61 #[.slice A ss.length ca] w fun e w' => e = .returned (.bool (capsOk ss)) ∧ Below w.heap.size w w' := by
  have HL := Lib.hid hl
  clear hl
  go_enter Tryz.func61, Tryz.ntmps61
  go_wp2
  go_loopw [7] (fun i wr => ∃ k : Nat, k ≤ ss.length ∧ i = .int .i64 k ∧ Hid ((List.range k).all (capP ss) = true) ∧ Below w.heap.size w wr) (fun i _ => ss.length - (intOf i).toNat)
  case atStart => exact ⟨0, by omega, rfl, by simp [Hid], Below.refl _ _⟩
  case round =>
    obtain ⟨k, hk, rfl, hall, hbel⟩ := hrel
    by_cases hlt : k < ss.length
    · obtain ⟨b1, o1, s1, rfl, c1, hs1⟩ := (hA.below hbel).strN k hlt
      have hl1 := HL.out s1 (mem_getD hlt hs1)
      by_cases hw : wordOk s1 = true
      · by_cases h0 : k = 0
        · have hnx := range_next hall (cap_zero hs1 h0 hw)
          have hk0 : decide (0 < (k : Int)) = false := by simp; omega
          have H0 := Lib.hid h0
          clear h0
          go_wp2_with (first | (go_at_call 86; refine (word86_any s1 hl1 _).mono ?_; rintro e w1 ⟨rfl, hb1⟩; simp only [hw]) | (refine wpList_runG (by rfl) (op_gtr _ _ _ _ _ _ _ _ _ _ _ (k : Int) 0 false hk0 rfl rfl) ?_))
          go_wp2_with (first | (refine wpList_runG (by rfl) (op_gtr _ _ _ _ _ _ _ _ _ _ _ (k : Int) 0 false hk0 rfl rfl) ?_))
          go_roundw
          case rel => exact ⟨k + 1, by omega, by go_num, hnx, below_call hbel hb1⟩
          case measure => simp [intOf]; omega
        · have hk0 : decide (0 < (k : Int)) = true := by simp; omega
          obtain ⟨b2, o2, s0, e2, c0, hs0⟩ := (hA.below hbel).strN (k - 1) (by omega)
          injection e2 with e2; injection e2 with e3 e4; subst e3 e4
          have hcp := Lib.hid (cap_pos2 hs1 hs0 h0 hw)
          have hw1 := IntWalk.i64_in ((k : Int) - 1) (by omega)
          have hi : ((k : Int) - 1).toNat = k - 1 := by omega
          have h0' : 0 ≤ (k : Int) - 1 := by omega
          have h1k : 1 ≤ (k : Int) := by omega
          have h9 : (k : Int) - 1 < (ss.length : Int) := by omega
          by_cases hle : slt s0 s1 = true
          · have hnx := Lib.hid (range_next hall (by rw [hcp.out, hle]))
            go_wp2_with (first | (go_at_call 86; refine (word86_any s1 hl1 _).mono ?_; rintro e w1 ⟨rfl, hb1⟩; simp only [hw]; have c0' := cell_below hb1 c0) | (refine wpList_runG (by rfl) (op_str_geqB _ _ _ _ _ _ _ _ _ _ s0 s1 false (by rw [hle]; rfl) rfl rfl) ?_) | (refine wpList_runG (by rfl) (op_gtr _ _ _ _ _ _ _ _ _ _ _ (k : Int) 0 true hk0 rfl rfl) ?_))
            go_wp2_with (first | (refine wpList_runG (by rfl) (op_str_geqB _ _ _ _ _ _ _ _ _ _ s0 s1 false (by rw [hle]; rfl) rfl rfl) ?_) | (refine wpList_runG (by rfl) (op_gtr _ _ _ _ _ _ _ _ _ _ _ (k : Int) 0 true hk0 rfl rfl) ?_))
            go_roundw
            case rel => exact ⟨k + 1, by omega, by go_num, hnx.out, below_call hbel hb1⟩
            case measure => simp [intOf]; omega
          · have hle : slt s0 s1 = false := by simpa using hle
            have hno := caps_no hlt (by rw [hcp.out, hle])
            go_wp2_with (first | (go_at_call 86; refine (word86_any s1 hl1 _).mono ?_; rintro e w1 ⟨rfl, hb1⟩; simp only [hw]; have c0' := cell_below hb1 c0) | (refine wpList_runG (by rfl) (op_str_geqB _ _ _ _ _ _ _ _ _ _ s0 s1 true (by rw [hle]; rfl) rfl rfl) ?_) | (refine wpList_runG (by rfl) (op_gtr _ _ _ _ _ _ _ _ _ _ _ (k : Int) 0 true hk0 rfl rfl) ?_))
            go_wp2_with (first | (refine wpList_runG (by rfl) (op_str_geqB _ _ _ _ _ _ _ _ _ _ s0 s1 true (by rw [hle]; rfl) rfl rfl) ?_) | (refine wpList_runG (by rfl) (op_gtr _ _ _ _ _ _ _ _ _ _ _ (k : Int) 0 true hk0 rfl rfl) ?_))
            go_ret
            exact ⟨by rw [hno.out]; rfl, below_call hbel hb1⟩
      · have hw : wordOk s1 = false := by simpa using hw
        have hno := caps_no hlt (cap_word hs1 hw)
        go_wp2_with (first | (go_at_call 86; refine (word86_any s1 hl1 _).mono ?_; rintro e w1 ⟨rfl, hb1⟩; simp only [hw]))
        go_wp2
        go_ret
        exact ⟨by rw [hno.out]; rfl, below_call hbel hb1⟩
    · obtain rfl : k = ss.length := by omega
      have hw := caps_end hall
      go_wp2
      go_ret
      exact ⟨by rw [hw.out]; first | (simp [*]; done) | (simp [*]; omega) | (simp; omega), hbel⟩
set_option maxHeartbeats 1000000 in
theorem put65_any (ss : List (List UInt8)) (A : Option Addr) (ca : Nat) (hok : capsOk ss = true) (hn : ss.length ≤ 20) (hl : ∀ s ∈ ss, s.length ≤ 20) (hca : ss.length ≤ ca) (hj : (Lib.join ss [32]).length ≤ 1000) (w : World) (hA : Rd w A (strc ss)) :
    Calls Tryz.prog 65 #[.slice A ss.length ca] w fun e w' => e = .returned (.tuple #[.string (bs (Lib.join ss [32])), .int .i64 0]) ∧ Below w.heap.size w w' := by
  have HL := Lib.hid (fun s hs => by have := hl s hs; omega : ∀ s ∈ ss, s.length ≤ 9223372036854775807)
  go_enter Tryz.func65, Tryz.ntmps65
  go_wp2_with (first | (go_at_call 61; refine (fine61_any ss A ca (by omega) HL.out _ hA).mono ?_; rintro e w1 ⟨rfl, hb1⟩; simp only [hok]) | (go_at_call 63; refine (join63_any ss A ca (by omega) hca (by omega) _ (hA.below hb1)).mono ?_; rintro e w2 ⟨rfl, hb2⟩))
  go_wp2_with (first | (go_at_call 63; refine (join63_any ss A ca (by omega) hca (by omega) _ (hA.below hb1)).mono ?_; rintro e w2 ⟨rfl, hb2⟩))
  go_ret2
  exact ⟨rfl, below_call hb1 hb2⟩
def slc (x : Option Addr × Nat × Nat) : List Value := [.slice x.1 x.2.1 x.2.2]
set_option maxHeartbeats 1000000 in
theorem few62_any (l : List (Option Addr × Nat × Nat)) (A : Option Addr) (ca : Nat) (hn : l.length ≤ 9223372036854775807) (w : World) (hA : Rd w A (l.flatMap slc)) :
    Calls Tryz.prog 62 #[.slice A l.length ca] w fun e w' => e = .returned (.bool (l.all fun x => decide (x.2.1 ≤ 400))) ∧ w = w' := by
  go_enter Tryz.func62, Tryz.ntmps62
  go_wp2
  go_loop [7] (fun i => ∃ k : Nat, k ≤ l.length ∧ i = .int .i64 k ∧ Hid ((l.take k).all (fun x => decide (x.2.1 ≤ 400)) = true)) (fun i => l.length - (intOf i).toNat)
  case atStart => exact ⟨0, by omega, rfl, by simp [Hid]⟩
  case round =>
    obtain ⟨k, hk, rfl, hall⟩ := hrel
    by_cases hlt : k < l.length
    · obtain ⟨b1, o1, x, rfl, c1, hs1⟩ := Rd.at (f := slc) (n := 1) (by omega) hA (fun _ _ => rfl) k hlt
      have c2 := c1 0 _ rfl
      simp only [Nat.mul_one, Nat.add_zero] at c2
      by_cases h4 : x.2.1 ≤ 400
      · have hb : decide (400 < (x.2.1 : Int)) = false := by simp; omega
        have hnx : Hid ((l.take (k + 1)).all (fun x => decide (x.2.1 ≤ 400)) = true) := Lib.hid (by
          obtain ⟨hk2, hs2⟩ := List.getElem?_eq_some_iff.1 hs1
          rw [List.take_succ_eq_append_getElem hk2, hs2, List.all_append, hall.out]; simp [h4])
        go_wp2
        go_round
        case rel => exact ⟨k + 1, by omega, by go_num, hnx⟩
        case measure => simp [intOf]; omega
      · have hb : decide (400 < (x.2.1 : Int)) = true := by simp; omega
        have hno : Hid (l.all (fun x => decide (x.2.1 ≤ 400)) = false) := Lib.hid (by
          rw [List.all_eq_false]
          exact ⟨x, List.mem_of_getElem? hs1, by simpa using h4⟩)
        go_wp2
        go_ret
        exact ⟨by rw [hno.out]; rfl, rfl⟩
    · obtain rfl : k = l.length := by omega
      rw [List.take_length] at hall
      go_wp2
      go_ret
      exact ⟨by rw [hall.out]; rfl, rfl⟩
end Go.Proofs.YtmfpmedkhlhnpaaGreatDoor
