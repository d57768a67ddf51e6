import Derived.Test.YtmfpmedkhlhnpaaGreatDoorS1
/- function 53: a reply takes in a line. -/
namespace Go.Proofs.YtmfpmedkhlhnpaaGreatDoor
open Go.RowKit Go.Extern.Stop Go.Proofs.YtmfpmedkhlhnpaaGreatDoorW.PrintLast
set_option maxRecDepth 100000
set_option linter.unusedSimpArgs false
set_option linter.unusedVariables false
theorem rep_h (r : Rep) (a : RepA) (j : Nat) (v : Value) (h : (repHead r a)[j]? = some v) : (repc r a).toArray[j]? = some v := by
  have hj := (List.getElem?_eq_some_iff.1 h).1
  rw [List.getElem?_toArray, repc, List.getElem?_append_left hj]; exact h
theorem rep_g {r : Rep} {a : RepA} {j : Nat} {v : Value} (h : (repc r a)[j]? = some v) : (repc r a).toArray[j]? = some v := by rw [List.getElem?_toArray]; exact h
def ReadResR (m base g : Nat) (W w' : World) (q : Rep) : Prop := (∃ a, RepAt (m + 1) base g w' q a) ∧ Below base W w'
theorem ref_ones (u : Rf) : ∀ v ∈ refc u, v.oneCell' = true := by
  intro v hv
  rcases List.mem_cons.1 hv with rfl | hv
  · rfl
  · exact idc_one _ v hv
set_option maxHeartbeats 2000000 in
theorem read53_op (l : List UInt8) (hl : l.length ≤ 1000000) (m base g : Nat) (q : Rep) (a : RepA) (W : World) (hE : Env W) (hR : RepAt m base g W q a) (hm : m ≤ 100000) (hw : bef l = wOp) :
    Calls Tryz.prog 53 #[.pointer (some ⟨g, 0, none⟩), .string (bs l)] W fun e w' => e = .returned (.tuple #[]) ∧ ReadResR m base g W w' (readR q l) := by
  have Hq := Lib.hid (rd_op (q := q) hw)
  have HW := Lib.hid hw
  clear hw
  have hb0 := hR.hbg
  have hb00 := hR.lt
  have HE := Lib.hid hE
  have HR := Lib.hid hR
  have l1 := aft_len l
  have l2 := bef_len (aft l)
  have l3 := aft_len (aft l)
  obtain ⟨rest, Hr⟩ : ∃ r, Hid (aft l = r) := ⟨_, Lib.hid rfl⟩
  rw [Hr.out] at l1 l2 l3
  try rw [Hr.out] at Hq
  obtain ⟨x1, Hx1⟩ : ∃ r, Hid (bef rest = r) := ⟨_, Lib.hid rfl⟩
  obtain ⟨x2, Hx2⟩ : ∃ r, Hid (aft rest = r) := ⟨_, Lib.hid rfl⟩
  rw [Hx1.out] at l2
  rw [Hx2.out] at l3
  try rw [Hx1.out] at Hq
  try rw [Hx2.out] at Hq
  clear hE hR
  go_enter Tryz.func53, Tryz.ntmps53
  go_wp2_with fail
  refine (cut72_any l hl W HE.out).mono ?_
  rintro e W1 ⟨⟨t1, rfl⟩, hb1⟩
  rw [HW.out, Hr.out]
  have HE1 := Lib.hid (HE.out.below hb1)
  have HR1 := Lib.hid (HR.out.below hb1)
  go_wp2_with fail
  refine (cut72_any rest (by omega) W1 HE1.out).mono ?_
  rintro e W2 ⟨⟨t2, rfl⟩, hb2⟩
  rw [Hx1.out, Hx2.out]
  have HE2 := Lib.hid (HE1.out.below hb2)
  have HR2 := Lib.hid (HR1.out.below hb2)
  have HB2 : Hid (Below base W W2) := Lib.hid (below_base (below_base (Below.refl _ _) (by omega) hb1) (by have := HR1.out.lt; have := HR1.out.hbg; omega) hb2)
  clear hb1 hb2
  go_wp2_with (first
    | (refine wpList_run rfl (op_str_eqlB _ _ _ _ _ _ _ _ _ _ wOp [111, 112] true rfl rfl rfl) ?_))
  refine (figure73_any x1 (by omega) W2 HE2.out).mono ?_
  rintro e W3 ⟨rfl, hb3⟩
  have HE3 := Lib.hid (HE2.out.below hb3)
  have HR3 := Lib.hid (HR2.out.below hb3)
  go_wp2_with fail
  refine (figure73_any x2 (by omega) W3 HE3.out).mono ?_
  rintro e W4 ⟨rfl, hb4⟩
  have HR4 := Lib.hid (HR3.out.below hb4)
  have HR5 := Lib.hid (HR4.out.set_op (figI x1))
  have HR6 := Lib.hid (HR5.out.set_err (figI x2))
  have HG4 := Lib.hid HR4.out.hg
  have HG5 := Lib.hid HR5.out.hg
  have HB4 : Hid (Below base W W4) := Lib.hid (below_base (below_base HB2.out (by have := HR2.out.lt; have := HR2.out.hbg; omega) hb3) (by have := HR3.out.lt; have := HR3.out.hbg; omega) hb4)
  clear hb3 hb4
  go_wp2_with (first
    | (refine wpList_storeMid rfl 3 _ _ rfl g 0 (repc q a).toArray (.int .i64 q.op) (.int .i64 (figI x1)) 44 rfl rfl rfl rfl HG4.out (rep_h _ _ _ _ rfl) (by kernel_rfl) ?_)
    | (refine wpList_storeMid rfl 3 _ _ rfl g 1 (repc { q with op := figI x1 } a).toArray (.int .i64 q.err) (.int .i64 (figI x2)) 44 rfl rfl rfl rfl HG5.out (rep_h _ _ _ _ rfl) (by kernel_rfl) ?_))
  go_end0
  exact ⟨rfl, by rw [Hq.out]; exact ⟨⟨a, HR6.out.mono (by omega)⟩, (HB4.out.setCell hb0 _).setCell hb0 _⟩⟩
set_option maxHeartbeats 2000000 in
theorem read53_caps (l : List UInt8) (hl : l.length ≤ 1000000) (m base g : Nat) (q : Rep) (a : RepA) (W : World) (hE : Env W) (hR : RepAt m base g W q a) (hm : m ≤ 100000) (hw : bef l = wCaps) :
    Calls Tryz.prog 53 #[.pointer (some ⟨g, 0, none⟩), .string (bs l)] W fun e w' => e = .returned (.tuple #[]) ∧ ReadResR m base g W w' (readR q l) := by
  have Hq := Lib.hid (rd_caps (q := q) hw)
  have HW := Lib.hid hw
  clear hw
  have hb0 := hR.hbg
  have hb00 := hR.lt
  have HE := Lib.hid hE
  have HR := Lib.hid hR
  have l1 := aft_len l
  have l2 := bef_len (aft l)
  have l3 := aft_len (aft l)
  obtain ⟨rest, Hr⟩ : ∃ r, Hid (aft l = r) := ⟨_, Lib.hid rfl⟩
  rw [Hr.out] at l1 l2 l3
  try rw [Hr.out] at Hq
  obtain ⟨x1, Hx1⟩ : ∃ r, Hid (bef rest = r) := ⟨_, Lib.hid rfl⟩
  obtain ⟨x2, Hx2⟩ : ∃ r, Hid (aft rest = r) := ⟨_, Lib.hid rfl⟩
  rw [Hx1.out] at l2
  rw [Hx2.out] at l3
  try rw [Hx1.out] at Hq
  try rw [Hx2.out] at Hq
  clear hE hR
  go_enter Tryz.func53, Tryz.ntmps53
  go_wp2_with fail
  refine (cut72_any l hl W HE.out).mono ?_
  rintro e W1 ⟨⟨t1, rfl⟩, hb1⟩
  rw [HW.out, Hr.out]
  have HE1 := Lib.hid (HE.out.below hb1)
  have HR1 := Lib.hid (HR.out.below hb1)
  go_wp2_with fail
  refine (cut72_any rest (by omega) W1 HE1.out).mono ?_
  rintro e W2 ⟨⟨t2, rfl⟩, hb2⟩
  rw [Hx1.out, Hx2.out]
  have HE2 := Lib.hid (HE1.out.below hb2)
  have HR2 := Lib.hid (HR1.out.below hb2)
  have HB2 : Hid (Below base W W2) := Lib.hid (below_base (below_base (Below.refl _ _) (by omega) hb1) (by have := HR1.out.lt; have := HR1.out.hbg; omega) hb2)
  clear hb1 hb2
  go_wp2_with (first
    | (refine wpList_run rfl (op_str_eqlB _ _ _ _ _ _ _ _ _ _ wCaps [111, 112] false rfl rfl rfl) ?_)
    | (refine wpList_run rfl (op_str_eqlB _ _ _ _ _ _ _ _ _ _ wCaps [99, 97, 112, 115] true rfl rfl rfl) ?_))
  refine (caps74_any rest (by omega) W2 HE2.out).mono ?_
  rintro e W3 ⟨⟨A2, c2, er, rfl, ho2⟩, hb3⟩
  have HR3 := Lib.hid (HR2.out.below hb3)
  have ho3 : W3.ownsRow base 9 1 (.slice A2 (capsG rest).length c2) (capsG rest).length (strc (capsG rest)) := own_weaken ho2 (by have := HR2.out.lt; have := HR2.out.hbg; omega)
  have HR4 := Lib.hid (HR3.out.set_caps (capsG rest) A2 c2 ho3 (capsG_short rest (by omega)))
  have HG3 := Lib.hid HR3.out.hg
  have HB3 : Hid (Below base W W3) := Lib.hid (below_base HB2.out (by have := HR2.out.lt; have := HR2.out.hbg; omega) hb3)
  clear hb3 ho2 ho3
  obtain ⟨nc, Hnc⟩ : ∃ n, Hid ((capsG rest).length = n) := ⟨_, Lib.hid rfl⟩
  rw [Hnc.out] at HR4 ⊢
  go_wp2_with (first
    | (refine wpList_storeMid rfl 22 _ _ rfl g 2 (repc q a).toArray (.slice a.a2 q.caps.length a.c2) (.slice A2 nc c2) 44 rfl rfl rfl rfl HG3.out (rep_h _ _ _ _ rfl) (by kernel_rfl) ?_))
  go_end0
  exact ⟨rfl, by rw [Hq.out]; exact ⟨⟨_, HR4.out.mono (by omega)⟩, HB3.out.setCell hb0 _⟩⟩
set_option maxHeartbeats 2000000 in
theorem read53_ref (l : List UInt8) (hl : l.length ≤ 1000000) (m base g : Nat) (q : Rep) (a : RepA) (W : World) (hE : Env W) (hR : RepAt m base g W q a) (hm : m ≤ 100000) (hw : bef l = wRef) :
    Calls Tryz.prog 53 #[.pointer (some ⟨g, 0, none⟩), .string (bs l)] W fun e w' => e = .returned (.tuple #[]) ∧ ReadResR m base g W w' (readR q l) := by
  have Hq := Lib.hid (rd_ref (q := q) hw)
  have HW := Lib.hid hw
  clear hw
  have hb0 := hR.hbg
  have hb00 := hR.lt
  have HE := Lib.hid hE
  have HR := Lib.hid hR
  have l1 := aft_len l
  have l2 := bef_len (aft l)
  have l3 := aft_len (aft l)
  obtain ⟨rest, Hr⟩ : ∃ r, Hid (aft l = r) := ⟨_, Lib.hid rfl⟩
  rw [Hr.out] at l1 l2 l3
  try rw [Hr.out] at Hq
  obtain ⟨x1, Hx1⟩ : ∃ r, Hid (bef rest = r) := ⟨_, Lib.hid rfl⟩
  obtain ⟨x2, Hx2⟩ : ∃ r, Hid (aft rest = r) := ⟨_, Lib.hid rfl⟩
  rw [Hx1.out] at l2
  rw [Hx2.out] at l3
  try rw [Hx1.out] at Hq
  try rw [Hx2.out] at Hq
  clear hE hR
  go_enter Tryz.func53, Tryz.ntmps53
  go_wp2_with fail
  refine (cut72_any l hl W HE.out).mono ?_
  rintro e W1 ⟨⟨t1, rfl⟩, hb1⟩
  rw [HW.out, Hr.out]
  have HE1 := Lib.hid (HE.out.below hb1)
  have HR1 := Lib.hid (HR.out.below hb1)
  go_wp2_with fail
  refine (cut72_any rest (by omega) W1 HE1.out).mono ?_
  rintro e W2 ⟨⟨t2, rfl⟩, hb2⟩
  rw [Hx1.out, Hx2.out]
  have HE2 := Lib.hid (HE1.out.below hb2)
  have HR2 := Lib.hid (HR1.out.below hb2)
  have HB2 : Hid (Below base W W2) := Lib.hid (below_base (below_base (Below.refl _ _) (by omega) hb1) (by have := HR1.out.lt; have := HR1.out.hbg; omega) hb2)
  clear hb1 hb2
  go_wp2_with (first
    | (refine wpList_run rfl (op_str_eqlB _ _ _ _ _ _ _ _ _ _ wRef [111, 112] false rfl rfl rfl) ?_)
    | (refine wpList_run rfl (op_str_eqlB _ _ _ _ _ _ _ _ _ _ wRef [99, 97, 112, 115] false rfl rfl rfl) ?_)
    | (refine wpList_run rfl (op_str_eqlB _ _ _ _ _ _ _ _ _ _ wRef [114, 101, 102] true rfl rfl rfl) ?_))
  try go_wp2
  refine start_ (n := 14) (S := (fun V => RepAt m base g V q a ∧ Below base W V)) (ds := [10, 13]) #[false, false, false, false, false, false, false, false, false, false, false, false, false, false] (by kernel_rfl) rfl rfl (⟨HR2.out.drew, ⟨HB2.out.os, HB2.out.tape, HB2.out.output, HB2.out.size, HB2.out.block⟩⟩) (fun hHeld => ?_)
  refine pure_ (i := 0) (N := (some 47)) (v := ?_) (a' := ?_) #[true, false, false, false, false, false, false, false, false, false, false, false, false, false] rfl rfl (by kernel_rfl) (fun _ _ _ h => h) (Or.inl ⟨by rfl, ?_⟩) ?_ ?_
  rotate_left
  · intro w'
    go_simp
    with_reducible rfl
  rotate_left
  · simp only [Act.put, List.setIfInBounds_toArray, List.set_cons_zero, List.set_cons_succ]
    rfl
  refine pure_ (i := 1) (N := (some 48)) (v := ?_) (a' := ?_) #[true, true, false, false, false, false, false, false, false, false, false, false, false, false] rfl rfl (by kernel_rfl) (fun _ _ _ h => h) (Or.inl ⟨by rfl, ?_⟩) ?_ ?_
  rotate_left
  · intro w'
    go_simp
    with_reducible rfl
  rotate_left
  · simp only [Act.put, List.setIfInBounds_toArray, List.set_cons_zero, List.set_cons_succ]
    rfl
  refine pure_ (i := 2) (N := (some 49)) (v := ?_) (a' := ?_) #[true, true, true, false, false, false, false, false, false, false, false, false, false, false] rfl rfl (by kernel_rfl) (fun _ _ _ h => h) (Or.inl ⟨by rfl, ?_⟩) ?_ ?_
  rotate_left
  · intro w'
    go_simp
    with_reducible rfl
  rotate_left
  · simp only [Act.put, List.setIfInBounds_toArray, List.set_cons_zero, List.set_cons_succ]
    rfl
  refine pure_ (i := 3) (N := (some 50)) (v := ?_) (a' := ?_) #[true, true, true, true, false, false, false, false, false, false, false, false, false, false] rfl rfl (by kernel_rfl) (fun _ _ _ h => h) (Or.inl ⟨by rfl, ?_⟩) ?_ ?_
  rotate_left
  · intro w'
    go_simp
    with_reducible rfl
  rotate_left
  · simp only [Act.put, List.setIfInBounds_toArray, List.set_cons_zero, List.set_cons_succ]
    rfl
  refine take_ (i := 4) (N := (some 51)) (v := ?_) (a' := ?_) #[true, true, true, true, true, false, false, false, false, false, false, false, false, false] rfl rfl (by kernel_rfl) (fun _ _ _ h => h) (Or.inl ⟨by rfl, ?_⟩) hHeld ?_ ?_
  rotate_left
  · intro w' hS'
    have h1 := cell_of_row _ g 3 _ 44 (0, 0) hS'.1.hg
    replace h1 := h1.trans (show (repc q a).toArray[3]? = some (.slice a.a3 q.refs.length a.c3) from (rep_h _ _ _ _ rfl))
    go_simp
    with_reducible rfl
  rotate_left
  · simp only [Act.put, List.setIfInBounds_toArray, List.set_cons_zero, List.set_cons_succ]
    rfl
  refine pure_ (i := 5) (N := (some 52)) (v := ?_) (a' := ?_) #[true, true, true, true, true, true, false, false, false, false, false, false, false, false] rfl rfl (by kernel_rfl) (fun _ _ _ h => h) (Or.inl ⟨by rfl, ?_⟩) ?_ ?_
  rotate_left
  · intro w'
    go_simp
    with_reducible rfl
  rotate_left
  · simp only [Act.put, List.setIfInBounds_toArray, List.set_cons_zero, List.set_cons_succ]
    rfl
  refine pure_ (i := 6) (N := (some 53)) (v := ?_) (a' := ?_) #[true, true, true, true, true, true, true, false, false, false, false, false, false, false] rfl rfl (by kernel_rfl) (fun _ _ _ h => h) (Or.inl ⟨by rfl, ?_⟩) ?_ ?_
  rotate_left
  · intro w'
    go_simp
    with_reducible rfl
  rotate_left
  · simp only [Act.put, List.setIfInBounds_toArray, List.set_cons_zero, List.set_cons_succ]
    rfl
  refine one_ (i := 7) (N := (some 54)) #[true, true, true, true, true, true, true, true, false, false, false, false, false, false] rfl rfl (by kernel_rfl) (by simp) (fun K hK => ?_)
  refine goes_ Tryz.func75 (by kernel_rfl) rfl #[.string (bs x1)] (by rfl) rfl rfl (by first | rfl | simp [Act.eval]) ?_
  refine (id75_any x1 (by omega) _).mono ?_
  rintro e w1 ⟨rfl, hb⟩
  refine ⟨_, rfl, hK _ _ (⟨hHeld.1.below hb, below_base hHeld.2 (by have := hHeld.1.lt; omega) hb⟩) (fun hHeld => ?_)⟩
  simp only [Act.put, List.setIfInBounds_toArray, List.set_cons_zero, List.set_cons_succ]
  refine pure_ (i := 8) (N := (some 55)) (v := ?_) (a' := ?_) #[true, true, true, true, true, true, true, true, true, false, false, false, false, false] rfl rfl (by kernel_rfl) (fun _ _ _ h => h) (Or.inl ⟨by rfl, ?_⟩) ?_ ?_
  rotate_left
  · intro w'
    refine op_build88 _ _ _ _ _ _ _ _ _ x2 (unhexI x1) (unhexI_length _) ?_ ?_
    rfl
    rfl
  rotate_left
  · simp only [Act.put, List.setIfInBounds_toArray, List.set_cons_zero, List.set_cons_succ]
    rfl
  refine one_ (i := 9) (N := (some 56)) #[true, true, true, true, true, true, true, true, true, true, false, false, false, false] rfl rfl (by kernel_rfl) (by simp) (fun K hK => ?_)
  refine ev_build (by rfl) rfl (refc ⟨x2, unhexI x1⟩) 88 33 1 (op_new39 _ _ _ _ _ _ _ _ ⟨x2, unhexI x1⟩ (unhexI_length _) rfl) (by rw [refc_length _ (unhexI_length _)]) (by decide) ?_
  intro g8 W8 hown8 hb8
  refine hK _ _ (⟨hHeld.1.below hb8, below_base hHeld.2 (by have := hHeld.1.lt; omega) hb8⟩) (fun hHeld => ?_)
  simp only [Act.put, List.setIfInBounds_toArray, List.set_cons_zero, List.set_cons_succ]
  refine last_ (i := 10) (N := (some 57)) #[true, true, true, true, true, true, true, true, true, true, true, false, false, false] rfl rfl (by kernel_rfl) (by simp) (fun K hK => ?_)
  have hlt8 := hHeld.1.lt
  have hn8 := hHeld.1.n3
  have hsum := hHeld.1.sum
  refine ev_append_at (by rfl) rfl (.tmp 51) (.tmp 56) 39 rfl base 88 (.agg (refc ⟨[], noId⟩).toArray) 33 48 und39 info88a (by rfl) (by decide) a.a3 q.refs.length a.c3 (refsc q.refs) rfl hHeld.1.refs ⟨g8, 0, none⟩ 1 1 (refc ⟨x2, unhexI x1⟩) rfl (by rw [refc_length _ (unhexI_length _)]) ?_ (ref_ones _) ?_ ?_ ?_ ?_
  · intro j u hj; rw [Addr.add_mid, Nat.zero_add]; have := hown8.cells (g := g8) rfl j u hj; rwa [Addr.add_mid, Nat.zero_add] at this
  · unfold maxLen; omega
  · omega
  · omega
  intro A9 c9 W9 hown9 hgr9 hat9
  have hg9 := gR_app hHeld.1 hgr9 (by decide) hHeld.1.refs
  have hadd := hHeld.1.add_refs ⟨x2, unhexI x1⟩ ⟨unhexI_length _, by simp only; omega⟩ A9 c9 hown9 hgr9 hat9
  have hb9 : Below base W W9 := hHeld.2.grown hgr9 (by omega) (own_base hHeld.1.refs)
  refine hK _ _ ?_
  simp only [Act.put, List.setIfInBounds_toArray, List.set_cons_zero, List.set_cons_succ]
  refine pure_ (i := 11) (N := (some 58)) (v := ?_) (a' := ?_) #[true, true, true, true, true, true, true, true, true, true, true, true, false, false] rfl rfl (by kernel_rfl) (fun _ _ _ h => h) (Or.inl ⟨by rfl, ?_⟩) ?_ ?_
  rotate_left
  · intro w'
    go_simp
    with_reducible rfl
  rotate_left
  · simp only [Act.put, List.setIfInBounds_toArray, List.set_cons_zero, List.set_cons_succ]
    rfl
  refine pure_ (i := 12) (N := (some 59)) (v := ?_) (a' := ?_) #[true, true, true, true, true, true, true, true, true, true, true, true, true, false] rfl rfl (by kernel_rfl) (fun _ _ _ h => h) (Or.inl ⟨by rfl, ?_⟩) ?_ ?_
  rotate_left
  · intro w'
    go_simp
    with_reducible rfl
  rotate_left
  · simp only [Act.put, List.setIfInBounds_toArray, List.set_cons_zero, List.set_cons_succ]
    rfl
  refine last_ (i := 13) (N := none) #[true, true, true, true, true, true, true, true, true, true, true, true, true, true] rfl rfl (by kernel_rfl) (by simp) (fun K hK => ?_)
  refine ev_storeMid (by rfl) rfl 39 _ _ rfl g 3 (repc q a).toArray (.slice a.a3 q.refs.length a.c3) (.slice A9 (q.refs.length + 1) c9) 44 rfl rfl rfl rfl hg9 (rep_h _ _ _ _ rfl) (by kernel_rfl) ?_
  refine hK _ _ ?_
  refine done_ (by kernel_rfl) ?_
  go_wp2
  go_end0
  exact ⟨rfl, by rw [Hq.out]; exact ⟨⟨_, hadd⟩, hb9.setCell hb0 _⟩⟩
set_option maxHeartbeats 2000000 in
theorem read53_ack (l : List UInt8) (hl : l.length ≤ 1000000) (m base g : Nat) (q : Rep) (a : RepA) (W : World) (hE : Env W) (hR : RepAt m base g W q a) (hm : m ≤ 100000) (hw : bef l = wAck) :
    Calls Tryz.prog 53 #[.pointer (some ⟨g, 0, none⟩), .string (bs l)] W fun e w' => e = .returned (.tuple #[]) ∧ ReadResR m base g W w' (readR q l) := by
  have Hq := Lib.hid (rd_ack (q := q) hw)
  have HW := Lib.hid hw
  clear hw
  have hb0 := hR.hbg
  have hb00 := hR.lt
  have HE := Lib.hid hE
  have HR := Lib.hid hR
  have l1 := aft_len l
  have l2 := bef_len (aft l)
  have l3 := aft_len (aft l)
  obtain ⟨rest, Hr⟩ : ∃ r, Hid (aft l = r) := ⟨_, Lib.hid rfl⟩
  rw [Hr.out] at l1 l2 l3
  try rw [Hr.out] at Hq
  obtain ⟨x1, Hx1⟩ : ∃ r, Hid (bef rest = r) := ⟨_, Lib.hid rfl⟩
  obtain ⟨x2, Hx2⟩ : ∃ r, Hid (aft rest = r) := ⟨_, Lib.hid rfl⟩
  rw [Hx1.out] at l2
  rw [Hx2.out] at l3
  try rw [Hx1.out] at Hq
  try rw [Hx2.out] at Hq
  clear hE hR
  go_enter Tryz.func53, Tryz.ntmps53
  go_wp2_with fail
  refine (cut72_any l hl W HE.out).mono ?_
  rintro e W1 ⟨⟨t1, rfl⟩, hb1⟩
  rw [HW.out, Hr.out]
  have HE1 := Lib.hid (HE.out.below hb1)
  have HR1 := Lib.hid (HR.out.below hb1)
  go_wp2_with fail
  refine (cut72_any rest (by omega) W1 HE1.out).mono ?_
  rintro e W2 ⟨⟨t2, rfl⟩, hb2⟩
  rw [Hx1.out, Hx2.out]
  have HE2 := Lib.hid (HE1.out.below hb2)
  have HR2 := Lib.hid (HR1.out.below hb2)
  have HB2 : Hid (Below base W W2) := Lib.hid (below_base (below_base (Below.refl _ _) (by omega) hb1) (by have := HR1.out.lt; have := HR1.out.hbg; omega) hb2)
  clear hb1 hb2
  go_wp2_with (first
    | (refine wpList_run rfl (op_str_eqlB _ _ _ _ _ _ _ _ _ _ wAck [111, 112] false rfl rfl rfl) ?_)
    | (refine wpList_run rfl (op_str_eqlB _ _ _ _ _ _ _ _ _ _ wAck [99, 97, 112, 115] false rfl rfl rfl) ?_)
    | (refine wpList_run rfl (op_str_eqlB _ _ _ _ _ _ _ _ _ _ wAck [114, 101, 102] false rfl rfl rfl) ?_)
    | (refine wpList_run rfl (op_str_eqlB _ _ _ _ _ _ _ _ _ _ wAck [97, 99, 107] true rfl rfl rfl) ?_))
  try go_wp2
  refine start_ (n := 12) (S := (fun V => RepAt m base g V q a ∧ Below base W V)) (ds := [8, 11]) #[false, false, false, false, false, false, false, false, false, false, false, false] (by kernel_rfl) rfl rfl (⟨HR2.out.drew, ⟨HB2.out.os, HB2.out.tape, HB2.out.output, HB2.out.size, HB2.out.block⟩⟩) (fun hHeld => ?_)
  refine pure_ (i := 0) (N := (some 62)) (v := ?_) (a' := ?_) #[true, false, false, false, false, false, false, false, false, false, false, false] rfl rfl (by kernel_rfl) (fun _ _ _ h => h) (Or.inl ⟨by rfl, ?_⟩) ?_ ?_
  rotate_left
  · intro w'
    go_simp
    with_reducible rfl
  rotate_left
  · simp only [Act.put, List.setIfInBounds_toArray, List.set_cons_zero, List.set_cons_succ]
    rfl
  refine pure_ (i := 1) (N := (some 63)) (v := ?_) (a' := ?_) #[true, true, false, false, false, false, false, false, false, false, false, false] rfl rfl (by kernel_rfl) (fun _ _ _ h => h) (Or.inl ⟨by rfl, ?_⟩) ?_ ?_
  rotate_left
  · intro w'
    go_simp
    with_reducible rfl
  rotate_left
  · simp only [Act.put, List.setIfInBounds_toArray, List.set_cons_zero, List.set_cons_succ]
    rfl
  refine pure_ (i := 2) (N := (some 64)) (v := ?_) (a' := ?_) #[true, true, true, false, false, false, false, false, false, false, false, false] rfl rfl (by kernel_rfl) (fun _ _ _ h => h) (Or.inl ⟨by rfl, ?_⟩) ?_ ?_
  rotate_left
  · intro w'
    go_simp
    with_reducible rfl
  rotate_left
  · simp only [Act.put, List.setIfInBounds_toArray, List.set_cons_zero, List.set_cons_succ]
    rfl
  refine pure_ (i := 3) (N := (some 65)) (v := ?_) (a' := ?_) #[true, true, true, true, false, false, false, false, false, false, false, false] rfl rfl (by kernel_rfl) (fun _ _ _ h => h) (Or.inl ⟨by rfl, ?_⟩) ?_ ?_
  rotate_left
  · intro w'
    go_simp
    with_reducible rfl
  rotate_left
  · simp only [Act.put, List.setIfInBounds_toArray, List.set_cons_zero, List.set_cons_succ]
    rfl
  refine take_ (i := 4) (N := (some 66)) (v := ?_) (a' := ?_) #[true, true, true, true, true, false, false, false, false, false, false, false] rfl rfl (by kernel_rfl) (fun _ _ _ h => h) (Or.inl ⟨by rfl, ?_⟩) hHeld ?_ ?_
  rotate_left
  · intro w' hS'
    have h1 := cell_of_row _ g 4 _ 44 (0, 0) hS'.1.hg
    replace h1 := h1.trans (show (repc q a).toArray[4]? = some (.slice a.a4 q.acks.length a.c4) from (rep_h _ _ _ _ rfl))
    go_simp
    with_reducible rfl
  rotate_left
  · simp only [Act.put, List.setIfInBounds_toArray, List.set_cons_zero, List.set_cons_succ]
    rfl
  refine pure_ (i := 5) (N := (some 67)) (v := ?_) (a' := ?_) #[true, true, true, true, true, true, false, false, false, false, false, false] rfl rfl (by kernel_rfl) (fun _ _ _ h => h) (Or.inl ⟨by rfl, ?_⟩) ?_ ?_
  rotate_left
  · intro w'
    go_simp
    with_reducible rfl
  rotate_left
  · simp only [Act.put, List.setIfInBounds_toArray, List.set_cons_zero, List.set_cons_succ]
    rfl
  refine one_ (i := 6) (N := (some 68)) #[true, true, true, true, true, true, true, false, false, false, false, false] rfl rfl (by kernel_rfl) (by simp) (fun K hK => ?_)
  refine goes_ Tryz.func75 (by kernel_rfl) rfl #[.string (bs rest)] (by rfl) rfl rfl (by first | rfl | simp [Act.eval]) ?_
  refine (id75_any rest (by omega) _).mono ?_
  rintro e w1 ⟨rfl, hb⟩
  refine ⟨_, rfl, hK _ _ (⟨hHeld.1.below hb, below_base hHeld.2 (by have := hHeld.1.lt; omega) hb⟩) (fun hHeld => ?_)⟩
  simp only [Act.put, List.setIfInBounds_toArray, List.set_cons_zero, List.set_cons_succ]
  refine one_ (i := 7) (N := (some 69)) #[true, true, true, true, true, true, true, true, false, false, false, false] rfl rfl (by kernel_rfl) (by simp) (fun K hK => ?_)
  refine ev_build (by rfl) rfl (idc (unhexI rest)) 41 32 1 (op_new23 _ _ _ _ _ _ _ _ (unhexI rest) (unhexI_length _) rfl) (by rw [idc_length, unhexI_length]) (by decide) ?_
  intro g8 W8 hown8 hb8
  refine hK _ _ (⟨hHeld.1.below hb8, below_base hHeld.2 (by have := hHeld.1.lt; omega) hb8⟩) (fun hHeld => ?_)
  simp only [Act.put, List.setIfInBounds_toArray, List.set_cons_zero, List.set_cons_succ]
  refine last_ (i := 8) (N := (some 70)) #[true, true, true, true, true, true, true, true, true, false, false, false] rfl rfl (by kernel_rfl) (by simp) (fun K hK => ?_)
  have hlt8 := hHeld.1.lt
  have hn8 := hHeld.1.n4
  have hsum := hHeld.1.sum
  refine ev_append_at (by rfl) rfl (.tmp 66) (.tmp 69) 23 rfl base 41 (.agg (idv noId)) 32 32 und23 info41a (by simp [Value.cells, idc_length, noId_length]) (by decide) a.a4 q.acks.length a.c4 (idsc q.acks) rfl hHeld.1.acks ⟨g8, 0, none⟩ 1 1 (idc (unhexI rest)) rfl (by rw [idc_length, unhexI_length]) ?_ (idc_one _) ?_ ?_ ?_ ?_
  · intro j u hj; rw [Addr.add_mid, Nat.zero_add]; have := hown8.cells (g := g8) rfl j u hj; rwa [Addr.add_mid, Nat.zero_add] at this
  · unfold maxLen; omega
  · omega
  · omega
  intro A9 c9 W9 hown9 hgr9 hat9
  have hg9 := gR_app hHeld.1 hgr9 (by decide) hHeld.1.acks
  have hadd := hHeld.1.add_acks (unhexI rest) (unhexI_length _) A9 c9 hown9 hgr9 hat9
  have hb9 : Below base W W9 := hHeld.2.grown hgr9 (by omega) (own_base hHeld.1.acks)
  refine hK _ _ ?_
  simp only [Act.put, List.setIfInBounds_toArray, List.set_cons_zero, List.set_cons_succ]
  refine pure_ (i := 9) (N := (some 71)) (v := ?_) (a' := ?_) #[true, true, true, true, true, true, true, true, true, true, false, false] rfl rfl (by kernel_rfl) (fun _ _ _ h => h) (Or.inl ⟨by rfl, ?_⟩) ?_ ?_
  rotate_left
  · intro w'
    go_simp
    with_reducible rfl
  rotate_left
  · simp only [Act.put, List.setIfInBounds_toArray, List.set_cons_zero, List.set_cons_succ]
    rfl
  refine pure_ (i := 10) (N := (some 72)) (v := ?_) (a' := ?_) #[true, true, true, true, true, true, true, true, true, true, true, false] rfl rfl (by kernel_rfl) (fun _ _ _ h => h) (Or.inl ⟨by rfl, ?_⟩) ?_ ?_
  rotate_left
  · intro w'
    go_simp
    with_reducible rfl
  rotate_left
  · simp only [Act.put, List.setIfInBounds_toArray, List.set_cons_zero, List.set_cons_succ]
    rfl
  refine last_ (i := 11) (N := none) #[true, true, true, true, true, true, true, true, true, true, true, true] rfl rfl (by kernel_rfl) (by simp) (fun K hK => ?_)
  refine ev_storeMid (by rfl) rfl 23 _ _ rfl g 4 (repc q a).toArray (.slice a.a4 q.acks.length a.c4) (.slice A9 (q.acks.length + 1) c9) 44 rfl rfl rfl rfl hg9 (rep_h _ _ _ _ rfl) (by kernel_rfl) ?_
  refine hK _ _ ?_
  refine done_ (by kernel_rfl) ?_
  go_wp2
  go_end0
  exact ⟨rfl, by rw [Hq.out]; exact ⟨⟨_, hadd⟩, hb9.setCell hb0 _⟩⟩
set_option maxHeartbeats 2000000 in
theorem read53_ready (l : List UInt8) (hl : l.length ≤ 1000000) (m base g : Nat) (q : Rep) (a : RepA) (W : World) (hE : Env W) (hR : RepAt m base g W q a) (hm : m ≤ 100000) (hw : bef l = wReady) :
    Calls Tryz.prog 53 #[.pointer (some ⟨g, 0, none⟩), .string (bs l)] W fun e w' => e = .returned (.tuple #[]) ∧ ReadResR m base g W w' (readR q l) := by
  have Hq := Lib.hid (rd_ready (q := q) hw)
  have HW := Lib.hid hw
  clear hw
  have hb0 := hR.hbg
  have hb00 := hR.lt
  have HE := Lib.hid hE
  have HR := Lib.hid hR
  have l1 := aft_len l
  have l2 := bef_len (aft l)
  have l3 := aft_len (aft l)
  obtain ⟨rest, Hr⟩ : ∃ r, Hid (aft l = r) := ⟨_, Lib.hid rfl⟩
  rw [Hr.out] at l1 l2 l3
  try rw [Hr.out] at Hq
  obtain ⟨x1, Hx1⟩ : ∃ r, Hid (bef rest = r) := ⟨_, Lib.hid rfl⟩
  obtain ⟨x2, Hx2⟩ : ∃ r, Hid (aft rest = r) := ⟨_, Lib.hid rfl⟩
  rw [Hx1.out] at l2
  rw [Hx2.out] at l3
  try rw [Hx1.out] at Hq
  try rw [Hx2.out] at Hq
  clear hE hR
  go_enter Tryz.func53, Tryz.ntmps53
  go_wp2_with fail
  refine (cut72_any l hl W HE.out).mono ?_
  rintro e W1 ⟨⟨t1, rfl⟩, hb1⟩
  rw [HW.out, Hr.out]
  have HE1 := Lib.hid (HE.out.below hb1)
  have HR1 := Lib.hid (HR.out.below hb1)
  go_wp2_with fail
  refine (cut72_any rest (by omega) W1 HE1.out).mono ?_
  rintro e W2 ⟨⟨t2, rfl⟩, hb2⟩
  rw [Hx1.out, Hx2.out]
  have HE2 := Lib.hid (HE1.out.below hb2)
  have HR2 := Lib.hid (HR1.out.below hb2)
  have HB2 : Hid (Below base W W2) := Lib.hid (below_base (below_base (Below.refl _ _) (by omega) hb1) (by have := HR1.out.lt; have := HR1.out.hbg; omega) hb2)
  clear hb1 hb2
  have HR4 := Lib.hid (HR2.out.set_ready true)
  have HG3 := Lib.hid HR2.out.hg
  go_wp2_with (first
    | (refine wpList_run rfl (op_str_eqlB _ _ _ _ _ _ _ _ _ _ wReady [111, 112] false rfl rfl rfl) ?_)
    | (refine wpList_run rfl (op_str_eqlB _ _ _ _ _ _ _ _ _ _ wReady [99, 97, 112, 115] false rfl rfl rfl) ?_)
    | (refine wpList_run rfl (op_str_eqlB _ _ _ _ _ _ _ _ _ _ wReady [114, 101, 102] false rfl rfl rfl) ?_)
    | (refine wpList_run rfl (op_str_eqlB _ _ _ _ _ _ _ _ _ _ wReady [97, 99, 107] false rfl rfl rfl) ?_)
    | (refine wpList_run rfl (op_str_eqlB _ _ _ _ _ _ _ _ _ _ wReady [114, 101, 97, 100, 121] true rfl rfl rfl) ?_)
    | (refine wpList_storeMid rfl 4 _ _ rfl g 7 (repc q a).toArray (.bool q.ready) (.bool true) 44 rfl rfl rfl rfl HG3.out (rep_h _ _ _ _ rfl) (by kernel_rfl) ?_))
  go_end0
  exact ⟨rfl, by rw [Hq.out]; exact ⟨⟨a, HR4.out.mono (by omega)⟩, HB2.out.setCell hb0 _⟩⟩
set_option maxHeartbeats 2000000 in
theorem read53_size (l : List UInt8) (hl : l.length ≤ 1000000) (m base g : Nat) (q : Rep) (a : RepA) (W : World) (hE : Env W) (hR : RepAt m base g W q a) (hm : m ≤ 100000) (hw : bef l = wSize) :
    Calls Tryz.prog 53 #[.pointer (some ⟨g, 0, none⟩), .string (bs l)] W fun e w' => e = .returned (.tuple #[]) ∧ ReadResR m base g W w' (readR q l) := by
  have Hq := Lib.hid (rd_size (q := q) hw)
  have HW := Lib.hid hw
  clear hw
  have hb0 := hR.hbg
  have hb00 := hR.lt
  have HE := Lib.hid hE
  have HR := Lib.hid hR
  have l1 := aft_len l
  have l2 := bef_len (aft l)
  have l3 := aft_len (aft l)
  obtain ⟨rest, Hr⟩ : ∃ r, Hid (aft l = r) := ⟨_, Lib.hid rfl⟩
  rw [Hr.out] at l1 l2 l3
  try rw [Hr.out] at Hq
  obtain ⟨x1, Hx1⟩ : ∃ r, Hid (bef rest = r) := ⟨_, Lib.hid rfl⟩
  obtain ⟨x2, Hx2⟩ : ∃ r, Hid (aft rest = r) := ⟨_, Lib.hid rfl⟩
  rw [Hx1.out] at l2
  rw [Hx2.out] at l3
  try rw [Hx1.out] at Hq
  try rw [Hx2.out] at Hq
  clear hE hR
  go_enter Tryz.func53, Tryz.ntmps53
  go_wp2_with fail
  refine (cut72_any l hl W HE.out).mono ?_
  rintro e W1 ⟨⟨t1, rfl⟩, hb1⟩
  rw [HW.out, Hr.out]
  have HE1 := Lib.hid (HE.out.below hb1)
  have HR1 := Lib.hid (HR.out.below hb1)
  go_wp2_with fail
  refine (cut72_any rest (by omega) W1 HE1.out).mono ?_
  rintro e W2 ⟨⟨t2, rfl⟩, hb2⟩
  rw [Hx1.out, Hx2.out]
  have HE2 := Lib.hid (HE1.out.below hb2)
  have HR2 := Lib.hid (HR1.out.below hb2)
  have HB2 : Hid (Below base W W2) := Lib.hid (below_base (below_base (Below.refl _ _) (by omega) hb1) (by have := HR1.out.lt; have := HR1.out.hbg; omega) hb2)
  clear hb1 hb2
  go_wp2_with (first
    | (refine wpList_run rfl (op_str_eqlB _ _ _ _ _ _ _ _ _ _ wSize [111, 112] false rfl rfl rfl) ?_)
    | (refine wpList_run rfl (op_str_eqlB _ _ _ _ _ _ _ _ _ _ wSize [99, 97, 112, 115] false rfl rfl rfl) ?_)
    | (refine wpList_run rfl (op_str_eqlB _ _ _ _ _ _ _ _ _ _ wSize [114, 101, 102] false rfl rfl rfl) ?_)
    | (refine wpList_run rfl (op_str_eqlB _ _ _ _ _ _ _ _ _ _ wSize [97, 99, 107] false rfl rfl rfl) ?_)
    | (refine wpList_run rfl (op_str_eqlB _ _ _ _ _ _ _ _ _ _ wSize [114, 101, 97, 100, 121] false rfl rfl rfl) ?_)
    | (refine wpList_run rfl (op_str_eqlB _ _ _ _ _ _ _ _ _ _ wSize [115, 105, 122, 101] true rfl rfl rfl) ?_))
  refine (figure73_any x1 (by omega) W2 HE2.out).mono ?_
  rintro e W3 ⟨rfl, hb3⟩
  have HE3 := Lib.hid (HE2.out.below hb3)
  have HR3 := Lib.hid (HR2.out.below hb3)
  go_wp2_with fail
  refine (id75_any x2 (by omega) W3).mono ?_
  rintro e W4 ⟨rfl, hb4⟩
  have HR4 := Lib.hid (HR3.out.below hb4)
  have HR5 := Lib.hid (HR4.out.set_size (figI x1))
  have HR6 := Lib.hid (HR5.out.set_sum (unhexI x2) (unhexI_length _))
  have HG4 := Lib.hid HR4.out.hg
  have HG5 := Lib.hid HR5.out.hg
  have HB4 : Hid (Below base W W4) := Lib.hid (below_base (below_base HB2.out (by have := HR2.out.lt; have := HR2.out.hbg; omega) hb3) (by have := HR3.out.lt; have := HR3.out.hbg; omega) hb4)
  clear hb3 hb4
  have HZ : Hid (10 + 32 ≤ (repc { q with size := figI x1 } a).toArray.size) := Lib.hid (by rw [List.size_toArray, repc_length _ _ HR5.out.sum]; omega)
  go_wp2_with (first
    | (refine wpList_storeMid rfl 3 _ _ rfl g 9 (repc q a).toArray (.int .i64 q.size) (.int .i64 (figI x1)) 44 rfl rfl rfl rfl HG4.out (rep_h _ _ _ _ rfl) (by kernel_rfl) ?_)
    | (refine wpList_storeIdMid rfl _ _ rfl g 10 (repc { q with size := figI x1 } a).toArray (unhexI x2) 44 (unhexI_length _) rfl rfl HG5.out HZ.out ?_))
  go_end0
  exact ⟨rfl, by rw [Hq.out]; exact ⟨⟨a, HR6.out.mono (by omega)⟩, below_setRow (HB4.out.setCell hb0 _) hb0 _⟩⟩
set_option maxHeartbeats 2000000 in
theorem read53_shallow (l : List UInt8) (hl : l.length ≤ 1000000) (m base g : Nat) (q : Rep) (a : RepA) (W : World) (hE : Env W) (hR : RepAt m base g W q a) (hm : m ≤ 100000) (hw : bef l = wShallow) :
    Calls Tryz.prog 53 #[.pointer (some ⟨g, 0, none⟩), .string (bs l)] W fun e w' => e = .returned (.tuple #[]) ∧ ReadResR m base g W w' (readR q l) := by
  have Hq := Lib.hid (rd_shallow (q := q) hw)
  have HW := Lib.hid hw
  clear hw
  have hb0 := hR.hbg
  have hb00 := hR.lt
  have HE := Lib.hid hE
  have HR := Lib.hid hR
  have l1 := aft_len l
  have l2 := bef_len (aft l)
  have l3 := aft_len (aft l)
  obtain ⟨rest, Hr⟩ : ∃ r, Hid (aft l = r) := ⟨_, Lib.hid rfl⟩
  rw [Hr.out] at l1 l2 l3
  try rw [Hr.out] at Hq
  obtain ⟨x1, Hx1⟩ : ∃ r, Hid (bef rest = r) := ⟨_, Lib.hid rfl⟩
  obtain ⟨x2, Hx2⟩ : ∃ r, Hid (aft rest = r) := ⟨_, Lib.hid rfl⟩
  rw [Hx1.out] at l2
  rw [Hx2.out] at l3
  try rw [Hx1.out] at Hq
  try rw [Hx2.out] at Hq
  clear hE hR
  go_enter Tryz.func53, Tryz.ntmps53
  go_wp2_with fail
  refine (cut72_any l hl W HE.out).mono ?_
  rintro e W1 ⟨⟨t1, rfl⟩, hb1⟩
  rw [HW.out, Hr.out]
  have HE1 := Lib.hid (HE.out.below hb1)
  have HR1 := Lib.hid (HR.out.below hb1)
  go_wp2_with fail
  refine (cut72_any rest (by omega) W1 HE1.out).mono ?_
  rintro e W2 ⟨⟨t2, rfl⟩, hb2⟩
  rw [Hx1.out, Hx2.out]
  have HE2 := Lib.hid (HE1.out.below hb2)
  have HR2 := Lib.hid (HR1.out.below hb2)
  have HB2 : Hid (Below base W W2) := Lib.hid (below_base (below_base (Below.refl _ _) (by omega) hb1) (by have := HR1.out.lt; have := HR1.out.hbg; omega) hb2)
  clear hb1 hb2
  go_wp2_with (first
    | (refine wpList_run rfl (op_str_eqlB _ _ _ _ _ _ _ _ _ _ wShallow [111, 112] false rfl rfl rfl) ?_)
    | (refine wpList_run rfl (op_str_eqlB _ _ _ _ _ _ _ _ _ _ wShallow [99, 97, 112, 115] false rfl rfl rfl) ?_)
    | (refine wpList_run rfl (op_str_eqlB _ _ _ _ _ _ _ _ _ _ wShallow [114, 101, 102] false rfl rfl rfl) ?_)
    | (refine wpList_run rfl (op_str_eqlB _ _ _ _ _ _ _ _ _ _ wShallow [97, 99, 107] false rfl rfl rfl) ?_)
    | (refine wpList_run rfl (op_str_eqlB _ _ _ _ _ _ _ _ _ _ wShallow [114, 101, 97, 100, 121] false rfl rfl rfl) ?_)
    | (refine wpList_run rfl (op_str_eqlB _ _ _ _ _ _ _ _ _ _ wShallow [115, 105, 122, 101] false rfl rfl rfl) ?_)
    | (refine wpList_run rfl (op_str_eqlB _ _ _ _ _ _ _ _ _ _ wShallow [115, 104, 97, 108, 108, 111, 119] true rfl rfl rfl) ?_))
  try go_wp2
  refine start_ (n := 12) (S := (fun V => RepAt m base g V q a ∧ Below base W V)) (ds := [8, 11]) #[false, false, false, false, false, false, false, false, false, false, false, false] (by kernel_rfl) rfl rfl (⟨HR2.out.drew, ⟨HB2.out.os, HB2.out.tape, HB2.out.output, HB2.out.size, HB2.out.block⟩⟩) (fun hHeld => ?_)
  refine pure_ (i := 0) (N := (some 92)) (v := ?_) (a' := ?_) #[true, false, false, false, false, false, false, false, false, false, false, false] rfl rfl (by kernel_rfl) (fun _ _ _ h => h) (Or.inl ⟨by rfl, ?_⟩) ?_ ?_
  rotate_left
  · intro w'
    go_simp
    with_reducible rfl
  rotate_left
  · simp only [Act.put, List.setIfInBounds_toArray, List.set_cons_zero, List.set_cons_succ]
    rfl
  refine pure_ (i := 1) (N := (some 93)) (v := ?_) (a' := ?_) #[true, true, false, false, false, false, false, false, false, false, false, false] rfl rfl (by kernel_rfl) (fun _ _ _ h => h) (Or.inl ⟨by rfl, ?_⟩) ?_ ?_
  rotate_left
  · intro w'
    go_simp
    with_reducible rfl
  rotate_left
  · simp only [Act.put, List.setIfInBounds_toArray, List.set_cons_zero, List.set_cons_succ]
    rfl
  refine pure_ (i := 2) (N := (some 94)) (v := ?_) (a' := ?_) #[true, true, true, false, false, false, false, false, false, false, false, false] rfl rfl (by kernel_rfl) (fun _ _ _ h => h) (Or.inl ⟨by rfl, ?_⟩) ?_ ?_
  rotate_left
  · intro w'
    go_simp
    with_reducible rfl
  rotate_left
  · simp only [Act.put, List.setIfInBounds_toArray, List.set_cons_zero, List.set_cons_succ]
    rfl
  refine pure_ (i := 3) (N := (some 95)) (v := ?_) (a' := ?_) #[true, true, true, true, false, false, false, false, false, false, false, false] rfl rfl (by kernel_rfl) (fun _ _ _ h => h) (Or.inl ⟨by rfl, ?_⟩) ?_ ?_
  rotate_left
  · intro w'
    go_simp
    with_reducible rfl
  rotate_left
  · simp only [Act.put, List.setIfInBounds_toArray, List.set_cons_zero, List.set_cons_succ]
    rfl
  refine take_ (i := 4) (N := (some 96)) (v := ?_) (a' := ?_) #[true, true, true, true, true, false, false, false, false, false, false, false] rfl rfl (by kernel_rfl) (fun _ _ _ h => h) (Or.inl ⟨by rfl, ?_⟩) hHeld ?_ ?_
  rotate_left
  · intro w' hS'
    have h1 := cell_of_row _ g 5 _ 44 (0, 0) hS'.1.hg
    replace h1 := h1.trans (show (repc q a).toArray[5]? = some (.slice a.a5 q.shallow.length a.c5) from (rep_h _ _ _ _ rfl))
    go_simp
    with_reducible rfl
  rotate_left
  · simp only [Act.put, List.setIfInBounds_toArray, List.set_cons_zero, List.set_cons_succ]
    rfl
  refine pure_ (i := 5) (N := (some 97)) (v := ?_) (a' := ?_) #[true, true, true, true, true, true, false, false, false, false, false, false] rfl rfl (by kernel_rfl) (fun _ _ _ h => h) (Or.inl ⟨by rfl, ?_⟩) ?_ ?_
  rotate_left
  · intro w'
    go_simp
    with_reducible rfl
  rotate_left
  · simp only [Act.put, List.setIfInBounds_toArray, List.set_cons_zero, List.set_cons_succ]
    rfl
  refine one_ (i := 6) (N := (some 98)) #[true, true, true, true, true, true, true, false, false, false, false, false] rfl rfl (by kernel_rfl) (by simp) (fun K hK => ?_)
  refine goes_ Tryz.func75 (by kernel_rfl) rfl #[.string (bs rest)] (by rfl) rfl rfl (by first | rfl | simp [Act.eval]) ?_
  refine (id75_any rest (by omega) _).mono ?_
  rintro e w1 ⟨rfl, hb⟩
  refine ⟨_, rfl, hK _ _ (⟨hHeld.1.below hb, below_base hHeld.2 (by have := hHeld.1.lt; omega) hb⟩) (fun hHeld => ?_)⟩
  simp only [Act.put, List.setIfInBounds_toArray, List.set_cons_zero, List.set_cons_succ]
  refine one_ (i := 7) (N := (some 99)) #[true, true, true, true, true, true, true, true, false, false, false, false] rfl rfl (by kernel_rfl) (by simp) (fun K hK => ?_)
  refine ev_build (by rfl) rfl (idc (unhexI rest)) 41 32 1 (op_new23 _ _ _ _ _ _ _ _ (unhexI rest) (unhexI_length _) rfl) (by rw [idc_length, unhexI_length]) (by decide) ?_
  intro g8 W8 hown8 hb8
  refine hK _ _ (⟨hHeld.1.below hb8, below_base hHeld.2 (by have := hHeld.1.lt; omega) hb8⟩) (fun hHeld => ?_)
  simp only [Act.put, List.setIfInBounds_toArray, List.set_cons_zero, List.set_cons_succ]
  refine last_ (i := 8) (N := (some 100)) #[true, true, true, true, true, true, true, true, true, false, false, false] rfl rfl (by kernel_rfl) (by simp) (fun K hK => ?_)
  have hlt8 := hHeld.1.lt
  have hn8 := hHeld.1.n5
  have hsum := hHeld.1.sum
  refine ev_append_at (by rfl) rfl (.tmp 96) (.tmp 99) 23 rfl base 41 (.agg (idv noId)) 32 32 und23 info41a (by simp [Value.cells, idc_length, noId_length]) (by decide) a.a5 q.shallow.length a.c5 (idsc q.shallow) rfl hHeld.1.shallow ⟨g8, 0, none⟩ 1 1 (idc (unhexI rest)) rfl (by rw [idc_length, unhexI_length]) ?_ (idc_one _) ?_ ?_ ?_ ?_
  · intro j u hj; rw [Addr.add_mid, Nat.zero_add]; have := hown8.cells (g := g8) rfl j u hj; rwa [Addr.add_mid, Nat.zero_add] at this
  · unfold maxLen; omega
  · omega
  · omega
  intro A9 c9 W9 hown9 hgr9 hat9
  have hg9 := gR_app hHeld.1 hgr9 (by decide) hHeld.1.shallow
  have hadd := hHeld.1.add_shallow (unhexI rest) (unhexI_length _) A9 c9 hown9 hgr9 hat9
  have hb9 : Below base W W9 := hHeld.2.grown hgr9 (by omega) (own_base hHeld.1.shallow)
  refine hK _ _ ?_
  simp only [Act.put, List.setIfInBounds_toArray, List.set_cons_zero, List.set_cons_succ]
  refine pure_ (i := 9) (N := (some 101)) (v := ?_) (a' := ?_) #[true, true, true, true, true, true, true, true, true, true, false, false] rfl rfl (by kernel_rfl) (fun _ _ _ h => h) (Or.inl ⟨by rfl, ?_⟩) ?_ ?_
  rotate_left
  · intro w'
    go_simp
    with_reducible rfl
  rotate_left
  · simp only [Act.put, List.setIfInBounds_toArray, List.set_cons_zero, List.set_cons_succ]
    rfl
  refine pure_ (i := 10) (N := (some 102)) (v := ?_) (a' := ?_) #[true, true, true, true, true, true, true, true, true, true, true, false] rfl rfl (by kernel_rfl) (fun _ _ _ h => h) (Or.inl ⟨by rfl, ?_⟩) ?_ ?_
  rotate_left
  · intro w'
    go_simp
    with_reducible rfl
  rotate_left
  · simp only [Act.put, List.setIfInBounds_toArray, List.set_cons_zero, List.set_cons_succ]
    rfl
  refine last_ (i := 11) (N := none) #[true, true, true, true, true, true, true, true, true, true, true, true] rfl rfl (by kernel_rfl) (by simp) (fun K hK => ?_)
  refine ev_storeMid (by rfl) rfl 23 _ _ rfl g 5 (repc q a).toArray (.slice a.a5 q.shallow.length a.c5) (.slice A9 (q.shallow.length + 1) c9) 44 rfl rfl rfl rfl hg9 (rep_h _ _ _ _ rfl) (by kernel_rfl) ?_
  refine hK _ _ ?_
  refine done_ (by kernel_rfl) ?_
  go_wp2
  go_end0
  exact ⟨rfl, by rw [Hq.out]; exact ⟨⟨_, hadd⟩, hb9.setCell hb0 _⟩⟩
set_option maxHeartbeats 2000000 in
theorem read53_deep (l : List UInt8) (hl : l.length ≤ 1000000) (m base g : Nat) (q : Rep) (a : RepA) (W : World) (hE : Env W) (hR : RepAt m base g W q a) (hm : m ≤ 100000) (hw : bef l = wDeep) :
    Calls Tryz.prog 53 #[.pointer (some ⟨g, 0, none⟩), .string (bs l)] W fun e w' => e = .returned (.tuple #[]) ∧ ReadResR m base g W w' (readR q l) := by
  have Hq := Lib.hid (rd_deep (q := q) hw)
  have HW := Lib.hid hw
  clear hw
  have hb0 := hR.hbg
  have hb00 := hR.lt
  have HE := Lib.hid hE
  have HR := Lib.hid hR
  have l1 := aft_len l
  have l2 := bef_len (aft l)
  have l3 := aft_len (aft l)
  obtain ⟨rest, Hr⟩ : ∃ r, Hid (aft l = r) := ⟨_, Lib.hid rfl⟩
  rw [Hr.out] at l1 l2 l3
  try rw [Hr.out] at Hq
  obtain ⟨x1, Hx1⟩ : ∃ r, Hid (bef rest = r) := ⟨_, Lib.hid rfl⟩
  obtain ⟨x2, Hx2⟩ : ∃ r, Hid (aft rest = r) := ⟨_, Lib.hid rfl⟩
  rw [Hx1.out] at l2
  rw [Hx2.out] at l3
  try rw [Hx1.out] at Hq
  try rw [Hx2.out] at Hq
  clear hE hR
  go_enter Tryz.func53, Tryz.ntmps53
  go_wp2_with fail
  refine (cut72_any l hl W HE.out).mono ?_
  rintro e W1 ⟨⟨t1, rfl⟩, hb1⟩
  rw [HW.out, Hr.out]
  have HE1 := Lib.hid (HE.out.below hb1)
  have HR1 := Lib.hid (HR.out.below hb1)
  go_wp2_with fail
  refine (cut72_any rest (by omega) W1 HE1.out).mono ?_
  rintro e W2 ⟨⟨t2, rfl⟩, hb2⟩
  rw [Hx1.out, Hx2.out]
  have HE2 := Lib.hid (HE1.out.below hb2)
  have HR2 := Lib.hid (HR1.out.below hb2)
  have HB2 : Hid (Below base W W2) := Lib.hid (below_base (below_base (Below.refl _ _) (by omega) hb1) (by have := HR1.out.lt; have := HR1.out.hbg; omega) hb2)
  clear hb1 hb2
  go_wp2_with (first
    | (refine wpList_run rfl (op_str_eqlB _ _ _ _ _ _ _ _ _ _ wDeep [111, 112] false rfl rfl rfl) ?_)
    | (refine wpList_run rfl (op_str_eqlB _ _ _ _ _ _ _ _ _ _ wDeep [99, 97, 112, 115] false rfl rfl rfl) ?_)
    | (refine wpList_run rfl (op_str_eqlB _ _ _ _ _ _ _ _ _ _ wDeep [114, 101, 102] false rfl rfl rfl) ?_)
    | (refine wpList_run rfl (op_str_eqlB _ _ _ _ _ _ _ _ _ _ wDeep [97, 99, 107] false rfl rfl rfl) ?_)
    | (refine wpList_run rfl (op_str_eqlB _ _ _ _ _ _ _ _ _ _ wDeep [114, 101, 97, 100, 121] false rfl rfl rfl) ?_)
    | (refine wpList_run rfl (op_str_eqlB _ _ _ _ _ _ _ _ _ _ wDeep [115, 105, 122, 101] false rfl rfl rfl) ?_)
    | (refine wpList_run rfl (op_str_eqlB _ _ _ _ _ _ _ _ _ _ wDeep [115, 104, 97, 108, 108, 111, 119] false rfl rfl rfl) ?_)
    | (refine wpList_run rfl (op_str_eqlB _ _ _ _ _ _ _ _ _ _ wDeep [100, 101, 101, 112] true rfl rfl rfl) ?_))
  try go_wp2
  refine start_ (n := 12) (S := (fun V => RepAt m base g V q a ∧ Below base W V)) (ds := [8, 11]) #[false, false, false, false, false, false, false, false, false, false, false, false] (by kernel_rfl) rfl rfl (⟨HR2.out.drew, ⟨HB2.out.os, HB2.out.tape, HB2.out.output, HB2.out.size, HB2.out.block⟩⟩) (fun hHeld => ?_)
  refine pure_ (i := 0) (N := (some 105)) (v := ?_) (a' := ?_) #[true, false, false, false, false, false, false, false, false, false, false, false] rfl rfl (by kernel_rfl) (fun _ _ _ h => h) (Or.inl ⟨by rfl, ?_⟩) ?_ ?_
  rotate_left
  · intro w'
    go_simp
    with_reducible rfl
  rotate_left
  · simp only [Act.put, List.setIfInBounds_toArray, List.set_cons_zero, List.set_cons_succ]
    rfl
  refine pure_ (i := 1) (N := (some 106)) (v := ?_) (a' := ?_) #[true, true, false, false, false, false, false, false, false, false, false, false] rfl rfl (by kernel_rfl) (fun _ _ _ h => h) (Or.inl ⟨by rfl, ?_⟩) ?_ ?_
  rotate_left
  · intro w'
    go_simp
    with_reducible rfl
  rotate_left
  · simp only [Act.put, List.setIfInBounds_toArray, List.set_cons_zero, List.set_cons_succ]
    rfl
  refine pure_ (i := 2) (N := (some 107)) (v := ?_) (a' := ?_) #[true, true, true, false, false, false, false, false, false, false, false, false] rfl rfl (by kernel_rfl) (fun _ _ _ h => h) (Or.inl ⟨by rfl, ?_⟩) ?_ ?_
  rotate_left
  · intro w'
    go_simp
    with_reducible rfl
  rotate_left
  · simp only [Act.put, List.setIfInBounds_toArray, List.set_cons_zero, List.set_cons_succ]
    rfl
  refine pure_ (i := 3) (N := (some 108)) (v := ?_) (a' := ?_) #[true, true, true, true, false, false, false, false, false, false, false, false] rfl rfl (by kernel_rfl) (fun _ _ _ h => h) (Or.inl ⟨by rfl, ?_⟩) ?_ ?_
  rotate_left
  · intro w'
    go_simp
    with_reducible rfl
  rotate_left
  · simp only [Act.put, List.setIfInBounds_toArray, List.set_cons_zero, List.set_cons_succ]
    rfl
  refine take_ (i := 4) (N := (some 109)) (v := ?_) (a' := ?_) #[true, true, true, true, true, false, false, false, false, false, false, false] rfl rfl (by kernel_rfl) (fun _ _ _ h => h) (Or.inl ⟨by rfl, ?_⟩) hHeld ?_ ?_
  rotate_left
  · intro w' hS'
    have h1 := cell_of_row _ g 6 _ 44 (0, 0) hS'.1.hg
    replace h1 := h1.trans (show (repc q a).toArray[6]? = some (.slice a.a6 q.deep.length a.c6) from (rep_h _ _ _ _ rfl))
    go_simp
    with_reducible rfl
  rotate_left
  · simp only [Act.put, List.setIfInBounds_toArray, List.set_cons_zero, List.set_cons_succ]
    rfl
  refine pure_ (i := 5) (N := (some 110)) (v := ?_) (a' := ?_) #[true, true, true, true, true, true, false, false, false, false, false, false] rfl rfl (by kernel_rfl) (fun _ _ _ h => h) (Or.inl ⟨by rfl, ?_⟩) ?_ ?_
  rotate_left
  · intro w'
    go_simp
    with_reducible rfl
  rotate_left
  · simp only [Act.put, List.setIfInBounds_toArray, List.set_cons_zero, List.set_cons_succ]
    rfl
  refine one_ (i := 6) (N := (some 111)) #[true, true, true, true, true, true, true, false, false, false, false, false] rfl rfl (by kernel_rfl) (by simp) (fun K hK => ?_)
  refine goes_ Tryz.func75 (by kernel_rfl) rfl #[.string (bs rest)] (by rfl) rfl rfl (by first | rfl | simp [Act.eval]) ?_
  refine (id75_any rest (by omega) _).mono ?_
  rintro e w1 ⟨rfl, hb⟩
  refine ⟨_, rfl, hK _ _ (⟨hHeld.1.below hb, below_base hHeld.2 (by have := hHeld.1.lt; omega) hb⟩) (fun hHeld => ?_)⟩
  simp only [Act.put, List.setIfInBounds_toArray, List.set_cons_zero, List.set_cons_succ]
  refine one_ (i := 7) (N := (some 112)) #[true, true, true, true, true, true, true, true, false, false, false, false] rfl rfl (by kernel_rfl) (by simp) (fun K hK => ?_)
  refine ev_build (by rfl) rfl (idc (unhexI rest)) 41 32 1 (op_new23 _ _ _ _ _ _ _ _ (unhexI rest) (unhexI_length _) rfl) (by rw [idc_length, unhexI_length]) (by decide) ?_
  intro g8 W8 hown8 hb8
  refine hK _ _ (⟨hHeld.1.below hb8, below_base hHeld.2 (by have := hHeld.1.lt; omega) hb8⟩) (fun hHeld => ?_)
  simp only [Act.put, List.setIfInBounds_toArray, List.set_cons_zero, List.set_cons_succ]
  refine last_ (i := 8) (N := (some 113)) #[true, true, true, true, true, true, true, true, true, false, false, false] rfl rfl (by kernel_rfl) (by simp) (fun K hK => ?_)
  have hlt8 := hHeld.1.lt
  have hn8 := hHeld.1.n6
  have hsum := hHeld.1.sum
  refine ev_append_at (by rfl) rfl (.tmp 109) (.tmp 112) 23 rfl base 41 (.agg (idv noId)) 32 32 und23 info41a (by simp [Value.cells, idc_length, noId_length]) (by decide) a.a6 q.deep.length a.c6 (idsc q.deep) rfl hHeld.1.deep ⟨g8, 0, none⟩ 1 1 (idc (unhexI rest)) rfl (by rw [idc_length, unhexI_length]) ?_ (idc_one _) ?_ ?_ ?_ ?_
  · intro j u hj; rw [Addr.add_mid, Nat.zero_add]; have := hown8.cells (g := g8) rfl j u hj; rwa [Addr.add_mid, Nat.zero_add] at this
  · unfold maxLen; omega
  · omega
  · omega
  intro A9 c9 W9 hown9 hgr9 hat9
  have hg9 := gR_app hHeld.1 hgr9 (by decide) hHeld.1.deep
  have hadd := hHeld.1.add_deep (unhexI rest) (unhexI_length _) A9 c9 hown9 hgr9 hat9
  have hb9 : Below base W W9 := hHeld.2.grown hgr9 (by omega) (own_base hHeld.1.deep)
  refine hK _ _ ?_
  simp only [Act.put, List.setIfInBounds_toArray, List.set_cons_zero, List.set_cons_succ]
  refine pure_ (i := 9) (N := (some 114)) (v := ?_) (a' := ?_) #[true, true, true, true, true, true, true, true, true, true, false, false] rfl rfl (by kernel_rfl) (fun _ _ _ h => h) (Or.inl ⟨by rfl, ?_⟩) ?_ ?_
  rotate_left
  · intro w'
    go_simp
    with_reducible rfl
  rotate_left
  · simp only [Act.put, List.setIfInBounds_toArray, List.set_cons_zero, List.set_cons_succ]
    rfl
  refine pure_ (i := 10) (N := (some 115)) (v := ?_) (a' := ?_) #[true, true, true, true, true, true, true, true, true, true, true, false] rfl rfl (by kernel_rfl) (fun _ _ _ h => h) (Or.inl ⟨by rfl, ?_⟩) ?_ ?_
  rotate_left
  · intro w'
    go_simp
    with_reducible rfl
  rotate_left
  · simp only [Act.put, List.setIfInBounds_toArray, List.set_cons_zero, List.set_cons_succ]
    rfl
  refine last_ (i := 11) (N := none) #[true, true, true, true, true, true, true, true, true, true, true, true] rfl rfl (by kernel_rfl) (by simp) (fun K hK => ?_)
  refine ev_storeMid (by rfl) rfl 23 _ _ rfl g 6 (repc q a).toArray (.slice a.a6 q.deep.length a.c6) (.slice A9 (q.deep.length + 1) c9) 44 rfl rfl rfl rfl hg9 (rep_h _ _ _ _ rfl) (by kernel_rfl) ?_
  refine hK _ _ ?_
  refine done_ (by kernel_rfl) ?_
  go_wp2
  go_end0
  exact ⟨rfl, by rw [Hq.out]; exact ⟨⟨_, hadd⟩, hb9.setCell hb0 _⟩⟩
set_option maxHeartbeats 2000000 in
theorem read53_told (l : List UInt8) (hl : l.length ≤ 1000000) (m base g : Nat) (q : Rep) (a : RepA) (W : World) (hE : Env W) (hR : RepAt m base g W q a) (hm : m ≤ 100000) (hw : bef l = wTold) :
    Calls Tryz.prog 53 #[.pointer (some ⟨g, 0, none⟩), .string (bs l)] W fun e w' => e = .returned (.tuple #[]) ∧ ReadResR m base g W w' (readR q l) := by
  have Hq := Lib.hid (rd_told (q := q) hw)
  have HW := Lib.hid hw
  clear hw
  have hb0 := hR.hbg
  have hb00 := hR.lt
  have HE := Lib.hid hE
  have HR := Lib.hid hR
  have l1 := aft_len l
  have l2 := bef_len (aft l)
  have l3 := aft_len (aft l)
  obtain ⟨rest, Hr⟩ : ∃ r, Hid (aft l = r) := ⟨_, Lib.hid rfl⟩
  rw [Hr.out] at l1 l2 l3
  try rw [Hr.out] at Hq
  obtain ⟨x1, Hx1⟩ : ∃ r, Hid (bef rest = r) := ⟨_, Lib.hid rfl⟩
  obtain ⟨x2, Hx2⟩ : ∃ r, Hid (aft rest = r) := ⟨_, Lib.hid rfl⟩
  rw [Hx1.out] at l2
  rw [Hx2.out] at l3
  try rw [Hx1.out] at Hq
  try rw [Hx2.out] at Hq
  clear hE hR
  go_enter Tryz.func53, Tryz.ntmps53
  go_wp2_with fail
  refine (cut72_any l hl W HE.out).mono ?_
  rintro e W1 ⟨⟨t1, rfl⟩, hb1⟩
  rw [HW.out, Hr.out]
  have HE1 := Lib.hid (HE.out.below hb1)
  have HR1 := Lib.hid (HR.out.below hb1)
  go_wp2_with fail
  refine (cut72_any rest (by omega) W1 HE1.out).mono ?_
  rintro e W2 ⟨⟨t2, rfl⟩, hb2⟩
  rw [Hx1.out, Hx2.out]
  have HE2 := Lib.hid (HE1.out.below hb2)
  have HR2 := Lib.hid (HR1.out.below hb2)
  have HB2 : Hid (Below base W W2) := Lib.hid (below_base (below_base (Below.refl _ _) (by omega) hb1) (by have := HR1.out.lt; have := HR1.out.hbg; omega) hb2)
  clear hb1 hb2
  go_wp2_with (first
    | (refine wpList_run rfl (op_str_eqlB _ _ _ _ _ _ _ _ _ _ wTold [111, 112] false rfl rfl rfl) ?_)
    | (refine wpList_run rfl (op_str_eqlB _ _ _ _ _ _ _ _ _ _ wTold [99, 97, 112, 115] false rfl rfl rfl) ?_)
    | (refine wpList_run rfl (op_str_eqlB _ _ _ _ _ _ _ _ _ _ wTold [114, 101, 102] false rfl rfl rfl) ?_)
    | (refine wpList_run rfl (op_str_eqlB _ _ _ _ _ _ _ _ _ _ wTold [97, 99, 107] false rfl rfl rfl) ?_)
    | (refine wpList_run rfl (op_str_eqlB _ _ _ _ _ _ _ _ _ _ wTold [114, 101, 97, 100, 121] false rfl rfl rfl) ?_)
    | (refine wpList_run rfl (op_str_eqlB _ _ _ _ _ _ _ _ _ _ wTold [115, 105, 122, 101] false rfl rfl rfl) ?_)
    | (refine wpList_run rfl (op_str_eqlB _ _ _ _ _ _ _ _ _ _ wTold [115, 104, 97, 108, 108, 111, 119] false rfl rfl rfl) ?_)
    | (refine wpList_run rfl (op_str_eqlB _ _ _ _ _ _ _ _ _ _ wTold [100, 101, 101, 112] false rfl rfl rfl) ?_)
    | (refine wpList_run rfl (op_str_eqlB _ _ _ _ _ _ _ _ _ _ wTold [116, 111, 108, 100] true rfl rfl rfl) ?_))
  try go_wp2
  refine start_ (n := 12) (S := (fun V => RepAt m base g V q a ∧ Below base W V ∧ Below W2.heap.size W2 V)) (ds := [8, 11]) #[false, false, false, false, false, false, false, false, false, false, false, false] (by kernel_rfl) rfl rfl (⟨HR2.out.drew, ⟨HB2.out.os, HB2.out.tape, HB2.out.output, HB2.out.size, HB2.out.block⟩, below_drew (Below.refl _ _)⟩) (fun hHeld => ?_)
  refine pure_ (i := 0) (N := (some 118)) (v := ?_) (a' := ?_) #[true, false, false, false, false, false, false, false, false, false, false, false] rfl rfl (by kernel_rfl) (fun _ _ _ h => h) (Or.inl ⟨by rfl, ?_⟩) ?_ ?_
  rotate_left
  · intro w'
    go_simp
    with_reducible rfl
  rotate_left
  · simp only [Act.put, List.setIfInBounds_toArray, List.set_cons_zero, List.set_cons_succ]
    rfl
  refine pure_ (i := 1) (N := (some 119)) (v := ?_) (a' := ?_) #[true, true, false, false, false, false, false, false, false, false, false, false] rfl rfl (by kernel_rfl) (fun _ _ _ h => h) (Or.inl ⟨by rfl, ?_⟩) ?_ ?_
  rotate_left
  · intro w'
    go_simp
    with_reducible rfl
  rotate_left
  · simp only [Act.put, List.setIfInBounds_toArray, List.set_cons_zero, List.set_cons_succ]
    rfl
  refine pure_ (i := 2) (N := (some 120)) (v := ?_) (a' := ?_) #[true, true, true, false, false, false, false, false, false, false, false, false] rfl rfl (by kernel_rfl) (fun _ _ _ h => h) (Or.inl ⟨by rfl, ?_⟩) ?_ ?_
  rotate_left
  · intro w'
    go_simp
    with_reducible rfl
  rotate_left
  · simp only [Act.put, List.setIfInBounds_toArray, List.set_cons_zero, List.set_cons_succ]
    rfl
  refine pure_ (i := 3) (N := (some 121)) (v := ?_) (a' := ?_) #[true, true, true, true, false, false, false, false, false, false, false, false] rfl rfl (by kernel_rfl) (fun _ _ _ h => h) (Or.inl ⟨by rfl, ?_⟩) ?_ ?_
  rotate_left
  · intro w'
    go_simp
    with_reducible rfl
  rotate_left
  · simp only [Act.put, List.setIfInBounds_toArray, List.set_cons_zero, List.set_cons_succ]
    rfl
  refine take_ (i := 4) (N := (some 122)) (v := ?_) (a' := ?_) #[true, true, true, true, true, false, false, false, false, false, false, false] rfl rfl (by kernel_rfl) (fun _ _ _ h => h) (Or.inl ⟨by rfl, ?_⟩) hHeld ?_ ?_
  rotate_left
  · intro w' hS'
    have h1 := cell_of_row _ g 42 _ 44 (0, 0) hS'.1.hg
    replace h1 := h1.trans (show (repc q a).toArray[42]? = some (.slice a.a11 q.told.length a.c11) from (rep_g (rep_t11 _ _ hS'.1.sum)))
    go_simp
    with_reducible rfl
  rotate_left
  · simp only [Act.put, List.setIfInBounds_toArray, List.set_cons_zero, List.set_cons_succ]
    rfl
  refine pure_ (i := 5) (N := (some 123)) (v := ?_) (a' := ?_) #[true, true, true, true, true, true, false, false, false, false, false, false] rfl rfl (by kernel_rfl) (fun _ _ _ h => h) (Or.inl ⟨by rfl, ?_⟩) ?_ ?_
  rotate_left
  · intro w'
    go_simp
    with_reducible rfl
  rotate_left
  · simp only [Act.put, List.setIfInBounds_toArray, List.set_cons_zero, List.set_cons_succ]
    rfl
  refine one_ (i := 6) (N := (some 124)) #[true, true, true, true, true, true, true, false, false, false, false, false] rfl rfl (by kernel_rfl) (by simp) (fun K hK => ?_)
  refine goes_ Tryz.func73 (by kernel_rfl) rfl #[.string (bs rest)] (by rfl) rfl rfl (by first | rfl | simp [Act.eval]) ?_
  refine (figure73_any rest (by omega) _ (HE2.out.below hHeld.2.2)).mono ?_
  rintro e w1 ⟨rfl, hb⟩
  refine ⟨_, rfl, hK _ _ (⟨hHeld.1.below hb, below_base hHeld.2.1 (by have := hHeld.1.lt; omega) hb, below_call hHeld.2.2 hb⟩) (fun hHeld => ?_)⟩
  simp only [Act.put, List.setIfInBounds_toArray, List.set_cons_zero, List.set_cons_succ]
  refine one_ (i := 7) (N := (some 125)) #[true, true, true, true, true, true, true, true, false, false, false, false] rfl rfl (by kernel_rfl) (by simp) (fun K hK => ?_)
  refine ev_build (by rfl) rfl (intsc [figI rest]) 3 1 1 (op_new42 _ _ _ _ _ _ _ _ (figI rest) rfl) (rfl) (by decide) ?_
  intro g8 W8 hown8 hb8
  refine hK _ _ (⟨hHeld.1.below hb8, below_base hHeld.2.1 (by have := hHeld.1.lt; omega) hb8, below_call hHeld.2.2 hb8⟩) (fun hHeld => ?_)
  simp only [Act.put, List.setIfInBounds_toArray, List.set_cons_zero, List.set_cons_succ]
  refine last_ (i := 8) (N := (some 126)) #[true, true, true, true, true, true, true, true, true, false, false, false] rfl rfl (by kernel_rfl) (by simp) (fun K hK => ?_)
  have hlt8 := hHeld.1.lt
  have hn8 := hHeld.1.n11
  have hsum := hHeld.1.sum
  refine ev_append_at (by rfl) rfl (.tmp 122) (.tmp 125) 42 rfl base 3 (.int .i64 0) 1 8 und42 info3a (rfl) (by decide) a.a11 q.told.length a.c11 (intsc q.told) rfl hHeld.1.told ⟨g8, 0, none⟩ 1 1 (intsc [figI rest]) rfl (rfl) ?_ (by intro u hu; simp [intsc] at hu; subst hu; rfl) ?_ ?_ ?_ ?_
  · intro j u hj; rw [Addr.add_mid, Nat.zero_add]; have := hown8.cells (g := g8) rfl j u hj; rwa [Addr.add_mid, Nat.zero_add] at this
  · unfold maxLen; omega
  · omega
  · omega
  intro A9 c9 W9 hown9 hgr9 hat9
  have hg9 := gR_app hHeld.1 hgr9 (by decide) hHeld.1.told
  have hadd := hHeld.1.add_told (figI rest) A9 c9 hown9 hgr9 hat9
  have hb9 : Below base W W9 := hHeld.2.1.grown hgr9 (by omega) (own_base hHeld.1.told)
  refine hK _ _ ?_
  simp only [Act.put, List.setIfInBounds_toArray, List.set_cons_zero, List.set_cons_succ]
  refine pure_ (i := 9) (N := (some 127)) (v := ?_) (a' := ?_) #[true, true, true, true, true, true, true, true, true, true, false, false] rfl rfl (by kernel_rfl) (fun _ _ _ h => h) (Or.inl ⟨by rfl, ?_⟩) ?_ ?_
  rotate_left
  · intro w'
    go_simp
    with_reducible rfl
  rotate_left
  · simp only [Act.put, List.setIfInBounds_toArray, List.set_cons_zero, List.set_cons_succ]
    rfl
  refine pure_ (i := 10) (N := (some 128)) (v := ?_) (a' := ?_) #[true, true, true, true, true, true, true, true, true, true, true, false] rfl rfl (by kernel_rfl) (fun _ _ _ h => h) (Or.inl ⟨by rfl, ?_⟩) ?_ ?_
  rotate_left
  · intro w'
    go_simp
    with_reducible rfl
  rotate_left
  · simp only [Act.put, List.setIfInBounds_toArray, List.set_cons_zero, List.set_cons_succ]
    rfl
  refine last_ (i := 11) (N := none) #[true, true, true, true, true, true, true, true, true, true, true, true] rfl rfl (by kernel_rfl) (by simp) (fun K hK => ?_)
  refine ev_storeMid (by rfl) rfl 42 _ _ rfl g 42 (repc q a).toArray (.slice a.a11 q.told.length a.c11) (.slice A9 (q.told.length + 1) c9) 44 rfl rfl rfl rfl hg9 (rep_g (rep_t11 _ _ hsum)) (by kernel_rfl) ?_
  refine hK _ _ ?_
  refine done_ (by kernel_rfl) ?_
  go_wp2
  go_end0
  exact ⟨rfl, by rw [Hq.out]; exact ⟨⟨_, hadd⟩, hb9.setCell hb0 _⟩⟩
set_option maxHeartbeats 2000000 in
theorem read53_band (l : List UInt8) (hl : l.length ≤ 1000000) (m base g : Nat) (q : Rep) (a : RepA) (W : World) (hE : Env W) (hR : RepAt m base g W q a) (hm : m ≤ 100000) (hw : bef l = wBand) :
    Calls Tryz.prog 53 #[.pointer (some ⟨g, 0, none⟩), .string (bs l)] W fun e w' => e = .returned (.tuple #[]) ∧ ReadResR m base g W w' (readR q l) := by
  have Hq := Lib.hid (rd_band (q := q) hw)
  have HW := Lib.hid hw
  clear hw
  have hb0 := hR.hbg
  have hb00 := hR.lt
  have HE := Lib.hid hE
  have HR := Lib.hid hR
  have l1 := aft_len l
  have l2 := bef_len (aft l)
  have l3 := aft_len (aft l)
  obtain ⟨rest, Hr⟩ : ∃ r, Hid (aft l = r) := ⟨_, Lib.hid rfl⟩
  rw [Hr.out] at l1 l2 l3
  try rw [Hr.out] at Hq
  obtain ⟨x1, Hx1⟩ : ∃ r, Hid (bef rest = r) := ⟨_, Lib.hid rfl⟩
  obtain ⟨x2, Hx2⟩ : ∃ r, Hid (aft rest = r) := ⟨_, Lib.hid rfl⟩
  rw [Hx1.out] at l2
  rw [Hx2.out] at l3
  try rw [Hx1.out] at Hq
  try rw [Hx2.out] at Hq
  clear hE hR
  go_enter Tryz.func53, Tryz.ntmps53
  go_wp2_with fail
  refine (cut72_any l hl W HE.out).mono ?_
  rintro e W1 ⟨⟨t1, rfl⟩, hb1⟩
  rw [HW.out, Hr.out]
  have HE1 := Lib.hid (HE.out.below hb1)
  have HR1 := Lib.hid (HR.out.below hb1)
  go_wp2_with fail
  refine (cut72_any rest (by omega) W1 HE1.out).mono ?_
  rintro e W2 ⟨⟨t2, rfl⟩, hb2⟩
  rw [Hx1.out, Hx2.out]
  have HE2 := Lib.hid (HE1.out.below hb2)
  have HR2 := Lib.hid (HR1.out.below hb2)
  have HB2 : Hid (Below base W W2) := Lib.hid (below_base (below_base (Below.refl _ _) (by omega) hb1) (by have := HR1.out.lt; have := HR1.out.hbg; omega) hb2)
  clear hb1 hb2
  have HR4 := Lib.hid (HR2.out.set_band true)
  have HG3 := Lib.hid HR2.out.hg
  go_wp2_with (first
    | (refine wpList_run rfl (op_str_eqlB _ _ _ _ _ _ _ _ _ _ wBand [111, 112] false rfl rfl rfl) ?_)
    | (refine wpList_run rfl (op_str_eqlB _ _ _ _ _ _ _ _ _ _ wBand [99, 97, 112, 115] false rfl rfl rfl) ?_)
    | (refine wpList_run rfl (op_str_eqlB _ _ _ _ _ _ _ _ _ _ wBand [114, 101, 102] false rfl rfl rfl) ?_)
    | (refine wpList_run rfl (op_str_eqlB _ _ _ _ _ _ _ _ _ _ wBand [97, 99, 107] false rfl rfl rfl) ?_)
    | (refine wpList_run rfl (op_str_eqlB _ _ _ _ _ _ _ _ _ _ wBand [114, 101, 97, 100, 121] false rfl rfl rfl) ?_)
    | (refine wpList_run rfl (op_str_eqlB _ _ _ _ _ _ _ _ _ _ wBand [115, 105, 122, 101] false rfl rfl rfl) ?_)
    | (refine wpList_run rfl (op_str_eqlB _ _ _ _ _ _ _ _ _ _ wBand [115, 104, 97, 108, 108, 111, 119] false rfl rfl rfl) ?_)
    | (refine wpList_run rfl (op_str_eqlB _ _ _ _ _ _ _ _ _ _ wBand [100, 101, 101, 112] false rfl rfl rfl) ?_)
    | (refine wpList_run rfl (op_str_eqlB _ _ _ _ _ _ _ _ _ _ wBand [116, 111, 108, 100] false rfl rfl rfl) ?_)
    | (refine wpList_run rfl (op_str_eqlB _ _ _ _ _ _ _ _ _ _ wBand [98, 97, 110, 100] true rfl rfl rfl) ?_)
    | (refine wpList_storeMid rfl 4 _ _ rfl g 8 (repc q a).toArray (.bool q.band) (.bool true) 44 rfl rfl rfl rfl HG3.out (rep_h _ _ _ _ rfl) (by kernel_rfl) ?_))
  go_end0
  exact ⟨rfl, by rw [Hq.out]; exact ⟨⟨a, HR4.out.mono (by omega)⟩, HB2.out.setCell hb0 _⟩⟩
set_option maxHeartbeats 2000000 in
theorem read53_other (l : List UInt8) (hl : l.length ≤ 1000000) (m base g : Nat) (q : Rep) (a : RepA) (W : World) (hE : Env W) (hR : RepAt m base g W q a) (hm : m ≤ 100000) (w0 : bef l ≠ wOp) (w1 : bef l ≠ wCaps) (w2 : bef l ≠ wRef) (w3 : bef l ≠ wAck) (w4 : bef l ≠ wReady) (w5 : bef l ≠ wSize) (w6 : bef l ≠ wShallow) (w7 : bef l ≠ wDeep) (w8 : bef l ≠ wTold) (w9 : bef l ≠ wBand) :
    Calls Tryz.prog 53 #[.pointer (some ⟨g, 0, none⟩), .string (bs l)] W fun e w' => e = .returned (.tuple #[]) ∧ ReadResR m base g W w' (readR q l) := by
  have Hq := Lib.hid (rd_other (q := q) w0 w1 w2 w3 w4 w5 w6 w7 w8 w9)
  obtain ⟨wd, HW⟩ : ∃ x, Hid (bef l = x) := ⟨_, Lib.hid rfl⟩
  rw [HW.out] at w0 w1 w2 w3 w4 w5 w6 w7 w8 w9
  have h0 : Hid ((wd == wOp) = false) := Lib.hid (by simpa using w0)
  have h1 : Hid ((wd == wCaps) = false) := Lib.hid (by simpa using w1)
  have h2 : Hid ((wd == wRef) = false) := Lib.hid (by simpa using w2)
  have h3 : Hid ((wd == wAck) = false) := Lib.hid (by simpa using w3)
  have h4 : Hid ((wd == wReady) = false) := Lib.hid (by simpa using w4)
  have h5 : Hid ((wd == wSize) = false) := Lib.hid (by simpa using w5)
  have h6 : Hid ((wd == wShallow) = false) := Lib.hid (by simpa using w6)
  have h7 : Hid ((wd == wDeep) = false) := Lib.hid (by simpa using w7)
  have h8 : Hid ((wd == wTold) = false) := Lib.hid (by simpa using w8)
  have h9 : Hid ((wd == wBand) = false) := Lib.hid (by simpa using w9)
  clear w0 w1 w2 w3 w4 w5 w6 w7 w8 w9
  have hb0 := hR.hbg
  have hb00 := hR.lt
  have HE := Lib.hid hE
  have HR := Lib.hid hR
  have l1 := aft_len l
  have l2 := bef_len (aft l)
  have l3 := aft_len (aft l)
  obtain ⟨rest, Hr⟩ : ∃ r, Hid (aft l = r) := ⟨_, Lib.hid rfl⟩
  rw [Hr.out] at l1 l2 l3
  try rw [Hr.out] at Hq
  obtain ⟨x1, Hx1⟩ : ∃ r, Hid (bef rest = r) := ⟨_, Lib.hid rfl⟩
  obtain ⟨x2, Hx2⟩ : ∃ r, Hid (aft rest = r) := ⟨_, Lib.hid rfl⟩
  rw [Hx1.out] at l2
  rw [Hx2.out] at l3
  try rw [Hx1.out] at Hq
  try rw [Hx2.out] at Hq
  clear hE hR
  go_enter Tryz.func53, Tryz.ntmps53
  go_wp2_with fail
  refine (cut72_any l hl W HE.out).mono ?_
  rintro e W1 ⟨⟨t1, rfl⟩, hb1⟩
  rw [HW.out, Hr.out]
  have HE1 := Lib.hid (HE.out.below hb1)
  have HR1 := Lib.hid (HR.out.below hb1)
  go_wp2_with fail
  refine (cut72_any rest (by omega) W1 HE1.out).mono ?_
  rintro e W2 ⟨⟨t2, rfl⟩, hb2⟩
  rw [Hx1.out, Hx2.out]
  have HE2 := Lib.hid (HE1.out.below hb2)
  have HR2 := Lib.hid (HR1.out.below hb2)
  have HB2 : Hid (Below base W W2) := Lib.hid (below_base (below_base (Below.refl _ _) (by omega) hb1) (by have := HR1.out.lt; have := HR1.out.hbg; omega) hb2)
  clear hb1 hb2
  go_wp2_with (first
    | (refine wpList_run rfl (op_str_eqlB _ _ _ _ _ _ _ _ _ _ wd [111, 112] false h0.out rfl rfl) ?_)
    | (refine wpList_run rfl (op_str_eqlB _ _ _ _ _ _ _ _ _ _ wd [99, 97, 112, 115] false h1.out rfl rfl) ?_)
    | (refine wpList_run rfl (op_str_eqlB _ _ _ _ _ _ _ _ _ _ wd [114, 101, 102] false h2.out rfl rfl) ?_)
    | (refine wpList_run rfl (op_str_eqlB _ _ _ _ _ _ _ _ _ _ wd [97, 99, 107] false h3.out rfl rfl) ?_)
    | (refine wpList_run rfl (op_str_eqlB _ _ _ _ _ _ _ _ _ _ wd [114, 101, 97, 100, 121] false h4.out rfl rfl) ?_)
    | (refine wpList_run rfl (op_str_eqlB _ _ _ _ _ _ _ _ _ _ wd [115, 105, 122, 101] false h5.out rfl rfl) ?_)
    | (refine wpList_run rfl (op_str_eqlB _ _ _ _ _ _ _ _ _ _ wd [115, 104, 97, 108, 108, 111, 119] false h6.out rfl rfl) ?_)
    | (refine wpList_run rfl (op_str_eqlB _ _ _ _ _ _ _ _ _ _ wd [100, 101, 101, 112] false h7.out rfl rfl) ?_)
    | (refine wpList_run rfl (op_str_eqlB _ _ _ _ _ _ _ _ _ _ wd [116, 111, 108, 100] false h8.out rfl rfl) ?_)
    | (refine wpList_run rfl (op_str_eqlB _ _ _ _ _ _ _ _ _ _ wd [98, 97, 110, 100] false h9.out rfl rfl) ?_))
  go_end0
  exact ⟨rfl, by rw [Hq.out]; exact ⟨⟨a, HR2.out.mono (by omega)⟩, HB2.out⟩⟩
theorem read53_any (l : List UInt8) (hl : l.length ≤ 1000000) (m base g : Nat) (q : Rep) (a : RepA) (W : World) (hE : Env W) (hR : RepAt m base g W q a) (hm : m ≤ 100000) :
    Calls Tryz.prog 53 #[.pointer (some ⟨g, 0, none⟩), .string (bs l)] W fun e w' => e = .returned (.tuple #[]) ∧ ReadResR m base g W w' (readR q l) := by
  by_cases w0 : bef l = wOp
  · exact read53_op l hl m base g q a W hE hR hm w0
  by_cases w1 : bef l = wCaps
  · exact read53_caps l hl m base g q a W hE hR hm w1
  by_cases w2 : bef l = wRef
  · exact read53_ref l hl m base g q a W hE hR hm w2
  by_cases w3 : bef l = wAck
  · exact read53_ack l hl m base g q a W hE hR hm w3
  by_cases w4 : bef l = wReady
  · exact read53_ready l hl m base g q a W hE hR hm w4
  by_cases w5 : bef l = wSize
  · exact read53_size l hl m base g q a W hE hR hm w5
  by_cases w6 : bef l = wShallow
  · exact read53_shallow l hl m base g q a W hE hR hm w6
  by_cases w7 : bef l = wDeep
  · exact read53_deep l hl m base g q a W hE hR hm w7
  by_cases w8 : bef l = wTold
  · exact read53_told l hl m base g q a W hE hR hm w8
  by_cases w9 : bef l = wBand
  · exact read53_band l hl m base g q a W hE hR hm w9
  exact read53_other l hl m base g q a W hE hR hm w0 w1 w2 w3 w4 w5 w6 w7 w8 w9
end Go.Proofs.YtmfpmedkhlhnpaaGreatDoor
