import Derived.Test.YtmfpmedkhlhnpaaGreatDoorR1
/- function 44: a request takes in a line. -/
namespace Go.Proofs.YtmfpmedkhlhnpaaGreatDoor
open Go.RowKit Go.Extern.Stop Go.Proofs.YtmfpmedkhlhnpaaGreatDoorW.PrintLast
set_option maxRecDepth 100000
set_option linter.unusedSimpArgs false
set_option linter.unusedVariables false
theorem cut72_any (l : List UInt8) (hl : l.length ≤ 1000000) (w : World) (hE : Env w) : Calls Tryz.prog 72 #[.string (bs l), .string (bs [32])] w fun e w' => (∃ b, e = .returned (.tuple #[.string (bs (bef l)), .string (bs (aft l)), .bool b])) ∧ Below w.heap.size w w' := by
  obtain ⟨m, hm⟩ := hE.maxlen
  exact (Tryz.strings_Cut (bs l) (bs [32]) m w (by show l.length < _; omega) hm).mono fun e w' ⟨he, n, hw⟩ => ⟨⟨_, he⟩, hw ▸ below_drewN (Below.refl _ _) n⟩
def ReadRes (m base g : Nat) (W w' : World) (q : Req) : Prop := (∃ a, ReqAt (m + 1) base g w' q a) ∧ Below base W w'
theorem below_base {base : Nat} {W V V1 : World} (h : Below base W V) (hb : base ≤ V.heap.size) (h1 : Below V.heap.size V V1) : Below base W V1 := h.trans (h1.mono hb)
theorem capsG_short (l : List UInt8) (hl : l.length ≤ 1000000) : ∀ s ∈ capsG l, s.length ≤ 9223372036854775807 := by
  intro s hs
  rw [capsG] at hs
  split at hs
  · cases hs
  · split at hs
    · have := splitS_short l s hs; omega
    · cases hs
theorem own_weaken {w : World} {b b2 : Nat} {e : TypeId} {size n : Nat} {v : Value} {xs : List Value} (h : w.ownsRow b e size v n xs) (hb : b2 ≤ b) : w.ownsRow b2 e size v n xs := by
  refine ⟨h.1, ?_⟩
  rcases h.2 with h1 | ⟨g, cap, cur, h1, h2, h3⟩
  · exact .inl h1
  · exact .inr ⟨g, cap, cur, h1, by omega, h3⟩
theorem upd_ones (u : Upd) : ∀ v ∈ updc u, v.oneCell' = true := by
  intro v hv
  have := updv_one u
  simp only [Array.all_eq_true', List.mem_toArray] at this
  exact this v hv
set_option maxHeartbeats 2000000 in
theorem read44_op (l : List UInt8) (hl : l.length ≤ 1000000) (m base g : Nat) (q : Req) (a : ReqA) (W : World) (hE : Env W) (hR : ReqAt m base g W q a) (hm : m ≤ 100000) (hw : bef l = wOp) :
    Calls Tryz.prog 44 #[.pointer (some ⟨g, 0, none⟩), .string (bs l)] W fun e w' => e = .returned (.tuple #[]) ∧ ReadRes m base g W w' (readP q l) := by
  have Hq := Lib.hid (read_op (q := q) hw)
  have HW := Lib.hid hw
  clear hw
  have hb0 := hR.hbg
  have hb00 := hR.lt
  have HE := Lib.hid hE
  have HR := Lib.hid hR
  have l1 := aft_len l
  have l2 := bef_len (aft l)
  have l3 := aft_len (aft l)
  obtain ⟨rest, Hr⟩ : ∃ r, Hid (aft l = r) := ⟨_, Lib.hid rfl⟩
  rw [Hr.out] at l1 l2 l3
  try rw [Hr.out] at Hq
  obtain ⟨x1, Hx1⟩ : ∃ r, Hid (bef rest = r) := ⟨_, Lib.hid rfl⟩
  obtain ⟨x2, Hx2⟩ : ∃ r, Hid (aft rest = r) := ⟨_, Lib.hid rfl⟩
  rw [Hx1.out] at l2
  rw [Hx2.out] at l3
  try rw [Hx1.out] at Hq
  try rw [Hx2.out] at Hq
  clear hE hR
  go_enter Tryz.func44, Tryz.ntmps44
  go_wp2_with fail
  refine (cut72_any l hl W HE.out).mono ?_
  rintro e W1 ⟨⟨t1, rfl⟩, hb1⟩
  rw [HW.out, Hr.out]
  have HE1 := Lib.hid (HE.out.below hb1)
  have HR1 := Lib.hid (HR.out.below hb1)
  go_wp2_with fail
  refine (cut72_any rest (by omega) W1 HE1.out).mono ?_
  rintro e W2 ⟨⟨t2, rfl⟩, hb2⟩
  rw [Hx1.out, Hx2.out]
  have HE2 := Lib.hid (HE1.out.below hb2)
  have HR2 := Lib.hid (HR1.out.below hb2)
  have HB2 : Hid (Below base W W2) := Lib.hid (below_base (below_base (Below.refl _ _) (by omega) hb1) (by have := HR1.out.lt; have := HR1.out.hbg; omega) hb2)
  clear hb1 hb2
  go_wp2_with (first
    | (refine wpList_run rfl (op_str_eqlB _ _ _ _ _ _ _ _ _ _ wOp [111, 112] true rfl rfl rfl) ?_))
  refine (figure73_any x1 (by omega) W2 HE2.out).mono ?_
  rintro e W3 ⟨rfl, hb3⟩
  have HE3 := Lib.hid (HE2.out.below hb3)
  have HR3 := Lib.hid (HR2.out.below hb3)
  go_wp2_with fail
  refine (figure73_any x2 (by omega) W3 HE3.out).mono ?_
  rintro e W4 ⟨rfl, hb4⟩
  have HR4 := Lib.hid (HR3.out.below hb4)
  have HR5 := Lib.hid (HR4.out.set_op (figI x1))
  have HR6 := Lib.hid (HR5.out.set_session (figI x2))
  have HG4 := Lib.hid HR4.out.hg
  have HG5 := Lib.hid HR5.out.hg
  have HB4 : Hid (Below base W W4) := Lib.hid (below_base (below_base HB2.out (by have := HR2.out.lt; have := HR2.out.hbg; omega) hb3) (by have := HR3.out.lt; have := HR3.out.hbg; omega) hb4)
  clear hb3 hb4
  go_wp2_with (first
    | (refine wpList_storeMid rfl 3 _ _ rfl g 0 (reqc q a).toArray (.int .i64 q.op) (.int .i64 (figI x1)) 26 rfl rfl rfl rfl HG4.out rfl (by kernel_rfl) ?_)
    | (refine wpList_storeMid rfl 3 _ _ rfl g 1 (reqc { q with op := figI x1 } a).toArray (.int .i64 q.session) (.int .i64 (figI x2)) 26 rfl rfl rfl rfl HG5.out rfl (by kernel_rfl) ?_))
  go_end0
  exact ⟨rfl, by rw [Hq.out]; exact ⟨⟨a, HR6.out.mono (by omega)⟩, (HB4.out.setCell hb0 _).setCell hb0 _⟩⟩
set_option maxHeartbeats 2000000 in
theorem read44_caps (l : List UInt8) (hl : l.length ≤ 1000000) (m base g : Nat) (q : Req) (a : ReqA) (W : World) (hE : Env W) (hR : ReqAt m base g W q a) (hm : m ≤ 100000) (hw : bef l = wCaps) :
    Calls Tryz.prog 44 #[.pointer (some ⟨g, 0, none⟩), .string (bs l)] W fun e w' => e = .returned (.tuple #[]) ∧ ReadRes m base g W w' (readP q l) := by
  have Hq := Lib.hid (read_caps (q := q) hw)
  have HW := Lib.hid hw
  clear hw
  have hb0 := hR.hbg
  have hb00 := hR.lt
  have HE := Lib.hid hE
  have HR := Lib.hid hR
  have l1 := aft_len l
  have l2 := bef_len (aft l)
  have l3 := aft_len (aft l)
  obtain ⟨rest, Hr⟩ : ∃ r, Hid (aft l = r) := ⟨_, Lib.hid rfl⟩
  rw [Hr.out] at l1 l2 l3
  try rw [Hr.out] at Hq
  obtain ⟨x1, Hx1⟩ : ∃ r, Hid (bef rest = r) := ⟨_, Lib.hid rfl⟩
  obtain ⟨x2, Hx2⟩ : ∃ r, Hid (aft rest = r) := ⟨_, Lib.hid rfl⟩
  rw [Hx1.out] at l2
  rw [Hx2.out] at l3
  try rw [Hx1.out] at Hq
  try rw [Hx2.out] at Hq
  clear hE hR
  go_enter Tryz.func44, Tryz.ntmps44
  go_wp2_with fail
  refine (cut72_any l hl W HE.out).mono ?_
  rintro e W1 ⟨⟨t1, rfl⟩, hb1⟩
  rw [HW.out, Hr.out]
  have HE1 := Lib.hid (HE.out.below hb1)
  have HR1 := Lib.hid (HR.out.below hb1)
  go_wp2_with fail
  refine (cut72_any rest (by omega) W1 HE1.out).mono ?_
  rintro e W2 ⟨⟨t2, rfl⟩, hb2⟩
  rw [Hx1.out, Hx2.out]
  have HE2 := Lib.hid (HE1.out.below hb2)
  have HR2 := Lib.hid (HR1.out.below hb2)
  have HB2 : Hid (Below base W W2) := Lib.hid (below_base (below_base (Below.refl _ _) (by omega) hb1) (by have := HR1.out.lt; have := HR1.out.hbg; omega) hb2)
  clear hb1 hb2
  go_wp2_with (first
    | (refine wpList_run rfl (op_str_eqlB _ _ _ _ _ _ _ _ _ _ wCaps [111, 112] false rfl rfl rfl) ?_)
    | (refine wpList_run rfl (op_str_eqlB _ _ _ _ _ _ _ _ _ _ wCaps [99, 97, 112, 115] true rfl rfl rfl) ?_))
  refine (caps74_any rest (by omega) W2 HE2.out).mono ?_
  rintro e W3 ⟨⟨A2, c2, er, rfl, ho2⟩, hb3⟩
  have HR3 := Lib.hid (HR2.out.below hb3)
  have ho3 : W3.ownsRow base 9 1 (.slice A2 (capsG rest).length c2) (capsG rest).length (strc (capsG rest)) := own_weaken ho2 (by have := HR2.out.lt; have := HR2.out.hbg; omega)
  have HR4 := Lib.hid (HR3.out.set_caps (capsG rest) A2 c2 ho3 (capsG_short rest (by omega)))
  have HG3 := Lib.hid HR3.out.hg
  have HB3 : Hid (Below base W W3) := Lib.hid (below_base HB2.out (by have := HR2.out.lt; have := HR2.out.hbg; omega) hb3)
  clear hb3 ho2 ho3
  obtain ⟨nc, Hnc⟩ : ∃ n, Hid ((capsG rest).length = n) := ⟨_, Lib.hid rfl⟩
  rw [Hnc.out] at HR4 ⊢
  go_wp2_with (first
    | (refine wpList_storeMid rfl 22 _ _ rfl g 2 (reqc q a).toArray (.slice a.a2 q.caps.length a.c2) (.slice A2 nc c2) 26 rfl rfl rfl rfl HG3.out rfl (by kernel_rfl) ?_))
  go_end0
  exact ⟨rfl, by rw [Hq.out]; exact ⟨⟨_, HR4.out.mono (by omega)⟩, HB3.out.setCell hb0 _⟩⟩
set_option maxHeartbeats 2000000 in
theorem read44_want (l : List UInt8) (hl : l.length ≤ 1000000) (m base g : Nat) (q : Req) (a : ReqA) (W : World) (hE : Env W) (hR : ReqAt m base g W q a) (hm : m ≤ 100000) (hw : bef l = wWant) :
    Calls Tryz.prog 44 #[.pointer (some ⟨g, 0, none⟩), .string (bs l)] W fun e w' => e = .returned (.tuple #[]) ∧ ReadRes m base g W w' (readP q l) := by
  have Hq := Lib.hid (read_want (q := q) hw)
  have HW := Lib.hid hw
  clear hw
  have hb0 := hR.hbg
  have hb00 := hR.lt
  have HE := Lib.hid hE
  have HR := Lib.hid hR
  have l1 := aft_len l
  have l2 := bef_len (aft l)
  have l3 := aft_len (aft l)
  obtain ⟨rest, Hr⟩ : ∃ r, Hid (aft l = r) := ⟨_, Lib.hid rfl⟩
  rw [Hr.out] at l1 l2 l3
  try rw [Hr.out] at Hq
  obtain ⟨x1, Hx1⟩ : ∃ r, Hid (bef rest = r) := ⟨_, Lib.hid rfl⟩
  obtain ⟨x2, Hx2⟩ : ∃ r, Hid (aft rest = r) := ⟨_, Lib.hid rfl⟩
  rw [Hx1.out] at l2
  rw [Hx2.out] at l3
  try rw [Hx1.out] at Hq
  try rw [Hx2.out] at Hq
  clear hE hR
  go_enter Tryz.func44, Tryz.ntmps44
  go_wp2_with fail
  refine (cut72_any l hl W HE.out).mono ?_
  rintro e W1 ⟨⟨t1, rfl⟩, hb1⟩
  rw [HW.out, Hr.out]
  have HE1 := Lib.hid (HE.out.below hb1)
  have HR1 := Lib.hid (HR.out.below hb1)
  go_wp2_with fail
  refine (cut72_any rest (by omega) W1 HE1.out).mono ?_
  rintro e W2 ⟨⟨t2, rfl⟩, hb2⟩
  rw [Hx1.out, Hx2.out]
  have HE2 := Lib.hid (HE1.out.below hb2)
  have HR2 := Lib.hid (HR1.out.below hb2)
  have HB2 : Hid (Below base W W2) := Lib.hid (below_base (below_base (Below.refl _ _) (by omega) hb1) (by have := HR1.out.lt; have := HR1.out.hbg; omega) hb2)
  clear hb1 hb2
  go_wp2_with (first
    | (refine wpList_run rfl (op_str_eqlB _ _ _ _ _ _ _ _ _ _ wWant [111, 112] false rfl rfl rfl) ?_)
    | (refine wpList_run rfl (op_str_eqlB _ _ _ _ _ _ _ _ _ _ wWant [99, 97, 112, 115] false rfl rfl rfl) ?_)
    | (refine wpList_run rfl (op_str_eqlB _ _ _ _ _ _ _ _ _ _ wWant [119, 97, 110, 116] true rfl rfl rfl) ?_))
  try go_wp2
  refine start_ (n := 12) (S := (fun V => ReqAt m base g V q a ∧ Below base W V)) (ds := [8, 11]) #[false, false, false, false, false, false, false, false, false, false, false, false] (by kernel_rfl) rfl rfl (⟨HR2.out.drew, ⟨HB2.out.os, HB2.out.tape, HB2.out.output, HB2.out.size, HB2.out.block⟩⟩) (fun hHeld => ?_)
  refine pure_ (i := 0) (N := (some 50)) (v := ?_) (a' := ?_) #[true, false, false, false, false, false, false, false, false, false, false, false] rfl rfl (by kernel_rfl) (fun _ _ _ h => h) (Or.inl ⟨by rfl, ?_⟩) ?_ ?_
  rotate_left
  · intro w'
    go_simp
    with_reducible rfl
  rotate_left
  · simp only [Act.put, List.setIfInBounds_toArray, List.set_cons_zero, List.set_cons_succ]
    rfl
  refine pure_ (i := 1) (N := (some 51)) (v := ?_) (a' := ?_) #[true, true, false, false, false, false, false, false, false, false, false, false] rfl rfl (by kernel_rfl) (fun _ _ _ h => h) (Or.inl ⟨by rfl, ?_⟩) ?_ ?_
  rotate_left
  · intro w'
    go_simp
    with_reducible rfl
  rotate_left
  · simp only [Act.put, List.setIfInBounds_toArray, List.set_cons_zero, List.set_cons_succ]
    rfl
  refine pure_ (i := 2) (N := (some 52)) (v := ?_) (a' := ?_) #[true, true, true, false, false, false, false, false, false, false, false, false] rfl rfl (by kernel_rfl) (fun _ _ _ h => h) (Or.inl ⟨by rfl, ?_⟩) ?_ ?_
  rotate_left
  · intro w'
    go_simp
    with_reducible rfl
  rotate_left
  · simp only [Act.put, List.setIfInBounds_toArray, List.set_cons_zero, List.set_cons_succ]
    rfl
  refine pure_ (i := 3) (N := (some 53)) (v := ?_) (a' := ?_) #[true, true, true, true, false, false, false, false, false, false, false, false] rfl rfl (by kernel_rfl) (fun _ _ _ h => h) (Or.inl ⟨by rfl, ?_⟩) ?_ ?_
  rotate_left
  · intro w'
    go_simp
    with_reducible rfl
  rotate_left
  · simp only [Act.put, List.setIfInBounds_toArray, List.set_cons_zero, List.set_cons_succ]
    rfl
  refine take_ (i := 4) (N := (some 54)) (v := ?_) (a' := ?_) #[true, true, true, true, true, false, false, false, false, false, false, false] rfl rfl (by kernel_rfl) (fun _ _ _ h => h) (Or.inl ⟨by rfl, ?_⟩) hHeld ?_ ?_
  rotate_left
  · intro w' hS'
    have h1 := cell_of_row _ g 3 _ 26 (0, 0) hS'.1.hg
    replace h1 := h1.trans (show (reqc q a).toArray[3]? = some (.slice a.a3 q.wants.length a.c3) from rfl)
    go_simp
    with_reducible rfl
  rotate_left
  · simp only [Act.put, List.setIfInBounds_toArray, List.set_cons_zero, List.set_cons_succ]
    rfl
  refine pure_ (i := 5) (N := (some 55)) (v := ?_) (a' := ?_) #[true, true, true, true, true, true, false, false, false, false, false, false] rfl rfl (by kernel_rfl) (fun _ _ _ h => h) (Or.inl ⟨by rfl, ?_⟩) ?_ ?_
  rotate_left
  · intro w'
    go_simp
    with_reducible rfl
  rotate_left
  · simp only [Act.put, List.setIfInBounds_toArray, List.set_cons_zero, List.set_cons_succ]
    rfl
  refine one_ (i := 6) (N := (some 56)) #[true, true, true, true, true, true, true, false, false, false, false, false] rfl rfl (by kernel_rfl) (by simp) (fun K hK => ?_)
  refine goes_ Tryz.func75 (by kernel_rfl) rfl #[.string (bs rest)] (by rfl) rfl rfl (by first | rfl | simp [Act.eval]) ?_
  refine (id75_any rest (by omega) _).mono ?_
  rintro e w1 ⟨rfl, hb⟩
  refine ⟨_, rfl, hK _ _ (⟨hHeld.1.below hb, below_base hHeld.2 (by have := hHeld.1.lt; omega) hb⟩) (fun hHeld => ?_)⟩
  simp only [Act.put, List.setIfInBounds_toArray, List.set_cons_zero, List.set_cons_succ]
  refine one_ (i := 7) (N := (some 57)) #[true, true, true, true, true, true, true, true, false, false, false, false] rfl rfl (by kernel_rfl) (by simp) (fun K hK => ?_)
  refine ev_build (by rfl) rfl (idc (unhexI rest)) 41 32 1 (op_new23 _ _ _ _ _ _ _ _ (unhexI rest) (unhexI_length _) rfl) (by rw [idc_length, unhexI_length]) (by decide) ?_
  intro g8 W8 hown8 hb8
  refine hK _ _ (⟨hHeld.1.below hb8, below_base hHeld.2 (by have := hHeld.1.lt; omega) hb8⟩) (fun hHeld => ?_)
  simp only [Act.put, List.setIfInBounds_toArray, List.set_cons_zero, List.set_cons_succ]
  refine last_ (i := 8) (N := (some 58)) #[true, true, true, true, true, true, true, true, true, false, false, false] rfl rfl (by kernel_rfl) (by simp) (fun K hK => ?_)
  have hlt8 := hHeld.1.lt
  have hn8 := hHeld.1.n3
  refine ev_append_at (by rfl) rfl (.tmp 54) (.tmp 57) 23 rfl base 41 (.agg (idv noId)) 32 32 und23 info41a (by simp [Value.cells, idc_length, noId_length]) (by decide) a.a3 q.wants.length a.c3 (idsc q.wants) rfl hHeld.1.wants ⟨g8, 0, none⟩ 1 1 (idc (unhexI rest)) rfl (by rw [idc_length, unhexI_length]) ?_ (idc_one _) ?_ ?_ ?_ ?_
  · intro j u hj; rw [Addr.add_mid, Nat.zero_add]; have := hown8.cells (g := g8) rfl j u hj; rwa [Addr.add_mid, Nat.zero_add] at this
  · unfold maxLen; omega
  · omega
  · omega
  intro A9 c9 W9 hown9 hgr9 hat9
  have hg9 := g_app hHeld.1 hgr9 (by decide) hHeld.1.wants
  have hadd := hHeld.1.add_wants (unhexI rest) (unhexI_length _) A9 c9 hown9 hgr9 hat9
  have hb9 : Below base W W9 := hHeld.2.grown hgr9 (by omega) (own_base hHeld.1.wants)
  refine hK _ _ ?_
  simp only [Act.put, List.setIfInBounds_toArray, List.set_cons_zero, List.set_cons_succ]
  refine pure_ (i := 9) (N := (some 59)) (v := ?_) (a' := ?_) #[true, true, true, true, true, true, true, true, true, true, false, false] rfl rfl (by kernel_rfl) (fun _ _ _ h => h) (Or.inl ⟨by rfl, ?_⟩) ?_ ?_
  rotate_left
  · intro w'
    go_simp
    with_reducible rfl
  rotate_left
  · simp only [Act.put, List.setIfInBounds_toArray, List.set_cons_zero, List.set_cons_succ]
    rfl
  refine pure_ (i := 10) (N := (some 60)) (v := ?_) (a' := ?_) #[true, true, true, true, true, true, true, true, true, true, true, false] rfl rfl (by kernel_rfl) (fun _ _ _ h => h) (Or.inl ⟨by rfl, ?_⟩) ?_ ?_
  rotate_left
  · intro w'
    go_simp
    with_reducible rfl
  rotate_left
  · simp only [Act.put, List.setIfInBounds_toArray, List.set_cons_zero, List.set_cons_succ]
    rfl
  refine last_ (i := 11) (N := none) #[true, true, true, true, true, true, true, true, true, true, true, true] rfl rfl (by kernel_rfl) (by simp) (fun K hK => ?_)
  refine ev_storeMid (by rfl) rfl 23 _ _ rfl g 3 (reqc q a).toArray (.slice a.a3 q.wants.length a.c3) (.slice A9 (q.wants.length + 1) c9) 26 rfl rfl rfl rfl hg9 rfl (by kernel_rfl) ?_
  refine hK _ _ ?_
  refine done_ (by kernel_rfl) ?_
  go_wp2
  go_end0
  exact ⟨rfl, by rw [Hq.out]; exact ⟨⟨_, hadd⟩, hb9.setCell hb0 _⟩⟩
set_option maxHeartbeats 2000000 in
theorem read44_have (l : List UInt8) (hl : l.length ≤ 1000000) (m base g : Nat) (q : Req) (a : ReqA) (W : World) (hE : Env W) (hR : ReqAt m base g W q a) (hm : m ≤ 100000) (hw : bef l = wHave) :
    Calls Tryz.prog 44 #[.pointer (some ⟨g, 0, none⟩), .string (bs l)] W fun e w' => e = .returned (.tuple #[]) ∧ ReadRes m base g W w' (readP q l) := by
  have Hq := Lib.hid (read_have (q := q) hw)
  have HW := Lib.hid hw
  clear hw
  have hb0 := hR.hbg
  have hb00 := hR.lt
  have HE := Lib.hid hE
  have HR := Lib.hid hR
  have l1 := aft_len l
  have l2 := bef_len (aft l)
  have l3 := aft_len (aft l)
  obtain ⟨rest, Hr⟩ : ∃ r, Hid (aft l = r) := ⟨_, Lib.hid rfl⟩
  rw [Hr.out] at l1 l2 l3
  try rw [Hr.out] at Hq
  obtain ⟨x1, Hx1⟩ : ∃ r, Hid (bef rest = r) := ⟨_, Lib.hid rfl⟩
  obtain ⟨x2, Hx2⟩ : ∃ r, Hid (aft rest = r) := ⟨_, Lib.hid rfl⟩
  rw [Hx1.out] at l2
  rw [Hx2.out] at l3
  try rw [Hx1.out] at Hq
  try rw [Hx2.out] at Hq
  clear hE hR
  go_enter Tryz.func44, Tryz.ntmps44
  go_wp2_with fail
  refine (cut72_any l hl W HE.out).mono ?_
  rintro e W1 ⟨⟨t1, rfl⟩, hb1⟩
  rw [HW.out, Hr.out]
  have HE1 := Lib.hid (HE.out.below hb1)
  have HR1 := Lib.hid (HR.out.below hb1)
  go_wp2_with fail
  refine (cut72_any rest (by omega) W1 HE1.out).mono ?_
  rintro e W2 ⟨⟨t2, rfl⟩, hb2⟩
  rw [Hx1.out, Hx2.out]
  have HE2 := Lib.hid (HE1.out.below hb2)
  have HR2 := Lib.hid (HR1.out.below hb2)
  have HB2 : Hid (Below base W W2) := Lib.hid (below_base (below_base (Below.refl _ _) (by omega) hb1) (by have := HR1.out.lt; have := HR1.out.hbg; omega) hb2)
  clear hb1 hb2
  go_wp2_with (first
    | (refine wpList_run rfl (op_str_eqlB _ _ _ _ _ _ _ _ _ _ wHave [111, 112] false rfl rfl rfl) ?_)
    | (refine wpList_run rfl (op_str_eqlB _ _ _ _ _ _ _ _ _ _ wHave [99, 97, 112, 115] false rfl rfl rfl) ?_)
    | (refine wpList_run rfl (op_str_eqlB _ _ _ _ _ _ _ _ _ _ wHave [119, 97, 110, 116] false rfl rfl rfl) ?_)
    | (refine wpList_run rfl (op_str_eqlB _ _ _ _ _ _ _ _ _ _ wHave [104, 97, 118, 101] true rfl rfl rfl) ?_))
  try go_wp2
  refine start_ (n := 12) (S := (fun V => ReqAt m base g V q a ∧ Below base W V)) (ds := [8, 11]) #[false, false, false, false, false, false, false, false, false, false, false, false] (by kernel_rfl) rfl rfl (⟨HR2.out.drew, ⟨HB2.out.os, HB2.out.tape, HB2.out.output, HB2.out.size, HB2.out.block⟩⟩) (fun hHeld => ?_)
  refine pure_ (i := 0) (N := (some 63)) (v := ?_) (a' := ?_) #[true, false, false, false, false, false, false, false, false, false, false, false] rfl rfl (by kernel_rfl) (fun _ _ _ h => h) (Or.inl ⟨by rfl, ?_⟩) ?_ ?_
  rotate_left
  · intro w'
    go_simp
    with_reducible rfl
  rotate_left
  · simp only [Act.put, List.setIfInBounds_toArray, List.set_cons_zero, List.set_cons_succ]
    rfl
  refine pure_ (i := 1) (N := (some 64)) (v := ?_) (a' := ?_) #[true, true, false, false, false, false, false, false, false, false, false, false] rfl rfl (by kernel_rfl) (fun _ _ _ h => h) (Or.inl ⟨by rfl, ?_⟩) ?_ ?_
  rotate_left
  · intro w'
    go_simp
    with_reducible rfl
  rotate_left
  · simp only [Act.put, List.setIfInBounds_toArray, List.set_cons_zero, List.set_cons_succ]
    rfl
  refine pure_ (i := 2) (N := (some 65)) (v := ?_) (a' := ?_) #[true, true, true, false, false, false, false, false, false, false, false, false] rfl rfl (by kernel_rfl) (fun _ _ _ h => h) (Or.inl ⟨by rfl, ?_⟩) ?_ ?_
  rotate_left
  · intro w'
    go_simp
    with_reducible rfl
  rotate_left
  · simp only [Act.put, List.setIfInBounds_toArray, List.set_cons_zero, List.set_cons_succ]
    rfl
  refine pure_ (i := 3) (N := (some 66)) (v := ?_) (a' := ?_) #[true, true, true, true, false, false, false, false, false, false, false, false] rfl rfl (by kernel_rfl) (fun _ _ _ h => h) (Or.inl ⟨by rfl, ?_⟩) ?_ ?_
  rotate_left
  · intro w'
    go_simp
    with_reducible rfl
  rotate_left
  · simp only [Act.put, List.setIfInBounds_toArray, List.set_cons_zero, List.set_cons_succ]
    rfl
  refine take_ (i := 4) (N := (some 67)) (v := ?_) (a' := ?_) #[true, true, true, true, true, false, false, false, false, false, false, false] rfl rfl (by kernel_rfl) (fun _ _ _ h => h) (Or.inl ⟨by rfl, ?_⟩) hHeld ?_ ?_
  rotate_left
  · intro w' hS'
    have h1 := cell_of_row _ g 4 _ 26 (0, 0) hS'.1.hg
    replace h1 := h1.trans (show (reqc q a).toArray[4]? = some (.slice a.a4 q.haves.length a.c4) from rfl)
    go_simp
    with_reducible rfl
  rotate_left
  · simp only [Act.put, List.setIfInBounds_toArray, List.set_cons_zero, List.set_cons_succ]
    rfl
  refine pure_ (i := 5) (N := (some 68)) (v := ?_) (a' := ?_) #[true, true, true, true, true, true, false, false, false, false, false, false] rfl rfl (by kernel_rfl) (fun _ _ _ h => h) (Or.inl ⟨by rfl, ?_⟩) ?_ ?_
  rotate_left
  · intro w'
    go_simp
    with_reducible rfl
  rotate_left
  · simp only [Act.put, List.setIfInBounds_toArray, List.set_cons_zero, List.set_cons_succ]
    rfl
  refine one_ (i := 6) (N := (some 69)) #[true, true, true, true, true, true, true, false, false, false, false, false] rfl rfl (by kernel_rfl) (by simp) (fun K hK => ?_)
  refine goes_ Tryz.func75 (by kernel_rfl) rfl #[.string (bs rest)] (by rfl) rfl rfl (by first | rfl | simp [Act.eval]) ?_
  refine (id75_any rest (by omega) _).mono ?_
  rintro e w1 ⟨rfl, hb⟩
  refine ⟨_, rfl, hK _ _ (⟨hHeld.1.below hb, below_base hHeld.2 (by have := hHeld.1.lt; omega) hb⟩) (fun hHeld => ?_)⟩
  simp only [Act.put, List.setIfInBounds_toArray, List.set_cons_zero, List.set_cons_succ]
  refine one_ (i := 7) (N := (some 70)) #[true, true, true, true, true, true, true, true, false, false, false, false] rfl rfl (by kernel_rfl) (by simp) (fun K hK => ?_)
  refine ev_build (by rfl) rfl (idc (unhexI rest)) 41 32 1 (op_new23 _ _ _ _ _ _ _ _ (unhexI rest) (unhexI_length _) rfl) (by rw [idc_length, unhexI_length]) (by decide) ?_
  intro g8 W8 hown8 hb8
  refine hK _ _ (⟨hHeld.1.below hb8, below_base hHeld.2 (by have := hHeld.1.lt; omega) hb8⟩) (fun hHeld => ?_)
  simp only [Act.put, List.setIfInBounds_toArray, List.set_cons_zero, List.set_cons_succ]
  refine last_ (i := 8) (N := (some 71)) #[true, true, true, true, true, true, true, true, true, false, false, false] rfl rfl (by kernel_rfl) (by simp) (fun K hK => ?_)
  have hlt8 := hHeld.1.lt
  have hn8 := hHeld.1.n4
  refine ev_append_at (by rfl) rfl (.tmp 67) (.tmp 70) 23 rfl base 41 (.agg (idv noId)) 32 32 und23 info41a (by simp [Value.cells, idc_length, noId_length]) (by decide) a.a4 q.haves.length a.c4 (idsc q.haves) rfl hHeld.1.haves ⟨g8, 0, none⟩ 1 1 (idc (unhexI rest)) rfl (by rw [idc_length, unhexI_length]) ?_ (idc_one _) ?_ ?_ ?_ ?_
  · intro j u hj; rw [Addr.add_mid, Nat.zero_add]; have := hown8.cells (g := g8) rfl j u hj; rwa [Addr.add_mid, Nat.zero_add] at this
  · unfold maxLen; omega
  · omega
  · omega
  intro A9 c9 W9 hown9 hgr9 hat9
  have hg9 := g_app hHeld.1 hgr9 (by decide) hHeld.1.haves
  have hadd := hHeld.1.add_haves (unhexI rest) (unhexI_length _) A9 c9 hown9 hgr9 hat9
  have hb9 : Below base W W9 := hHeld.2.grown hgr9 (by omega) (own_base hHeld.1.haves)
  refine hK _ _ ?_
  simp only [Act.put, List.setIfInBounds_toArray, List.set_cons_zero, List.set_cons_succ]
  refine pure_ (i := 9) (N := (some 72)) (v := ?_) (a' := ?_) #[true, true, true, true, true, true, true, true, true, true, false, false] rfl rfl (by kernel_rfl) (fun _ _ _ h => h) (Or.inl ⟨by rfl, ?_⟩) ?_ ?_
  rotate_left
  · intro w'
    go_simp
    with_reducible rfl
  rotate_left
  · simp only [Act.put, List.setIfInBounds_toArray, List.set_cons_zero, List.set_cons_succ]
    rfl
  refine pure_ (i := 10) (N := (some 73)) (v := ?_) (a' := ?_) #[true, true, true, true, true, true, true, true, true, true, true, false] rfl rfl (by kernel_rfl) (fun _ _ _ h => h) (Or.inl ⟨by rfl, ?_⟩) ?_ ?_
  rotate_left
  · intro w'
    go_simp
    with_reducible rfl
  rotate_left
  · simp only [Act.put, List.setIfInBounds_toArray, List.set_cons_zero, List.set_cons_succ]
    rfl
  refine last_ (i := 11) (N := none) #[true, true, true, true, true, true, true, true, true, true, true, true] rfl rfl (by kernel_rfl) (by simp) (fun K hK => ?_)
  refine ev_storeMid (by rfl) rfl 23 _ _ rfl g 4 (reqc q a).toArray (.slice a.a4 q.haves.length a.c4) (.slice A9 (q.haves.length + 1) c9) 26 rfl rfl rfl rfl hg9 rfl (by kernel_rfl) ?_
  refine hK _ _ ?_
  refine done_ (by kernel_rfl) ?_
  go_wp2
  go_end0
  exact ⟨rfl, by rw [Hq.out]; exact ⟨⟨_, hadd⟩, hb9.setCell hb0 _⟩⟩
set_option maxHeartbeats 2000000 in
theorem read44_common (l : List UInt8) (hl : l.length ≤ 1000000) (m base g : Nat) (q : Req) (a : ReqA) (W : World) (hE : Env W) (hR : ReqAt m base g W q a) (hm : m ≤ 100000) (hw : bef l = wCommon) :
    Calls Tryz.prog 44 #[.pointer (some ⟨g, 0, none⟩), .string (bs l)] W fun e w' => e = .returned (.tuple #[]) ∧ ReadRes m base g W w' (readP q l) := by
  have Hq := Lib.hid (read_common (q := q) hw)
  have HW := Lib.hid hw
  clear hw
  have hb0 := hR.hbg
  have hb00 := hR.lt
  have HE := Lib.hid hE
  have HR := Lib.hid hR
  have l1 := aft_len l
  have l2 := bef_len (aft l)
  have l3 := aft_len (aft l)
  obtain ⟨rest, Hr⟩ : ∃ r, Hid (aft l = r) := ⟨_, Lib.hid rfl⟩
  rw [Hr.out] at l1 l2 l3
  try rw [Hr.out] at Hq
  obtain ⟨x1, Hx1⟩ : ∃ r, Hid (bef rest = r) := ⟨_, Lib.hid rfl⟩
  obtain ⟨x2, Hx2⟩ : ∃ r, Hid (aft rest = r) := ⟨_, Lib.hid rfl⟩
  rw [Hx1.out] at l2
  rw [Hx2.out] at l3
  try rw [Hx1.out] at Hq
  try rw [Hx2.out] at Hq
  clear hE hR
  go_enter Tryz.func44, Tryz.ntmps44
  go_wp2_with fail
  refine (cut72_any l hl W HE.out).mono ?_
  rintro e W1 ⟨⟨t1, rfl⟩, hb1⟩
  rw [HW.out, Hr.out]
  have HE1 := Lib.hid (HE.out.below hb1)
  have HR1 := Lib.hid (HR.out.below hb1)
  go_wp2_with fail
  refine (cut72_any rest (by omega) W1 HE1.out).mono ?_
  rintro e W2 ⟨⟨t2, rfl⟩, hb2⟩
  rw [Hx1.out, Hx2.out]
  have HE2 := Lib.hid (HE1.out.below hb2)
  have HR2 := Lib.hid (HR1.out.below hb2)
  have HB2 : Hid (Below base W W2) := Lib.hid (below_base (below_base (Below.refl _ _) (by omega) hb1) (by have := HR1.out.lt; have := HR1.out.hbg; omega) hb2)
  clear hb1 hb2
  go_wp2_with (first
    | (refine wpList_run rfl (op_str_eqlB _ _ _ _ _ _ _ _ _ _ wCommon [111, 112] false rfl rfl rfl) ?_)
    | (refine wpList_run rfl (op_str_eqlB _ _ _ _ _ _ _ _ _ _ wCommon [99, 97, 112, 115] false rfl rfl rfl) ?_)
    | (refine wpList_run rfl (op_str_eqlB _ _ _ _ _ _ _ _ _ _ wCommon [119, 97, 110, 116] false rfl rfl rfl) ?_)
    | (refine wpList_run rfl (op_str_eqlB _ _ _ _ _ _ _ _ _ _ wCommon [104, 97, 118, 101] false rfl rfl rfl) ?_)
    | (refine wpList_run rfl (op_str_eqlB _ _ _ _ _ _ _ _ _ _ wCommon [99, 111, 109, 109, 111, 110] true rfl rfl rfl) ?_))
  try go_wp2
  refine start_ (n := 12) (S := (fun V => ReqAt m base g V q a ∧ Below base W V)) (ds := [8, 11]) #[false, false, false, false, false, false, false, false, false, false, false, false] (by kernel_rfl) rfl rfl (⟨HR2.out.drew, ⟨HB2.out.os, HB2.out.tape, HB2.out.output, HB2.out.size, HB2.out.block⟩⟩) (fun hHeld => ?_)
  refine pure_ (i := 0) (N := (some 76)) (v := ?_) (a' := ?_) #[true, false, false, false, false, false, false, false, false, false, false, false] rfl rfl (by kernel_rfl) (fun _ _ _ h => h) (Or.inl ⟨by rfl, ?_⟩) ?_ ?_
  rotate_left
  · intro w'
    go_simp
    with_reducible rfl
  rotate_left
  · simp only [Act.put, List.setIfInBounds_toArray, List.set_cons_zero, List.set_cons_succ]
    rfl
  refine pure_ (i := 1) (N := (some 77)) (v := ?_) (a' := ?_) #[true, true, false, false, false, false, false, false, false, false, false, false] rfl rfl (by kernel_rfl) (fun _ _ _ h => h) (Or.inl ⟨by rfl, ?_⟩) ?_ ?_
  rotate_left
  · intro w'
    go_simp
    with_reducible rfl
  rotate_left
  · simp only [Act.put, List.setIfInBounds_toArray, List.set_cons_zero, List.set_cons_succ]
    rfl
  refine pure_ (i := 2) (N := (some 78)) (v := ?_) (a' := ?_) #[true, true, true, false, false, false, false, false, false, false, false, false] rfl rfl (by kernel_rfl) (fun _ _ _ h => h) (Or.inl ⟨by rfl, ?_⟩) ?_ ?_
  rotate_left
  · intro w'
    go_simp
    with_reducible rfl
  rotate_left
  · simp only [Act.put, List.setIfInBounds_toArray, List.set_cons_zero, List.set_cons_succ]
    rfl
  refine pure_ (i := 3) (N := (some 79)) (v := ?_) (a' := ?_) #[true, true, true, true, false, false, false, false, false, false, false, false] rfl rfl (by kernel_rfl) (fun _ _ _ h => h) (Or.inl ⟨by rfl, ?_⟩) ?_ ?_
  rotate_left
  · intro w'
    go_simp
    with_reducible rfl
  rotate_left
  · simp only [Act.put, List.setIfInBounds_toArray, List.set_cons_zero, List.set_cons_succ]
    rfl
  refine take_ (i := 4) (N := (some 80)) (v := ?_) (a' := ?_) #[true, true, true, true, true, false, false, false, false, false, false, false] rfl rfl (by kernel_rfl) (fun _ _ _ h => h) (Or.inl ⟨by rfl, ?_⟩) hHeld ?_ ?_
  rotate_left
  · intro w' hS'
    have h1 := cell_of_row _ g 5 _ 26 (0, 0) hS'.1.hg
    replace h1 := h1.trans (show (reqc q a).toArray[5]? = some (.slice a.a5 q.common.length a.c5) from rfl)
    go_simp
    with_reducible rfl
  rotate_left
  · simp only [Act.put, List.setIfInBounds_toArray, List.set_cons_zero, List.set_cons_succ]
    rfl
  refine pure_ (i := 5) (N := (some 81)) (v := ?_) (a' := ?_) #[true, true, true, true, true, true, false, false, false, false, false, false] rfl rfl (by kernel_rfl) (fun _ _ _ h => h) (Or.inl ⟨by rfl, ?_⟩) ?_ ?_
  rotate_left
  · intro w'
    go_simp
    with_reducible rfl
  rotate_left
  · simp only [Act.put, List.setIfInBounds_toArray, List.set_cons_zero, List.set_cons_succ]
    rfl
  refine one_ (i := 6) (N := (some 82)) #[true, true, true, true, true, true, true, false, false, false, false, false] rfl rfl (by kernel_rfl) (by simp) (fun K hK => ?_)
  refine goes_ Tryz.func75 (by kernel_rfl) rfl #[.string (bs rest)] (by rfl) rfl rfl (by first | rfl | simp [Act.eval]) ?_
  refine (id75_any rest (by omega) _).mono ?_
  rintro e w1 ⟨rfl, hb⟩
  refine ⟨_, rfl, hK _ _ (⟨hHeld.1.below hb, below_base hHeld.2 (by have := hHeld.1.lt; omega) hb⟩) (fun hHeld => ?_)⟩
  simp only [Act.put, List.setIfInBounds_toArray, List.set_cons_zero, List.set_cons_succ]
  refine one_ (i := 7) (N := (some 83)) #[true, true, true, true, true, true, true, true, false, false, false, false] rfl rfl (by kernel_rfl) (by simp) (fun K hK => ?_)
  refine ev_build (by rfl) rfl (idc (unhexI rest)) 41 32 1 (op_new23 _ _ _ _ _ _ _ _ (unhexI rest) (unhexI_length _) rfl) (by rw [idc_length, unhexI_length]) (by decide) ?_
  intro g8 W8 hown8 hb8
  refine hK _ _ (⟨hHeld.1.below hb8, below_base hHeld.2 (by have := hHeld.1.lt; omega) hb8⟩) (fun hHeld => ?_)
  simp only [Act.put, List.setIfInBounds_toArray, List.set_cons_zero, List.set_cons_succ]
  refine last_ (i := 8) (N := (some 84)) #[true, true, true, true, true, true, true, true, true, false, false, false] rfl rfl (by kernel_rfl) (by simp) (fun K hK => ?_)
  have hlt8 := hHeld.1.lt
  have hn8 := hHeld.1.n5
  refine ev_append_at (by rfl) rfl (.tmp 80) (.tmp 83) 23 rfl base 41 (.agg (idv noId)) 32 32 und23 info41a (by simp [Value.cells, idc_length, noId_length]) (by decide) a.a5 q.common.length a.c5 (idsc q.common) rfl hHeld.1.common ⟨g8, 0, none⟩ 1 1 (idc (unhexI rest)) rfl (by rw [idc_length, unhexI_length]) ?_ (idc_one _) ?_ ?_ ?_ ?_
  · intro j u hj; rw [Addr.add_mid, Nat.zero_add]; have := hown8.cells (g := g8) rfl j u hj; rwa [Addr.add_mid, Nat.zero_add] at this
  · unfold maxLen; omega
  · omega
  · omega
  intro A9 c9 W9 hown9 hgr9 hat9
  have hg9 := g_app hHeld.1 hgr9 (by decide) hHeld.1.common
  have hadd := hHeld.1.add_common (unhexI rest) (unhexI_length _) A9 c9 hown9 hgr9 hat9
  have hb9 : Below base W W9 := hHeld.2.grown hgr9 (by omega) (own_base hHeld.1.common)
  refine hK _ _ ?_
  simp only [Act.put, List.setIfInBounds_toArray, List.set_cons_zero, List.set_cons_succ]
  refine pure_ (i := 9) (N := (some 85)) (v := ?_) (a' := ?_) #[true, true, true, true, true, true, true, true, true, true, false, false] rfl rfl (by kernel_rfl) (fun _ _ _ h => h) (Or.inl ⟨by rfl, ?_⟩) ?_ ?_
  rotate_left
  · intro w'
    go_simp
    with_reducible rfl
  rotate_left
  · simp only [Act.put, List.setIfInBounds_toArray, List.set_cons_zero, List.set_cons_succ]
    rfl
  refine pure_ (i := 10) (N := (some 86)) (v := ?_) (a' := ?_) #[true, true, true, true, true, true, true, true, true, true, true, false] rfl rfl (by kernel_rfl) (fun _ _ _ h => h) (Or.inl ⟨by rfl, ?_⟩) ?_ ?_
  rotate_left
  · intro w'
    go_simp
    with_reducible rfl
  rotate_left
  · simp only [Act.put, List.setIfInBounds_toArray, List.set_cons_zero, List.set_cons_succ]
    rfl
  refine last_ (i := 11) (N := none) #[true, true, true, true, true, true, true, true, true, true, true, true] rfl rfl (by kernel_rfl) (by simp) (fun K hK => ?_)
  refine ev_storeMid (by rfl) rfl 23 _ _ rfl g 5 (reqc q a).toArray (.slice a.a5 q.common.length a.c5) (.slice A9 (q.common.length + 1) c9) 26 rfl rfl rfl rfl hg9 rfl (by kernel_rfl) ?_
  refine hK _ _ ?_
  refine done_ (by kernel_rfl) ?_
  go_wp2
  go_end0
  exact ⟨rfl, by rw [Hq.out]; exact ⟨⟨_, hadd⟩, hb9.setCell hb0 _⟩⟩
set_option maxHeartbeats 2000000 in
theorem read44_shallow (l : List UInt8) (hl : l.length ≤ 1000000) (m base g : Nat) (q : Req) (a : ReqA) (W : World) (hE : Env W) (hR : ReqAt m base g W q a) (hm : m ≤ 100000) (hw : bef l = wShallow) :
    Calls Tryz.prog 44 #[.pointer (some ⟨g, 0, none⟩), .string (bs l)] W fun e w' => e = .returned (.tuple #[]) ∧ ReadRes m base g W w' (readP q l) := by
  have Hq := Lib.hid (read_shallow (q := q) hw)
  have HW := Lib.hid hw
  clear hw
  have hb0 := hR.hbg
  have hb00 := hR.lt
  have HE := Lib.hid hE
  have HR := Lib.hid hR
  have l1 := aft_len l
  have l2 := bef_len (aft l)
  have l3 := aft_len (aft l)
  obtain ⟨rest, Hr⟩ : ∃ r, Hid (aft l = r) := ⟨_, Lib.hid rfl⟩
  rw [Hr.out] at l1 l2 l3
  try rw [Hr.out] at Hq
  obtain ⟨x1, Hx1⟩ : ∃ r, Hid (bef rest = r) := ⟨_, Lib.hid rfl⟩
  obtain ⟨x2, Hx2⟩ : ∃ r, Hid (aft rest = r) := ⟨_, Lib.hid rfl⟩
  rw [Hx1.out] at l2
  rw [Hx2.out] at l3
  try rw [Hx1.out] at Hq
  try rw [Hx2.out] at Hq
  clear hE hR
  go_enter Tryz.func44, Tryz.ntmps44
  go_wp2_with fail
  refine (cut72_any l hl W HE.out).mono ?_
  rintro e W1 ⟨⟨t1, rfl⟩, hb1⟩
  rw [HW.out, Hr.out]
  have HE1 := Lib.hid (HE.out.below hb1)
  have HR1 := Lib.hid (HR.out.below hb1)
  go_wp2_with fail
  refine (cut72_any rest (by omega) W1 HE1.out).mono ?_
  rintro e W2 ⟨⟨t2, rfl⟩, hb2⟩
  rw [Hx1.out, Hx2.out]
  have HE2 := Lib.hid (HE1.out.below hb2)
  have HR2 := Lib.hid (HR1.out.below hb2)
  have HB2 : Hid (Below base W W2) := Lib.hid (below_base (below_base (Below.refl _ _) (by omega) hb1) (by have := HR1.out.lt; have := HR1.out.hbg; omega) hb2)
  clear hb1 hb2
  go_wp2_with (first
    | (refine wpList_run rfl (op_str_eqlB _ _ _ _ _ _ _ _ _ _ wShallow [111, 112] false rfl rfl rfl) ?_)
    | (refine wpList_run rfl (op_str_eqlB _ _ _ _ _ _ _ _ _ _ wShallow [99, 97, 112, 115] false rfl rfl rfl) ?_)
    | (refine wpList_run rfl (op_str_eqlB _ _ _ _ _ _ _ _ _ _ wShallow [119, 97, 110, 116] false rfl rfl rfl) ?_)
    | (refine wpList_run rfl (op_str_eqlB _ _ _ _ _ _ _ _ _ _ wShallow [104, 97, 118, 101] false rfl rfl rfl) ?_)
    | (refine wpList_run rfl (op_str_eqlB _ _ _ _ _ _ _ _ _ _ wShallow [99, 111, 109, 109, 111, 110] false rfl rfl rfl) ?_)
    | (refine wpList_run rfl (op_str_eqlB _ _ _ _ _ _ _ _ _ _ wShallow [115, 104, 97, 108, 108, 111, 119] true rfl rfl rfl) ?_))
  try go_wp2
  refine start_ (n := 12) (S := (fun V => ReqAt m base g V q a ∧ Below base W V)) (ds := [8, 11]) #[false, false, false, false, false, false, false, false, false, false, false, false] (by kernel_rfl) rfl rfl (⟨HR2.out.drew, ⟨HB2.out.os, HB2.out.tape, HB2.out.output, HB2.out.size, HB2.out.block⟩⟩) (fun hHeld => ?_)
  refine pure_ (i := 0) (N := (some 89)) (v := ?_) (a' := ?_) #[true, false, false, false, false, false, false, false, false, false, false, false] rfl rfl (by kernel_rfl) (fun _ _ _ h => h) (Or.inl ⟨by rfl, ?_⟩) ?_ ?_
  rotate_left
  · intro w'
    go_simp
    with_reducible rfl
  rotate_left
  · simp only [Act.put, List.setIfInBounds_toArray, List.set_cons_zero, List.set_cons_succ]
    rfl
  refine pure_ (i := 1) (N := (some 90)) (v := ?_) (a' := ?_) #[true, true, false, false, false, false, false, false, false, false, false, false] rfl rfl (by kernel_rfl) (fun _ _ _ h => h) (Or.inl ⟨by rfl, ?_⟩) ?_ ?_
  rotate_left
  · intro w'
    go_simp
    with_reducible rfl
  rotate_left
  · simp only [Act.put, List.setIfInBounds_toArray, List.set_cons_zero, List.set_cons_succ]
    rfl
  refine pure_ (i := 2) (N := (some 91)) (v := ?_) (a' := ?_) #[true, true, true, false, false, false, false, false, false, false, false, false] rfl rfl (by kernel_rfl) (fun _ _ _ h => h) (Or.inl ⟨by rfl, ?_⟩) ?_ ?_
  rotate_left
  · intro w'
    go_simp
    with_reducible rfl
  rotate_left
  · simp only [Act.put, List.setIfInBounds_toArray, List.set_cons_zero, List.set_cons_succ]
    rfl
  refine pure_ (i := 3) (N := (some 92)) (v := ?_) (a' := ?_) #[true, true, true, true, false, false, false, false, false, false, false, false] rfl rfl (by kernel_rfl) (fun _ _ _ h => h) (Or.inl ⟨by rfl, ?_⟩) ?_ ?_
  rotate_left
  · intro w'
    go_simp
    with_reducible rfl
  rotate_left
  · simp only [Act.put, List.setIfInBounds_toArray, List.set_cons_zero, List.set_cons_succ]
    rfl
  refine take_ (i := 4) (N := (some 93)) (v := ?_) (a' := ?_) #[true, true, true, true, true, false, false, false, false, false, false, false] rfl rfl (by kernel_rfl) (fun _ _ _ h => h) (Or.inl ⟨by rfl, ?_⟩) hHeld ?_ ?_
  rotate_left
  · intro w' hS'
    have h1 := cell_of_row _ g 6 _ 26 (0, 0) hS'.1.hg
    replace h1 := h1.trans (show (reqc q a).toArray[6]? = some (.slice a.a6 q.shallow.length a.c6) from rfl)
    go_simp
    with_reducible rfl
  rotate_left
  · simp only [Act.put, List.setIfInBounds_toArray, List.set_cons_zero, List.set_cons_succ]
    rfl
  refine pure_ (i := 5) (N := (some 94)) (v := ?_) (a' := ?_) #[true, true, true, true, true, true, false, false, false, false, false, false] rfl rfl (by kernel_rfl) (fun _ _ _ h => h) (Or.inl ⟨by rfl, ?_⟩) ?_ ?_
  rotate_left
  · intro w'
    go_simp
    with_reducible rfl
  rotate_left
  · simp only [Act.put, List.setIfInBounds_toArray, List.set_cons_zero, List.set_cons_succ]
    rfl
  refine one_ (i := 6) (N := (some 95)) #[true, true, true, true, true, true, true, false, false, false, false, false] rfl rfl (by kernel_rfl) (by simp) (fun K hK => ?_)
  refine goes_ Tryz.func75 (by kernel_rfl) rfl #[.string (bs rest)] (by rfl) rfl rfl (by first | rfl | simp [Act.eval]) ?_
  refine (id75_any rest (by omega) _).mono ?_
  rintro e w1 ⟨rfl, hb⟩
  refine ⟨_, rfl, hK _ _ (⟨hHeld.1.below hb, below_base hHeld.2 (by have := hHeld.1.lt; omega) hb⟩) (fun hHeld => ?_)⟩
  simp only [Act.put, List.setIfInBounds_toArray, List.set_cons_zero, List.set_cons_succ]
  refine one_ (i := 7) (N := (some 96)) #[true, true, true, true, true, true, true, true, false, false, false, false] rfl rfl (by kernel_rfl) (by simp) (fun K hK => ?_)
  refine ev_build (by rfl) rfl (idc (unhexI rest)) 41 32 1 (op_new23 _ _ _ _ _ _ _ _ (unhexI rest) (unhexI_length _) rfl) (by rw [idc_length, unhexI_length]) (by decide) ?_
  intro g8 W8 hown8 hb8
  refine hK _ _ (⟨hHeld.1.below hb8, below_base hHeld.2 (by have := hHeld.1.lt; omega) hb8⟩) (fun hHeld => ?_)
  simp only [Act.put, List.setIfInBounds_toArray, List.set_cons_zero, List.set_cons_succ]
  refine last_ (i := 8) (N := (some 97)) #[true, true, true, true, true, true, true, true, true, false, false, false] rfl rfl (by kernel_rfl) (by simp) (fun K hK => ?_)
  have hlt8 := hHeld.1.lt
  have hn8 := hHeld.1.n6
  refine ev_append_at (by rfl) rfl (.tmp 93) (.tmp 96) 23 rfl base 41 (.agg (idv noId)) 32 32 und23 info41a (by simp [Value.cells, idc_length, noId_length]) (by decide) a.a6 q.shallow.length a.c6 (idsc q.shallow) rfl hHeld.1.shallow ⟨g8, 0, none⟩ 1 1 (idc (unhexI rest)) rfl (by rw [idc_length, unhexI_length]) ?_ (idc_one _) ?_ ?_ ?_ ?_
  · intro j u hj; rw [Addr.add_mid, Nat.zero_add]; have := hown8.cells (g := g8) rfl j u hj; rwa [Addr.add_mid, Nat.zero_add] at this
  · unfold maxLen; omega
  · omega
  · omega
  intro A9 c9 W9 hown9 hgr9 hat9
  have hg9 := g_app hHeld.1 hgr9 (by decide) hHeld.1.shallow
  have hadd := hHeld.1.add_shallow (unhexI rest) (unhexI_length _) A9 c9 hown9 hgr9 hat9
  have hb9 : Below base W W9 := hHeld.2.grown hgr9 (by omega) (own_base hHeld.1.shallow)
  refine hK _ _ ?_
  simp only [Act.put, List.setIfInBounds_toArray, List.set_cons_zero, List.set_cons_succ]
  refine pure_ (i := 9) (N := (some 98)) (v := ?_) (a' := ?_) #[true, true, true, true, true, true, true, true, true, true, false, false] rfl rfl (by kernel_rfl) (fun _ _ _ h => h) (Or.inl ⟨by rfl, ?_⟩) ?_ ?_
  rotate_left
  · intro w'
    go_simp
    with_reducible rfl
  rotate_left
  · simp only [Act.put, List.setIfInBounds_toArray, List.set_cons_zero, List.set_cons_succ]
    rfl
  refine pure_ (i := 10) (N := (some 99)) (v := ?_) (a' := ?_) #[true, true, true, true, true, true, true, true, true, true, true, false] rfl rfl (by kernel_rfl) (fun _ _ _ h => h) (Or.inl ⟨by rfl, ?_⟩) ?_ ?_
  rotate_left
  · intro w'
    go_simp
    with_reducible rfl
  rotate_left
  · simp only [Act.put, List.setIfInBounds_toArray, List.set_cons_zero, List.set_cons_succ]
    rfl
  refine last_ (i := 11) (N := none) #[true, true, true, true, true, true, true, true, true, true, true, true] rfl rfl (by kernel_rfl) (by simp) (fun K hK => ?_)
  refine ev_storeMid (by rfl) rfl 23 _ _ rfl g 6 (reqc q a).toArray (.slice a.a6 q.shallow.length a.c6) (.slice A9 (q.shallow.length + 1) c9) 26 rfl rfl rfl rfl hg9 rfl (by kernel_rfl) ?_
  refine hK _ _ ?_
  refine done_ (by kernel_rfl) ?_
  go_wp2
  go_end0
  exact ⟨rfl, by rw [Hq.out]; exact ⟨⟨_, hadd⟩, hb9.setCell hb0 _⟩⟩
set_option maxHeartbeats 2000000 in
theorem read44_depth (l : List UInt8) (hl : l.length ≤ 1000000) (m base g : Nat) (q : Req) (a : ReqA) (W : World) (hE : Env W) (hR : ReqAt m base g W q a) (hm : m ≤ 100000) (hw : bef l = wDepth) :
    Calls Tryz.prog 44 #[.pointer (some ⟨g, 0, none⟩), .string (bs l)] W fun e w' => e = .returned (.tuple #[]) ∧ ReadRes m base g W w' (readP q l) := by
  have Hq := Lib.hid (read_depth (q := q) hw)
  have HW := Lib.hid hw
  clear hw
  have hb0 := hR.hbg
  have hb00 := hR.lt
  have HE := Lib.hid hE
  have HR := Lib.hid hR
  have l1 := aft_len l
  have l2 := bef_len (aft l)
  have l3 := aft_len (aft l)
  obtain ⟨rest, Hr⟩ : ∃ r, Hid (aft l = r) := ⟨_, Lib.hid rfl⟩
  rw [Hr.out] at l1 l2 l3
  try rw [Hr.out] at Hq
  obtain ⟨x1, Hx1⟩ : ∃ r, Hid (bef rest = r) := ⟨_, Lib.hid rfl⟩
  obtain ⟨x2, Hx2⟩ : ∃ r, Hid (aft rest = r) := ⟨_, Lib.hid rfl⟩
  rw [Hx1.out] at l2
  rw [Hx2.out] at l3
  try rw [Hx1.out] at Hq
  try rw [Hx2.out] at Hq
  clear hE hR
  go_enter Tryz.func44, Tryz.ntmps44
  go_wp2_with fail
  refine (cut72_any l hl W HE.out).mono ?_
  rintro e W1 ⟨⟨t1, rfl⟩, hb1⟩
  rw [HW.out, Hr.out]
  have HE1 := Lib.hid (HE.out.below hb1)
  have HR1 := Lib.hid (HR.out.below hb1)
  go_wp2_with fail
  refine (cut72_any rest (by omega) W1 HE1.out).mono ?_
  rintro e W2 ⟨⟨t2, rfl⟩, hb2⟩
  rw [Hx1.out, Hx2.out]
  have HE2 := Lib.hid (HE1.out.below hb2)
  have HR2 := Lib.hid (HR1.out.below hb2)
  have HB2 : Hid (Below base W W2) := Lib.hid (below_base (below_base (Below.refl _ _) (by omega) hb1) (by have := HR1.out.lt; have := HR1.out.hbg; omega) hb2)
  clear hb1 hb2
  go_wp2_with (first
    | (refine wpList_run rfl (op_str_eqlB _ _ _ _ _ _ _ _ _ _ wDepth [111, 112] false rfl rfl rfl) ?_)
    | (refine wpList_run rfl (op_str_eqlB _ _ _ _ _ _ _ _ _ _ wDepth [99, 97, 112, 115] false rfl rfl rfl) ?_)
    | (refine wpList_run rfl (op_str_eqlB _ _ _ _ _ _ _ _ _ _ wDepth [119, 97, 110, 116] false rfl rfl rfl) ?_)
    | (refine wpList_run rfl (op_str_eqlB _ _ _ _ _ _ _ _ _ _ wDepth [104, 97, 118, 101] false rfl rfl rfl) ?_)
    | (refine wpList_run rfl (op_str_eqlB _ _ _ _ _ _ _ _ _ _ wDepth [99, 111, 109, 109, 111, 110] false rfl rfl rfl) ?_)
    | (refine wpList_run rfl (op_str_eqlB _ _ _ _ _ _ _ _ _ _ wDepth [115, 104, 97, 108, 108, 111, 119] false rfl rfl rfl) ?_)
    | (refine wpList_run rfl (op_str_eqlB _ _ _ _ _ _ _ _ _ _ wDepth [100, 101, 112, 116, 104] true rfl rfl rfl) ?_))
  refine (figure73_any rest (by omega) W2 HE2.out).mono ?_
  rintro e W3 ⟨rfl, hb3⟩
  have HR3 := Lib.hid (HR2.out.below hb3)
  have HR4 := Lib.hid (HR3.out.set_depth (figI rest))
  have HG3 := Lib.hid HR3.out.hg
  have HB3 : Hid (Below base W W3) := Lib.hid (below_base HB2.out (by have := HR2.out.lt; have := HR2.out.hbg; omega) hb3)
  clear hb3
  go_wp2_with (first
    | (refine wpList_storeMid rfl 3 _ _ rfl g 7 (reqc q a).toArray (.int .i64 q.depth) (.int .i64 (figI rest)) 26 rfl rfl rfl rfl HG3.out rfl (by kernel_rfl) ?_))
  go_end0
  exact ⟨rfl, by rw [Hq.out]; exact ⟨⟨a, HR4.out.mono (by omega)⟩, HB3.out.setCell hb0 _⟩⟩
set_option maxHeartbeats 2000000 in
theorem read44_at (l : List UInt8) (hl : l.length ≤ 1000000) (m base g : Nat) (q : Req) (a : ReqA) (W : World) (hE : Env W) (hR : ReqAt m base g W q a) (hm : m ≤ 100000) (hw : bef l = wAt) :
    Calls Tryz.prog 44 #[.pointer (some ⟨g, 0, none⟩), .string (bs l)] W fun e w' => e = .returned (.tuple #[]) ∧ ReadRes m base g W w' (readP q l) := by
  have Hq := Lib.hid (read_at (q := q) hw)
  have HW := Lib.hid hw
  clear hw
  have hb0 := hR.hbg
  have hb00 := hR.lt
  have HE := Lib.hid hE
  have HR := Lib.hid hR
  have l1 := aft_len l
  have l2 := bef_len (aft l)
  have l3 := aft_len (aft l)
  obtain ⟨rest, Hr⟩ : ∃ r, Hid (aft l = r) := ⟨_, Lib.hid rfl⟩
  rw [Hr.out] at l1 l2 l3
  try rw [Hr.out] at Hq
  obtain ⟨x1, Hx1⟩ : ∃ r, Hid (bef rest = r) := ⟨_, Lib.hid rfl⟩
  obtain ⟨x2, Hx2⟩ : ∃ r, Hid (aft rest = r) := ⟨_, Lib.hid rfl⟩
  rw [Hx1.out] at l2
  rw [Hx2.out] at l3
  try rw [Hx1.out] at Hq
  try rw [Hx2.out] at Hq
  clear hE hR
  go_enter Tryz.func44, Tryz.ntmps44
  go_wp2_with fail
  refine (cut72_any l hl W HE.out).mono ?_
  rintro e W1 ⟨⟨t1, rfl⟩, hb1⟩
  rw [HW.out, Hr.out]
  have HE1 := Lib.hid (HE.out.below hb1)
  have HR1 := Lib.hid (HR.out.below hb1)
  go_wp2_with fail
  refine (cut72_any rest (by omega) W1 HE1.out).mono ?_
  rintro e W2 ⟨⟨t2, rfl⟩, hb2⟩
  rw [Hx1.out, Hx2.out]
  have HE2 := Lib.hid (HE1.out.below hb2)
  have HR2 := Lib.hid (HR1.out.below hb2)
  have HB2 : Hid (Below base W W2) := Lib.hid (below_base (below_base (Below.refl _ _) (by omega) hb1) (by have := HR1.out.lt; have := HR1.out.hbg; omega) hb2)
  clear hb1 hb2
  go_wp2_with (first
    | (refine wpList_run rfl (op_str_eqlB _ _ _ _ _ _ _ _ _ _ wAt [111, 112] false rfl rfl rfl) ?_)
    | (refine wpList_run rfl (op_str_eqlB _ _ _ _ _ _ _ _ _ _ wAt [99, 97, 112, 115] false rfl rfl rfl) ?_)
    | (refine wpList_run rfl (op_str_eqlB _ _ _ _ _ _ _ _ _ _ wAt [119, 97, 110, 116] false rfl rfl rfl) ?_)
    | (refine wpList_run rfl (op_str_eqlB _ _ _ _ _ _ _ _ _ _ wAt [104, 97, 118, 101] false rfl rfl rfl) ?_)
    | (refine wpList_run rfl (op_str_eqlB _ _ _ _ _ _ _ _ _ _ wAt [99, 111, 109, 109, 111, 110] false rfl rfl rfl) ?_)
    | (refine wpList_run rfl (op_str_eqlB _ _ _ _ _ _ _ _ _ _ wAt [115, 104, 97, 108, 108, 111, 119] false rfl rfl rfl) ?_)
    | (refine wpList_run rfl (op_str_eqlB _ _ _ _ _ _ _ _ _ _ wAt [100, 101, 112, 116, 104] false rfl rfl rfl) ?_)
    | (refine wpList_run rfl (op_str_eqlB _ _ _ _ _ _ _ _ _ _ wAt [97, 116] true rfl rfl rfl) ?_))
  refine (figure73_any rest (by omega) W2 HE2.out).mono ?_
  rintro e W3 ⟨rfl, hb3⟩
  have HR3 := Lib.hid (HR2.out.below hb3)
  have HR4 := Lib.hid (HR3.out.set_place (figI rest))
  have HG3 := Lib.hid HR3.out.hg
  have HB3 : Hid (Below base W W3) := Lib.hid (below_base HB2.out (by have := HR2.out.lt; have := HR2.out.hbg; omega) hb3)
  clear hb3
  go_wp2_with (first
    | (refine wpList_storeMid rfl 3 _ _ rfl g 8 (reqc q a).toArray (.int .i64 q.place) (.int .i64 (figI rest)) 26 rfl rfl rfl rfl HG3.out rfl (by kernel_rfl) ?_))
  go_end0
  exact ⟨rfl, by rw [Hq.out]; exact ⟨⟨a, HR4.out.mono (by omega)⟩, HB3.out.setCell hb0 _⟩⟩
set_option maxHeartbeats 2000000 in
theorem read44_update (l : List UInt8) (hl : l.length ≤ 1000000) (m base g : Nat) (q : Req) (a : ReqA) (W : World) (hE : Env W) (hR : ReqAt m base g W q a) (hm : m ≤ 100000) (hw : bef l = wUpdate) :
    Calls Tryz.prog 44 #[.pointer (some ⟨g, 0, none⟩), .string (bs l)] W fun e w' => e = .returned (.tuple #[]) ∧ ReadRes m base g W w' (readP q l) := by
  have Hq := Lib.hid (read_update (q := q) hw)
  have HW := Lib.hid hw
  clear hw
  have hb0 := hR.hbg
  have hb00 := hR.lt
  have HE := Lib.hid hE
  have HR := Lib.hid hR
  have l1 := aft_len l
  have l2 := bef_len (aft l)
  have l3 := aft_len (aft l)
  obtain ⟨rest, Hr⟩ : ∃ r, Hid (aft l = r) := ⟨_, Lib.hid rfl⟩
  rw [Hr.out] at l1 l2 l3
  try rw [Hr.out] at Hq
  obtain ⟨x1, Hx1⟩ : ∃ r, Hid (bef rest = r) := ⟨_, Lib.hid rfl⟩
  obtain ⟨x2, Hx2⟩ : ∃ r, Hid (aft rest = r) := ⟨_, Lib.hid rfl⟩
  rw [Hx1.out] at l2
  rw [Hx2.out] at l3
  try rw [Hx1.out] at Hq
  try rw [Hx2.out] at Hq
  clear hE hR
  go_enter Tryz.func44, Tryz.ntmps44
  go_wp2_with fail
  refine (cut72_any l hl W HE.out).mono ?_
  rintro e W1 ⟨⟨t1, rfl⟩, hb1⟩
  rw [HW.out, Hr.out]
  have HE1 := Lib.hid (HE.out.below hb1)
  have HR1 := Lib.hid (HR.out.below hb1)
  go_wp2_with fail
  refine (cut72_any rest (by omega) W1 HE1.out).mono ?_
  rintro e W2 ⟨⟨t2, rfl⟩, hb2⟩
  rw [Hx1.out, Hx2.out]
  have HE2 := Lib.hid (HE1.out.below hb2)
  have HR2 := Lib.hid (HR1.out.below hb2)
  have HB2 : Hid (Below base W W2) := Lib.hid (below_base (below_base (Below.refl _ _) (by omega) hb1) (by have := HR1.out.lt; have := HR1.out.hbg; omega) hb2)
  clear hb1 hb2
  go_wp2_with (first
    | (refine wpList_run rfl (op_str_eqlB _ _ _ _ _ _ _ _ _ _ wUpdate [111, 112] false rfl rfl rfl) ?_)
    | (refine wpList_run rfl (op_str_eqlB _ _ _ _ _ _ _ _ _ _ wUpdate [99, 97, 112, 115] false rfl rfl rfl) ?_)
    | (refine wpList_run rfl (op_str_eqlB _ _ _ _ _ _ _ _ _ _ wUpdate [119, 97, 110, 116] false rfl rfl rfl) ?_)
    | (refine wpList_run rfl (op_str_eqlB _ _ _ _ _ _ _ _ _ _ wUpdate [104, 97, 118, 101] false rfl rfl rfl) ?_)
    | (refine wpList_run rfl (op_str_eqlB _ _ _ _ _ _ _ _ _ _ wUpdate [99, 111, 109, 109, 111, 110] false rfl rfl rfl) ?_)
    | (refine wpList_run rfl (op_str_eqlB _ _ _ _ _ _ _ _ _ _ wUpdate [115, 104, 97, 108, 108, 111, 119] false rfl rfl rfl) ?_)
    | (refine wpList_run rfl (op_str_eqlB _ _ _ _ _ _ _ _ _ _ wUpdate [100, 101, 112, 116, 104] false rfl rfl rfl) ?_)
    | (refine wpList_run rfl (op_str_eqlB _ _ _ _ _ _ _ _ _ _ wUpdate [97, 116] false rfl rfl rfl) ?_)
    | (refine wpList_run rfl (op_str_eqlB _ _ _ _ _ _ _ _ _ _ wUpdate [117, 112, 100, 97, 116, 101] true rfl rfl rfl) ?_))
  have l4 := bef_len x2
  have l5 := aft_len x2
  obtain ⟨y1, Hy1⟩ : ∃ r, Hid (bef x2 = r) := ⟨_, Lib.hid rfl⟩
  obtain ⟨y2, Hy2⟩ : ∃ r, Hid (aft x2 = r) := ⟨_, Lib.hid rfl⟩
  rw [Hy1.out] at l4 Hq
  rw [Hy2.out] at l5 Hq
  refine (cut72_any x2 (by omega) W2 HE2.out).mono ?_
  rintro e W3 ⟨⟨t3, rfl⟩, hb3⟩
  rw [Hy1.out, Hy2.out]
  have HE3 := Lib.hid (HE2.out.below hb3)
  have HR3 := Lib.hid (HR2.out.below hb3)
  have HB3 : Hid (Below base W W3) := Lib.hid (below_base HB2.out (by have := HR2.out.lt; have := HR2.out.hbg; omega) hb3)
  clear hb3
  have huok : (⟨y2, unhexI x1, unhexI y1⟩ : Upd).ok := ⟨unhexI_length _, unhexI_length _, by simp only; omega⟩
  have HUok := Lib.hid huok
  clear huok
  try go_wp2
  refine start_ (n := 16) (S := (fun V => ReqAt m base g V q a ∧ Below base W V)) (ds := [12, 15]) #[false, false, false, false, false, false, false, false, false, false, false, false, false, false, false, false] (by kernel_rfl) rfl rfl (⟨HR3.out.drew, ⟨HB3.out.os, HB3.out.tape, HB3.out.output, HB3.out.size, HB3.out.block⟩⟩) (fun hHeld => ?_)
  refine pure_ (i := 0) (N := (some 122)) (v := ?_) (a' := ?_) #[true, false, false, false, false, false, false, false, false, false, false, false, false, false, false, false] rfl rfl (by kernel_rfl) (fun _ _ _ h => h) (Or.inl ⟨by rfl, ?_⟩) ?_ ?_
  rotate_left
  · intro w'
    go_simp
    with_reducible rfl
  rotate_left
  · simp only [Act.put, List.setIfInBounds_toArray, List.set_cons_zero, List.set_cons_succ]
    rfl
  refine pure_ (i := 1) (N := (some 123)) (v := ?_) (a' := ?_) #[true, true, false, false, false, false, false, false, false, false, false, false, false, false, false, false] rfl rfl (by kernel_rfl) (fun _ _ _ h => h) (Or.inl ⟨by rfl, ?_⟩) ?_ ?_
  rotate_left
  · intro w'
    go_simp
    with_reducible rfl
  rotate_left
  · simp only [Act.put, List.setIfInBounds_toArray, List.set_cons_zero, List.set_cons_succ]
    rfl
  refine pure_ (i := 2) (N := (some 124)) (v := ?_) (a' := ?_) #[true, true, true, false, false, false, false, false, false, false, false, false, false, false, false, false] rfl rfl (by kernel_rfl) (fun _ _ _ h => h) (Or.inl ⟨by rfl, ?_⟩) ?_ ?_
  rotate_left
  · intro w'
    go_simp
    with_reducible rfl
  rotate_left
  · simp only [Act.put, List.setIfInBounds_toArray, List.set_cons_zero, List.set_cons_succ]
    rfl
  refine pure_ (i := 3) (N := (some 125)) (v := ?_) (a' := ?_) #[true, true, true, true, false, false, false, false, false, false, false, false, false, false, false, false] rfl rfl (by kernel_rfl) (fun _ _ _ h => h) (Or.inl ⟨by rfl, ?_⟩) ?_ ?_
  rotate_left
  · intro w'
    go_simp
    with_reducible rfl
  rotate_left
  · simp only [Act.put, List.setIfInBounds_toArray, List.set_cons_zero, List.set_cons_succ]
    rfl
  refine take_ (i := 4) (N := (some 126)) (v := ?_) (a' := ?_) #[true, true, true, true, true, false, false, false, false, false, false, false, false, false, false, false] rfl rfl (by kernel_rfl) (fun _ _ _ h => h) (Or.inl ⟨by rfl, ?_⟩) hHeld ?_ ?_
  rotate_left
  · intro w' hS'
    have h1 := cell_of_row _ g 9 _ 26 (0, 0) hS'.1.hg
    replace h1 := h1.trans (show (reqc q a).toArray[9]? = some (.slice a.a9 q.updates.length a.c9) from rfl)
    go_simp
    with_reducible rfl
  rotate_left
  · simp only [Act.put, List.setIfInBounds_toArray, List.set_cons_zero, List.set_cons_succ]
    rfl
  refine pure_ (i := 5) (N := (some 127)) (v := ?_) (a' := ?_) #[true, true, true, true, true, true, false, false, false, false, false, false, false, false, false, false] rfl rfl (by kernel_rfl) (fun _ _ _ h => h) (Or.inl ⟨by rfl, ?_⟩) ?_ ?_
  rotate_left
  · intro w'
    go_simp
    with_reducible rfl
  rotate_left
  · simp only [Act.put, List.setIfInBounds_toArray, List.set_cons_zero, List.set_cons_succ]
    rfl
  refine pure_ (i := 6) (N := (some 128)) (v := ?_) (a' := ?_) #[true, true, true, true, true, true, true, false, false, false, false, false, false, false, false, false] rfl rfl (by kernel_rfl) (fun _ _ _ h => h) (Or.inl ⟨by rfl, ?_⟩) ?_ ?_
  rotate_left
  · intro w'
    go_simp
    with_reducible rfl
  rotate_left
  · simp only [Act.put, List.setIfInBounds_toArray, List.set_cons_zero, List.set_cons_succ]
    rfl
  refine pure_ (i := 8) (N := (some 130)) (v := ?_) (a' := ?_) #[true, true, true, true, true, true, true, false, true, false, false, false, false, false, false, false] rfl rfl (by kernel_rfl) (fun _ _ _ h => h) (Or.inl ⟨by rfl, ?_⟩) ?_ ?_
  rotate_left
  · intro w'
    go_simp
    with_reducible rfl
  rotate_left
  · simp only [Act.put, List.setIfInBounds_toArray, List.set_cons_zero, List.set_cons_succ]
    rfl
  refine one_ (i := 7) (N := (some 129)) #[true, true, true, true, true, true, true, true, true, false, false, false, false, false, false, false] rfl rfl (by kernel_rfl) (by simp) (fun K hK => ?_)
  refine goes_ Tryz.func75 (by kernel_rfl) rfl #[.string (bs x1)] (by rfl) rfl rfl (by first | rfl | simp [Act.eval]) ?_
  refine (id75_any x1 (by omega) _).mono ?_
  rintro e w1 ⟨rfl, hb⟩
  refine ⟨_, rfl, hK _ _ (⟨hHeld.1.below hb, below_base hHeld.2 (by have := hHeld.1.lt; omega) hb⟩) (fun hHeld => ?_)⟩
  simp only [Act.put, List.setIfInBounds_toArray, List.set_cons_zero, List.set_cons_succ]
  refine one_ (i := 9) (N := (some 131)) #[true, true, true, true, true, true, true, true, true, true, false, false, false, false, false, false] rfl rfl (by kernel_rfl) (by simp) (fun K hK => ?_)
  refine goes_ Tryz.func75 (by kernel_rfl) rfl #[.string (bs y1)] (by rfl) rfl rfl (by first | rfl | simp [Act.eval]) ?_
  refine (id75_any y1 (by omega) _).mono ?_
  rintro e w1 ⟨rfl, hb⟩
  refine ⟨_, rfl, hK _ _ (⟨hHeld.1.below hb, below_base hHeld.2 (by have := hHeld.1.lt; omega) hb⟩) (fun hHeld => ?_)⟩
  simp only [Act.put, List.setIfInBounds_toArray, List.set_cons_zero, List.set_cons_succ]
  refine pure_ (i := 10) (N := (some 132)) (v := ?_) (a' := ?_) #[true, true, true, true, true, true, true, true, true, true, true, false, false, false, false, false] rfl rfl (by kernel_rfl) (fun _ _ _ h => h) (Or.inl ⟨by rfl, ?_⟩) ?_ ?_
  rotate_left
  · intro w'
    refine op_build60 _ _ _ _ _ _ _ _ _ _ y2 (unhexI x1) (unhexI y1) (unhexI_length _) (unhexI_length _) ?_ ?_ ?_
    rfl
    rfl
    rfl
  rotate_left
  · simp only [Act.put, List.setIfInBounds_toArray, List.set_cons_zero, List.set_cons_succ]
    rfl
  refine one_ (i := 11) (N := (some 133)) #[true, true, true, true, true, true, true, true, true, true, true, true, false, false, false, false] rfl rfl (by kernel_rfl) (by simp) (fun K hK => ?_)
  refine ev_build (by rfl) rfl (updc ⟨y2, unhexI x1, unhexI y1⟩) 60 65 1 (op_new24 _ _ _ _ _ _ _ _ ⟨y2, unhexI x1, unhexI y1⟩ HUok.out rfl) (by rw [updc_length _ HUok.out]) (by decide) ?_
  intro g8 W8 hown8 hb8
  refine hK _ _ (⟨hHeld.1.below hb8, below_base hHeld.2 (by have := hHeld.1.lt; omega) hb8⟩) (fun hHeld => ?_)
  simp only [Act.put, List.setIfInBounds_toArray, List.set_cons_zero, List.set_cons_succ]
  refine last_ (i := 12) (N := (some 134)) #[true, true, true, true, true, true, true, true, true, true, true, true, true, false, false, false] rfl rfl (by kernel_rfl) (by simp) (fun K hK => ?_)
  have hlt8 := hHeld.1.lt
  have hn8 := hHeld.1.n9
  refine ev_append_at (by rfl) rfl (.tmp 126) (.tmp 133) 24 rfl base 60 (.agg (updc ⟨[], noId, noId⟩).toArray) 65 80 und24 info60a (by rfl) (by decide) a.a9 q.updates.length a.c9 (updsc q.updates) rfl hHeld.1.updates ⟨g8, 0, none⟩ 1 1 (updc ⟨y2, unhexI x1, unhexI y1⟩) rfl (by rw [updc_length _ HUok.out]) ?_ (upd_ones _) ?_ ?_ ?_ ?_
  · intro j u hj; rw [Addr.add_mid, Nat.zero_add]; have := hown8.cells (g := g8) rfl j u hj; rwa [Addr.add_mid, Nat.zero_add] at this
  · unfold maxLen; omega
  · omega
  · omega
  intro A9 c9 W9 hown9 hgr9 hat9
  have hg9 := g_app hHeld.1 hgr9 (by decide) hHeld.1.updates
  have hadd := hHeld.1.add_updates ⟨y2, unhexI x1, unhexI y1⟩ HUok.out A9 c9 hown9 hgr9 hat9
  have hb9 : Below base W W9 := hHeld.2.grown hgr9 (by omega) (own_base hHeld.1.updates)
  refine hK _ _ ?_
  simp only [Act.put, List.setIfInBounds_toArray, List.set_cons_zero, List.set_cons_succ]
  refine pure_ (i := 13) (N := (some 135)) (v := ?_) (a' := ?_) #[true, true, true, true, true, true, true, true, true, true, true, true, true, true, false, false] rfl rfl (by kernel_rfl) (fun _ _ _ h => h) (Or.inl ⟨by rfl, ?_⟩) ?_ ?_
  rotate_left
  · intro w'
    go_simp
    with_reducible rfl
  rotate_left
  · simp only [Act.put, List.setIfInBounds_toArray, List.set_cons_zero, List.set_cons_succ]
    rfl
  refine pure_ (i := 14) (N := (some 136)) (v := ?_) (a' := ?_) #[true, true, true, true, true, true, true, true, true, true, true, true, true, true, true, false] rfl rfl (by kernel_rfl) (fun _ _ _ h => h) (Or.inl ⟨by rfl, ?_⟩) ?_ ?_
  rotate_left
  · intro w'
    go_simp
    with_reducible rfl
  rotate_left
  · simp only [Act.put, List.setIfInBounds_toArray, List.set_cons_zero, List.set_cons_succ]
    rfl
  refine last_ (i := 15) (N := none) #[true, true, true, true, true, true, true, true, true, true, true, true, true, true, true, true] rfl rfl (by kernel_rfl) (by simp) (fun K hK => ?_)
  refine ev_storeMid (by rfl) rfl 24 _ _ rfl g 9 (reqc q a).toArray (.slice a.a9 q.updates.length a.c9) (.slice A9 (q.updates.length + 1) c9) 26 rfl rfl rfl rfl hg9 rfl (by kernel_rfl) ?_
  refine hK _ _ ?_
  refine done_ (by kernel_rfl) ?_
  go_wp2
  go_end0
  exact ⟨rfl, by rw [Hq.out]; exact ⟨⟨_, hadd⟩, hb9.setCell hb0 _⟩⟩
set_option maxHeartbeats 2000000 in
theorem read44_other (l : List UInt8) (hl : l.length ≤ 1000000) (m base g : Nat) (q : Req) (a : ReqA) (W : World) (hE : Env W) (hR : ReqAt m base g W q a) (hm : m ≤ 100000) (w0 : bef l ≠ wOp) (w1 : bef l ≠ wCaps) (w2 : bef l ≠ wWant) (w3 : bef l ≠ wHave) (w4 : bef l ≠ wCommon) (w5 : bef l ≠ wShallow) (w6 : bef l ≠ wDepth) (w7 : bef l ≠ wAt) (w8 : bef l ≠ wUpdate) :
    Calls Tryz.prog 44 #[.pointer (some ⟨g, 0, none⟩), .string (bs l)] W fun e w' => e = .returned (.tuple #[]) ∧ ReadRes m base g W w' (readP q l) := by
  have Hq := Lib.hid (read_other (q := q) w0 w1 w2 w3 w4 w5 w6 w7 w8)
  obtain ⟨wd, HW⟩ : ∃ x, Hid (bef l = x) := ⟨_, Lib.hid rfl⟩
  rw [HW.out] at w0 w1 w2 w3 w4 w5 w6 w7 w8
  have h0 : Hid ((wd == wOp) = false) := Lib.hid (by simpa using w0)
  have h1 : Hid ((wd == wCaps) = false) := Lib.hid (by simpa using w1)
  have h2 : Hid ((wd == wWant) = false) := Lib.hid (by simpa using w2)
  have h3 : Hid ((wd == wHave) = false) := Lib.hid (by simpa using w3)
  have h4 : Hid ((wd == wCommon) = false) := Lib.hid (by simpa using w4)
  have h5 : Hid ((wd == wShallow) = false) := Lib.hid (by simpa using w5)
  have h6 : Hid ((wd == wDepth) = false) := Lib.hid (by simpa using w6)
  have h7 : Hid ((wd == wAt) = false) := Lib.hid (by simpa using w7)
  have h8 : Hid ((wd == wUpdate) = false) := Lib.hid (by simpa using w8)
  clear w0 w1 w2 w3 w4 w5 w6 w7 w8
  have hb0 := hR.hbg
  have hb00 := hR.lt
  have HE := Lib.hid hE
  have HR := Lib.hid hR
  have l1 := aft_len l
  have l2 := bef_len (aft l)
  have l3 := aft_len (aft l)
  obtain ⟨rest, Hr⟩ : ∃ r, Hid (aft l = r) := ⟨_, Lib.hid rfl⟩
  rw [Hr.out] at l1 l2 l3
  try rw [Hr.out] at Hq
  obtain ⟨x1, Hx1⟩ : ∃ r, Hid (bef rest = r) := ⟨_, Lib.hid rfl⟩
  obtain ⟨x2, Hx2⟩ : ∃ r, Hid (aft rest = r) := ⟨_, Lib.hid rfl⟩
  rw [Hx1.out] at l2
  rw [Hx2.out] at l3
  try rw [Hx1.out] at Hq
  try rw [Hx2.out] at Hq
  clear hE hR
  go_enter Tryz.func44, Tryz.ntmps44
  go_wp2_with fail
  refine (cut72_any l hl W HE.out).mono ?_
  rintro e W1 ⟨⟨t1, rfl⟩, hb1⟩
  rw [HW.out, Hr.out]
  have HE1 := Lib.hid (HE.out.below hb1)
  have HR1 := Lib.hid (HR.out.below hb1)
  go_wp2_with fail
  refine (cut72_any rest (by omega) W1 HE1.out).mono ?_
  rintro e W2 ⟨⟨t2, rfl⟩, hb2⟩
  rw [Hx1.out, Hx2.out]
  have HE2 := Lib.hid (HE1.out.below hb2)
  have HR2 := Lib.hid (HR1.out.below hb2)
  have HB2 : Hid (Below base W W2) := Lib.hid (below_base (below_base (Below.refl _ _) (by omega) hb1) (by have := HR1.out.lt; have := HR1.out.hbg; omega) hb2)
  clear hb1 hb2
  go_wp2_with (first
    | (refine wpList_run rfl (op_str_eqlB _ _ _ _ _ _ _ _ _ _ wd [111, 112] false h0.out rfl rfl) ?_)
    | (refine wpList_run rfl (op_str_eqlB _ _ _ _ _ _ _ _ _ _ wd [99, 97, 112, 115] false h1.out rfl rfl) ?_)
    | (refine wpList_run rfl (op_str_eqlB _ _ _ _ _ _ _ _ _ _ wd [119, 97, 110, 116] false h2.out rfl rfl) ?_)
    | (refine wpList_run rfl (op_str_eqlB _ _ _ _ _ _ _ _ _ _ wd [104, 97, 118, 101] false h3.out rfl rfl) ?_)
    | (refine wpList_run rfl (op_str_eqlB _ _ _ _ _ _ _ _ _ _ wd [99, 111, 109, 109, 111, 110] false h4.out rfl rfl) ?_)
    | (refine wpList_run rfl (op_str_eqlB _ _ _ _ _ _ _ _ _ _ wd [115, 104, 97, 108, 108, 111, 119] false h5.out rfl rfl) ?_)
    | (refine wpList_run rfl (op_str_eqlB _ _ _ _ _ _ _ _ _ _ wd [100, 101, 112, 116, 104] false h6.out rfl rfl) ?_)
    | (refine wpList_run rfl (op_str_eqlB _ _ _ _ _ _ _ _ _ _ wd [97, 116] false h7.out rfl rfl) ?_)
    | (refine wpList_run rfl (op_str_eqlB _ _ _ _ _ _ _ _ _ _ wd [117, 112, 100, 97, 116, 101] false h8.out rfl rfl) ?_))
  go_end0
  exact ⟨rfl, by rw [Hq.out]; exact ⟨⟨a, HR2.out.mono (by omega)⟩, HB2.out⟩⟩
theorem read44_any (l : List UInt8) (hl : l.length ≤ 1000000) (m base g : Nat) (q : Req) (a : ReqA) (W : World) (hE : Env W) (hR : ReqAt m base g W q a) (hm : m ≤ 100000) :
    Calls Tryz.prog 44 #[.pointer (some ⟨g, 0, none⟩), .string (bs l)] W fun e w' => e = .returned (.tuple #[]) ∧ ReadRes m base g W w' (readP q l) := by
  by_cases w0 : bef l = wOp
  · exact read44_op l hl m base g q a W hE hR hm w0
  by_cases w1 : bef l = wCaps
  · exact read44_caps l hl m base g q a W hE hR hm w1
  by_cases w2 : bef l = wWant
  · exact read44_want l hl m base g q a W hE hR hm w2
  by_cases w3 : bef l = wHave
  · exact read44_have l hl m base g q a W hE hR hm w3
  by_cases w4 : bef l = wCommon
  · exact read44_common l hl m base g q a W hE hR hm w4
  by_cases w5 : bef l = wShallow
  · exact read44_shallow l hl m base g q a W hE hR hm w5
  by_cases w6 : bef l = wDepth
  · exact read44_depth l hl m base g q a W hE hR hm w6
  by_cases w7 : bef l = wAt
  · exact read44_at l hl m base g q a W hE hR hm w7
  by_cases w8 : bef l = wUpdate
  · exact read44_update l hl m base g q a W hE hR hm w8
  exact read44_other l hl m base g q a W hE hR hm w0 w1 w2 w3 w4 w5 w6 w7 w8
end Go.Proofs.YtmfpmedkhlhnpaaGreatDoor
