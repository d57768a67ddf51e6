import Derived.Test.YtmfpmedkhlhnpaaGreatDoorL1
/- function 8: line.Ask. -/
namespace Go.Proofs.YtmfpmedkhlhnpaaGreatDoor
open Go.RowKit Go.Extern.Stop Go.Proofs.YtmfpmedkhlhnpaaGreatDoorW.PrintLast
set_option maxRecDepth 100000
set_option linter.unusedSimpArgs false
set_option linter.unusedVariables false
theorem Wr.drew' {base g : Nat} {W : World} {ls : List Pk} (h : Wr base g W ls) : Wr base g W.drew ls := h
theorem join3_len (a b c : List UInt8) : (Lib.join [a, b, c] [32]).length = a.length + b.length + c.length + 2 := by
  rw [join_cons2, join_cons2, join_one]; simp; omega
theorem join4_len (a b c d : List UInt8) : (Lib.join [a, b, c, d] [32]).length = a.length + b.length + c.length + d.length + 3 := by
  rw [join_cons2, join_cons2, join_cons2, join_one]; simp; omega
theorem capsPks_len (ss : List (List UInt8)) : (capsPks ss).length ≤ 1 := by
  rw [capsPks]; split <;> simp
theorem numPks_len (w : List UInt8) (n : Nat) : (numPks w n).length ≤ 1 := by
  rw [numPks]; split <;> simp
theorem chunkPks_len (l : List UInt8) : (chunkPks l).length ≤ l.length := by rw [chunkPks, List.length_map]; exact chunks_len l
theorem und26 : Tryz.prog.underlying 26 = some (.struct (Tryz.prog.fieldsOf 26)) := by kernel_rfl
theorem info26 : (Tryz.prog.info? 26).map (·.size) = some 11 := by kernel_rfl
theorem wpList_store1 {P : Program} {ops : Array Oper} {rest : List Oper} {w : World} {oi : Oper} {a : Act} {Q : Exit → Act → World → Prop} (hgd : oi.guard = none) (t : TypeId) (x y : Operand) (ho : oi.op = .store t x y) (g : Nat) (u v : Value) (T : TypeId)
    (hx : a.eval x = .pointer (some ⟨g, 0, none⟩)) (hy : a.eval y = v) (hv : v.cells = #[v]) (h1c : v.oneCell' = true) (hg : w.heap[g]? = some (.cells #[u] T (0, 0))) (hi : (P.info? t).map (·.size) = some 1) (hd : oi.dst = none)
    (h : wpList P ops Q rest (a.put oi.dst undef) (w.setCell ⟨g, 0, none⟩ v)) : wpList P ops Q (oi :: rest) a w :=
  wpList_plain hgd fun K hK => by
    have := ev_store1 (K := K) (Q := Q) (b := true) rfl hd t x y ho g u v T hx hy hv h1c hg hi (by rw [hd] at h; exact hK _ _ h)
    simpa using this
set_option maxHeartbeats 8000000 in
theorem ask8_any (r : Req) (a : ReqA) (op ses dep pla : Nat) (w : World) (hE : Env w) (hq : IsReq w r a) (hB : asksB r = true) (hok : AskOk r op ses dep pla) (hca : r.caps.length ≤ a.c2) :
    Calls Tryz.prog 8 #[.agg (reqc r a).toArray] w fun e w' => e = .returned (.tuple #[.string (bs (askText r op ses dep pla)), .int .i64 0]) ∧ Below w.heap.size w w' := by
  have hfinal := Lib.hid (askPks_text r op ses dep pla)
  have hfine := Lib.hid (askPks_fine hok (fun l hl => by
    simp only [List.mem_cons, List.not_mem_nil, or_false] at hl
    rcases hl with rfl | rfl | rfl | rfl
    · exact hq.iWants.2
    · exact hq.iHaves.2
    · exact hq.iCommon.2
    · exact hq.iShallow.2) hq.iUpd)
  have HQ := Lib.hid hq
  have HB := Lib.hid hB
  have HK := Lib.hid hok
  have HE0 := Lib.hid hE
  have Ho := Lib.hid hok.eop
  have Hs := Lib.hid hok.eses
  have Hd := Lib.hid hok.edep
  have Hp := Lib.hid hok.epla
  have n0 := hok.hop
  have n01 := hok.hses
  have n02 := hok.hdep
  have n03 := hok.hpla
  have n1 := hok.nCaps
  have HL := Lib.hid hok.lCaps
  have n2 := hok.nWants
  have n3 := hok.nHaves
  have n4 := hok.nCommon
  have n5 := hok.nShallow
  have n6 := hok.nUpd
  have n7 := hok.nData
  have d1 := dec_len7 (n := op) (by omega)
  have d2 := dec_len7 (n := ses) (by omega)
  have HCP : Hid (capsOk r.caps = true) := Lib.hid (by rw [asksB, Bool.and_eq_true, Bool.and_eq_true, Bool.and_eq_true] at hB; exact hB.2.1.1)
  have hcj : (Lib.join r.caps [32]).length ≤ 1000 := by have := join_len r.caps 20 hok.lCaps; omega
  clear hq hB hok hE
  go_enter Tryz.func8, Tryz.ntmps8
  go_wp2_with (first
    | (refine wpList_load_mid rfl 26 _ rfl w.heap.size 0 rfl (reqc r a) _ (rangeAt_new w (reqc r a) 26) und26 rfl info26 ?_)
    | (go_at_call 24; refine (asks24_any r a _ (HQ.out.below (below_alloc (Below.refl _ _) _))).mono ?_; rintro e W0 ⟨rfl, hb1⟩; simp only [HB.out]))
  have hbx0 := (Boxed.start w (reqc r a) 26).call hb1
  have HQ1 := Lib.hid (HQ.out.below hbx0.below)
  have HE := Lib.hid (HE0.out.below hbx0.below)
  have hszb := hbx0.lt
  have hw0 : Wr W0.heap.size W0.heap.size (W0.alloc (.cells #[.slice none 0 0] 65)) [] := ⟨Nat.le_refl _, .slice none 0 0, by rw [show (W0.alloc (.cells #[.slice none 0 0] 65)).heap = W0.heap.push (.cells #[.slice none 0 0] 65 (0, 0)) from rfl, Array.getElem?_push_size], own_nil _ _ _ _⟩
  have hb0 : Below W0.heap.size W0 (W0.alloc (.cells #[.slice none 0 0] 65)) := below_alloc (Below.refl _ _) _
  try go_wp2
  refine start_ (n := 9) (S := (fun V => Wr W0.heap.size W0.heap.size V [] ∧ Below W0.heap.size W0 V)) (ds := [8]) #[false, false, false, false, false, false, false, false, false] (by kernel_rfl) rfl rfl (⟨hw0.drew', below_drew hb0⟩) (fun hHeld => ?_)
  refine pure_ (i := 0) (N := (some 12)) (v := ?_) (a' := ?_) #[true, false, false, false, false, false, false, false, false] rfl rfl (by kernel_rfl) (fun _ _ _ h => h) (Or.inl ⟨by rfl, ?_⟩) ?_ ?_
  rotate_left
  · intro w'
    go_simp
    with_reducible rfl
  rotate_left
  · simp only [Act.put, List.setIfInBounds_toArray, List.set_cons_zero, List.set_cons_succ]
    rfl
  refine pure_ (i := 1) (N := (some 13)) (v := ?_) (a' := ?_) #[true, true, false, false, false, false, false, false, false] rfl rfl (by kernel_rfl) (fun _ _ _ h => h) (Or.inl ⟨by rfl, ?_⟩) ?_ ?_
  rotate_left
  · intro w'
    go_simp
    with_reducible rfl
  rotate_left
  · simp only [Act.put, List.setIfInBounds_toArray, List.set_cons_zero, List.set_cons_succ]
    rfl
  refine take_ (i := 2) (N := (some 14)) (v := ?_) (a' := ?_) #[true, true, true, false, false, false, false, false, false] rfl rfl (by kernel_rfl) (fun _ _ _ h => h) (Or.inl ⟨by rfl, ?_⟩) hHeld ?_ ?_
  rotate_left
  · intro w' hS'
    have h1 := (hbx0.call hS'.2).cell 0 (.int .i64 r.op) rfl
    rw [Ho.out] at h1
    go_simp
    with_reducible rfl
  rotate_left
  · simp only [Act.put, List.setIfInBounds_toArray, List.set_cons_zero, List.set_cons_succ]
    rfl
  refine pure_ (i := 4) (N := (some 16)) (v := ?_) (a' := ?_) #[true, true, true, false, true, false, false, false, false] rfl rfl (by kernel_rfl) (fun _ _ _ h => h) (Or.inl ⟨by rfl, ?_⟩) ?_ ?_
  rotate_left
  · intro w'
    go_simp
    with_reducible rfl
  rotate_left
  · simp only [Act.put, List.setIfInBounds_toArray, List.set_cons_zero, List.set_cons_succ]
    rfl
  refine take_ (i := 5) (N := (some 17)) (v := ?_) (a' := ?_) #[true, true, true, false, true, true, false, false, false] rfl rfl (by kernel_rfl) (fun _ _ _ h => h) (Or.inl ⟨by rfl, ?_⟩) hHeld ?_ ?_
  rotate_left
  · intro w' hS'
    have h1 := (hbx0.call hS'.2).cell 1 (.int .i64 r.session) rfl
    rw [Hs.out] at h1
    go_simp
    with_reducible rfl
  rotate_left
  · simp only [Act.put, List.setIfInBounds_toArray, List.set_cons_zero, List.set_cons_succ]
    rfl
  refine one_ (i := 3) (N := (some 15)) #[true, true, true, true, true, true, false, false, false] rfl rfl (by kernel_rfl) (by simp) (fun K hK => ?_)
  refine goes_ Tryz.func26 (by kernel_rfl) rfl #[.int .i64 (op : Int)] (by rfl) rfl rfl (by first | rfl | simp [Act.eval]) ?_
  refine (itoa26_any op (by omega) _ (HE.out.below hHeld.2)).mono ?_
  rintro e w1 ⟨rfl, hb⟩
  refine ⟨_, rfl, hK _ _ (⟨hHeld.1.below hb, below_call hHeld.2 hb⟩) (fun hHeld => ?_)⟩
  simp only [Act.put, List.setIfInBounds_toArray, List.set_cons_zero, List.set_cons_succ]
  refine one_ (i := 6) (N := (some 18)) #[true, true, true, true, true, true, true, false, false] rfl rfl (by kernel_rfl) (by simp) (fun K hK => ?_)
  refine goes_ Tryz.func26 (by kernel_rfl) rfl #[.int .i64 (ses : Int)] (by rfl) rfl rfl (by first | rfl | simp [Act.eval]) ?_
  refine (itoa26_any ses (by omega) _ (HE.out.below hHeld.2)).mono ?_
  rintro e w1 ⟨rfl, hb⟩
  refine ⟨_, rfl, hK _ _ (⟨hHeld.1.below hb, below_call hHeld.2 hb⟩) (fun hHeld => ?_)⟩
  simp only [Act.put, List.setIfInBounds_toArray, List.set_cons_zero, List.set_cons_succ]
  refine one_ (i := 7) (N := (some 19)) #[true, true, true, true, true, true, true, true, false] rfl rfl (by kernel_rfl) (by simp) (fun K hK => ?_)
  refine ev_build (by rfl) rfl [.string (bs [111, 112]), .string (bs (Lib.decDigits op)), .string (bs (Lib.decDigits ses))] 9 1 3 (by first | (go_simp; done) | (go_simp; exact ⟨rfl, rfl⟩)) rfl (by decide) ?_
  intro g7 W7 hown7 hb7
  refine hK _ _ (⟨hHeld.1.below hb7, below_call hHeld.2 hb7⟩) (fun hHeld => ?_)
  simp only [Act.put, List.setIfInBounds_toArray, List.set_cons_zero, List.set_cons_succ]
  refine last_ (i := 8) (N := (some 20)) #[true, true, true, true, true, true, true, true, true] rfl rfl (by kernel_rfl) (by simp) (fun K hK => ?_)
  refine goes_ Tryz.func25 (by kernel_rfl) rfl #[.pointer (some ⟨W0.heap.size, 0, none⟩), .slice (some ⟨g7, 0, none⟩) 3 3] (by rfl) rfl rfl (by first | rfl | simp [Act.eval]) ?_
  refine (words25_any W0.heap.size W0.heap.size [] [[111, 112], Lib.decDigits op, Lib.decDigits ses] _ 3 _ hHeld.1 (Rd.of_own hown7) (by simp) (by simp) (by simp) (by have := join3_len [111, 112] (Lib.decDigits op) (Lib.decDigits ses); simp at this ⊢; omega)).mono ?_
  rintro e w4 ⟨rfl, hw4, hb4'⟩
  have hb4 := hHeld.2.trans hb4'
  refine ⟨_, rfl, hK _ _ ?_⟩
  simp only [Act.put, List.setIfInBounds_toArray, List.set_cons_zero, List.set_cons_succ]
  refine done_ (by kernel_rfl) ?_
  have hbx4 := hbx0.call hb4
  obtain ⟨L4, H4⟩ : ∃ L, Hid (([⟨0, Lib.join [[111, 112], Lib.decDigits op, Lib.decDigits ses] [32]⟩] : List Pk) = L) := ⟨_, Lib.hid rfl⟩
  have l4 : L4.length ≤ 1 := by rw [← H4.out]; simp
  have hw4 : Wr W0.heap.size W0.heap.size w4 L4 := by rw [← H4.out]; exact hw4

  have c4 := hbx4.cell 2 (.slice a.a2 r.caps.length a.c2) rfl
  go_wp2_with fail
  refine (caps27_any W0.heap.size W0.heap.size L4 r.caps a.a2 a.c2 w4 hw4 (HQ1.out.below hb4).caps HCP.out n1 HL.out hca hcj (by omega)).mono ?_
  rintro e w5 ⟨rfl, hw5, hb5'⟩
  have hb5 := hb4.trans hb5'
  have hbx5 := hbx0.call hb5
  obtain ⟨L5, H5⟩ : ∃ L, Hid (L4 ++ capsPks r.caps = L) := ⟨_, Lib.hid rfl⟩
  have l5 : L5.length ≤ 10 := by have := capsPks_len r.caps; have := numPks_len [100, 101, 112, 116, 104] dep; have := numPks_len [97, 116] pla; rw [← H5.out]; simp [idPks]; omega
  rw [H5.out] at hw5
  clear c4
  have c5 := hbx5.cell 3 (.slice a.a3 r.wants.length a.c3) rfl
  go_wp2_with fail
  refine (ids28_any W0.heap.size W0.heap.size L5 [119, 97, 110, 116] r.wants a.a3 a.c3 w5 hw5 HQ1.out.iWants.2 (by decide) (by omega) (by omega) W0 hb5 HQ1.out.wants rfl).mono ?_
  rintro e w6 ⟨rfl, hw6, hb6'⟩
  have hb6 := hb6'
  have hbx6 := hbx0.call hb6
  obtain ⟨L6, H6⟩ : ∃ L, Hid (L5 ++ idPks [119, 97, 110, 116] r.wants = L) := ⟨_, Lib.hid rfl⟩
  have l6 : L6.length ≤ 410 := by have := capsPks_len r.caps; have := numPks_len [100, 101, 112, 116, 104] dep; have := numPks_len [97, 116] pla; rw [← H6.out]; simp [idPks]; omega
  have hw6 : Wr W0.heap.size W0.heap.size w6 L6 := by rw [← H6.out]; exact hw6
  clear c5
  have c6 := hbx6.cell 4 (.slice a.a4 r.haves.length a.c4) rfl
  go_wp2_with fail
  refine (ids28_any W0.heap.size W0.heap.size L6 [104, 97, 118, 101] r.haves a.a4 a.c4 w6 hw6 HQ1.out.iHaves.2 (by decide) (by omega) (by omega) W0 hb6 HQ1.out.haves rfl).mono ?_
  rintro e w7 ⟨rfl, hw7, hb7'⟩
  have hb7 := hb7'
  have hbx7 := hbx0.call hb7
  obtain ⟨L7, H7⟩ : ∃ L, Hid (L6 ++ idPks [104, 97, 118, 101] r.haves = L) := ⟨_, Lib.hid rfl⟩
  have l7 : L7.length ≤ 810 := by have := capsPks_len r.caps; have := numPks_len [100, 101, 112, 116, 104] dep; have := numPks_len [97, 116] pla; rw [← H7.out]; simp [idPks]; omega
  have hw7 : Wr W0.heap.size W0.heap.size w7 L7 := by rw [← H7.out]; exact hw7
  clear c6
  have c7 := hbx7.cell 5 (.slice a.a5 r.common.length a.c5) rfl
  go_wp2_with fail
  refine (ids28_any W0.heap.size W0.heap.size L7 [99, 111, 109, 109, 111, 110] r.common a.a5 a.c5 w7 hw7 HQ1.out.iCommon.2 (by decide) (by omega) (by omega) W0 hb7 HQ1.out.common rfl).mono ?_
  rintro e w8 ⟨rfl, hw8, hb8'⟩
  have hb8 := hb8'
  have hbx8 := hbx0.call hb8
  obtain ⟨L8, H8⟩ : ∃ L, Hid (L7 ++ idPks [99, 111, 109, 109, 111, 110] r.common = L) := ⟨_, Lib.hid rfl⟩
  have l8 : L8.length ≤ 1210 := by have := capsPks_len r.caps; have := numPks_len [100, 101, 112, 116, 104] dep; have := numPks_len [97, 116] pla; rw [← H8.out]; simp [idPks]; omega
  have hw8 : Wr W0.heap.size W0.heap.size w8 L8 := by rw [← H8.out]; exact hw8
  clear c7
  have c8 := hbx8.cell 6 (.slice a.a6 r.shallow.length a.c6) rfl
  go_wp2_with fail
  refine (ids28_any W0.heap.size W0.heap.size L8 [115, 104, 97, 108, 108, 111, 119] r.shallow a.a6 a.c6 w8 hw8 HQ1.out.iShallow.2 (by decide) (by omega) (by omega) W0 hb8 HQ1.out.shallow rfl).mono ?_
  rintro e w9 ⟨rfl, hw9, hb9'⟩
  have hb9 := hb9'
  have hbx9 := hbx0.call hb9
  obtain ⟨L9, H9⟩ : ∃ L, Hid (L8 ++ idPks [115, 104, 97, 108, 108, 111, 119] r.shallow = L) := ⟨_, Lib.hid rfl⟩
  have l9 : L9.length ≤ 1610 := by have := capsPks_len r.caps; have := numPks_len [100, 101, 112, 116, 104] dep; have := numPks_len [97, 116] pla; rw [← H9.out]; simp [idPks]; omega
  have hw9 : Wr W0.heap.size W0.heap.size w9 L9 := by rw [← H9.out]; exact hw9
  clear c8
  have c9 := hbx9.cell 7 (.int .i64 r.depth) rfl
  rw [Hd.out] at c9
  go_wp2_with fail
  refine (num29_any W0.heap.size W0.heap.size L9 [100, 101, 112, 116, 104] dep w9 (HE.out.below hb9) hw9 (by decide) (by omega) (by omega)).mono ?_
  rintro e w10 ⟨rfl, hw10, hb10'⟩
  have hb10 := hb9.trans hb10'
  have hbx10 := hbx0.call hb10
  obtain ⟨L10, H10⟩ : ∃ L, Hid (L9 ++ numPks [100, 101, 112, 116, 104] dep = L) := ⟨_, Lib.hid rfl⟩
  have l10 : L10.length ≤ 1620 := by have := capsPks_len r.caps; have := numPks_len [100, 101, 112, 116, 104] dep; have := numPks_len [97, 116] pla; rw [← H10.out]; simp [idPks]; omega
  rw [H10.out] at hw10
  clear c9
  have c10 := hbx10.cell 8 (.int .i64 r.place) rfl
  rw [Hp.out] at c10
  go_wp2_with fail
  refine (num29_any W0.heap.size W0.heap.size L10 [97, 116] pla w10 (HE.out.below hb10) hw10 (by decide) (by omega) (by omega)).mono ?_
  rintro e w11 ⟨rfl, hw11, hb11'⟩
  have hb11 := hb10.trans hb11'
  have hbx11 := hbx0.call hb11
  obtain ⟨L11, H11⟩ : ∃ L, Hid (L10 ++ numPks [97, 116] pla = L) := ⟨_, Lib.hid rfl⟩
  have l11 : L11.length ≤ 1630 := by have := capsPks_len r.caps; have := numPks_len [100, 101, 112, 116, 104] dep; have := numPks_len [97, 116] pla; rw [← H11.out]; simp [idPks]; omega
  rw [H11.out] at hw11
  clear c10
  have c11 := hbx11.cell 9 (.slice a.a9 r.updates.length a.c9) rfl
  have hH : Hid (askHeadPks r op ses dep pla = L11 ++ r.updates.map updPk) := Lib.hid (by rw [← H11.out, ← H10.out, ← H9.out, ← H8.out, ← H7.out, ← H6.out, ← H5.out, ← H4.out]; rfl)
  clear H4 H5 H6 H7 H8 H9 H10 H11 l4 l5 l6 l7 l8 l9 l10 hw4 hw5 hw6 hw7 hw8 hw9 hw10 hb4 hb5 hb6 hb7 hb8 hb9 hb10 hbx4 hbx5 hbx6 hbx7 hbx8 hbx9 hbx10 hb4' hb5' hb6' hb7' hb8' hb9' hb10' hb11'
  go_wp2_with fail
  go_loopw [52] (fun i wr => ∃ k : Nat, k ≤ r.updates.length ∧ i = .int .i64 k ∧ Wr W0.heap.size W0.heap.size wr (L11 ++ (r.updates.take k).map updPk) ∧ Below W0.heap.size W0 wr) (fun i _ => r.updates.length - (intOf i).toNat)
  case atStart => exact ⟨0, by omega, rfl, by simpa using hw11, hb11⟩
  case round =>
    obtain ⟨k, hk, rfl, hwr, hbel⟩ := hrel
    have hltg := hwr.lt
    by_cases hlt : k < r.updates.length
    · obtain ⟨b1, o1, u, e1, c1, hs1⟩ := Rd.at (n := 65) (by omega) (HQ1.out.below hbel).updates (fun x hx => updc_length x (HQ1.out.iUpd x hx)) k hlt
      rw [e1]
      have hu := HQ1.out.iUpd u (List.mem_of_getElem? hs1)
      have hun := HK.out.lUpd u (List.mem_of_getElem? hs1)
      have hxo : (hexs u.old).length = 64 := by rw [hexs_length, hu.1]
      have hxn : (hexs u.new).length = 64 := by rw [hexs_length, hu.2.1]
      have hjl := Lib.hid (join4_len [117, 112, 100, 97, 116, 101] (hexs u.old) (hexs u.new) u.name)
      have hjb : [117, 112, 100, 97, 116, (101 : UInt8)].length + (hexs u.old).length + (hexs u.new).length + u.name.length + 3 ≤ 100000 := by simp only [List.length_cons, List.length_nil]; omega
      have hnx : Hid (L11 ++ (r.updates.take (k + 1)).map updPk = (L11 ++ (r.updates.take k).map updPk) ++ [updPk u]) := by
        obtain ⟨hk2, hs2⟩ := List.getElem?_eq_some_iff.1 hs1
        refine Lib.hid ?_
        rw [List.take_succ_eq_append_getElem hk2, hs2]
        simp
      have hlk : (L11 ++ (r.updates.take k).map updPk).length ≤ 2000 := by simp; omega
      have HU := Lib.hid hu
      clear hs1
      obtain ⟨Lk, HLk⟩ : ∃ L, Hid (L11 ++ (r.updates.take k).map updPk = L) := ⟨_, Lib.hid rfl⟩
      rw [HLk.out] at hlk hwr
      go_wp2_with (first
        | (refine wpList_load_mid rfl 60 _ rfl b1 (o1 + k * 65) rfl (updc u) _ c1 und60 rfl (by rw [updc_length u HU.out]; exact info60s) ?_)
        | (refine wpList_run rfl (op_allocZ _ _ _ _ _ _ _ 60 zero60) ?_)
        | (refine wpList_store_new rfl 60 _ _ rfl _ (updc u).toArray rfl rfl (by rw [List.size_toArray, updc_length u HU.out]; exact info60s) (by rw [zsize60, List.size_toArray, updc_length u HU.out]) (updv_one u) ?_))
      refine start_ (n := 11) (S := (fun V => Wr W0.heap.size W0.heap.size V Lk ∧ Boxed wr (updc u) 60 V)) (ds := [10]) #[false, false, false, false, false, false, false, false, false, false, false] (by kernel_rfl) rfl rfl (⟨(hwr.below (Below.alloc (Below.refl _ _) (Nat.le_refl _) _)).drew', (Boxed.start wr (updc u) 60).drew⟩) (fun hHeld => ?_)
      refine pure_ (i := 0) (N := (some 56)) (v := ?_) (a' := ?_) #[true, false, false, false, false, false, false, false, false, false, false] rfl rfl (by kernel_rfl) (fun _ _ _ h => h) (Or.inl ⟨by rfl, ?_⟩) ?_ ?_
      rotate_left
      · intro w'
        go_simp
        with_reducible rfl
      rotate_left
      · simp only [Act.put, List.setIfInBounds_toArray, List.set_cons_zero, List.set_cons_succ]
        rfl
      refine pure_ (i := 1) (N := (some 57)) (v := ?_) (a' := ?_) #[true, true, false, false, false, false, false, false, false, false, false] rfl rfl (by kernel_rfl) (fun _ _ _ h => h) (Or.inl ⟨by rfl, ?_⟩) ?_ ?_
      rotate_left
      · intro w'
        go_simp
        with_reducible rfl
      rotate_left
      · simp only [Act.put, List.setIfInBounds_toArray, List.set_cons_zero, List.set_cons_succ]
        rfl
      refine take_ (i := 2) (N := (some 58)) (v := ?_) (a' := ?_) #[true, true, true, false, false, false, false, false, false, false, false] rfl rfl (by kernel_rfl) (fun _ _ _ h => h) (Or.inl ⟨by rfl, ?_⟩) hHeld ?_ ?_
      rotate_left
      · intro w' hS'
        refine op_load_mid _ _ _ _ _ _ _ _ 41 wr.heap.size 1 (idc u.old) _ ?_ (hS'.2.range 1 (idc u.old) (fun j v hj => upd_old u hu j v hj)) und41 rfl (by rw [idc_length, hu.1]; exact info41)
        rfl
      rotate_left
      · simp only [Act.put, List.setIfInBounds_toArray, List.set_cons_zero, List.set_cons_succ]
        rfl
      refine pure_ (i := 4) (N := (some 60)) (v := ?_) (a' := ?_) #[true, true, true, false, true, false, false, false, false, false, false] rfl rfl (by kernel_rfl) (fun _ _ _ h => h) (Or.inl ⟨by rfl, ?_⟩) ?_ ?_
      rotate_left
      · intro w'
        go_simp
        with_reducible rfl
      rotate_left
      · simp only [Act.put, List.setIfInBounds_toArray, List.set_cons_zero, List.set_cons_succ]
        rfl
      refine take_ (i := 5) (N := (some 61)) (v := ?_) (a' := ?_) #[true, true, true, false, true, true, false, false, false, false, false] rfl rfl (by kernel_rfl) (fun _ _ _ h => h) (Or.inl ⟨by rfl, ?_⟩) hHeld ?_ ?_
      rotate_left
      · intro w' hS'
        refine op_load_mid _ _ _ _ _ _ _ _ 41 wr.heap.size 33 (idc u.new) _ ?_ (hS'.2.range 33 (idc u.new) (fun j v hj => upd_new u hu j v hj)) und41 rfl (by rw [idc_length, hu.2.1]; exact info41)
        rfl
      rotate_left
      · simp only [Act.put, List.setIfInBounds_toArray, List.set_cons_zero, List.set_cons_succ]
        rfl
      refine pure_ (i := 7) (N := (some 63)) (v := ?_) (a' := ?_) #[true, true, true, false, true, true, false, true, false, false, false] rfl rfl (by kernel_rfl) (fun _ _ _ h => h) (Or.inl ⟨by rfl, ?_⟩) ?_ ?_
      rotate_left
      · intro w'
        go_simp
        with_reducible rfl
      rotate_left
      · simp only [Act.put, List.setIfInBounds_toArray, List.set_cons_zero, List.set_cons_succ]
        rfl
      refine take_ (i := 8) (N := (some 64)) (v := ?_) (a' := ?_) #[true, true, true, false, true, true, false, true, true, false, false] rfl rfl (by kernel_rfl) (fun _ _ _ h => h) (Or.inl ⟨by rfl, ?_⟩) hHeld ?_ ?_
      rotate_left
      · intro w' hS'
        have h1 := hS'.2.cell 0 (.string (bs u.name)) rfl
        go_simp
        with_reducible rfl
      rotate_left
      · simp only [Act.put, List.setIfInBounds_toArray, List.set_cons_zero, List.set_cons_succ]
        rfl
      refine one_ (i := 3) (N := (some 59)) #[true, true, true, true, true, true, false, true, true, false, false] rfl rfl (by kernel_rfl) (by simp) (fun K hK => ?_)
      refine goes_ Tryz.func30 (by kernel_rfl) rfl #[.agg (idv u.old)] (by rfl) rfl rfl (by first | rfl | simp [Act.eval]) ?_
      refine (hex_any u.old hu.1 _).mono ?_
      rintro e w1 ⟨rfl, hb⟩
      refine ⟨_, rfl, hK _ _ (⟨hHeld.1.below hb, hHeld.2.call hb⟩) (fun hHeld => ?_)⟩
      simp only [Act.put, List.setIfInBounds_toArray, List.set_cons_zero, List.set_cons_succ]
      refine one_ (i := 6) (N := (some 62)) #[true, true, true, true, true, true, true, true, true, false, false] rfl rfl (by kernel_rfl) (by simp) (fun K hK => ?_)
      refine goes_ Tryz.func30 (by kernel_rfl) rfl #[.agg (idv u.new)] (by rfl) rfl rfl (by first | rfl | simp [Act.eval]) ?_
      refine (hex_any u.new hu.2.1 _).mono ?_
      rintro e w1 ⟨rfl, hb⟩
      refine ⟨_, rfl, hK _ _ (⟨hHeld.1.below hb, hHeld.2.call hb⟩) (fun hHeld => ?_)⟩
      simp only [Act.put, List.setIfInBounds_toArray, List.set_cons_zero, List.set_cons_succ]
      refine one_ (i := 9) (N := (some 65)) #[true, true, true, true, true, true, true, true, true, true, false] rfl rfl (by kernel_rfl) (by simp) (fun K hK => ?_)
      refine ev_build (by rfl) rfl [.string (bs [117, 112, 100, 97, 116, 101]), .string (bs (hexs u.old)), .string (bs (hexs u.new)), .string (bs u.name)] 9 1 4 (by first | (go_simp; done) | (go_simp; exact ⟨rfl, rfl⟩)) rfl (by decide) ?_
      intro g9 W9 hown9 hb9
      refine hK _ _ (⟨hHeld.1.below hb9, hHeld.2.call hb9⟩) (fun hHeld => ?_)
      simp only [Act.put, List.setIfInBounds_toArray, List.set_cons_zero, List.set_cons_succ]
      refine last_ (i := 10) (N := (some 66)) #[true, true, true, true, true, true, true, true, true, true, true] rfl rfl (by kernel_rfl) (by simp) (fun K hK => ?_)
      refine goes_ Tryz.func25 (by kernel_rfl) rfl #[.pointer (some ⟨W0.heap.size, 0, none⟩), .slice (some ⟨g9, 0, none⟩) 4 4] (by rfl) rfl rfl (by first | rfl | simp [Act.eval]) ?_
      refine (words25_any W0.heap.size W0.heap.size Lk [[117, 112, 100, 97, 116, 101], hexs u.old, hexs u.new, u.name] _ 4 _ hHeld.1 (Rd.of_own hown9) (by simp) (by omega) (by simp) (by rw [hjl.out]; omega)).mono ?_
      rintro e wn ⟨rfl, hwn, hbn'⟩
      have hbn := hbel.trans ((hHeld.2.below.mono (Nat.le_of_lt hltg)).trans hbn')
      refine ⟨_, rfl, hK _ _ ?_⟩
      simp only [Act.put, List.setIfInBounds_toArray, List.set_cons_zero, List.set_cons_succ]
      refine done_ (by kernel_rfl) ?_
      go_wp2
      go_roundw
      case rel => exact ⟨k + 1, by omega, by go_num, by rw [hnx.out, HLk.out]; exact hwn, hbn⟩
      case measure => simp [intOf]; omega
    · obtain rfl : k = r.updates.length := by omega
      rw [List.take_length] at hwr
      have hlk : (L11 ++ r.updates.map updPk).length ≤ 2000 := by simp; omega
      obtain ⟨Lk, HLk⟩ : ∃ L, Hid (L11 ++ r.updates.map updPk = L) := ⟨_, Lib.hid rfl⟩
      rw [HLk.out] at hlk hwr
      have hbx := hbx0.call hbel
      have c10 := hbx.cell 10 (.string (bs r.data)) rfl
      by_cases he : r.data = []
      · have hfin : Hid (askPks r op ses dep pla = Lk ++ [⟨1, []⟩]) := Lib.hid (by rw [askPks, hH.out, HLk.out, delimPks, if_pos he, he, chunkPks, chunks_nil, List.map_nil, List.append_nil, List.append_nil])
        have hft : Hid (pksB (Lk ++ [⟨1, []⟩]) = askText r op ses dep pla) := Lib.hid (by rw [← hfin.out]; exact hfinal.out)
        have hff : Hid (∀ p ∈ Lk, PkFine p) := Lib.hid fun p hp => hfine.out p (by rw [hfin.out]; exact List.mem_append_left _ hp)
        rw [he] at c10
        clear he
        go_wp2_with (refine wpList_run rfl (op_str_neqB _ _ _ _ _ _ _ _ _ _ [] [] false rfl rfl rfl) ?_)
        refine (data31_any W0.heap.size W0.heap.size Lk [] _ hwr (by simp) (by omega)).mono ?_; rintro e x1 ⟨rfl, hx1, hy1⟩
        rw [show Lk ++ chunkPks [] = Lk by rw [chunkPks, chunks_nil]; simp] at hx1
        go_wp2_with fail
        refine (end32_any W0.heap.size W0.heap.size Lk _ hx1 (by omega) hff.out).mono ?_; rintro e x2 ⟨rfl, hy2⟩
        go_wp2
        go_ret2
        exact ⟨by rw [hft.out]; rfl, (hbx0.below).trans ((hbel.trans (hy1.trans hy2)).mono (by omega))⟩
      · have hne : (!(r.data == ([] : List UInt8))) = true := by simp [he]
        have hfin : Hid (askPks r op ses dep pla = ((Lk ++ [⟨2, []⟩]) ++ chunkPks r.data) ++ [⟨1, []⟩]) := Lib.hid (by rw [askPks, hH.out, HLk.out, delimPks, if_neg he])
        have hft : Hid (pksB (Lk ++ ⟨2, []⟩ :: (chunkPks r.data ++ [⟨1, []⟩])) = askText r op ses dep pla) := Lib.hid (by have h := hfinal.out; rw [hfin.out] at h; simpa using h)
        have hff : Hid (∀ p ∈ (Lk ++ [⟨2, []⟩]) ++ chunkPks r.data, PkFine p) := Lib.hid fun p hp => hfine.out p (by rw [hfin.out]; exact List.mem_append_left _ hp)
        have hcl := chunkPks_len r.data
        clear he
        obtain ⟨-, v, hg, ho⟩ := hwr
        have hc0 : wr.cell? ⟨W0.heap.size, 0, none⟩ = some v := by rw [cell_of_row wr W0.heap.size 0 #[v] 65 (0, 0) hg]; rfl
        have ho2 := own_below ho (Below.alloc (Below.refl wr.heap.size wr) (Nat.le_refl _) (.cells #[.int .i64 2, .string (bs [])] 73))
        go_wp2_with (first
          | (refine wpList_run rfl (op_str_neqB _ _ _ _ _ _ _ _ _ _ r.data [] true hne rfl rfl) ?_)
          | (refine wpList_append rfl (.tmp 75) (.tmp 77) 63 rfl W0.heap.size 73 (.agg #[.int .i64 0, .string ⟨#[]⟩]) 2 24 und63 info73 rfl (by decide) v Lk.length (pksc Lk) rfl ho2 ⟨wr.heap.size, 0, none⟩ 1 1 [.int .i64 2, .string (bs [])] rfl rfl (news_new wr _ 73) ?_ ?_ ?_ ?_ ?_))
        · intro u hu; simp at hu; rcases hu with rfl | rfl <;> rfl
        · unfold maxLen; omega
        · omega
        · simp; omega
        intro v9 W9 hown9 hgr9
        have hg9 : W9.heap[W0.heap.size]? = some (.cells #[v] 65 (0, 0)) := (hgr9.block W0.heap.size (by simp; omega) (fun e => own_ne hg ho e.symm)).trans ((heap_alloc_old _ _ hltg).trans hg)
        have hb9 : Below W0.heap.size wr W9 := ((Below.refl W0.heap.size wr).alloc (by omega) _).grown hgr9 (by simp; omega) (own_base ho)
        clear ho2
        have hw12 : Wr W0.heap.size W0.heap.size (W9.setCell ⟨W0.heap.size, 0, none⟩ v9) (Lk ++ [⟨2, []⟩]) := Wr.stored (Nat.le_refl _) hg9 (by simpa [pksc] using hown9)
        have hb12 : Below W0.heap.size wr (W9.setCell ⟨W0.heap.size, 0, none⟩ v9) := hb9.setCell (Nat.le_refl _) v9
        obtain ⟨W12, HW12⟩ : ∃ V, W9.setCell ⟨W0.heap.size, 0, none⟩ v9 = V := ⟨_, rfl⟩
        rw [HW12] at hw12 hb12
        have hb13 := hbel.trans hb12
        have c10' := (hbx0.call hb13).cell 10 (.string (bs r.data)) rfl
        go_wp2_with (first
          | (refine wpList_store1 rfl 63 (.tmp 80) (.tmp 78) rfl W0.heap.size v v9 65 rfl rfl (own_cells1 hown9).1 (own_cells1 hown9).2 hg9 (by kernel_rfl) rfl ?_; rw [HW12]))
        refine (data31_any W0.heap.size W0.heap.size _ r.data _ hw12 (by omega) (by simp; omega)).mono ?_; rintro e x1 ⟨rfl, hx1, hy1⟩
        go_wp2_with fail
        refine (end32_any W0.heap.size W0.heap.size _ _ hx1 (by simp; omega) hff.out).mono ?_; rintro e x2 ⟨rfl, hy2⟩
        go_wp2
        go_ret2
        exact ⟨by rw [hft.out]; rfl, (hbx0.below).trans ((hb13.trans (hy1.trans hy2)).mono (by omega))⟩
end Go.Proofs.YtmfpmedkhlhnpaaGreatDoor
