import Derived.Test.YtmfpmedkhlhnpaaGreatDoorS3
import Derived.Test.YtmfpmedkhlhnpaaGreatDoorS4
import Derived.Deep.DeepCutAuto
/- function 15: line.Tell. -/
namespace Go.Proofs.YtmfpmedkhlhnpaaGreatDoor
open Go.RowKit Go.Extern.Stop Go.Proofs.YtmfpmedkhlhnpaaGreatDoorW.PrintLast
set_option maxRecDepth 100000
set_option linter.unusedSimpArgs false
set_option linter.unusedVariables false
theorem refsPks_len (l : List Rf) : (l.map refPk).length = l.length := by simp
theorem idPks_len (w : List UInt8) (l : List (List UInt8)) : (idPks w l).length = l.length := by simp [idPks]
theorem onePks_len (b : Bool) (w : List UInt8) : (onePks b w).length ≤ 1 := by cases b <;> simp [onePks]
theorem sizePks_len (n : Nat) (s : List UInt8) : (sizePks n s).length ≤ 1 := by rw [sizePks]; split <;> simp
theorem toldPks_len (l : List Nat) : (toldPks l).length = l.length := by simp [toldPks]
theorem delimP_len (b : Bool) : (delimP b).length ≤ 1 := by cases b <;> simp [delimP]
theorem ref_id (u : Rf) (h : u.id.length = 32) : ∀ j v, (idc u.id)[j]? = some v → (refc u)[1 + j]? = some v := by
  intro j v hj; rw [Nat.add_comm]; simpa [refc] using hj
set_option maxHeartbeats 2000000 in
theorem tell15_no (r : Rep) (a : RepA) (w : World) (hq : IsRep w r a) (hB : tellsB r = false) :
    Calls Tryz.prog 15 #[.agg (repc r a).toArray] w fun e w' => e = .returned (.tuple #[.string (bs []), .int .i64 1]) ∧ Below w.heap.size w w' := by
  have HQ := Lib.hid hq
  have HB := Lib.hid hB
  obtain ⟨cs0, Hcs⟩ : ∃ cs, Hid (repc r a = cs) := ⟨_, Lib.hid rfl⟩
  have HT : Hid (∀ w, IsRep w r a → Calls Tryz.prog 49 #[.agg cs0.toArray] w fun e w' => e = .returned (.bool (tellsB r)) ∧ Below w.heap.size w w') := Lib.hid fun w hq => by have := tells49_any r a w hq; rwa [Hcs.out] at this
  have HLn : Hid (cs0.length = 45) := Lib.hid (by rw [← Hcs.out]; exact repc_length r a hq.iSum)
  rw [Hcs.out]
  clear hq hB
  go_enter Tryz.func15, Tryz.ntmps15
  go_wp2_with (first
    | (refine wpList_load_mid rfl 44 _ rfl w.heap.size 0 rfl cs0 _ (rangeAt_new w cs0 44) und44 rfl (by rw [HLn.out]; exact info44) ?_)
    | (go_at_call 49; refine (HT.out _ (HQ.out.below (below_alloc (Below.refl _ _) _))).mono ?_; rintro e W0 ⟨rfl, hb1⟩; simp only [HB.out]))
  go_ret2
  exact ⟨rfl, ((Boxed.start w cs0 44).call hb1).below⟩
set_option maxHeartbeats 12000000 in
theorem tell15_any (r : Rep) (a : RepA) (w : World) (hE : Env w) (hq : IsRep w r a) (hB : tellsB r = true) (hca : r.caps.length ≤ a.c2) :
    Calls Tryz.prog 15 #[.agg (repc r a).toArray] w fun e w' => e = .returned (.tuple #[.string (bs (tellT r)), .int .i64 0]) ∧ Below w.heap.size w w' := by
  have hok := tellOk_of hB
  have hfit := hq.fit
  have hfine := Lib.hid (tellPks_fine hok hfit)
  have HQ := Lib.hid hq
  have HB := Lib.hid hB
  have HK := Lib.hid hok
  have HE0 := Lib.hid hE
  have HF := Lib.hid hfit
  obtain ⟨cs0, Hcs⟩ : ∃ cs, Hid (repc r a = cs) := ⟨_, Lib.hid rfl⟩
  have HT : Hid (∀ w, IsRep w r a → Calls Tryz.prog 49 #[.agg cs0.toArray] w fun e w' => e = .returned (.bool (tellsB r)) ∧ Below w.heap.size w w') := Lib.hid fun w hq => by have := tells49_any r a w hq; rwa [Hcs.out] at this
  have HLn : Hid (cs0.length = 45) := Lib.hid (by rw [← Hcs.out]; exact repc_length r a hq.iSum)
  have K0 : Hid (cs0[0]? = some (.int .i64 r.op)) := Lib.hid (by rw [← Hcs.out]; rfl)
  have K1 : Hid (cs0[1]? = some (.int .i64 r.err)) := Lib.hid (by rw [← Hcs.out]; rfl)
  have K2 : Hid (cs0[2]? = some (.slice a.a2 r.caps.length a.c2)) := Lib.hid (by rw [← Hcs.out]; rfl)
  have K3 : Hid (cs0[3]? = some (.slice a.a3 r.refs.length a.c3)) := Lib.hid (by rw [← Hcs.out]; rfl)
  have K4 : Hid (cs0[4]? = some (.slice a.a4 r.acks.length a.c4)) := Lib.hid (by rw [← Hcs.out]; rfl)
  have K5 : Hid (cs0[5]? = some (.slice a.a5 r.shallow.length a.c5)) := Lib.hid (by rw [← Hcs.out]; rfl)
  have K6 : Hid (cs0[6]? = some (.slice a.a6 r.deep.length a.c6)) := Lib.hid (by rw [← Hcs.out]; rfl)
  have K7 : Hid (cs0[7]? = some (.bool r.ready)) := Lib.hid (by rw [← Hcs.out]; rfl)
  have K8 : Hid (cs0[8]? = some (.bool r.band)) := Lib.hid (by rw [← Hcs.out]; rfl)
  have K9 : Hid (cs0[9]? = some (.int .i64 r.size)) := Lib.hid (by rw [← Hcs.out]; rfl)
  have K42 : Hid (cs0[42]? = some (.slice a.a11 r.told.length a.c11)) := Lib.hid (by rw [← Hcs.out]; exact rep_t11 r a hq.iSum)
  have K43 : Hid (cs0[43]? = some (.string (bs r.data))) := Lib.hid (by rw [← Hcs.out]; exact rep_t12 r a hq.iSum)
  have K44 : Hid (cs0[44]? = some (.string (bs r.note))) := Lib.hid (by rw [← Hcs.out]; exact rep_t13 r a hq.iSum)
  have KS : Hid (∀ j v, (idc r.sum)[j]? = some v → cs0[10 + j]? = some v) := Lib.hid (by rw [← Hcs.out]; exact rep_sum r a)
  obtain ⟨op, Hop⟩ : ∃ n : Nat, Hid (r.op = (n : Int)) := ⟨r.op.toNat, Lib.hid (by have := hok.op1; omega)⟩
  obtain ⟨er, Her⟩ : ∃ n : Nat, Hid (r.err = (n : Int)) := ⟨r.err.toNat, Lib.hid (by have := hok.err0; omega)⟩
  obtain ⟨sz, Hsz⟩ : ∃ n : Nat, Hid (r.size = (n : Int)) := ⟨r.size.toNat, Lib.hid (by have := hok.size0; omega)⟩
  have n0 : op ≤ 6 := by have := hok.op6; have := Hop.out; omega
  have n01 : er ≤ 99 := by have := hok.err9; have := Her.out; omega
  have n02 : sz ≤ 262144 := by have := hok.size9; have := Hsz.out; omega
  have Top : Hid (r.op.toNat = op) := Lib.hid (by have := Hop.out; omega)
  have Ter : Hid (r.err.toNat = er) := Lib.hid (by have := Her.out; omega)
  have Tsz : Hid (r.size.toNat = sz) := Lib.hid (by have := Hsz.out; omega)
  have HCL := caps_lens hok.caps
  have n1 := HCL.1
  have HL := Lib.hid HCL.2
  have n2 := (refs_len hok.refs).1
  have n3 := hok.nAcks
  have n4 := hok.nShallow
  have n5 := hok.nDeep
  have n6 := hok.nTold
  have n7 := hok.nData
  have n8 := hok.nNote
  have HSum := Lib.hid hq.iSum
  have HCP := Lib.hid hok.caps
  have d1 := dec_len7 (n := op) (by omega)
  have d2 := dec_len7 (n := er) (by omega)
  have d3 := dec_len7 (n := sz) (by omega)
  have hcj : (Lib.join r.caps [32]).length ≤ 1000 := by have := join_len r.caps 20 HCL.2; omega
  rw [Hcs.out]
  clear hq hB hok hE hfit HCL
  go_enter Tryz.func15, Tryz.ntmps15
  go_wp2_with (first
    | (refine wpList_load_mid rfl 44 _ rfl w.heap.size 0 rfl cs0 _ (rangeAt_new w cs0 44) und44 rfl (by rw [HLn.out]; exact info44) ?_)
    | (go_at_call 49; refine (HT.out _ (HQ.out.below (below_alloc (Below.refl _ _) _))).mono ?_; rintro e W0 ⟨rfl, hb1⟩; simp only [HB.out]))
  have hbx0 := (Boxed.start w cs0 44).call hb1
  have HQ1 := Lib.hid (HQ.out.below hbx0.below)
  have HE := Lib.hid (HE0.out.below hbx0.below)
  have hszb := hbx0.lt
  have hw0 : Wr W0.heap.size W0.heap.size (W0.alloc (.cells #[.slice none 0 0] 65)) [] := ⟨Nat.le_refl _, .slice none 0 0, by rw [show (W0.alloc (.cells #[.slice none 0 0] 65)).heap = W0.heap.push (.cells #[.slice none 0 0] 65 (0, 0)) from rfl, Array.getElem?_push_size], own_nil _ _ _ _⟩
  have hb0 : Below W0.heap.size W0 (W0.alloc (.cells #[.slice none 0 0] 65)) := below_alloc (Below.refl _ _) _
  try go_wp2
  refine start_ (n := 9) (S := (fun V => Wr W0.heap.size W0.heap.size V [] ∧ Below W0.heap.size W0 V)) (ds := [8]) #[false, false, false, false, false, false, false, false, false] (by kernel_rfl) rfl rfl (⟨hw0.drew', below_drew hb0⟩) (fun hHeld => ?_)
  refine pure_ (i := 0) (N := (some 14)) (v := ?_) (a' := ?_) #[true, false, false, false, false, false, false, false, false] rfl rfl (by kernel_rfl) (fun _ _ _ h => h) (Or.inl ⟨by rfl, ?_⟩) ?_ ?_
  rotate_left
  · intro w'
    go_simp
    with_reducible rfl
  rotate_left
  · simp only [Act.put, List.setIfInBounds_toArray, List.set_cons_zero, List.set_cons_succ]
    rfl
  refine pure_ (i := 1) (N := (some 15)) (v := ?_) (a' := ?_) #[true, true, false, false, false, false, false, false, false] rfl rfl (by kernel_rfl) (fun _ _ _ h => h) (Or.inl ⟨by rfl, ?_⟩) ?_ ?_
  rotate_left
  · intro w'
    go_simp
    with_reducible rfl
  rotate_left
  · simp only [Act.put, List.setIfInBounds_toArray, List.set_cons_zero, List.set_cons_succ]
    rfl
  refine take_ (i := 2) (N := (some 16)) (v := ?_) (a' := ?_) #[true, true, true, false, false, false, false, false, false] rfl rfl (by kernel_rfl) (fun _ _ _ h => h) (Or.inl ⟨by rfl, ?_⟩) hHeld ?_ ?_
  rotate_left
  · intro w' hS'
    have h1 := (hbx0.call hS'.2).cell 0 _ K0.out
    rw [Hop.out] at h1
    go_simp
    with_reducible rfl
  rotate_left
  · simp only [Act.put, List.setIfInBounds_toArray, List.set_cons_zero, List.set_cons_succ]
    rfl
  refine pure_ (i := 4) (N := (some 18)) (v := ?_) (a' := ?_) #[true, true, true, false, true, false, false, false, false] rfl rfl (by kernel_rfl) (fun _ _ _ h => h) (Or.inl ⟨by rfl, ?_⟩) ?_ ?_
  rotate_left
  · intro w'
    go_simp
    with_reducible rfl
  rotate_left
  · simp only [Act.put, List.setIfInBounds_toArray, List.set_cons_zero, List.set_cons_succ]
    rfl
  refine take_ (i := 5) (N := (some 19)) (v := ?_) (a' := ?_) #[true, true, true, false, true, true, false, false, false] rfl rfl (by kernel_rfl) (fun _ _ _ h => h) (Or.inl ⟨by rfl, ?_⟩) hHeld ?_ ?_
  rotate_left
  · intro w' hS'
    have h1 := (hbx0.call hS'.2).cell 1 _ K1.out
    rw [Her.out] at h1
    go_simp
    with_reducible rfl
  rotate_left
  · simp only [Act.put, List.setIfInBounds_toArray, List.set_cons_zero, List.set_cons_succ]
    rfl
  refine one_ (i := 3) (N := (some 17)) #[true, true, true, true, true, true, false, false, false] rfl rfl (by kernel_rfl) (by simp) (fun K hK => ?_)
  refine goes_ Tryz.func26 (by kernel_rfl) rfl #[.int .i64 (op : Int)] (by rfl) rfl rfl (by first | rfl | simp [Act.eval]) ?_
  refine (itoa26_any op (by omega) _ (HE.out.below hHeld.2)).mono ?_
  rintro e w1 ⟨rfl, hb⟩
  refine ⟨_, rfl, hK _ _ (⟨hHeld.1.below hb, below_call hHeld.2 hb⟩) (fun hHeld => ?_)⟩
  simp only [Act.put, List.setIfInBounds_toArray, List.set_cons_zero, List.set_cons_succ]
  refine one_ (i := 6) (N := (some 20)) #[true, true, true, true, true, true, true, false, false] rfl rfl (by kernel_rfl) (by simp) (fun K hK => ?_)
  refine goes_ Tryz.func26 (by kernel_rfl) rfl #[.int .i64 (er : Int)] (by rfl) rfl rfl (by first | rfl | simp [Act.eval]) ?_
  refine (itoa26_any er (by omega) _ (HE.out.below hHeld.2)).mono ?_
  rintro e w1 ⟨rfl, hb⟩
  refine ⟨_, rfl, hK _ _ (⟨hHeld.1.below hb, below_call hHeld.2 hb⟩) (fun hHeld => ?_)⟩
  simp only [Act.put, List.setIfInBounds_toArray, List.set_cons_zero, List.set_cons_succ]
  refine one_ (i := 7) (N := (some 21)) #[true, true, true, true, true, true, true, true, false] rfl rfl (by kernel_rfl) (by simp) (fun K hK => ?_)
  refine ev_build (by rfl) rfl [.string (bs wOp), .string (bs (Lib.decDigits op)), .string (bs (Lib.decDigits er))] 9 1 3 (by first | (go_simp; done) | (go_simp; exact ⟨rfl, rfl⟩)) rfl (by decide) ?_
  intro g7 W7 hown7 hb7
  refine hK _ _ (⟨hHeld.1.below hb7, below_call hHeld.2 hb7⟩) (fun hHeld => ?_)
  simp only [Act.put, List.setIfInBounds_toArray, List.set_cons_zero, List.set_cons_succ]
  refine last_ (i := 8) (N := (some 22)) #[true, true, true, true, true, true, true, true, true] rfl rfl (by kernel_rfl) (by simp) (fun K hK => ?_)
  refine goes_ Tryz.func25 (by kernel_rfl) rfl #[.pointer (some ⟨W0.heap.size, 0, none⟩), .slice (some ⟨g7, 0, none⟩) 3 3] (by rfl) rfl rfl (by first | rfl | simp [Act.eval]) ?_
  refine (words25_any W0.heap.size W0.heap.size [] [wOp, Lib.decDigits op, Lib.decDigits er] _ 3 _ hHeld.1 (Rd.of_own hown7) (by simp) (by first | omega | (simp; done)) (by simp) (by have := join3_len wOp (Lib.decDigits op) (Lib.decDigits er); simp only [List.length_cons, List.length_nil] at this; omega)).mono ?_
  rintro e w1 ⟨rfl, hw1, hb1'⟩
  have hb1 := hHeld.2.trans hb1'
  refine ⟨_, rfl, hK _ _ ?_⟩
  simp only [Act.put, List.setIfInBounds_toArray, List.set_cons_zero, List.set_cons_succ]
  refine done_ (by kernel_rfl) ?_
  obtain ⟨L1, H1⟩ : ∃ L, Hid (([⟨0, Lib.join [wOp, Lib.decDigits op, Lib.decDigits er] [32]⟩] : List Pk) = L) := ⟨_, Lib.hid rfl⟩
  have l1 : L1.length ≤ 1 := by rw [← H1.out]; simp
  have hw1 : Wr W0.heap.size W0.heap.size w1 L1 := by rw [← H1.out]; exact hw1
  have hbx1 := hbx0.call hb1
  obtain ⟨L2, H2⟩ : ∃ L, Hid (L1 ++ capsPks r.caps = L) := ⟨_, Lib.hid rfl⟩
  have l2 : L2.length ≤ 2 := by rw [← H2.out, List.length_append]; have := capsPks_len r.caps; omega
  have c1 := hbx1.cell 2 _ K2.out
  go_wp2_with fail
  refine (caps27_any W0.heap.size W0.heap.size L1 r.caps a.a2 a.c2 w1 hw1 (HQ1.out.below hb1).caps HCP.out n1 HL.out hca hcj (by omega)).mono ?_
  rintro e w2 ⟨rfl, hw2, hb2'⟩
  have hb2 := hb1.trans hb2'
  have hbx2 := hbx0.call hb2
  have hw2 : Wr W0.heap.size W0.heap.size w2 L2 := by rw [← H2.out]; exact hw2
  clear c1
  have c2 := hbx2.cell 3 _ K3.out
  obtain ⟨L3, H3⟩ : ∃ L, Hid (L2 ++ r.refs.map refPk = L) := ⟨_, Lib.hid rfl⟩
  have l3 : L3.length ≤ 66 := by rw [← H3.out, List.length_append]; rw [refsPks_len]; omega
  go_wp2_with fail
  go_loopw [30] (fun i wr => ∃ k : Nat, k ≤ r.refs.length ∧ i = .int .i64 k ∧ Wr W0.heap.size W0.heap.size wr (L2 ++ (r.refs.take k).map refPk) ∧ Below W0.heap.size W0 wr) (fun i _ => r.refs.length - (intOf i).toNat)
  case atStart => exact ⟨0, by omega, rfl, by simpa using hw2, hb2⟩
  case round =>
    obtain ⟨k, hk, rfl, hwr, hbel⟩ := hrel
    have hltg := hwr.lt
    clear c2
    by_cases hlt : k < r.refs.length
    · skip
      obtain ⟨b1, o1, u, e1, c1, hs1⟩ := Rd.at (f := refc) (n := 33) (by omega) (HQ1.out.below hbel).refs (fun x hx => refc_length x (HQ1.out.iRefs x hx).1) k hlt
      rw [e1]
      have hu := (HQ1.out.iRefs u (List.mem_of_getElem? hs1)).1
      have hun := name_len ((refs_len HK.out.refs).2 u (List.mem_of_getElem? hs1))
      have hxo : (hexs u.id).length = 64 := by rw [hexs_length, hu]
      have hnx : Hid (L2 ++ (r.refs.take (k + 1)).map refPk = (L2 ++ (r.refs.take k).map refPk) ++ [refPk u]) := by
        obtain ⟨hk2, hs2⟩ := List.getElem?_eq_some_iff.1 hs1
        refine Lib.hid ?_
        rw [List.take_succ_eq_append_getElem hk2, hs2]
        simp
      have hlk : (L2 ++ (r.refs.take k).map refPk).length ≤ 2000 := by simp; omega
      have HU := Lib.hid hu
      clear hs1
      obtain ⟨Lk, HLk⟩ : ∃ L, Hid (L2 ++ (r.refs.take k).map refPk = L) := ⟨_, Lib.hid rfl⟩
      rw [HLk.out] at hlk hwr
      clear hu
      go_wp2_with (first
        | (refine wpList_load_mid rfl 88 _ rfl b1 (o1 + k * 33) rfl (refc u) _ c1 und88 rfl (by rw [refc_length u HU.out]; exact info88s) ?_)
        | (refine wpList_run rfl (op_allocZ _ _ _ _ _ _ _ 88 zero88) ?_)
        | (refine wpList_store_new rfl 88 _ _ rfl _ (refc u).toArray rfl rfl (by rw [List.size_toArray, refc_length u HU.out]; exact info88s) (by rw [zsize88, List.size_toArray, refc_length u HU.out]) (refv_one u) ?_))
      refine start_ (n := 8) (S := (fun V => Wr W0.heap.size W0.heap.size V Lk ∧ Boxed wr (refc u) 88 V)) (ds := [7]) #[false, false, false, false, false, false, false, false] (by kernel_rfl) rfl rfl (⟨(hwr.below (Below.alloc (Below.refl _ _) (Nat.le_refl _) _)).drew', (Boxed.start wr (refc u) 88).drew⟩) (fun hHeld => ?_)
      refine pure_ (i := 0) (N := (some 34)) (v := ?_) (a' := ?_) #[true, false, false, false, false, false, false, false] rfl rfl (by kernel_rfl) (fun _ _ _ h => h) (Or.inl ⟨by rfl, ?_⟩) ?_ ?_
      rotate_left
      · intro w'
        go_simp
        with_reducible rfl
      rotate_left
      · simp only [Act.put, List.setIfInBounds_toArray, List.set_cons_zero, List.set_cons_succ]
        rfl
      refine pure_ (i := 1) (N := (some 35)) (v := ?_) (a' := ?_) #[true, true, false, false, false, false, false, false] rfl rfl (by kernel_rfl) (fun _ _ _ h => h) (Or.inl ⟨by rfl, ?_⟩) ?_ ?_
      rotate_left
      · intro w'
        go_simp
        with_reducible rfl
      rotate_left
      · simp only [Act.put, List.setIfInBounds_toArray, List.set_cons_zero, List.set_cons_succ]
        rfl
      refine take_ (i := 2) (N := (some 36)) (v := ?_) (a' := ?_) #[true, true, true, false, false, false, false, false] rfl rfl (by kernel_rfl) (fun _ _ _ h => h) (Or.inl ⟨by rfl, ?_⟩) hHeld ?_ ?_
      rotate_left
      · intro w' hS'
        refine op_load_mid _ _ _ _ _ _ _ _ 41 wr.heap.size 1 (idc u.id) _ ?_ (hS'.2.range 1 (idc u.id) (fun j v hj => ref_id u HU.out j v hj)) und41 rfl (by rw [idc_length, HU.out]; exact info41)
        rfl
      rotate_left
      · simp only [Act.put, List.setIfInBounds_toArray, List.set_cons_zero, List.set_cons_succ]
        rfl
      refine pure_ (i := 4) (N := (some 38)) (v := ?_) (a' := ?_) #[true, true, true, false, true, false, false, false] rfl rfl (by kernel_rfl) (fun _ _ _ h => h) (Or.inl ⟨by rfl, ?_⟩) ?_ ?_
      rotate_left
      · intro w'
        go_simp
        with_reducible rfl
      rotate_left
      · simp only [Act.put, List.setIfInBounds_toArray, List.set_cons_zero, List.set_cons_succ]
        rfl
      refine take_ (i := 5) (N := (some 39)) (v := ?_) (a' := ?_) #[true, true, true, false, true, true, false, false] rfl rfl (by kernel_rfl) (fun _ _ _ h => h) (Or.inl ⟨by rfl, ?_⟩) hHeld ?_ ?_
      rotate_left
      · intro w' hS'
        have h1 := hS'.2.cell 0 (.string (bs u.name)) rfl
        go_simp
        with_reducible rfl
      rotate_left
      · simp only [Act.put, List.setIfInBounds_toArray, List.set_cons_zero, List.set_cons_succ]
        rfl
      refine one_ (i := 3) (N := (some 37)) #[true, true, true, true, true, true, false, false] rfl rfl (by kernel_rfl) (by simp) (fun K hK => ?_)
      refine goes_ Tryz.func30 (by kernel_rfl) rfl #[.agg (idv u.id)] (by rfl) rfl rfl (by first | rfl | simp [Act.eval]) ?_
      refine (hex_any u.id HU.out _).mono ?_
      rintro e w1 ⟨rfl, hb⟩
      refine ⟨_, rfl, hK _ _ (⟨hHeld.1.below hb, hHeld.2.call hb⟩) (fun hHeld => ?_)⟩
      simp only [Act.put, List.setIfInBounds_toArray, List.set_cons_zero, List.set_cons_succ]
      refine one_ (i := 6) (N := (some 40)) #[true, true, true, true, true, true, true, false] rfl rfl (by kernel_rfl) (by simp) (fun K hK => ?_)
      refine ev_build (by rfl) rfl [.string (bs wRef), .string (bs (hexs u.id)), .string (bs (u.name))] 9 1 3 (by first | (go_simp; done) | (go_simp; exact ⟨rfl, rfl⟩)) rfl (by decide) ?_
      intro g7 W7 hown7 hb7
      refine hK _ _ (⟨hHeld.1.below hb7, hHeld.2.call hb7⟩) (fun hHeld => ?_)
      simp only [Act.put, List.setIfInBounds_toArray, List.set_cons_zero, List.set_cons_succ]
      refine last_ (i := 7) (N := (some 41)) #[true, true, true, true, true, true, true, true] rfl rfl (by kernel_rfl) (by simp) (fun K hK => ?_)
      refine goes_ Tryz.func25 (by kernel_rfl) rfl #[.pointer (some ⟨W0.heap.size, 0, none⟩), .slice (some ⟨g7, 0, none⟩) 3 3] (by rfl) rfl rfl (by first | rfl | simp [Act.eval]) ?_
      refine (words25_any W0.heap.size W0.heap.size Lk [wRef, hexs u.id, u.name] _ 3 _ hHeld.1 (Rd.of_own hown7) (by simp) (by first | omega | (simp; done)) (by simp) (by have := join3_len wRef (hexs u.id) (u.name); simp only [List.length_cons, List.length_nil] at this; omega)).mono ?_
      rintro e wn ⟨rfl, hwn, hbn'⟩
      have hbn := hbel.trans ((hHeld.2.below.mono (Nat.le_of_lt hltg)).trans hbn')
      refine ⟨_, rfl, hK _ _ ?_⟩
      simp only [Act.put, List.setIfInBounds_toArray, List.set_cons_zero, List.set_cons_succ]
      refine done_ (by kernel_rfl) ?_
      go_wp2
      go_roundw
      case rel => exact ⟨k + 1, by omega, by go_num, by rw [hnx.out, HLk.out]; exact hwn, hbn⟩
      case measure => simp [intOf]; omega
    · skip
      obtain rfl : k = r.refs.length := by omega
      rw [List.take_length, H3.out] at hwr
      obtain ⟨w3, hw3e⟩ : ∃ w3, w3 = wr := ⟨_, rfl⟩
      subst hw3e
      have hw3 := hwr
      have hb3 := hbel
      have hbx3 := hbx0.call hb3
      clear hwr hbel
      obtain ⟨L4, H4⟩ : ∃ L, Hid (L3 ++ idPks wAck r.acks = L) := ⟨_, Lib.hid rfl⟩
      have l4 : L4.length ≤ 466 := by rw [← H4.out, List.length_append]; rw [idPks_len]; omega
      have c3 := hbx3.cell 4 _ K4.out
      go_wp2_with fail
      refine (ids28_any W0.heap.size W0.heap.size L3 wAck r.acks a.a4 a.c4 w3 hw3 HQ1.out.iAcks.2 (by decide) (by omega) (by omega) W0 hb3 HQ1.out.acks rfl).mono ?_
      rintro e w4 ⟨rfl, hw4, hb4'⟩
      have hb4 := hb4'
      have hbx4 := hbx0.call hb4
      have hw4 : Wr W0.heap.size W0.heap.size w4 L4 := by rw [← H4.out]; exact hw4
      clear c3
      obtain ⟨L5, H5⟩ : ∃ L, Hid (L4 ++ onePks r.ready wReady = L) := ⟨_, Lib.hid rfl⟩
      have l5 : L5.length ≤ 467 := by rw [← H5.out, List.length_append]; have := onePks_len r.ready wReady; omega
      have c4 := hbx4.cell 7 _ K7.out
      go_upto_if 48 with (fail)
      go_cut [] (fun wx => Wr W0.heap.size W0.heap.size wx L5 ∧ Below W0.heap.size W0 wx)
      case first =>
        cases hz : r.ready with
        | true =>
          have hl : Hid (L4 ++ [⟨0, Lib.join [wReady] [32]⟩] = L5) := Lib.hid (by rw [← H5.out, hz, join_one]; rfl)
          clear hz
          go_wp2_with (first | (go_at_call 25; refine (words25_any W0.heap.size W0.heap.size L4 [wReady] _ 1 _ (hw4.below (Below.alloc (Below.refl _ _) (Nat.le_refl _) _)) (fun _ => ⟨_, _, rfl, rangeAt_new w4 [.string (bs wReady)] 9⟩) (by simp) (by omega) (by simp) (by rw [join_one]; decide)).mono ?_; rintro e wz ⟨rfl, hwz, hbz⟩; rw [hl.out] at hwz))
          go_meet
          exact ⟨hwz, (below_alloc hb4 _).trans hbz⟩
        | false =>
          have hl : L5 = L4 := by rw [← H5.out, hz]; exact List.append_nil _
          clear hz
          go_wp2
          go_meet
          exact ⟨by rw [hl]; exact hw4, hb4⟩
      case rest =>
        clear c4
        obtain ⟨w5, hw5e⟩ : ∃ x, x = wc := ⟨_, rfl⟩
        subst hw5e
        obtain ⟨hw5, hb5⟩ := hcut
        have hbx5 := hbx0.call hb5
        obtain ⟨L6, H6⟩ : ∃ L, Hid (L5 ++ sizePks sz r.sum = L) := ⟨_, Lib.hid rfl⟩
        have l6 : L6.length ≤ 468 := by rw [← H6.out, List.length_append]; have := sizePks_len sz r.sum; omega
        have c5 := hbx5.cell 9 _ K9.out
        rw [Hsz.out] at c5
        obtain ⟨z, Hz⟩ : ∃ z, Hid (decide (0 < (sz : Int)) = z) := ⟨_, Lib.hid rfl⟩
        go_upto_if 54 with (first | (refine wpList_run rfl (op_gtr _ _ _ _ _ _ _ _ _ _ _ (sz : Int) 0 z Hz.out rfl rfl) ?_))
        simp only [Act.put, List.setIfInBounds_toArray, List.set_cons_zero, List.set_cons_succ]
        go_cut [] (fun wx => Wr W0.heap.size W0.heap.size wx L6 ∧ Below W0.heap.size W0 wx)
        case first =>
          cases z with
          | true =>
            have hl : Hid (L5 ++ [⟨0, Lib.join [wSize, Lib.decDigits sz, hexs r.sum] [32]⟩] = L6) := Lib.hid (by rw [← H6.out, sizePks, if_neg (by have := of_decide_eq_true Hz.out; omega)])
            have hxs : (hexs r.sum).length = 64 := by rw [hexs_length, HSum.out]
            try go_wp2
            refine start_ (n := 9) (S := (fun V => Wr W0.heap.size W0.heap.size V L5 ∧ Below W0.heap.size W0 V)) (ds := [8]) #[false, false, false, false, false, false, false, false, false] (by kernel_rfl) rfl rfl (⟨hw5.drew', below_drew hb5⟩) (fun hHeld => ?_)
            refine pure_ (i := 0) (N := (some 55)) (v := ?_) (a' := ?_) #[true, false, false, false, false, false, false, false, false] rfl rfl (by kernel_rfl) (fun _ _ _ h => h) (Or.inl ⟨by rfl, ?_⟩) ?_ ?_
            rotate_left
            · intro w'
              go_simp
              with_reducible rfl
            rotate_left
            · simp only [Act.put, List.setIfInBounds_toArray, List.set_cons_zero, List.set_cons_succ]
              rfl
            refine pure_ (i := 1) (N := (some 56)) (v := ?_) (a' := ?_) #[true, true, false, false, false, false, false, false, false] rfl rfl (by kernel_rfl) (fun _ _ _ h => h) (Or.inl ⟨by rfl, ?_⟩) ?_ ?_
            rotate_left
            · intro w'
              go_simp
              with_reducible rfl
            rotate_left
            · simp only [Act.put, List.setIfInBounds_toArray, List.set_cons_zero, List.set_cons_succ]
              rfl
            refine take_ (i := 2) (N := (some 57)) (v := ?_) (a' := ?_) #[true, true, true, false, false, false, false, false, false] rfl rfl (by kernel_rfl) (fun _ _ _ h => h) (Or.inl ⟨by rfl, ?_⟩) hHeld ?_ ?_
            rotate_left
            · intro w' hS'
              have h1 := (hbx0.call hS'.2).cell 9 _ K9.out
              rw [Hsz.out] at h1
              go_simp
              with_reducible rfl
            rotate_left
            · simp only [Act.put, List.setIfInBounds_toArray, List.set_cons_zero, List.set_cons_succ]
              rfl
            refine pure_ (i := 4) (N := (some 59)) (v := ?_) (a' := ?_) #[true, true, true, false, true, false, false, false, false] rfl rfl (by kernel_rfl) (fun _ _ _ h => h) (Or.inl ⟨by rfl, ?_⟩) ?_ ?_
            rotate_left
            · intro w'
              go_simp
              with_reducible rfl
            rotate_left
            · simp only [Act.put, List.setIfInBounds_toArray, List.set_cons_zero, List.set_cons_succ]
              rfl
            refine take_ (i := 5) (N := (some 60)) (v := ?_) (a' := ?_) #[true, true, true, false, true, true, false, false, false] rfl rfl (by kernel_rfl) (fun _ _ _ h => h) (Or.inl ⟨by rfl, ?_⟩) hHeld ?_ ?_
            rotate_left
            · intro w' hS'
              refine op_load_mid _ _ _ _ _ _ _ _ 41 w.heap.size 10 (idc r.sum) _ ?_ ((hbx0.call hS'.2).range 10 (idc r.sum) KS.out) und41 rfl (by rw [idc_length, HSum.out]; exact info41)
              rfl
            rotate_left
            · simp only [Act.put, List.setIfInBounds_toArray, List.set_cons_zero, List.set_cons_succ]
              rfl
            refine one_ (i := 3) (N := (some 58)) #[true, true, true, true, true, true, false, false, false] rfl rfl (by kernel_rfl) (by simp) (fun K hK => ?_)
            refine goes_ Tryz.func26 (by kernel_rfl) rfl #[.int .i64 (sz : Int)] (by rfl) rfl rfl (by first | rfl | simp [Act.eval]) ?_
            refine (itoa26_any sz (by omega) _ (HE.out.below hHeld.2)).mono ?_
            rintro e w1 ⟨rfl, hb⟩
            refine ⟨_, rfl, hK _ _ (⟨hHeld.1.below hb, below_call hHeld.2 hb⟩) (fun hHeld => ?_)⟩
            simp only [Act.put, List.setIfInBounds_toArray, List.set_cons_zero, List.set_cons_succ]
            refine one_ (i := 6) (N := (some 61)) #[true, true, true, true, true, true, true, false, false] rfl rfl (by kernel_rfl) (by simp) (fun K hK => ?_)
            refine goes_ Tryz.func30 (by kernel_rfl) rfl #[.agg (idv r.sum)] (by rfl) rfl rfl (by first | rfl | simp [Act.eval]) ?_
            refine (hex_any r.sum HSum.out _).mono ?_
            rintro e w1 ⟨rfl, hb⟩
            refine ⟨_, rfl, hK _ _ (⟨hHeld.1.below hb, below_call hHeld.2 hb⟩) (fun hHeld => ?_)⟩
            simp only [Act.put, List.setIfInBounds_toArray, List.set_cons_zero, List.set_cons_succ]
            refine one_ (i := 7) (N := (some 62)) #[true, true, true, true, true, true, true, true, false] rfl rfl (by kernel_rfl) (by simp) (fun K hK => ?_)
            refine ev_build (by rfl) rfl [.string (bs wSize), .string (bs (Lib.decDigits sz)), .string (bs (hexs r.sum))] 9 1 3 (by first | (go_simp; done) | (go_simp; exact ⟨rfl, rfl⟩)) rfl (by decide) ?_
            intro g7 W7 hown7 hb7
            refine hK _ _ (⟨hHeld.1.below hb7, below_call hHeld.2 hb7⟩) (fun hHeld => ?_)
            simp only [Act.put, List.setIfInBounds_toArray, List.set_cons_zero, List.set_cons_succ]
            refine last_ (i := 8) (N := (some 63)) #[true, true, true, true, true, true, true, true, true] rfl rfl (by kernel_rfl) (by simp) (fun K hK => ?_)
            refine goes_ Tryz.func25 (by kernel_rfl) rfl #[.pointer (some ⟨W0.heap.size, 0, none⟩), .slice (some ⟨g7, 0, none⟩) 3 3] (by rfl) rfl rfl (by first | rfl | simp [Act.eval]) ?_
            refine (words25_any W0.heap.size W0.heap.size L5 [wSize, Lib.decDigits sz, hexs r.sum] _ 3 _ hHeld.1 (Rd.of_own hown7) (by simp) (by first | omega | (simp; done)) (by simp) (by have := join3_len wSize (Lib.decDigits sz) (hexs r.sum); simp only [List.length_cons, List.length_nil] at this; omega)).mono ?_
            rintro e wz ⟨rfl, hwz, hbz'⟩
            have hbz := hHeld.2.trans hbz'
            refine ⟨_, rfl, hK _ _ ?_⟩
            simp only [Act.put, List.setIfInBounds_toArray, List.set_cons_zero, List.set_cons_succ]
            refine done_ (by kernel_rfl) ?_
            rw [hl.out] at hwz
            go_wp2
            go_meet
            exact ⟨hwz, hbz⟩
          | false =>
            have hl : L6 = L5 := by rw [← H6.out, sizePks, if_pos (by have := of_decide_eq_false Hz.out; omega)]; exact List.append_nil _
            go_wp2
            go_meet
            exact ⟨by rw [hl]; exact hw5, hb5⟩
        case rest =>
          clear c5
          obtain ⟨w6, hw6e⟩ : ∃ x, x = wc := ⟨_, rfl⟩
          subst hw6e
          obtain ⟨hw6, hb6⟩ := hcut
          have hbx6 := hbx0.call hb6
          obtain ⟨L7, H7⟩ : ∃ L, Hid (L6 ++ idPks wShallow r.shallow = L) := ⟨_, Lib.hid rfl⟩
          have l7 : L7.length ≤ 868 := by rw [← H7.out, List.length_append]; rw [idPks_len]; omega
          have c6 := hbx6.cell 5 _ K5.out
          go_wp2_with fail
          refine (ids28_any W0.heap.size W0.heap.size L6 wShallow r.shallow a.a5 a.c5 w6 hw6 HQ1.out.iShallow.2 (by decide) (by omega) (by omega) W0 hb6 HQ1.out.shallow rfl).mono ?_
          rintro e w7 ⟨rfl, hw7, hb7'⟩
          have hb7 := hb7'
          have hbx7 := hbx0.call hb7
          have hw7 : Wr W0.heap.size W0.heap.size w7 L7 := by rw [← H7.out]; exact hw7
          clear c6
          obtain ⟨L8, H8⟩ : ∃ L, Hid (L7 ++ idPks wDeep r.deep = L) := ⟨_, Lib.hid rfl⟩
          have l8 : L8.length ≤ 1268 := by rw [← H8.out, List.length_append]; rw [idPks_len]; omega
          have c7 := hbx7.cell 6 _ K6.out
          go_wp2_with fail
          refine (ids28_any W0.heap.size W0.heap.size L7 wDeep r.deep a.a6 a.c6 w7 hw7 HQ1.out.iDeep.2 (by decide) (by omega) (by omega) W0 hb7 HQ1.out.deep rfl).mono ?_
          rintro e w8 ⟨rfl, hw8, hb8'⟩
          have hb8 := hb8'
          have hbx8 := hbx0.call hb8
          have hw8 : Wr W0.heap.size W0.heap.size w8 L8 := by rw [← H8.out]; exact hw8
          clear c7
          have c8 := hbx8.cell 42 _ K42.out
          obtain ⟨L9, H9⟩ : ∃ L, Hid (L8 ++ toldPks (r.told.map Int.toNat) = L) := ⟨_, Lib.hid rfl⟩
          have l9 : L9.length ≤ 1332 := by rw [← H9.out, List.length_append]; rw [toldPks_len, List.length_map]; omega
          go_wp2_with fail
          go_loopw [75] (fun i wr => ∃ k : Nat, k ≤ r.told.length ∧ i = .int .i64 k ∧ Wr W0.heap.size W0.heap.size wr (L8 ++ toldPks ((r.told.take k).map Int.toNat)) ∧ Below W0.heap.size W0 wr) (fun i _ => r.told.length - (intOf i).toNat)
          case atStart => exact ⟨0, by omega, rfl, by simpa [toldPks] using hw8, hb8⟩
          case round =>
            obtain ⟨k, hk, rfl, hwr, hbel⟩ := hrel
            have hltg := hwr.lt
            clear c8
            by_cases hlt : k < r.told.length
            · skip
              obtain ⟨b1, o1, t0, e1, c1, hs1⟩ := Rd.intN (HQ1.out.below hbel).told k hlt
              rw [e1]
              have ht0 := List.all_eq_true.1 HK.out.told t0 (List.mem_of_getElem? hs1)
              rw [inR, Bool.and_eq_true, decide_eq_true_eq, decide_eq_true_eq] at ht0
              obtain ⟨tn, rfl⟩ := Int.eq_ofNat_of_zero_le ht0.1
              have htn : tn ≤ 99 := by omega
              have dt := dec_len7 (n := tn) (by omega)
              have hnx : Hid (L8 ++ toldPks ((r.told.take (k + 1)).map Int.toNat) = (L8 ++ toldPks ((r.told.take k).map Int.toNat)) ++ [⟨0, Lib.join [wTold, Lib.decDigits tn] [32]⟩]) := by
                obtain ⟨hk2, hs2⟩ := List.getElem?_eq_some_iff.1 hs1
                refine Lib.hid ?_
                rw [List.take_succ_eq_append_getElem hk2, hs2, join_cons2, join_one]
                simp [toldPks]
              have hlk : (L8 ++ toldPks ((r.told.take k).map Int.toNat)).length ≤ 2000 := by rw [List.length_append, toldPks_len, List.length_map, List.length_take]; omega
              clear hs1 ht0
              obtain ⟨Lk, HLk⟩ : ∃ L, Hid (L8 ++ toldPks ((r.told.take k).map Int.toNat) = L) := ⟨_, Lib.hid rfl⟩
              rw [HLk.out] at hlk hwr
              have hj2 : (Lib.join [wTold, Lib.decDigits tn] [32]).length ≤ 100000 := by rw [join_cons2, join_one]; simp; omega
              go_wp2_with fail
              refine (itoa26_any tn (by omega) _ (HE.out.below hbel)).mono ?_
              rintro e wa ⟨rfl, hba⟩
              have hwa := hwr.below hba
              have hsa := hwa.lt
              go_wp2_with (first | (go_at_call 25; refine (words25_any W0.heap.size W0.heap.size Lk [wTold, Lib.decDigits tn] _ 2 _ (hwa.below (Below.alloc (Below.refl _ _) (Nat.le_refl _) _)) (fun _ => ⟨_, _, rfl, rangeAt_new wa [.string (bs wTold), .string (bs (Lib.decDigits tn))] 9⟩) (by simp) (by omega) (by simp) hj2).mono ?_; rintro e wz ⟨rfl, hwz, hbz⟩))
              go_roundw
              case rel => exact ⟨k + 1, by omega, by go_num, by rw [hnx.out, HLk.out]; exact hwz, (below_alloc (below_call hbel hba) _).trans hbz⟩
              case measure => simp [intOf]; omega
            · skip
              obtain rfl : k = r.told.length := by omega
              rw [List.take_length, H9.out] at hwr
              obtain ⟨w9, hw9e⟩ : ∃ w9, w9 = wr := ⟨_, rfl⟩
              subst hw9e
              have hw9 := hwr
              have hb9 := hbel
              have hbx9 := hbx0.call hb9
              clear hwr hbel
              obtain ⟨L10, H10⟩ : ∃ L, Hid (L9 ++ onePks r.band wBand = L) := ⟨_, Lib.hid rfl⟩
              have l10 : L10.length ≤ 1333 := by rw [← H10.out, List.length_append]; have := onePks_len r.band wBand; omega
              have c9 := hbx9.cell 8 _ K8.out
              go_upto_if 86 with (fail)
              go_cut [] (fun wx => Wr W0.heap.size W0.heap.size wx L10 ∧ Below W0.heap.size W0 wx)
              case first =>
                cases hz : r.band with
                | true =>
                  have hl : Hid (L9 ++ [⟨0, Lib.join [wBand] [32]⟩] = L10) := Lib.hid (by rw [← H10.out, hz, join_one]; rfl)
                  clear hz
                  go_wp2_with (first | (go_at_call 25; refine (words25_any W0.heap.size W0.heap.size L9 [wBand] _ 1 _ (hw9.below (Below.alloc (Below.refl _ _) (Nat.le_refl _) _)) (fun _ => ⟨_, _, rfl, rangeAt_new w9 [.string (bs wBand)] 9⟩) (by simp) (by omega) (by simp) (by rw [join_one]; decide)).mono ?_; rintro e wz ⟨rfl, hwz, hbz⟩; rw [hl.out] at hwz))
                  go_meet
                  exact ⟨hwz, (below_alloc hb9 _).trans hbz⟩
                | false =>
                  have hl : L10 = L9 := by rw [← H10.out, hz]; exact List.append_nil _
                  clear hz
                  go_wp2
                  go_meet
                  exact ⟨by rw [hl]; exact hw9, hb9⟩
              case rest =>
                clear c9
                obtain ⟨w10, hw10e⟩ : ∃ x, x = wc := ⟨_, rfl⟩
                subst hw10e
                obtain ⟨hw10, hb10⟩ := hcut
                have hbx10 := hbx0.call hb10
                obtain ⟨d, Hd⟩ : ∃ d, Hid ((!(r.data ++ r.note == [])) = d) := ⟨_, Lib.hid rfl⟩
                obtain ⟨L11, H11⟩ : ∃ L, Hid (L10 ++ delimP d = L) := ⟨_, Lib.hid rfl⟩
                have l11 : L11.length ≤ 1334 := by rw [← H11.out, List.length_append]; have := delimP_len d; omega
                have c10 := hbx10.cell 43 _ K43.out
                have c10b := hbx10.cell 44 _ K44.out
                have hHead : Hid (tellHead r = L10) := Lib.hid (by rw [← H10.out, ← H9.out, ← H8.out, ← H7.out, ← H6.out, ← H5.out, ← H4.out, ← H3.out, ← H2.out, ← H1.out, tellHead, Top.out, Ter.out, Tsz.out])
                go_upto_if 95 with (first | (refine wpList_run rfl (op_concat _ _ _ _ _ _ _ _ _ _ r.data r.note rfl rfl (by omega)) ?_) | (refine wpList_run rfl (op_str_neqB _ _ _ _ _ _ _ _ _ _ (r.data ++ r.note) [] d Hd.out rfl rfl) ?_))
                simp only [Act.put, List.setIfInBounds_toArray, List.set_cons_zero, List.set_cons_succ]
                go_cut [] (fun wx => Wr W0.heap.size W0.heap.size wx L11 ∧ Below W0.heap.size W0 wx)
                case first =>
                  cases d with
                  | true =>
                    have hl : Hid (L10 ++ [⟨2, []⟩] = L11) := Lib.hid (by rw [← H11.out]; rfl)
                    have hltg := hw10.lt
                    obtain ⟨-, v, hg, ho⟩ := hw10
                    have hc0 : w10.cell? ⟨W0.heap.size, 0, none⟩ = some v := by rw [cell_of_row w10 W0.heap.size 0 #[v] 65 (0, 0) hg]; rfl
                    have hsz10 := hb10.size
                    have HG := Lib.hid hg
                    have HO := Lib.hid ho
                    have HO2 := Lib.hid (own_below ho (Below.alloc (Below.refl w10.heap.size w10) (Nat.le_refl _) (.cells #[.int .i64 2, .string (bs [])] 73)))
                    clear hg ho
                    go_wp2_with (first
                      | (refine wpList_append rfl (.tmp 100) (.tmp 102) 63 rfl W0.heap.size 73 (.agg #[.int .i64 0, .string ⟨#[]⟩]) 2 24 und63 info73 rfl (by decide) v L10.length (pksc L10) rfl HO2.out ⟨w10.heap.size, 0, none⟩ 1 1 [.int .i64 2, .string (bs [])] rfl rfl (news_new w10 _ 73) ?_ ?_ ?_ ?_ ?_))
                    · intro u hu; simp at hu; rcases hu with rfl | rfl <;> rfl
                    · unfold maxLen; omega
                    · omega
                    · simp; omega
                    intro v9 W9 hown9 hgr9
                    have hg9 : W9.heap[W0.heap.size]? = some (.cells #[v] 65 (0, 0)) := (hgr9.block W0.heap.size (by simp; omega) (fun e => own_ne HG.out HO.out e.symm)).trans ((heap_alloc_old _ _ hltg).trans HG.out)
                    have hbb9 : Below W0.heap.size w10 W9 := ((Below.refl W0.heap.size w10).alloc (by omega) _).grown hgr9 (by simp; omega) (own_base HO.out)
                    have hw12 : Wr W0.heap.size W0.heap.size (W9.setCell ⟨W0.heap.size, 0, none⟩ v9) (L10 ++ [⟨2, []⟩]) := Wr.stored (Nat.le_refl _) hg9 (by simpa [pksc] using hown9)
                    rw [hl.out] at hw12
                    have hb12 : Below W0.heap.size W0 (W9.setCell ⟨W0.heap.size, 0, none⟩ v9) := hb10.trans (hbb9.setCell (Nat.le_refl _) v9)
                    have HG9 := Lib.hid hg9
                    have HV := Lib.hid (own_cells1 hown9)
                    clear hown9 hgr9 hg9
                    go_wp2_with (first
                      | (refine wpList_store1 rfl 63 _ _ rfl W0.heap.size v v9 65 rfl rfl HV.out.1 HV.out.2 HG9.out (by kernel_rfl) rfl ?_))
                    go_meet
                    exact ⟨hw12, hb12⟩
                  | false =>
                    have hl : L11 = L10 := by rw [← H11.out]; exact List.append_nil _
                    go_wp2
                    go_meet
                    exact ⟨by rw [hl]; exact hw10, hb10⟩
                case rest =>
                  clear c10 c10b
                  obtain ⟨w11, hw11e⟩ : ∃ x, x = wc := ⟨_, rfl⟩
                  subst hw11e
                  obtain ⟨hw11, hb11⟩ := hcut
                  have hbx11 := hbx0.call hb11
                  have c11 := hbx11.cell 8 _ K8.out
                  have c11d := hbx11.cell 43 _ K43.out
                  have lb1 := bandPks_len 1 r.data
                  have lb2 := bandPks_len 2 r.note
                  have lc := chunkPks_len r.data
                  obtain ⟨L12, H12⟩ : ∃ L, Hid (L11 ++ tellBody r = L) := ⟨_, Lib.hid rfl⟩
                  have l12 : L12.length ≤ 10000 := by rw [← H12.out, List.length_append, tellBody]; split <;> (try rw [List.length_append]) <;> omega
                  have hft : Hid (tellPks r = L12 ++ [⟨1, []⟩]) := Lib.hid (by rw [tellPks, hHead.out, Hd.out, H11.out, H12.out])
                  have hff : Hid (∀ p ∈ L12, PkFine p) := Lib.hid fun p hp => hfine.out p (by rw [hft.out]; exact List.mem_append_left _ hp)
                  go_upto_if 107 with (fail)
                  go_cut [] (fun wx => Wr W0.heap.size W0.heap.size wx L12 ∧ Below W0.heap.size W0 wx)
                  case first =>
                    cases hz : r.band with
                    | true =>
                      have hl : Hid (L11 ++ (bandPks 1 r.data ++ bandPks 2 r.note) = L12) := Lib.hid (by rw [← H12.out, tellBody, hz]; rfl)
                      have HB50 : Hid (∀ W, Wr W0.heap.size W0.heap.size W L11 → Calls Tryz.prog 50 #[.pointer (some ⟨W0.heap.size, 0, none⟩), .agg cs0.toArray] W fun e W' => e = .returned (.tuple #[]) ∧ Wr W0.heap.size W0.heap.size W' (L11 ++ (bandPks 1 r.data ++ bandPks 2 r.note)) ∧ Below W0.heap.size W W') := Lib.hid fun W h => by have := bands50_any W0.heap.size W0.heap.size L11 r a W h HSum.out n7 n8 (by omega); rwa [Hcs.out] at this
                      have hrg := hbx11.range 0 cs0 (fun j v hj => by rw [Nat.zero_add]; exact hj)
                      clear hz
                      go_wp2_with (first
                        | (refine wpList_load_mid rfl 44 _ rfl w.heap.size 0 rfl cs0 _ hrg und44 rfl (by rw [HLn.out]; exact info44) ?_)
                        | (go_at_call 50; refine (HB50.out _ hw11).mono ?_; rintro e wz ⟨rfl, hwz, hbz⟩; rw [hl.out] at hwz))
                      go_meet
                      exact ⟨hwz, hb11.trans hbz⟩
                    | false =>
                      have hl : Hid (L11 ++ chunkPks r.data = L12) := Lib.hid (by rw [← H12.out, tellBody, hz]; rfl)
                      clear hz
                      go_wp2_with fail
                      refine (data31_any W0.heap.size W0.heap.size L11 r.data _ hw11 (by omega) (by omega)).mono ?_
                      rintro e wz ⟨rfl, hwz, hbz⟩
                      rw [hl.out] at hwz
                      go_wp2
                      go_meet
                      exact ⟨hwz, hb11.trans hbz⟩
                  case rest =>
                    obtain ⟨w12, hw12e⟩ : ∃ x, x = wc := ⟨_, rfl⟩
                    subst hw12e
                    obtain ⟨hw12, hb12⟩ := hcut
                    have hbx12 := hbx0.call hb12
                    go_wp2_with fail
                    refine (end32_any W0.heap.size W0.heap.size L12 _ hw12 (by omega) hff.out).mono ?_
                    rintro e x2 ⟨rfl, hy2⟩
                    go_wp2
                    go_ret2
                    exact ⟨by rw [tellT, hft.out]; rfl, (hbx0.below).trans ((hb12.trans hy2).mono (by omega))⟩
end Go.Proofs.YtmfpmedkhlhnpaaGreatDoor
