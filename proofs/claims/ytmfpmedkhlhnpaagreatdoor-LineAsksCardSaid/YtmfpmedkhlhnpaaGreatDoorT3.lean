import Derived.Test.YtmfpmedkhlhnpaaGreatDoorT2
/- function 3: the law LineAsks. -/
namespace Go.Proofs.YtmfpmedkhlhnpaaGreatDoor
open Go.RowKit Go.Extern.Stop Go.Proofs.YtmfpmedkhlhnpaaGreatDoorW.PrintLast
set_option maxRecDepth 100000
set_option linter.unusedSimpArgs false
set_option linter.unusedVariables false
theorem IsReq.fit {w : World} {r : Req} {a : ReqA} (h : IsReq w r a) : ReqFit r := ⟨h.iWants.2, h.iHaves.2, h.iCommon.2, h.iShallow.2, h.iUpd⟩
theorem askT_len {r : Req} (hB : asksB r = true) (hF : FewOk r) (hf : ReqFit r) : (askT r).length ≤ 100000 := by
  have hok := askOk_of hB
  have n1 := hok.hop
  have n2 := hok.hses
  have n3 := hok.hdep
  have n4 := hok.hpla
  have n5 := hok.nCaps
  have n10 := hok.nUpd
  have n11 := hok.nData
  have m1 := hF.wants
  have m2 := hF.haves
  have m3 := hF.common
  have m4 := hF.shallow
  have l1 := capsLine_len r.caps n5 hok.lCaps
  have l2 := idLines_len [119, 97, 110, 116] (by decide) r.wants hf.wants
  have l3 := idLines_len [104, 97, 118, 101] (by decide) r.haves hf.haves
  have l4 := idLines_len [99, 111, 109, 109, 111, 110] (by decide) r.common hf.common
  have l5 := idLines_len [115, 104, 97, 108, 108, 111, 119] (by decide) r.shallow hf.shallow
  have l6 := opLine_len r.op.toNat r.session.toNat (by omega) (by omega)
  have l7 := numLine_len [100, 101, 112, 116, 104] (by decide) r.depth.toNat (by omega)
  have l8 := numLine_len [97, 116] (by decide) r.place.toNat (by omega)
  have l9 := updLines_len r.updates hf.updates hok.lUpd
  have l10 := pieces_len r.data
  have l11 : (delim r.data).length ≤ 4 := by rw [delim]; split <;> simp
  rw [askT, askText, askHead]
  simp only [List.length_append, List.length_cons, List.length_nil]
  omega
theorem asked_self {r : Req} (hB : asksB r = true) (hf : ReqFit r) : askedQ (askT r) = r ∧ askedE (askT r) = 0 := by
  have hr := read_ask hB hf
  have hc : asksB (readText (askT r)) = true ∧ askT (readText (askT r)) = askT r := by rw [hr]; exact ⟨hB, rfl⟩
  exact ⟨by rw [askedQ, if_pos hc, hr], by rw [askedE, if_pos hc]⟩
set_option maxHeartbeats 4000000 in
theorem lineAsks_walk (r : Req) (a : ReqA) (w : World) (hE : Env w) (hq : IsReq w r a) (hca : r.caps.length ≤ a.c2) :
    Calls Tryz.prog 3 #[.agg (reqc r a).toArray] w fun e w' => e = .returned (.bool true) ∧ Below w.heap.size w w' := by
  have HE := Lib.hid hE
  have HQ := Lib.hid hq
  have hfit := Lib.hid hq.fit
  have hbx0 := Boxed.start w (reqc r a) 26
  have HX := Lib.hid hbx0
  have HW : Hid (∀ V, Boxed w (reqc r a) 26 V → V.rangeAt w.heap.size 0 (reqc r a)) := Lib.hid fun V h => h.range 0 (reqc r a) (fun j v hj => by rw [Nat.zero_add]; exact hj)
  clear hE hq
  go_enter Tryz.func3, Tryz.ntmps3
  go_wp2_with (first | (refine wpList_load_mid rfl 26 _ rfl w.heap.size 0 rfl (reqc r a) _ (HW.out _ HX.out) und26 rfl info26 ?_))
  refine (few6_any r a _ (HQ.out.below hbx0.below)).mono ?_
  rintro e W1 ⟨⟨bb, rfl, hbb⟩, hb1⟩
  have HX1 := Lib.hid (hbx0.call hb1)
  have HE1 := Lib.hid (HE.out.below HX1.out.below)
  clear hbx0 hb1
  cases bb with
  | false =>
    go_wp2_with fail
    refine (knows7_any _ HE1.out).mono ?_
    rintro e W2 ⟨rfl, hb2⟩
    go_wp2
    go_ret
    exact ⟨rfl, (HX1.out.call hb2).below⟩
  | true =>
    have HF := Lib.hid (hbb rfl)
    clear hbb
    cases hB : asksB r with
    | false =>
      have HB := Lib.hid hB
      clear hB
      go_wp2_with (first | (refine wpList_load_mid rfl 26 _ rfl w.heap.size 0 rfl (reqc r a) _ (HW.out _ HX1.out) und26 rfl info26 ?_))
      refine (ask8_no r a _ (HQ.out.below HX1.out.below) HB.out).mono ?_
      rintro e W2 ⟨rfl, hb2⟩
      have HX2 := Lib.hid (HX1.out.call hb2)
      clear hb2
      go_wp2_with (first | (refine wpList_load_mid rfl 26 _ rfl w.heap.size 0 rfl (reqc r a) _ (HW.out _ HX2.out) und26 rfl info26 ?_))
      refine (as10_any r a _).mono ?_
      rintro e W3 ⟨rfl, hb3⟩
      have HX3 := Lib.hid (HX2.out.call hb3)
      clear hb3
      go_wp2_with fail
      refine (asks9_any r a _ (HQ.out.below HX3.out.below)).mono ?_
      rintro e W4 ⟨rfl, hb4⟩
      rw [HB.out]
      have HX4 := Lib.hid (HX3.out.call hb4)
      clear hb4
      go_wp2_with fail
      refine (knows7_any _ (HE.out.below HX4.out.below)).mono ?_
      rintro e W5 ⟨rfl, hb5⟩
      have HX5 := Lib.hid (HX4.out.call hb5)
      clear hb5
      go_wp2_with (first | (refine wpList_runG (by rfl) (op_str_eqlB _ _ _ _ _ _ _ _ _ _ [] [] true rfl rfl rfl) ?_))
      go_ret
      exact ⟨rfl, HX5.out.below⟩
    | true =>
      have HB := Lib.hid hB
      have HT : Hid (askText r r.op.toNat r.session.toNat r.depth.toNat r.place.toNat = askT r) := Lib.hid rfl
      have hlen := askT_len hB HF.out hfit.out
      have HS := Lib.hid (asked_self hB hfit.out)
      obtain ⟨tx, Htx⟩ : ∃ t, Hid (askT r = t) := ⟨_, Lib.hid rfl⟩
      rw [Htx.out] at hlen HS HT
      clear hB
      go_wp2_with (first | (refine wpList_load_mid rfl 26 _ rfl w.heap.size 0 rfl (reqc r a) _ (HW.out _ HX1.out) und26 rfl info26 ?_))
      refine (ask8_any r a _ _ _ _ _ HE1.out (HQ.out.below HX1.out.below) HB.out (askOk_of HB.out) hca).mono ?_
      rintro e W2 ⟨rfl, hb2⟩
      rw [HT.out]
      have HX2 := Lib.hid (HX1.out.call hb2)
      clear hb2
      go_wp2_with (first | (refine wpList_load_mid rfl 26 _ rfl w.heap.size 0 rfl (reqc r a) _ (HW.out _ HX2.out) und26 rfl info26 ?_))
      refine (as10_any r a _).mono ?_
      rintro e W3 ⟨rfl, hb3⟩
      have HX3 := Lib.hid (HX2.out.call hb3)
      clear hb3
      go_wp2_with fail
      refine (asks9_any r a _ (HQ.out.below HX3.out.below)).mono ?_
      rintro e W4 ⟨rfl, hb4⟩
      rw [HB.out]
      have HX4 := Lib.hid (HX3.out.call hb4)
      clear hb4
      go_wp2_with (first | (refine wpList_load_mid rfl 26 _ rfl w.heap.size 0 rfl (reqc r a) _ (HW.out _ HX4.out) und26 rfl info26 ?_))
      refine (as10_any r a _).mono ?_
      rintro e W5 ⟨rfl, hb5⟩
      have HX5 := Lib.hid (HX4.out.call hb5)
      clear hb5
      go_wp2_with fail
      refine (ask11_any r a _ _ _ _ _ (HQ.out.below HX5.out.below) (askOk_of HB.out)).mono ?_
      rintro e W5b ⟨rfl, hb5⟩
      rw [HT.out]
      have HX5b := Lib.hid (HX5.out.call hb5)
      clear hb5
      go_wp2_with fail
      refine (asked12_any tx hlen _ (HE.out.below HX5b.out.below)).mono ?_
      rintro e W6 ⟨⟨a2, rfl, hq62, -, -⟩, hb6⟩
      rw [HS.out.1] at hq62
      rw [HS.out.1, HS.out.2]
      have hX6 := HX5b.out.call hb6
      have hb60 := below_alloc hX6.below (.cells (reqc r a2).toArray 26)
      have hrg6 : (W6.alloc (.cells (reqc r a2).toArray 26)).rangeAt w.heap.size 0 (reqc r a) := HW.out _ (hX6.alloc _)
      replace hq62 := hq62.below (below_alloc (Below.refl _ _) (.cells (reqc r a2).toArray 26))
      have hq6 := (HQ.out.below hX6.below).below (below_alloc (Below.refl _ _) (.cells (reqc r a2).toArray 26))
      clear hb6 hX6
      go_wp2_with (first
        | (refine wpList_run rfl (op_allocZ _ _ _ _ _ _ _ 26 zero26) ?_)
        | (refine wpList_store_new rfl 26 _ _ rfl _ (reqc r a2).toArray rfl rfl info26 (zsize26 _ _) (reqv_one _ _) ?_))
      refine start_ (n := 6) (S := (fun V => V.rangeAt W6.heap.size 0 (reqc r a2) ∧ V.rangeAt w.heap.size 0 (reqc r a) ∧ IsReq V r a2 ∧ IsReq V r a ∧ Below w.heap.size w V)) (ds := []) #[false, false, false, false, false, false] (by kernel_rfl) rfl rfl (⟨rangeAt_new W6 (reqc r a2) 26, hrg6, hq62.below (below_drew (Below.refl _ _)), hq6.below (below_drew (Below.refl _ _)), below_drew hb60⟩) (fun hHeld => ?_)
      refine take_ (i := 0) (N := (some 43)) (v := ?_) (a' := ?_) #[true, false, false, false, false, false] rfl rfl (by kernel_rfl) (fun _ _ _ h => h) (Or.inl ⟨by rfl, ?_⟩) hHeld ?_ ?_
      rotate_left
      · intro w' hS'
        refine op_load_mid _ _ _ _ _ _ _ _ 26 W6.heap.size 0 (reqc r a2) _ ?_ hS'.1 und26 rfl info26
        rfl
      rotate_left
      · simp only [Act.put, List.setIfInBounds_toArray, List.set_cons_zero, List.set_cons_succ]
        rfl
      refine take_ (i := 2) (N := (some 45)) (v := ?_) (a' := ?_) #[true, false, true, false, false, false] rfl rfl (by kernel_rfl) (fun _ _ _ h => h) (Or.inl ⟨by rfl, ?_⟩) hHeld ?_ ?_
      rotate_left
      · intro w' hS'
        refine op_load_mid _ _ _ _ _ _ _ _ 26 w.heap.size 0 (reqc r a) _ ?_ hS'.2.1 und26 rfl info26
        rfl
      rotate_left
      · simp only [Act.put, List.setIfInBounds_toArray, List.set_cons_zero, List.set_cons_succ]
        rfl
      refine one_ (i := 1) (N := (some 44)) #[true, true, true, false, false, false] rfl rfl (by kernel_rfl) (by simp) (fun K hK => ?_)
      refine goes_ Tryz.func10 (by kernel_rfl) rfl #[.agg (reqc r a2).toArray] (by rfl) rfl rfl (by first | rfl | simp [Act.eval]) ?_
      refine (as10_any r a2 _).mono ?_
      rintro e w1 ⟨rfl, hb⟩
      refine ⟨_, rfl, hK _ _ (⟨range_below hHeld.1 hb, range_below hHeld.2.1 hb, hHeld.2.2.1.below hb, hHeld.2.2.2.1.below hb, below_call hHeld.2.2.2.2 hb⟩) (fun hHeld => ?_)⟩
      simp only [Act.put, List.setIfInBounds_toArray, List.set_cons_zero, List.set_cons_succ]
      refine one_ (i := 3) (N := (some 46)) #[true, true, true, true, false, false] rfl rfl (by kernel_rfl) (by simp) (fun K hK => ?_)
      refine goes_ Tryz.func10 (by kernel_rfl) rfl #[.agg (reqc r a).toArray] (by rfl) rfl rfl (by first | rfl | simp [Act.eval]) ?_
      refine (as10_any r a _).mono ?_
      rintro e w1 ⟨rfl, hb⟩
      refine ⟨_, rfl, hK _ _ (⟨range_below hHeld.1 hb, range_below hHeld.2.1 hb, hHeld.2.2.1.below hb, hHeld.2.2.2.1.below hb, below_call hHeld.2.2.2.2 hb⟩) (fun hHeld => ?_)⟩
      simp only [Act.put, List.setIfInBounds_toArray, List.set_cons_zero, List.set_cons_succ]
      refine one_ (i := 4) (N := (some 47)) #[true, true, true, true, true, false] rfl rfl (by kernel_rfl) (by simp) (fun K hK => ?_)
      refine goes_ Tryz.func13 (by kernel_rfl) rfl #[.agg (reqc r a2).toArray, .agg (reqc r a).toArray] (by rfl) rfl rfl (by first | rfl | simp [Act.eval]) ?_
      refine (sameAsk_any r a2 a _ hHeld.2.2.1 hHeld.2.2.2.1).mono ?_
      rintro e w1 ⟨rfl, hb⟩
      refine ⟨_, rfl, hK _ _ (⟨range_below hHeld.1 hb, range_below hHeld.2.1 hb, hHeld.2.2.1.below hb, hHeld.2.2.2.1.below hb, below_call hHeld.2.2.2.2 hb⟩) (fun hHeld => ?_)⟩
      simp only [Act.put, List.setIfInBounds_toArray, List.set_cons_zero, List.set_cons_succ]
      refine pure_ (i := 5) (N := (some 10)) (v := ?_) (a' := ?_) #[true, true, true, true, true, true] rfl rfl (by kernel_rfl) (fun _ _ _ h => h) (Or.inl ⟨by rfl, ?_⟩) ?_ ?_
      rotate_left
      · intro w'
        go_simp
        with_reducible rfl
      rotate_left
      · simp only [Act.put, List.setIfInBounds_toArray, List.set_cons_zero, List.set_cons_succ]
        rfl
      refine done_ (by kernel_rfl) ?_
      have HBf := Lib.hid hHeld.2.2.2.2
      clear hrg6 hq62 hq6 hb60
      go_wp2_with fail
      refine (knows7_any _ (HE.out.below HBf.out)).mono ?_
      rintro e W7 ⟨rfl, hb7⟩
      go_wp2_with (first | (refine wpList_runG (by rfl) (op_str_eqlB _ _ _ _ _ _ _ _ _ _ tx tx true (by simp) rfl rfl) ?_))
      go_ret
      exact ⟨rfl, below_call HBf.out hb7⟩
end Go.Proofs.YtmfpmedkhlhnpaaGreatDoor
