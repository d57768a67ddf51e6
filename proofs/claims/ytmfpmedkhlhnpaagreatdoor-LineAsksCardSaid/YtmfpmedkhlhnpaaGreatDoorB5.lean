import Derived.Test.YtmfpmedkhlhnpaaGreatDoorB3
import Derived.Test.YtmfpmedkhlhnpaaGreatDoorA3
/- what is held against itself: functions 46, 47, 13, 10. -/
namespace Go.Proofs.YtmfpmedkhlhnpaaGreatDoor
open Go.RowKit Go.Extern.Stop Go.Proofs.YtmfpmedkhlhnpaaGreatDoorW.PrintLast
set_option maxRecDepth 100000
set_option linter.unusedSimpArgs false
set_option linter.unusedVariables false
theorem bcell {W w1 : World} (hb : Below W.heap.size W w1) : (∀ b o, b < W.heap.size → w1.cell? ⟨b, o, none⟩ = W.cell? ⟨b, o, none⟩) ∧ (∀ b o, b < W.heap.size → w1.frozen? ⟨b, o, none⟩ = W.frozen? ⟨b, o, none⟩) :=
  ⟨fun b o h => hb.cell (p := ⟨b, o, none⟩) h, fun b o h => hb.frozen (p := ⟨b, o, none⟩) h⟩
set_option maxHeartbeats 1000000 in
theorem same46_any (l : List (List UInt8)) (A B : Option Addr) (ca cb : Nat) (hn : l.length ≤ 9223372036854775807) (hl : ∀ x ∈ l, x.length = 32) (w : World) (hA : Rd w A (idsc l)) (hB : Rd w B (idsc l)) :
    Calls Tryz.prog 46 #[.slice A l.length ca, .slice B l.length cb] w fun e w' => e = .returned (.bool true) ∧ Below w.heap.size w w' := by
  go_enter Tryz.func46, Tryz.ntmps46
  go_wp2
  go_loopw [5] (fun i wr => ∃ k : Nat, k ≤ l.length ∧ i = .int .i64 k ∧ Below w.heap.size w wr) (fun i _ => l.length - (intOf i).toNat)
  case atStart => exact ⟨0, by omega, rfl, Below.refl _ _⟩
  case round =>
    obtain ⟨k, hk, rfl, hbel⟩ := hrel
    by_cases hlt : k < l.length
    · obtain ⟨b1, o1, s, rfl, c1, hs1⟩ := Rd.at (n := 32) (by omega) (hA.below hbel) (fun x hx => by rw [idc_length]; exact hl x hx) k hlt
      obtain ⟨b2, o2, s2, rfl, c2, hs2⟩ := Rd.at (n := 32) (by omega) (hB.below hbel) (fun x hx => by rw [idc_length]; exact hl x hx) k hlt
      obtain rfl : s = s2 := by rw [hs1] at hs2; injection hs2
      have hs32 := hl s (List.mem_of_getElem? hs1)
      clear hs1 hs2
      go_wp2
      refine start_ (n := 9) (S := (fun W => W.rangeAt b1 (o1 + k * 32) (idc s) ∧ W.rangeAt b2 (o2 + k * 32) (idc s))) (ds := []) #[false, false, false, false, false, false, false, false, false] (by kernel_rfl) rfl rfl (⟨fun j v hj => by simpa using c1 j v hj, fun j v hj => by simpa using c2 j v hj⟩) (fun hHeld => ?_)
      refine pure_ (i := 0) (N := (some 17)) (v := ?_) (a' := ?_) #[true, false, false, false, false, false, false, false, false] rfl rfl (by kernel_rfl) (fun _ _ _ h => h) (Or.inl ⟨by rfl, ?_⟩) ?_ ?_
      rotate_left
      · intro w'
        go_simp
        with_reducible rfl
      rotate_left
      · simp only [Act.put, List.setIfInBounds_toArray, List.set_cons_zero, List.set_cons_succ]
        rfl
      refine pure_ (i := 1) (N := (some 18)) (v := ?_) (a' := ?_) #[true, true, false, false, false, false, false, false, false] rfl rfl (by kernel_rfl) (fun _ _ _ h => h) (Or.inl ⟨by rfl, ?_⟩) ?_ ?_
      rotate_left
      · intro w'
        go_simp
        with_reducible rfl
      rotate_left
      · simp only [Act.put, List.setIfInBounds_toArray, List.set_cons_zero, List.set_cons_succ]
        rfl
      refine pure_ (i := 2) (N := (some 19)) (v := ?_) (a' := ?_) #[true, true, true, false, false, false, false, false, false] rfl rfl (by kernel_rfl) (fun _ _ _ h => h) (Or.inl ⟨by rfl, ?_⟩) ?_ ?_
      rotate_left
      · intro w'
        go_simp
        with_reducible rfl
      rotate_left
      · simp only [Act.put, List.setIfInBounds_toArray, List.set_cons_zero, List.set_cons_succ]
        rfl
      refine take_ (i := 3) (N := (some 20)) (v := ?_) (a' := ?_) #[true, true, true, true, false, false, false, false, false] rfl rfl (by kernel_rfl) (fun _ _ _ h => h) (Or.inl ⟨by rfl, ?_⟩) hHeld ?_ ?_
      rotate_left
      · intro w' hS'
        refine op_load_mid _ _ _ _ _ _ _ _ 41 b1 (o1 + k * 32) (idc s) _ ?_ hS'.1 und41 rfl (by rw [idc_length, hs32]; exact info41)
        rfl
      rotate_left
      · simp only [Act.put, List.setIfInBounds_toArray, List.set_cons_zero, List.set_cons_succ]
        rfl
      refine pure_ (i := 4) (N := (some 21)) (v := ?_) (a' := ?_) #[true, true, true, true, true, false, false, false, false] rfl rfl (by kernel_rfl) (fun _ _ _ h => h) (Or.inl ⟨by rfl, ?_⟩) ?_ ?_
      rotate_left
      · intro w'
        go_simp
        with_reducible rfl
      rotate_left
      · simp only [Act.put, List.setIfInBounds_toArray, List.set_cons_zero, List.set_cons_succ]
        rfl
      refine pure_ (i := 5) (N := (some 22)) (v := ?_) (a' := ?_) #[true, true, true, true, true, true, false, false, false] rfl rfl (by kernel_rfl) (fun _ _ _ h => h) (Or.inl ⟨by rfl, ?_⟩) ?_ ?_
      rotate_left
      · intro w'
        go_simp
        with_reducible rfl
      rotate_left
      · simp only [Act.put, List.setIfInBounds_toArray, List.set_cons_zero, List.set_cons_succ]
        rfl
      refine pure_ (i := 6) (N := (some 23)) (v := ?_) (a' := ?_) #[true, true, true, true, true, true, true, false, false] rfl rfl (by kernel_rfl) (fun _ _ _ h => h) (Or.inl ⟨by rfl, ?_⟩) ?_ ?_
      rotate_left
      · intro w'
        go_simp
        with_reducible rfl
      rotate_left
      · simp only [Act.put, List.setIfInBounds_toArray, List.set_cons_zero, List.set_cons_succ]
        rfl
      refine take_ (i := 7) (N := (some 24)) (v := ?_) (a' := ?_) #[true, true, true, true, true, true, true, true, false] rfl rfl (by kernel_rfl) (fun _ _ _ h => h) (Or.inl ⟨by rfl, ?_⟩) hHeld ?_ ?_
      rotate_left
      · intro w' hS'
        refine op_load_mid _ _ _ _ _ _ _ _ 41 b2 (o2 + k * 32) (idc s) _ ?_ hS'.2 und41 rfl (by rw [idc_length, hs32]; exact info41)
        rfl
      rotate_left
      · simp only [Act.put, List.setIfInBounds_toArray, List.set_cons_zero, List.set_cons_succ]
        rfl
      refine pure_ (i := 8) (N := (some 25)) (v := ?_) (a' := ?_) #[true, true, true, true, true, true, true, true, true] rfl rfl (by kernel_rfl) (fun _ _ _ h => h) (Or.inl ⟨by rfl, ?_⟩) ?_ ?_
      rotate_left
      · intro w'
        refine op_neq41_same _ _ _ _ _ _ _ _ _ _ s hs32 ?_ ?_
        rfl
        rfl
      rotate_left
      · simp only [Act.put, List.setIfInBounds_toArray, List.set_cons_zero, List.set_cons_succ]
        rfl
      refine done_ (by kernel_rfl) ?_
      go_wp2
      go_roundw
      case rel => exact ⟨k + 1, by omega, by go_num, below_drew hbel⟩
      case measure => simp [intOf]; omega
    · obtain rfl : k = l.length := by omega
      go_wp2
      go_ret
      exact ⟨rfl, hbel⟩
set_option maxHeartbeats 1000000 in
theorem same47_any (l : List Upd) (A B : Option Addr) (ca cb : Nat) (hn : l.length ≤ 9223372036854775807) (hl : ∀ x ∈ l, x.ok) (w : World) (hA : Rd w A (updsc l)) (hB : Rd w B (updsc l)) :
    Calls Tryz.prog 47 #[.slice A l.length ca, .slice B l.length cb] w fun e w' => e = .returned (.bool true) ∧ Below w.heap.size w w' := by
  go_enter Tryz.func47, Tryz.ntmps47
  go_wp2
  go_loopw [5] (fun i wr => ∃ k : Nat, k ≤ l.length ∧ i = .int .i64 k ∧ Below w.heap.size w wr) (fun i _ => l.length - (intOf i).toNat)
  case atStart => exact ⟨0, by omega, rfl, Below.refl _ _⟩
  case round =>
    obtain ⟨k, hk, rfl, hbel⟩ := hrel
    by_cases hlt : k < l.length
    · obtain ⟨b1, o1, s, rfl, c1, hs1⟩ := Rd.at (n := 65) (by omega) (hA.below hbel) (fun x hx => updc_length x (hl x hx)) k hlt
      obtain ⟨b2, o2, s2, rfl, c2, hs2⟩ := Rd.at (n := 65) (by omega) (hB.below hbel) (fun x hx => updc_length x (hl x hx)) k hlt
      obtain rfl : s = s2 := by rw [hs1] at hs2; injection hs2
      have hs32 := hl s (List.mem_of_getElem? hs1)
      clear hs1 hs2
      go_wp2
      refine start_ (n := 9) (S := (fun W => W.rangeAt b1 (o1 + k * 65) (updc s) ∧ W.rangeAt b2 (o2 + k * 65) (updc s))) (ds := []) #[false, false, false, false, false, false, false, false, false] (by kernel_rfl) rfl rfl (⟨fun j v hj => by simpa using c1 j v hj, fun j v hj => by simpa using c2 j v hj⟩) (fun hHeld => ?_)
      refine pure_ (i := 0) (N := (some 17)) (v := ?_) (a' := ?_) #[true, false, false, false, false, false, false, false, false] rfl rfl (by kernel_rfl) (fun _ _ _ h => h) (Or.inl ⟨by rfl, ?_⟩) ?_ ?_
      rotate_left
      · intro w'
        go_simp
        with_reducible rfl
      rotate_left
      · simp only [Act.put, List.setIfInBounds_toArray, List.set_cons_zero, List.set_cons_succ]
        rfl
      refine pure_ (i := 1) (N := (some 18)) (v := ?_) (a' := ?_) #[true, true, false, false, false, false, false, false, false] rfl rfl (by kernel_rfl) (fun _ _ _ h => h) (Or.inl ⟨by rfl, ?_⟩) ?_ ?_
      rotate_left
      · intro w'
        go_simp
        with_reducible rfl
      rotate_left
      · simp only [Act.put, List.setIfInBounds_toArray, List.set_cons_zero, List.set_cons_succ]
        rfl
      refine pure_ (i := 2) (N := (some 19)) (v := ?_) (a' := ?_) #[true, true, true, false, false, false, false, false, false] rfl rfl (by kernel_rfl) (fun _ _ _ h => h) (Or.inl ⟨by rfl, ?_⟩) ?_ ?_
      rotate_left
      · intro w'
        go_simp
        with_reducible rfl
      rotate_left
      · simp only [Act.put, List.setIfInBounds_toArray, List.set_cons_zero, List.set_cons_succ]
        rfl
      refine take_ (i := 3) (N := (some 20)) (v := ?_) (a' := ?_) #[true, true, true, true, false, false, false, false, false] rfl rfl (by kernel_rfl) (fun _ _ _ h => h) (Or.inl ⟨by rfl, ?_⟩) hHeld ?_ ?_
      rotate_left
      · intro w' hS'
        refine op_load_mid _ _ _ _ _ _ _ _ 60 b1 (o1 + k * 65) (updc s) _ ?_ hS'.1 und60 rfl (by rw [updc_length _ hs32]; exact info60s)
        rfl
      rotate_left
      · simp only [Act.put, List.setIfInBounds_toArray, List.set_cons_zero, List.set_cons_succ]
        rfl
      refine pure_ (i := 4) (N := (some 21)) (v := ?_) (a' := ?_) #[true, true, true, true, true, false, false, false, false] rfl rfl (by kernel_rfl) (fun _ _ _ h => h) (Or.inl ⟨by rfl, ?_⟩) ?_ ?_
      rotate_left
      · intro w'
        go_simp
        with_reducible rfl
      rotate_left
      · simp only [Act.put, List.setIfInBounds_toArray, List.set_cons_zero, List.set_cons_succ]
        rfl
      refine pure_ (i := 5) (N := (some 22)) (v := ?_) (a' := ?_) #[true, true, true, true, true, true, false, false, false] rfl rfl (by kernel_rfl) (fun _ _ _ h => h) (Or.inl ⟨by rfl, ?_⟩) ?_ ?_
      rotate_left
      · intro w'
        go_simp
        with_reducible rfl
      rotate_left
      · simp only [Act.put, List.setIfInBounds_toArray, List.set_cons_zero, List.set_cons_succ]
        rfl
      refine pure_ (i := 6) (N := (some 23)) (v := ?_) (a' := ?_) #[true, true, true, true, true, true, true, false, false] rfl rfl (by kernel_rfl) (fun _ _ _ h => h) (Or.inl ⟨by rfl, ?_⟩) ?_ ?_
      rotate_left
      · intro w'
        go_simp
        with_reducible rfl
      rotate_left
      · simp only [Act.put, List.setIfInBounds_toArray, List.set_cons_zero, List.set_cons_succ]
        rfl
      refine take_ (i := 7) (N := (some 24)) (v := ?_) (a' := ?_) #[true, true, true, true, true, true, true, true, false] rfl rfl (by kernel_rfl) (fun _ _ _ h => h) (Or.inl ⟨by rfl, ?_⟩) hHeld ?_ ?_
      rotate_left
      · intro w' hS'
        refine op_load_mid _ _ _ _ _ _ _ _ 60 b2 (o2 + k * 65) (updc s) _ ?_ hS'.2 und60 rfl (by rw [updc_length _ hs32]; exact info60s)
        rfl
      rotate_left
      · simp only [Act.put, List.setIfInBounds_toArray, List.set_cons_zero, List.set_cons_succ]
        rfl
      refine pure_ (i := 8) (N := (some 25)) (v := ?_) (a' := ?_) #[true, true, true, true, true, true, true, true, true] rfl rfl (by kernel_rfl) (fun _ _ _ h => h) (Or.inl ⟨by rfl, ?_⟩) ?_ ?_
      rotate_left
      · intro w'
        refine op_neq60_same _ _ _ _ _ _ _ _ _ _ s hs32 ?_ ?_
        rfl
        rfl
      rotate_left
      · simp only [Act.put, List.setIfInBounds_toArray, List.set_cons_zero, List.set_cons_succ]
        rfl
      refine done_ (by kernel_rfl) ?_
      go_wp2
      go_roundw
      case rel => exact ⟨k + 1, by omega, by go_num, below_drew hbel⟩
      case measure => simp [intOf]; omega
    · obtain rfl : k = l.length := by omega
      go_wp2
      go_ret
      exact ⟨rfl, hbel⟩
set_option maxHeartbeats 1000000 in
theorem as10_any (r : Req) (a : ReqA) (w : World) : Calls Tryz.prog 10 #[.agg (reqc r a).toArray] w fun e w' => e = .returned (.agg (reqc r a).toArray) ∧ Below w.heap.size w w' := by
  go_enter Tryz.func10, Tryz.ntmps10
  go_wp2
  exact bodyPost_ret (v := .agg (reqc r a).toArray) (by simp [results, Tryz.results10, go_sem]) rfl ⟨rfl, below_alloc (below_alloc (Below.refl _ _) _) _⟩
set_option maxHeartbeats 1000000 in
theorem sameAsk_any (r : Req) (a b : ReqA) (w : World) (hq : IsReq w r a) (hp : IsReq w r b) :
    Calls Tryz.prog 13 #[.agg (reqc r a).toArray, .agg (reqc r b).toArray] w fun e w' => e = .returned (.bool true) ∧ Below w.heap.size w w' := by
  have HQ := Lib.hid hq
  have HP := Lib.hid hp
  clear hq hp
  go_enter Tryz.func13, Tryz.ntmps13
  go_wp2_with fail
  have hb0 := below_alloc (below_alloc (Below.refl w.heap.size w) (.cells (reqc r a).toArray 33)) (.cells (reqc r b).toArray 33)
  refine (same46_any r.wants a.a3 b.a3 a.c3 b.c3 HQ.out.iWants.1 HQ.out.iWants.2 _ (HQ.out.below hb0).wants (HP.out.below hb0).wants).mono ?_
  rintro e w1 ⟨rfl, hd1⟩
  have hb1 := below_call hb0 hd1
  obtain ⟨hc1, hf1⟩ := bcell hd1
  have hz1 : w.heap.size + 1 < w1.heap.size := by have := hd1.size; (try simp at this); omega
  have hy1 : w.heap.size < w1.heap.size := by omega
  go_wp2_with fail
  refine (same46_any r.haves a.a4 b.a4 a.c4 b.c4 HQ.out.iHaves.1 HQ.out.iHaves.2 _ (HQ.out.below hb1).haves (HP.out.below hb1).haves).mono ?_
  rintro e w2 ⟨rfl, hd2⟩
  have hb2 := below_call hb1 hd2
  obtain ⟨hc2, hf2⟩ := bcell hd2
  have hz2 : w.heap.size + 1 < w2.heap.size := by have := hd2.size; (try simp at this); omega
  have hy2 : w.heap.size < w2.heap.size := by omega
  go_wp2_with fail
  refine (same46_any r.common a.a5 b.a5 a.c5 b.c5 HQ.out.iCommon.1 HQ.out.iCommon.2 _ (HQ.out.below hb2).common (HP.out.below hb2).common).mono ?_
  rintro e w3 ⟨rfl, hd3⟩
  have hb3 := below_call hb2 hd3
  obtain ⟨hc3, hf3⟩ := bcell hd3
  have hz3 : w.heap.size + 1 < w3.heap.size := by have := hd3.size; (try simp at this); omega
  have hy3 : w.heap.size < w3.heap.size := by omega
  go_wp2_with fail
  refine (same46_any r.shallow a.a6 b.a6 a.c6 b.c6 HQ.out.iShallow.1 HQ.out.iShallow.2 _ (HQ.out.below hb3).shallow (HP.out.below hb3).shallow).mono ?_
  rintro e w4 ⟨rfl, hd4⟩
  have hb4 := below_call hb3 hd4
  obtain ⟨hc4, hf4⟩ := bcell hd4
  have hz4 : w.heap.size + 1 < w4.heap.size := by have := hd4.size; (try simp at this); omega
  have hy4 : w.heap.size < w4.heap.size := by omega
  go_wp2_with fail
  refine (same47_any r.updates a.a9 b.a9 a.c9 b.c9 HQ.out.nUpd HQ.out.iUpd _ (HQ.out.below hb4).updates (HP.out.below hb4).updates).mono ?_
  rintro e w5 ⟨rfl, hd5⟩
  have hb5 := below_call hb4 hd5
  obtain ⟨hc5, hf5⟩ := bcell hd5
  have hz5 : w.heap.size + 1 < w5.heap.size := by have := hd5.size; (try simp at this); omega
  have hy5 : w.heap.size < w5.heap.size := by omega
  go_wp2_with fail
  refine (same10_any r.caps r.caps a.a2 b.a2 a.c2 b.c2 HQ.out.nCaps _ (HQ.out.below hb5).caps (HP.out.below hb5).caps).mono ?_
  rintro e w6 ⟨rfl, hd6⟩
  have hb6 := below_call hb5 hd6
  obtain ⟨hc6, hf6⟩ := bcell hd6
  have hz6 : w.heap.size + 1 < w6.heap.size := by have := hd6.size; (try simp at this); omega
  have hy6 : w.heap.size < w6.heap.size := by omega
  go_wp2_with fail
  go_ret
  exact ⟨rfl, hb6⟩
end Go.Proofs.YtmfpmedkhlhnpaaGreatDoor
