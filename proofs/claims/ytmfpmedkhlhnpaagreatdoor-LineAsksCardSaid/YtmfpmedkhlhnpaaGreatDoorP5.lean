import Derived.Test.YtmfpmedkhlhnpaaGreatDoorP4
/- functions 9, 24. -/
namespace Go.Proofs.YtmfpmedkhlhnpaaGreatDoor
open Go.RowKit Go.Extern.Stop Go.Proofs.YtmfpmedkhlhnpaaGreatDoorW.PrintLast
set_option maxRecDepth 100000
set_option linter.unusedSimpArgs false
set_option linter.unusedVariables false
def inR (n m : Int) : Bool := decide (0 ≤ n) && decide (n ≤ m)
def asksN (r : Req) : Bool := decide (1 ≤ r.op) && (decide (r.op ≤ 6) && (inR r.session 999999 && (inR r.depth 1048576 && inR r.place 262144)))
def asksU (us : List Upd) : Bool := us.all fun u => nameOk u.name
def asksL (r : Req) : Bool := decide (r.wants.length ≤ 400) && (decide (r.haves.length ≤ 400) && (decide (r.common.length ≤ 400) && (decide (r.shallow.length ≤ 400) && (decide (r.updates.length ≤ 64) && decide (r.data.length ≤ 2000)))))
/-- May a request be? -/
def asksB (r : Req) : Bool := asksN r && ((capsOk r.caps && asksU r.updates) && asksL r)
theorem asks_noN {r : Req} (h : r.op < 1 ∨ 6 < r.op ∨ (decide (0 ≤ r.session) && decide (r.session ≤ 999999)) = false ∨ (decide (0 ≤ r.depth) && decide (r.depth ≤ 1048576)) = false ∨ (decide (0 ≤ r.place) && decide (r.place ≤ 262144)) = false) : Hid (asksB r = false) := Lib.hid (by
  have : asksN r = false := by
    rcases h with h | h | h | h | h
    · rw [asksN, decide_eq_false (show ¬ 1 ≤ r.op by omega)]; rfl
    · rw [asksN, decide_eq_false (show ¬ r.op ≤ 6 by omega), Bool.false_and, Bool.and_false]
    · rw [asksN, inR, h]; simp
    · rw [asksN, inR, inR, h]; simp
    · rw [asksN, inR, inR, inR, h]; simp
  rw [asksB, this]; rfl)
theorem asks_noF {r : Req} (h : (capsOk r.caps && asksU r.updates) = false) : Hid (asksB r = false) := Lib.hid (by rw [asksB, h, Bool.false_and, Bool.and_false])
theorem asks_noL {r : Req} (h : ¬ r.wants.length ≤ 400 ∨ ¬ r.haves.length ≤ 400 ∨ ¬ r.common.length ≤ 400 ∨ ¬ r.shallow.length ≤ 400 ∨ ¬ r.updates.length ≤ 64 ∨ ¬ r.data.length ≤ 2000) : Hid (asksB r = false) := Lib.hid (by
  have : asksL r = false := by
    rcases h with h | h | h | h | h | h <;> simp only [asksL, decide_eq_false h, Bool.false_and, Bool.and_false]
  rw [asksB, this, Bool.and_false, Bool.and_false])
theorem asks_yes {r : Req} (h : asksN r = true) (hF : (capsOk r.caps && asksU r.updates) = true) (h1 : r.wants.length ≤ 400) (h2 : r.haves.length ≤ 400) (h3 : r.common.length ≤ 400) (h4 : r.shallow.length ≤ 400) (h5 : r.updates.length ≤ 64) (h6 : r.data.length ≤ 2000) : Hid (asksB r = true) := Lib.hid (by
  rw [asksB, h, hF, asksL, decide_eq_true h1, decide_eq_true h2, decide_eq_true h3, decide_eq_true h4, decide_eq_true h5, decide_eq_true h6]; rfl)
theorem asksU_next (us : List Upd) (k : Nat) (u : Upd) (h : us[k]? = some u) : asksU (us.take (k + 1)) = (asksU (us.take k) && nameOk u.name) := by
  obtain ⟨hk, hs⟩ := List.getElem?_eq_some_iff.1 h
  rw [List.take_succ_eq_append_getElem hk, hs, asksU, asksU, List.all_append]
  simp
set_option maxHeartbeats 4000000 in
theorem asks9_any (r : Req) (a : ReqA) (w : World) (hq : IsReq w r a) : Calls Tryz.prog 9 #[.agg (reqc r a).toArray] w fun e w' => e = .returned (.bool (asksB r)) ∧ Below w.heap.size w w' := by
  have HQ := Lib.hid hq
  have n1 := hq.nCaps
  have n2 := hq.iWants.1
  have n3 := hq.iHaves.1
  have n4 := hq.iCommon.1
  have n5 := hq.iShallow.1
  have n6 := hq.nUpd
  have n7 := hq.nData
  clear hq
  by_cases h1 : r.op < 1
  · have b1 : decide (r.op < 1) = true := by simpa using h1
    have hno := asks_noN (r := r) (.inl h1)
    clear HQ
    go_enter Tryz.func9, Tryz.ntmps9
    go_wp2
    go_ret
    exact ⟨by rw [hno.out]; rfl, below_alloc (Below.refl _ _) _⟩
  have b1 : decide (r.op < 1) = false := by simpa using h1
  by_cases h2 : 6 < r.op
  · have b2 : decide (6 < r.op) = true := by simpa using h2
    have hno := asks_noN (r := r) (.inr (.inl h2))
    clear HQ
    go_enter Tryz.func9, Tryz.ntmps9
    go_wp2
    go_ret
    exact ⟨by rw [hno.out]; rfl, below_alloc (Below.refl _ _) _⟩
  have b2 : decide (6 < r.op) = false := by simpa using h2
  by_cases h3 : (decide (0 ≤ r.session) && decide (r.session ≤ 999999)) = false
  · have hno := asks_noN (r := r) (.inr (.inr (.inl h3)))
    clear HQ
    go_enter Tryz.func9, Tryz.ntmps9
    go_wp2_with (first | (go_at_call 33; refine (in33_any _ _ _).mono ?_; rintro e w1 ⟨rfl, rfl⟩; (try simp only [h3])))
    iterate 4 (try go_wp2_with (first | (go_at_call 33; refine (in33_any _ _ _).mono ?_; rintro e w1 ⟨rfl, rfl⟩; (try simp only [h3]))))
    go_ret
    exact ⟨by rw [hno.out]; rfl, below_alloc (Below.refl _ _) _⟩
  have h3 : (decide (0 ≤ r.session) && decide (r.session ≤ 999999)) = true := by simpa using h3
  by_cases h4 : (decide (0 ≤ r.depth) && decide (r.depth ≤ 1048576)) = false
  · have hno := asks_noN (r := r) (.inr (.inr (.inr (.inl h4))))
    clear HQ
    go_enter Tryz.func9, Tryz.ntmps9
    go_wp2_with (first | (go_at_call 33; refine (in33_any _ _ _).mono ?_; rintro e w1 ⟨rfl, rfl⟩; (try simp only [h3, h4])))
    iterate 4 (try go_wp2_with (first | (go_at_call 33; refine (in33_any _ _ _).mono ?_; rintro e w1 ⟨rfl, rfl⟩; (try simp only [h3, h4]))))
    go_ret
    exact ⟨by rw [hno.out]; rfl, below_alloc (Below.refl _ _) _⟩
  have h4 : (decide (0 ≤ r.depth) && decide (r.depth ≤ 1048576)) = true := by simpa using h4
  by_cases h5 : (decide (0 ≤ r.place) && decide (r.place ≤ 262144)) = false
  · have hno := asks_noN (r := r) (.inr (.inr (.inr (.inr h5))))
    clear HQ
    go_enter Tryz.func9, Tryz.ntmps9
    go_wp2_with (first | (go_at_call 33; refine (in33_any _ _ _).mono ?_; rintro e w1 ⟨rfl, rfl⟩; (try simp only [h3, h4, h5])))
    iterate 4 (try go_wp2_with (first | (go_at_call 33; refine (in33_any _ _ _).mono ?_; rintro e w1 ⟨rfl, rfl⟩; (try simp only [h3, h4, h5]))))
    go_ret
    exact ⟨by rw [hno.out]; rfl, below_alloc (Below.refl _ _) _⟩
  have h5 : (decide (0 ≤ r.place) && decide (r.place ≤ 262144)) = true := by simpa using h5
  have hN : Hid (asksN r = true) := Lib.hid (by rw [asksN, inR, inR, inR, h3, h4, h5, decide_eq_true (show 1 ≤ r.op by omega), decide_eq_true (show r.op ≤ 6 by omega)]; rfl)
  have HC : Hid (∀ s ∈ r.caps, s.length ≤ 9223372036854775807) := Lib.hid HQ.out.lCaps
  clear h1 h2
  go_enter Tryz.func9, Tryz.ntmps9
  go_wp2_with (first | (go_at_call 33; refine (in33_any _ _ _).mono ?_; rintro e w1 ⟨rfl, rfl⟩; (try simp only [h3, h4, h5])))
  iterate 4 (try go_wp2_with (first | (go_at_call 33; refine (in33_any _ _ _).mono ?_; rintro e w1 ⟨rfl, rfl⟩; (try simp only [h3, h4, h5])) | (go_at_call 34; refine (fine10_any r.caps a.a2 a.c2 n1 HC.out _ (HQ.out.caps.below (below_alloc (Below.refl _ _) _))).mono ?_; rintro e w2 ⟨rfl, hb2⟩)))
  have hbx0 := (Boxed.start w (reqc r a) 33).call hb2
  go_loopw [3, 4] (fun f i wr => ∃ k : Nat, k ≤ r.updates.length ∧ i = .int .i64 k ∧ f = .bool (capsOk r.caps && asksU (r.updates.take k)) ∧ Boxed w (reqc r a) 33 wr) (fun _ i _ => r.updates.length - (intOf i).toNat)
  case atStart => exact ⟨0, by omega, rfl, by simp [asksU], hbx0⟩
  case round =>
    obtain ⟨k, hk, rfl, rfl, hbx⟩ := hrel
    have hbel := hbx.below
    have c0 := hbx.cell 0 _ rfl
    have c1 := hbx.cell 1 _ rfl
    have c2 := hbx.cell 2 _ rfl
    have c3 := hbx.cell 3 _ rfl
    have c4 := hbx.cell 4 _ rfl
    have c5 := hbx.cell 5 _ rfl
    have c6 := hbx.cell 6 _ rfl
    have c7 := hbx.cell 7 _ rfl
    have c8 := hbx.cell 8 _ rfl
    have c9 := hbx.cell 9 _ rfl
    have c10 := hbx.cell 10 _ rfl
    by_cases hlt : k < r.updates.length
    · obtain ⟨b1, o1, u, e1, cu, hs1⟩ := Rd.at (n := 65) (by omega) (HQ.out.below hbel).updates (fun x hx => updc_length x (HQ.out.iUpd x hx)) k hlt
      rw [e1] at c9
      have hun := (HQ.out.iUpd u (List.mem_of_getElem? hs1)).2.2
      have hnx := Lib.hid (asksU_next r.updates k u hs1)
      have cn := cu 0 (.string (bs u.name)) rfl
      rw [Nat.add_zero] at cn
      cases hF : (capsOk r.caps && asksU (r.updates.take k)) with
      | true =>
        go_wp2_with (first | (go_at_call 35; refine (name09_any u.name hun _).mono ?_; rintro e w3 ⟨rfl, rfl⟩))
        go_wp2
        go_roundw
        case rel => exact ⟨k + 1, by omega, by go_num, by rw [hnx.out, ← Bool.and_assoc, hF, Bool.true_and], hbx⟩
        case measure => simp [intOf]; omega
      | false =>
        go_wp2_with (first | (go_at_call 35; refine (name09_any u.name hun _).mono ?_; rintro e w3 ⟨rfl, rfl⟩))
        go_wp2
        go_roundw
        case rel => exact ⟨k + 1, by omega, by go_num, by rw [hnx.out, ← Bool.and_assoc, hF, Bool.false_and], hbx⟩
        case measure => simp [intOf]; omega
    · obtain rfl : k = r.updates.length := by omega
      rw [List.take_length]
      by_cases hF : (capsOk r.caps && asksU r.updates) = false
      · have hno := asks_noF hF
        rw [hF]
        go_wp2
        go_ret
        exact ⟨by rw [hno.out]; rfl, hbel⟩
      have hF : (capsOk r.caps && asksU r.updates) = true := by simpa using hF
      rw [hF]
      by_cases g1 : ¬ r.wants.length ≤ 400
      · have hno := asks_noL (r := r) (.inl g1)
        have g1 : decide ((r.wants.length : Int) ≤ 400) = false := by simp; omega
        go_wp2
        go_ret
        exact ⟨by rw [hno.out]; rfl, hbel⟩
      have g1' := Lib.hid (Decidable.not_not.1 g1)
      have g1 : decide ((r.wants.length : Int) ≤ 400) = true := by have := g1'.out; simp; omega
      by_cases g2 : ¬ r.haves.length ≤ 400
      · have hno := asks_noL (r := r) (.inr (.inl g2))
        have g2 : decide ((r.haves.length : Int) ≤ 400) = false := by simp; omega
        go_wp2
        go_ret
        exact ⟨by rw [hno.out]; rfl, hbel⟩
      have g2' := Lib.hid (Decidable.not_not.1 g2)
      have g2 : decide ((r.haves.length : Int) ≤ 400) = true := by have := g2'.out; simp; omega
      by_cases g3 : ¬ r.common.length ≤ 400
      · have hno := asks_noL (r := r) (.inr (.inr (.inl g3)))
        have g3 : decide ((r.common.length : Int) ≤ 400) = false := by simp; omega
        go_wp2
        go_ret
        exact ⟨by rw [hno.out]; rfl, hbel⟩
      have g3' := Lib.hid (Decidable.not_not.1 g3)
      have g3 : decide ((r.common.length : Int) ≤ 400) = true := by have := g3'.out; simp; omega
      by_cases g4 : ¬ r.shallow.length ≤ 400
      · have hno := asks_noL (r := r) (.inr (.inr (.inr (.inl g4))))
        have g4 : decide ((r.shallow.length : Int) ≤ 400) = false := by simp; omega
        go_wp2
        go_ret
        exact ⟨by rw [hno.out]; rfl, hbel⟩
      have g4' := Lib.hid (Decidable.not_not.1 g4)
      have g4 : decide ((r.shallow.length : Int) ≤ 400) = true := by have := g4'.out; simp; omega
      by_cases g5 : ¬ r.updates.length ≤ 64
      · have hno := asks_noL (r := r) (.inr (.inr (.inr (.inr (.inl g5)))))
        have g5 : decide ((r.updates.length : Int) ≤ 64) = false := by simp; omega
        go_wp2
        go_ret
        exact ⟨by rw [hno.out]; rfl, hbel⟩
      have g5' := Lib.hid (Decidable.not_not.1 g5)
      have g5 : decide ((r.updates.length : Int) ≤ 64) = true := by have := g5'.out; simp; omega
      by_cases g6 : ¬ r.data.length ≤ 2000
      · have hno := asks_noL (r := r) (.inr (.inr (.inr (.inr (.inr g6)))))
        have g6 : decide ((r.data.length : Int) ≤ 2000) = false := by simp; omega
        go_wp2
        go_ret
        exact ⟨by rw [hno.out]; rfl, hbel⟩
      have g6' := Lib.hid (Decidable.not_not.1 g6)
      have g6 : decide ((r.data.length : Int) ≤ 2000) = true := by have := g6'.out; simp; omega
      have hyes := asks_yes hN.out hF g1'.out g2'.out g3'.out g4'.out g5'.out g6'.out
      go_wp2
      go_ret
      exact ⟨by rw [hyes.out]; rfl, hbel⟩
theorem asks_few {r : Req} (h : (decide (r.wants.length ≤ 400) && (decide (r.haves.length ≤ 400) && (decide (r.common.length ≤ 400) && decide (r.shallow.length ≤ 400)))) = false) : Hid (asksB r = false) := Lib.hid (by
  have : asksL r = false := by
    rw [asksL]
    cases h1 : decide (r.wants.length ≤ 400) <;> cases h2 : decide (r.haves.length ≤ 400) <;> cases h3 : decide (r.common.length ≤ 400) <;> cases h4 : decide (r.shallow.length ≤ 400) <;> simp_all
  rw [asksB, this, Bool.and_false, Bool.and_false])
theorem asks_yes2 {r : Req} (h : asksN r = true) (hc : capsOk r.caps = true) (hu : asksU r.updates = true) (h1 : (decide (r.wants.length ≤ 400) && (decide (r.haves.length ≤ 400) && (decide (r.common.length ≤ 400) && decide (r.shallow.length ≤ 400)))) = true) (h5 : r.updates.length ≤ 64) (h6 : r.data.length ≤ 2000) : Hid (asksB r = true) := by
  simp only [Bool.and_eq_true, decide_eq_true_eq] at h1
  exact asks_yes h (by rw [hc, hu]; rfl) h1.1 h1.2.1 h1.2.2.1 h1.2.2.2 h5 h6
theorem asks_noU {r : Req} {k : Nat} {u : Upd} (h : r.updates[k]? = some u) (hn : nameOk u.name = false) : Hid (asksB r = false) := asks_noF (by
  have : asksU r.updates = false := by
    rw [asksU, List.all_eq_false]
    exact ⟨u, List.mem_of_getElem? h, by rw [hn]; decide⟩
  rw [this, Bool.and_false])
set_option maxHeartbeats 4000000 in
theorem asks24_any (r : Req) (a : ReqA) (w : World) (hq : IsReq w r a) : Calls Tryz.prog 24 #[.agg (reqc r a).toArray] w fun e w' => e = .returned (.bool (asksB r)) ∧ Below w.heap.size w w' := by
  have HQ := Lib.hid hq
  have n1 := hq.nCaps
  have n2 := hq.iWants.1
  have n3 := hq.iHaves.1
  have n4 := hq.iCommon.1
  have n5 := hq.iShallow.1
  have n6 := hq.nUpd
  have n7 := hq.nData
  have HC : Hid (∀ s ∈ r.caps, s.length ≤ 9223372036854775807) := Lib.hid HQ.out.lCaps
  clear hq
  go_enter Tryz.func24, Tryz.ntmps24
  go_wp2
  have hbx0 := Boxed.start w (reqc r a) 26
  go_loopw [9] (fun i wr => ∃ k : Nat, k ≤ r.updates.length ∧ i = .int .i64 k ∧ Hid (asksU (r.updates.take k) = true) ∧ Boxed w (reqc r a) 26 wr) (fun i _ => r.updates.length - (intOf i).toNat)
  case atStart => exact ⟨0, by omega, rfl, Lib.hid rfl, hbx0⟩
  case round =>
    obtain ⟨k, hk, rfl, hall, hbx⟩ := hrel
    have hbel := hbx.below
    have hltb := hbx.lt
    have c0 := hbx.cell 0 _ rfl
    have c1 := hbx.cell 1 _ rfl
    have c2 := hbx.cell 2 _ rfl
    have c3 := hbx.cell 3 _ rfl
    have c4 := hbx.cell 4 _ rfl
    have c5 := hbx.cell 5 _ rfl
    have c6 := hbx.cell 6 _ rfl
    have c7 := hbx.cell 7 _ rfl
    have c8 := hbx.cell 8 _ rfl
    have c9 := hbx.cell 9 _ rfl
    have c10 := hbx.cell 10 _ rfl
    by_cases hlt : k < r.updates.length
    · obtain ⟨b1, o1, u, e1, cu, hs1⟩ := Rd.at (n := 65) (by omega) (HQ.out.below hbel).updates (fun x hx => updc_length x (HQ.out.iUpd x hx)) k hlt
      rw [e1]
      have hu := HQ.out.iUpd u (List.mem_of_getElem? hs1)
      have hun := hu.2.2
      have HU := Lib.hid hu
      have cu0 := rangeAt_new wr (updc u) 60 0 (.string (bs u.name)) rfl
      rw [Nat.zero_add] at cu0
      have hnx := Lib.hid (asksU_next r.updates k u hs1)
      cases hF : nameOk u.name with
      | true =>
        clear hu hs1
        go_wp2_with (first
          | (refine wpList_load_mid rfl 60 _ rfl b1 (o1 + k * 65) rfl (updc u) _ cu und60 rfl (by rw [updc_length u HU.out]; exact info60s) ?_)
          | (refine wpList_run rfl (op_allocZ _ _ _ _ _ _ _ 60 zero60) ?_)
          | (refine wpList_store_new rfl 60 _ _ rfl _ (updc u).toArray rfl rfl (by rw [List.size_toArray, updc_length u HU.out]; exact info60s) (by rw [zsize60, List.size_toArray, updc_length u HU.out]) (updv_one u) ?_)
          | (go_at_call 59; refine (name59_any u.name hun _).mono ?_; rintro e w3 ⟨rfl, rfl⟩; simp only [hF]))
        go_wp2
        go_roundw
        case rel => exact ⟨k + 1, by omega, by go_num, Lib.hid (by rw [hnx.out, hall.out, hF]; rfl), hbx.alloc _⟩
        case measure => simp [intOf]; omega
      | false =>
        have hno := asks_noU hs1 hF
        clear hu hs1
        go_wp2_with (first
          | (refine wpList_load_mid rfl 60 _ rfl b1 (o1 + k * 65) rfl (updc u) _ cu und60 rfl (by rw [updc_length u HU.out]; exact info60s) ?_)
          | (refine wpList_run rfl (op_allocZ _ _ _ _ _ _ _ 60 zero60) ?_)
          | (refine wpList_store_new rfl 60 _ _ rfl _ (updc u).toArray rfl rfl (by rw [List.size_toArray, updc_length u HU.out]; exact info60s) (by rw [zsize60, List.size_toArray, updc_length u HU.out]) (updv_one u) ?_)
          | (go_at_call 59; refine (name59_any u.name hun _).mono ?_; rintro e w3 ⟨rfl, rfl⟩; simp only [hF]))
        go_wp2
        go_ret
        exact ⟨by rw [hno.out]; rfl, (hbx.alloc _).below⟩
    · obtain rfl : k = r.updates.length := by omega
      rw [List.take_length] at hall
      have hU := hall
      by_cases h1 : r.op < 1
      · have b1 : decide (1 ≤ r.op) = false := by simpa using h1
        have hno := asks_noN (r := r) (.inl h1)
        go_wp2
        go_ret
        exact ⟨by rw [hno.out]; rfl, hbel⟩
      have b1 : decide (1 ≤ r.op) = true := by simpa using h1
      by_cases h2 : 6 < r.op
      · have b2 : decide (r.op ≤ 6) = false := by simpa using h2
        have hno := asks_noN (r := r) (.inr (.inl h2))
        go_wp2
        go_ret
        exact ⟨by rw [hno.out]; rfl, hbel⟩
      have b2 : decide (r.op ≤ 6) = true := by simpa using h2
      by_cases h3 : (decide (0 ≤ r.session) && decide (r.session ≤ 999999)) = false
      · have hno := asks_noN (r := r) (.inr (.inr (.inl h3)))
        go_wp2_with (first | (go_at_call 60; refine (in60_any _ _ _).mono ?_; rintro e w1 ⟨rfl, rfl⟩; (try simp only [h3])))
        iterate 5 (try go_wp2_with (first | (go_at_call 60; refine (in60_any _ _ _).mono ?_; rintro e w1 ⟨rfl, rfl⟩; (try simp only [h3]))))
        go_ret
        exact ⟨by rw [hno.out]; rfl, hbel⟩
      have h3 : (decide (0 ≤ r.session) && decide (r.session ≤ 999999)) = true := by simpa using h3
      by_cases h4 : (decide (0 ≤ r.depth) && decide (r.depth ≤ 1048576)) = false
      · have hno := asks_noN (r := r) (.inr (.inr (.inr (.inl h4))))
        go_wp2_with (first | (go_at_call 60; refine (in60_any _ _ _).mono ?_; rintro e w1 ⟨rfl, rfl⟩; (try simp only [h3, h4])))
        iterate 5 (try go_wp2_with (first | (go_at_call 60; refine (in60_any _ _ _).mono ?_; rintro e w1 ⟨rfl, rfl⟩; (try simp only [h3, h4]))))
        go_ret
        exact ⟨by rw [hno.out]; rfl, hbel⟩
      have h4 : (decide (0 ≤ r.depth) && decide (r.depth ≤ 1048576)) = true := by simpa using h4
      by_cases h5 : (decide (0 ≤ r.place) && decide (r.place ≤ 262144)) = false
      · have hno := asks_noN (r := r) (.inr (.inr (.inr (.inr h5))))
        go_wp2_with (first | (go_at_call 60; refine (in60_any _ _ _).mono ?_; rintro e w1 ⟨rfl, rfl⟩; (try simp only [h3, h4, h5])))
        iterate 5 (try go_wp2_with (first | (go_at_call 60; refine (in60_any _ _ _).mono ?_; rintro e w1 ⟨rfl, rfl⟩; (try simp only [h3, h4, h5]))))
        go_ret
        exact ⟨by rw [hno.out]; rfl, hbel⟩
      have h5 : (decide (0 ≤ r.place) && decide (r.place ≤ 262144)) = true := by simpa using h5
      have hN : Hid (asksN r = true) := Lib.hid (by rw [asksN, inR, inR, inR, h3, h4, h5, decide_eq_true (show 1 ≤ r.op by omega), decide_eq_true (show r.op ≤ 6 by omega)]; rfl)
      clear h1 h2
      by_cases hcp : capsOk r.caps = false
      · have hno := asks_noF (r := r) (by rw [hcp]; rfl)
        go_wp2_with (first | (go_at_call 60; refine (in60_any _ _ _).mono ?_; rintro e w1 ⟨rfl, rfl⟩; (try simp only [h3, h4, h5])) | (go_at_call 61; refine (fine61_any r.caps a.a2 a.c2 n1 HC.out _ (HQ.out.caps.below hbel)).mono ?_; rintro e w2 ⟨rfl, hb2⟩; simp only [hcp]; have d3 := (hbx.call hb2).cell 3 _ rfl; have d4 := (hbx.call hb2).cell 4 _ rfl; have d5 := (hbx.call hb2).cell 5 _ rfl; have d6 := (hbx.call hb2).cell 6 _ rfl; have d9 := (hbx.call hb2).cell 9 _ rfl; have d10 := (hbx.call hb2).cell 10 _ rfl; have hlt2 := (hbx.call hb2).lt))
        iterate 5 (try go_wp2_with (first | (go_at_call 60; refine (in60_any _ _ _).mono ?_; rintro e w1 ⟨rfl, rfl⟩; (try simp only [h3, h4, h5])) | (go_at_call 61; refine (fine61_any r.caps a.a2 a.c2 n1 HC.out _ (HQ.out.caps.below hbel)).mono ?_; rintro e w2 ⟨rfl, hb2⟩; simp only [hcp]; have d3 := (hbx.call hb2).cell 3 _ rfl; have d4 := (hbx.call hb2).cell 4 _ rfl; have d5 := (hbx.call hb2).cell 5 _ rfl; have d6 := (hbx.call hb2).cell 6 _ rfl; have d9 := (hbx.call hb2).cell 9 _ rfl; have d10 := (hbx.call hb2).cell 10 _ rfl; have hlt2 := (hbx.call hb2).lt)))
        go_ret
        exact ⟨by rw [hno.out]; rfl, ((hbx.call hb2)).below⟩
      have hcp : capsOk r.caps = true := by simpa using hcp
      by_cases hfw : (decide (r.wants.length ≤ 400) && (decide (r.haves.length ≤ 400) && (decide (r.common.length ≤ 400) && decide (r.shallow.length ≤ 400)))) = false
      · have hno := asks_few hfw
        go_wp2_with (first | (go_at_call 60; refine (in60_any _ _ _).mono ?_; rintro e w1 ⟨rfl, rfl⟩; (try simp only [h3, h4, h5])) | (go_at_call 61; refine (fine61_any r.caps a.a2 a.c2 n1 HC.out _ (HQ.out.caps.below hbel)).mono ?_; rintro e w2 ⟨rfl, hb2⟩; simp only [hcp]; have d3 := (hbx.call hb2).cell 3 _ rfl; have d4 := (hbx.call hb2).cell 4 _ rfl; have d5 := (hbx.call hb2).cell 5 _ rfl; have d6 := (hbx.call hb2).cell 6 _ rfl; have d9 := (hbx.call hb2).cell 9 _ rfl; have d10 := (hbx.call hb2).cell 10 _ rfl; have hlt2 := (hbx.call hb2).lt) | (go_at_call 62; refine (few62_any [(a.a3, r.wants.length, a.c3), (a.a4, r.haves.length, a.c4), (a.a5, r.common.length, a.c5), (a.a6, r.shallow.length, a.c6)] _ 4 (by simp) _ (fun _ => ⟨_, _, rfl, rangeAt_new w2 [.slice a.a3 r.wants.length a.c3, .slice a.a4 r.haves.length a.c4, .slice a.a5 r.common.length a.c5, .slice a.a6 r.shallow.length a.c6] 23⟩)).mono ?_; rintro e w4 ⟨rfl, rfl⟩; simp only [List.all_cons, List.all_nil, Bool.and_true, hfw]))
        iterate 5 (try go_wp2_with (first | (go_at_call 60; refine (in60_any _ _ _).mono ?_; rintro e w1 ⟨rfl, rfl⟩; (try simp only [h3, h4, h5])) | (go_at_call 61; refine (fine61_any r.caps a.a2 a.c2 n1 HC.out _ (HQ.out.caps.below hbel)).mono ?_; rintro e w2 ⟨rfl, hb2⟩; simp only [hcp]; have d3 := (hbx.call hb2).cell 3 _ rfl; have d4 := (hbx.call hb2).cell 4 _ rfl; have d5 := (hbx.call hb2).cell 5 _ rfl; have d6 := (hbx.call hb2).cell 6 _ rfl; have d9 := (hbx.call hb2).cell 9 _ rfl; have d10 := (hbx.call hb2).cell 10 _ rfl; have hlt2 := (hbx.call hb2).lt) | (go_at_call 62; refine (few62_any [(a.a3, r.wants.length, a.c3), (a.a4, r.haves.length, a.c4), (a.a5, r.common.length, a.c5), (a.a6, r.shallow.length, a.c6)] _ 4 (by simp) _ (fun _ => ⟨_, _, rfl, rangeAt_new w2 [.slice a.a3 r.wants.length a.c3, .slice a.a4 r.haves.length a.c4, .slice a.a5 r.common.length a.c5, .slice a.a6 r.shallow.length a.c6] 23⟩)).mono ?_; rintro e w4 ⟨rfl, rfl⟩; simp only [List.all_cons, List.all_nil, Bool.and_true, hfw])))
        go_ret
        exact ⟨by rw [hno.out]; rfl, ((hbx.call hb2).alloc _).below⟩
      have hfw : (decide (r.wants.length ≤ 400) && (decide (r.haves.length ≤ 400) && (decide (r.common.length ≤ 400) && decide (r.shallow.length ≤ 400)))) = true := by simpa using hfw
      by_cases g5 : ¬ r.updates.length ≤ 64
      · have hno := asks_noL (r := r) (.inr (.inr (.inr (.inr (.inl g5)))))
        have g5 : decide ((r.updates.length : Int) ≤ 64) = false := by simp; omega
        go_wp2_with (first | (go_at_call 60; refine (in60_any _ _ _).mono ?_; rintro e w1 ⟨rfl, rfl⟩; (try simp only [h3, h4, h5])) | (go_at_call 61; refine (fine61_any r.caps a.a2 a.c2 n1 HC.out _ (HQ.out.caps.below hbel)).mono ?_; rintro e w2 ⟨rfl, hb2⟩; simp only [hcp]; have d3 := (hbx.call hb2).cell 3 _ rfl; have d4 := (hbx.call hb2).cell 4 _ rfl; have d5 := (hbx.call hb2).cell 5 _ rfl; have d6 := (hbx.call hb2).cell 6 _ rfl; have d9 := (hbx.call hb2).cell 9 _ rfl; have d10 := (hbx.call hb2).cell 10 _ rfl; have hlt2 := (hbx.call hb2).lt) | (go_at_call 62; refine (few62_any [(a.a3, r.wants.length, a.c3), (a.a4, r.haves.length, a.c4), (a.a5, r.common.length, a.c5), (a.a6, r.shallow.length, a.c6)] _ 4 (by simp) _ (fun _ => ⟨_, _, rfl, rangeAt_new w2 [.slice a.a3 r.wants.length a.c3, .slice a.a4 r.haves.length a.c4, .slice a.a5 r.common.length a.c5, .slice a.a6 r.shallow.length a.c6] 23⟩)).mono ?_; rintro e w4 ⟨rfl, rfl⟩; simp only [List.all_cons, List.all_nil, Bool.and_true, hfw]))
        iterate 5 (try go_wp2_with (first | (go_at_call 60; refine (in60_any _ _ _).mono ?_; rintro e w1 ⟨rfl, rfl⟩; (try simp only [h3, h4, h5])) | (go_at_call 61; refine (fine61_any r.caps a.a2 a.c2 n1 HC.out _ (HQ.out.caps.below hbel)).mono ?_; rintro e w2 ⟨rfl, hb2⟩; simp only [hcp]; have d3 := (hbx.call hb2).cell 3 _ rfl; have d4 := (hbx.call hb2).cell 4 _ rfl; have d5 := (hbx.call hb2).cell 5 _ rfl; have d6 := (hbx.call hb2).cell 6 _ rfl; have d9 := (hbx.call hb2).cell 9 _ rfl; have d10 := (hbx.call hb2).cell 10 _ rfl; have hlt2 := (hbx.call hb2).lt) | (go_at_call 62; refine (few62_any [(a.a3, r.wants.length, a.c3), (a.a4, r.haves.length, a.c4), (a.a5, r.common.length, a.c5), (a.a6, r.shallow.length, a.c6)] _ 4 (by simp) _ (fun _ => ⟨_, _, rfl, rangeAt_new w2 [.slice a.a3 r.wants.length a.c3, .slice a.a4 r.haves.length a.c4, .slice a.a5 r.common.length a.c5, .slice a.a6 r.shallow.length a.c6] 23⟩)).mono ?_; rintro e w4 ⟨rfl, rfl⟩; simp only [List.all_cons, List.all_nil, Bool.and_true, hfw])))
        go_ret
        exact ⟨by rw [hno.out]; rfl, ((hbx.call hb2).alloc _).below⟩
      have g5' := Lib.hid (Decidable.not_not.1 g5)
      have g5 : decide ((r.updates.length : Int) ≤ 64) = true := by have := g5'.out; simp; omega
      by_cases g6 : ¬ r.data.length ≤ 2000
      · have hno := asks_noL (r := r) (.inr (.inr (.inr (.inr (.inr g6)))))
        have g6 : decide ((r.data.length : Int) ≤ 2000) = false := by simp; omega
        go_wp2_with (first | (go_at_call 60; refine (in60_any _ _ _).mono ?_; rintro e w1 ⟨rfl, rfl⟩; (try simp only [h3, h4, h5])) | (go_at_call 61; refine (fine61_any r.caps a.a2 a.c2 n1 HC.out _ (HQ.out.caps.below hbel)).mono ?_; rintro e w2 ⟨rfl, hb2⟩; simp only [hcp]; have d3 := (hbx.call hb2).cell 3 _ rfl; have d4 := (hbx.call hb2).cell 4 _ rfl; have d5 := (hbx.call hb2).cell 5 _ rfl; have d6 := (hbx.call hb2).cell 6 _ rfl; have d9 := (hbx.call hb2).cell 9 _ rfl; have d10 := (hbx.call hb2).cell 10 _ rfl; have hlt2 := (hbx.call hb2).lt) | (go_at_call 62; refine (few62_any [(a.a3, r.wants.length, a.c3), (a.a4, r.haves.length, a.c4), (a.a5, r.common.length, a.c5), (a.a6, r.shallow.length, a.c6)] _ 4 (by simp) _ (fun _ => ⟨_, _, rfl, rangeAt_new w2 [.slice a.a3 r.wants.length a.c3, .slice a.a4 r.haves.length a.c4, .slice a.a5 r.common.length a.c5, .slice a.a6 r.shallow.length a.c6] 23⟩)).mono ?_; rintro e w4 ⟨rfl, rfl⟩; simp only [List.all_cons, List.all_nil, Bool.and_true, hfw]))
        iterate 5 (try go_wp2_with (first | (go_at_call 60; refine (in60_any _ _ _).mono ?_; rintro e w1 ⟨rfl, rfl⟩; (try simp only [h3, h4, h5])) | (go_at_call 61; refine (fine61_any r.caps a.a2 a.c2 n1 HC.out _ (HQ.out.caps.below hbel)).mono ?_; rintro e w2 ⟨rfl, hb2⟩; simp only [hcp]; have d3 := (hbx.call hb2).cell 3 _ rfl; have d4 := (hbx.call hb2).cell 4 _ rfl; have d5 := (hbx.call hb2).cell 5 _ rfl; have d6 := (hbx.call hb2).cell 6 _ rfl; have d9 := (hbx.call hb2).cell 9 _ rfl; have d10 := (hbx.call hb2).cell 10 _ rfl; have hlt2 := (hbx.call hb2).lt) | (go_at_call 62; refine (few62_any [(a.a3, r.wants.length, a.c3), (a.a4, r.haves.length, a.c4), (a.a5, r.common.length, a.c5), (a.a6, r.shallow.length, a.c6)] _ 4 (by simp) _ (fun _ => ⟨_, _, rfl, rangeAt_new w2 [.slice a.a3 r.wants.length a.c3, .slice a.a4 r.haves.length a.c4, .slice a.a5 r.common.length a.c5, .slice a.a6 r.shallow.length a.c6] 23⟩)).mono ?_; rintro e w4 ⟨rfl, rfl⟩; simp only [List.all_cons, List.all_nil, Bool.and_true, hfw])))
        go_ret
        exact ⟨by rw [hno.out]; rfl, ((hbx.call hb2).alloc _).below⟩
      have g6' := Lib.hid (Decidable.not_not.1 g6)
      have g6 : decide ((r.data.length : Int) ≤ 2000) = true := by have := g6'.out; simp; omega
      have hno := asks_yes2 hN.out hcp hU.out hfw g5'.out g6'.out
      go_wp2_with (first | (go_at_call 60; refine (in60_any _ _ _).mono ?_; rintro e w1 ⟨rfl, rfl⟩; (try simp only [h3, h4, h5])) | (go_at_call 61; refine (fine61_any r.caps a.a2 a.c2 n1 HC.out _ (HQ.out.caps.below hbel)).mono ?_; rintro e w2 ⟨rfl, hb2⟩; simp only [hcp]; have d3 := (hbx.call hb2).cell 3 _ rfl; have d4 := (hbx.call hb2).cell 4 _ rfl; have d5 := (hbx.call hb2).cell 5 _ rfl; have d6 := (hbx.call hb2).cell 6 _ rfl; have d9 := (hbx.call hb2).cell 9 _ rfl; have d10 := (hbx.call hb2).cell 10 _ rfl; have hlt2 := (hbx.call hb2).lt) | (go_at_call 62; refine (few62_any [(a.a3, r.wants.length, a.c3), (a.a4, r.haves.length, a.c4), (a.a5, r.common.length, a.c5), (a.a6, r.shallow.length, a.c6)] _ 4 (by simp) _ (fun _ => ⟨_, _, rfl, rangeAt_new w2 [.slice a.a3 r.wants.length a.c3, .slice a.a4 r.haves.length a.c4, .slice a.a5 r.common.length a.c5, .slice a.a6 r.shallow.length a.c6] 23⟩)).mono ?_; rintro e w4 ⟨rfl, rfl⟩; simp only [List.all_cons, List.all_nil, Bool.and_true, hfw]))
      iterate 5 (try go_wp2_with (first | (go_at_call 60; refine (in60_any _ _ _).mono ?_; rintro e w1 ⟨rfl, rfl⟩; (try simp only [h3, h4, h5])) | (go_at_call 61; refine (fine61_any r.caps a.a2 a.c2 n1 HC.out _ (HQ.out.caps.below hbel)).mono ?_; rintro e w2 ⟨rfl, hb2⟩; simp only [hcp]; have d3 := (hbx.call hb2).cell 3 _ rfl; have d4 := (hbx.call hb2).cell 4 _ rfl; have d5 := (hbx.call hb2).cell 5 _ rfl; have d6 := (hbx.call hb2).cell 6 _ rfl; have d9 := (hbx.call hb2).cell 9 _ rfl; have d10 := (hbx.call hb2).cell 10 _ rfl; have hlt2 := (hbx.call hb2).lt) | (go_at_call 62; refine (few62_any [(a.a3, r.wants.length, a.c3), (a.a4, r.haves.length, a.c4), (a.a5, r.common.length, a.c5), (a.a6, r.shallow.length, a.c6)] _ 4 (by simp) _ (fun _ => ⟨_, _, rfl, rangeAt_new w2 [.slice a.a3 r.wants.length a.c3, .slice a.a4 r.haves.length a.c4, .slice a.a5 r.common.length a.c5, .slice a.a6 r.shallow.length a.c6] 23⟩)).mono ?_; rintro e w4 ⟨rfl, rfl⟩; simp only [List.all_cons, List.all_nil, Bool.and_true, hfw])))
      go_ret
      exact ⟨by rw [hno.out]; rfl, ((hbx.call hb2).alloc _).below⟩
end Go.Proofs.YtmfpmedkhlhnpaaGreatDoor
