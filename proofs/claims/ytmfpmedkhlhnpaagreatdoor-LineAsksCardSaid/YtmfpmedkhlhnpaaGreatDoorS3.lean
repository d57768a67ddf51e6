import Derived.Test.YtmfpmedkhlhnpaaGreatDoorS1
import Derived.Deep.DeepCutAuto
/- functions 76 (ref.Fine), 49 (line.tells). -/
namespace Go.Proofs.YtmfpmedkhlhnpaaGreatDoor
open Go.RowKit Go.Extern.Stop Go.Proofs.YtmfpmedkhlhnpaaGreatDoorW.PrintLast
set_option maxRecDepth 100000
set_option linter.unusedSimpArgs false
set_option linter.unusedVariables false
theorem refv_one (u : Rf) : (refc u).toArray.all (·.oneCell') = true := by
  rw [Array.all_eq_true']
  intro v hv
  rcases List.mem_cons.1 (List.mem_toArray.1 hv) with rfl | hv
  · rfl
  · exact idc_one _ v hv
theorem none98_any (l : List UInt8) (hl : l.length = 32) (w : World) : Calls Tryz.prog 98 #[.agg (idv l)] w fun e w' => e = .returned (.bool (l == noId)) ∧ Below w.heap.size w w' :=
  (none_any l hl w).mono fun e w' ⟨h, hw⟩ => ⟨h, hw ▸ below_alloc (Below.refl _ _) _⟩
theorem info88s : (Tryz.prog.info? 88).map (·.size) = some 33 := by kernel_rfl
theorem zero88 : ((Tryz.prog.info? 88).bind (·.zero)).isSome = true := by kernel_rfl
theorem zsize88 : (zeroCells 88).size = 33 := by kernel_rfl
theorem eqIn_sum (a : List UInt8) (ha : a.length = 32) (w : World) : Sem.run Tryz.prog (Op.equalIn 10000 41 (.agg (idc a).toArray) (.agg #[.int .u8 0, .int .u8 0, .int .u8 0, .int .u8 0, .int .u8 0, .int .u8 0, .int .u8 0, .int .u8 0, .int .u8 0, .int .u8 0, .int .u8 0, .int .u8 0, .int .u8 0, .int .u8 0, .int .u8 0, .int .u8 0, .int .u8 0, .int .u8 0, .int .u8 0, .int .u8 0, .int .u8 0, .int .u8 0, .int .u8 0, .int .u8 0, .int .u8 0, .int .u8 0, .int .u8 0, .int .u8 0, .int .u8 0, .int .u8 0, .int .u8 0, .int .u8 0])) w = .ok (a == noId) w := run_equalIn_bytes (P := Tryz.prog) w 9998 41 5 32 und41 und5 siz5 a noId ha noId_length
theorem ref_name {rs : List Rf} {k : Nat} {s : Rf} (hs : rs[k]? = some s) : rs.getD k ⟨[], []⟩ = s := by rw [List.getD_eq_getElem?_getD, hs]; rfl
theorem refs_no {rs : List Rf} {k : Nat} (hk : k < rs.length) (h : refP rs k = false) : Hid (refsOk rs = false) := Lib.hid (by rw [refsOk, range_no hk h]; rfl)
theorem refs_end {rs : List Rf} (h : Hid ((List.range rs.length).all (refP rs) = true)) : Hid (refsOk rs = decide (rs.length ≤ 64)) := Lib.hid (by rw [refsOk, h.out]; rfl)
theorem ref_word {rs : List Rf} {k : Nat} {s : Rf} (hs : rs[k]? = some s) (h : nameOk s.name = false) : refP rs k = false := by rw [refP, ref_name hs, h]; rfl
theorem ref_none {rs : List Rf} {k : Nat} {s : Rf} (hs : rs[k]? = some s) (h : (s.id == noId) = true) : refP rs k = false := by rw [refP, ref_name hs, h]; simp
theorem ref_zero {rs : List Rf} {k : Nat} {s : Rf} (hs : rs[k]? = some s) (h : nameOk s.name = true) (h2 : (s.id == noId) = false) (hk : k = 0) : refP rs k = true := by rw [refP, ref_name hs, h, h2, hk]; rfl
theorem ref_pos {rs : List Rf} {k : Nat} {s s0 : Rf} (hs : rs[k]? = some s) (hs0 : rs[k - 1]? = some s0) (h : nameOk s.name = true) (h2 : (s.id == noId) = false) (hk : ¬ k = 0) : refP rs k = slt s0.name s.name := by
  rw [refP, ref_name hs, ref_name hs0, h, h2]; simp [hk]
set_option maxHeartbeats 4000000 in
theorem fine76_any (rs : List Rf) (A : Option Addr) (ca : Nat) (hn : rs.length ≤ 9223372036854775807) (hl : ∀ x ∈ rs, x.ok) (w : World) (hA : Rd w A (refsc rs)) :
    Calls Tryz.prog 76 #[.slice A rs.length ca] w fun e w' => e = .returned (.bool (refsOk rs)) ∧ Below w.heap.size w w' := by
  have HL := Lib.hid hl
  clear hl
  go_enter Tryz.func76, Tryz.ntmps76
  go_wp2
  go_loopw [7] (fun i wr => ∃ k : Nat, k ≤ rs.length ∧ i = .int .i64 k ∧ Hid ((List.range k).all (refP rs) = true) ∧ Below w.heap.size w wr) (fun i _ => rs.length - (intOf i).toNat)
  case atStart => exact ⟨0, by omega, rfl, by simp [Hid], Below.refl _ _⟩
  case round =>
    obtain ⟨k, hk, rfl, hall, hbel⟩ := hrel
    by_cases hlt : k < rs.length
    · obtain ⟨b1, o1, s, rfl, cu, hs⟩ := Rd.at (f := refc) (n := 33) (by omega) (hA.below hbel) (fun x hx => refc_length x (HL.out x hx).1) k hlt
      have HS := Lib.hid hs
      have HId := Lib.hid (HL.out s (List.mem_of_getElem? hs)).1
      have HN := Lib.hid (HL.out s (List.mem_of_getElem? hs)).2
      have hnew := rangeAt_new wr (refc s) 88
      have cn0 : (wr.alloc (.cells (refc s).toArray 88)).cell? ⟨wr.heap.size, 0, none⟩ = some (.string (bs s.name)) := by simpa using hnew 0 (.string (bs s.name)) rfl
      have cn1 : (wr.alloc (.cells (refc s).toArray 88)).rangeAt wr.heap.size 1 (idc s.id) := fun j v hj => by
        have := hnew (1 + j) v (by rw [Nat.add_comm]; simpa [refc] using hj)
        rwa [Nat.zero_add] at this
      clear hs hnew
      cases hF : nameOk s.name with
      | false =>
        have hno := refs_no hlt (ref_word HS.out hF)
        go_wp2_with (first
          | (refine wpList_load_mid rfl 88 _ rfl b1 (o1 + k * 33) rfl (refc s) _ cu und88 rfl (by rw [refc_length s HId.out]; exact info88s) ?_)
          | (refine wpList_run rfl (op_allocZ _ _ _ _ _ _ _ 88 zero88) ?_)
          | (refine wpList_store_new rfl 88 _ _ rfl _ (refc s).toArray rfl rfl (by rw [List.size_toArray, refc_length s HId.out]; exact info88s) (by rw [zsize88, List.size_toArray, refc_length s HId.out]) (refv_one s) ?_))
        refine start_ (n := 24) (S := (fun V => V.cell? ⟨wr.heap.size, 0, none⟩ = some (.string (bs s.name)) ∧ V.rangeAt wr.heap.size 1 (idc s.id) ∧ Below (wr.alloc (.cells (refc s).toArray 88)).heap.size (wr.alloc (.cells (refc s).toArray 88)) V)) (ds := []) #[false, false, false, false, false, false, false, false, false, false, false, false, false, false, false, false, false, false, false, false, false, false, false, false] (by kernel_rfl) rfl rfl (⟨cn0, cn1, below_drew (Below.refl _ _)⟩) (fun hHeld => ?_)
        refine pure_ (i := 0) (N := (some 12)) (v := ?_) (a' := ?_) #[true, false, false, false, false, false, false, false, false, false, false, false, false, false, false, false, false, false, false, false, false, false, false, false] rfl rfl (by kernel_rfl) (fun _ _ _ h => h) (Or.inl ⟨by rfl, ?_⟩) ?_ ?_
        rotate_left
        · intro w'
          go_simp
          with_reducible rfl
        rotate_left
        · simp only [Act.put, List.setIfInBounds_toArray, List.set_cons_zero, List.set_cons_succ]
          rfl
        refine take_ (i := 1) (N := (some 13)) (v := ?_) (a' := ?_) #[true, true, false, false, false, false, false, false, false, false, false, false, false, false, false, false, false, false, false, false, false, false, false, false] rfl rfl (by kernel_rfl) (fun _ _ _ h => h) (Or.inl ⟨by rfl, ?_⟩) hHeld ?_ ?_
        rotate_left
        · intro w' hS'
          have h1 := hS'.1
          go_simp
          with_reducible rfl
        rotate_left
        · simp only [Act.put, List.setIfInBounds_toArray, List.set_cons_zero, List.set_cons_succ]
          rfl
        refine one_ (i := 2) (N := (some 14)) #[true, true, true, false, false, false, false, false, false, false, false, false, false, false, false, false, false, false, false, false, false, false, false, false] rfl rfl (by kernel_rfl) (by simp) (fun K hK => ?_)
        refine goes_ Tryz.func59 (by kernel_rfl) rfl #[.string (bs s.name)] (by rfl) rfl rfl (by first | rfl | simp [Act.eval]) ?_
        refine (name59_any s.name HN.out _).mono ?_
        rintro e w1 ⟨rfl, rfl⟩
        simp only [hF]
        refine ⟨_, rfl, hK _ _ hHeld (fun hHeld => ?_)⟩
        simp only [Act.put, List.setIfInBounds_toArray, List.set_cons_zero, List.set_cons_succ]
        refine pure_ (i := 3) (N := (some 15)) (v := ?_) (a' := ?_) #[true, true, true, true, false, false, false, false, false, false, false, false, false, false, false, false, false, false, false, false, false, false, false, false] rfl rfl (by kernel_rfl) (fun _ _ _ h => h) (Or.inl ⟨by rfl, ?_⟩) ?_ ?_
        rotate_left
        · intro w'
          go_simp
          first | with_reducible rfl | rfl
        rotate_left
        · simp only [Act.put, List.setIfInBounds_toArray, List.set_cons_zero, List.set_cons_succ]
          rfl
        refine pure_ (i := 4) (N := (some 16)) (v := ?_) (a' := ?_) #[true, true, true, true, true, false, false, false, false, false, false, false, false, false, false, false, false, false, false, false, false, false, false, false] rfl rfl (by kernel_rfl) (fun _ _ _ h => h) (Or.inl ⟨by rfl, ?_⟩) ?_ ?_
        rotate_left
        · intro w'
          go_simp
          with_reducible rfl
        rotate_left
        · simp only [Act.put, List.setIfInBounds_toArray, List.set_cons_zero, List.set_cons_succ]
          rfl
        refine pure_ (i := 5) (N := (some 17)) (v := undef) (a' := ?_) #[true, true, true, true, true, true, false, false, false, false, false, false, false, false, false, false, false, false, false, false, false, false, false, false] rfl rfl (by kernel_rfl) (fun _ _ _ h => h) (Or.inr ⟨by rfl, rfl⟩) ?_ ?_
        rotate_left
        · simp only [Act.put, List.setIfInBounds_toArray, List.set_cons_zero, List.set_cons_succ]
          rfl
        refine pure_ (i := 6) (N := (some 18)) (v := undef) (a' := ?_) #[true, true, true, true, true, true, true, false, false, false, false, false, false, false, false, false, false, false, false, false, false, false, false, false] rfl rfl (by kernel_rfl) (fun _ _ _ h => h) (Or.inr ⟨by rfl, rfl⟩) ?_ ?_
        rotate_left
        · simp only [Act.put, List.setIfInBounds_toArray, List.set_cons_zero, List.set_cons_succ]
          rfl
        refine pure_ (i := 7) (N := (some 19)) (v := undef) (a' := ?_) #[true, true, true, true, true, true, true, true, false, false, false, false, false, false, false, false, false, false, false, false, false, false, false, false] rfl rfl (by kernel_rfl) (fun _ _ _ h => h) (Or.inr ⟨by rfl, rfl⟩) ?_ ?_
        rotate_left
        · simp only [Act.put, List.setIfInBounds_toArray, List.set_cons_zero, List.set_cons_succ]
          rfl
        refine pure_ (i := 8) (N := (some 20)) (v := ?_) (a' := ?_) #[true, true, true, true, true, true, true, true, true, false, false, false, false, false, false, false, false, false, false, false, false, false, false, false] rfl rfl (by kernel_rfl) (fun _ _ _ h => h) (Or.inl ⟨by rfl, ?_⟩) ?_ ?_
        rotate_left
        · intro w'
          go_simp
          first | with_reducible rfl | rfl
        rotate_left
        · simp only [Act.put, List.setIfInBounds_toArray, List.set_cons_zero, List.set_cons_succ]
          rfl
        refine pure_ (i := 9) (N := (some 21)) (v := ?_) (a' := ?_) #[true, true, true, true, true, true, true, true, true, true, false, false, false, false, false, false, false, false, false, false, false, false, false, false] rfl rfl (by kernel_rfl) (fun _ _ _ h => h) (Or.inl ⟨by rfl, ?_⟩) ?_ ?_
        rotate_left
        · intro w'
          go_simp
          with_reducible rfl
        rotate_left
        · simp only [Act.put, List.setIfInBounds_toArray, List.set_cons_zero, List.set_cons_succ]
          rfl
        refine pure_ (i := 10) (N := (some 22)) (v := undef) (a' := ?_) #[true, true, true, true, true, true, true, true, true, true, true, false, false, false, false, false, false, false, false, false, false, false, false, false] rfl rfl (by kernel_rfl) (fun _ _ _ h => h) (Or.inr ⟨by rfl, rfl⟩) ?_ ?_
        rotate_left
        · simp only [Act.put, List.setIfInBounds_toArray, List.set_cons_zero, List.set_cons_succ]
          rfl
        refine pure_ (i := 11) (N := (some 23)) (v := undef) (a' := ?_) #[true, true, true, true, true, true, true, true, true, true, true, true, false, false, false, false, false, false, false, false, false, false, false, false] rfl rfl (by kernel_rfl) (fun _ _ _ h => h) (Or.inr ⟨by rfl, rfl⟩) ?_ ?_
        rotate_left
        · simp only [Act.put, List.setIfInBounds_toArray, List.set_cons_zero, List.set_cons_succ]
          rfl
        refine pure_ (i := 12) (N := (some 24)) (v := undef) (a' := ?_) #[true, true, true, true, true, true, true, true, true, true, true, true, true, false, false, false, false, false, false, false, false, false, false, false] rfl rfl (by kernel_rfl) (fun _ _ _ h => h) (Or.inr ⟨by rfl, rfl⟩) ?_ ?_
        rotate_left
        · simp only [Act.put, List.setIfInBounds_toArray, List.set_cons_zero, List.set_cons_succ]
          rfl
        refine pure_ (i := 13) (N := (some 25)) (v := undef) (a' := ?_) #[true, true, true, true, true, true, true, true, true, true, true, true, true, true, false, false, false, false, false, false, false, false, false, false] rfl rfl (by kernel_rfl) (fun _ _ _ h => h) (Or.inr ⟨by rfl, rfl⟩) ?_ ?_
        rotate_left
        · simp only [Act.put, List.setIfInBounds_toArray, List.set_cons_zero, List.set_cons_succ]
          rfl
        refine pure_ (i := 14) (N := (some 26)) (v := undef) (a' := ?_) #[true, true, true, true, true, true, true, true, true, true, true, true, true, true, true, false, false, false, false, false, false, false, false, false] rfl rfl (by kernel_rfl) (fun _ _ _ h => h) (Or.inr ⟨by rfl, rfl⟩) ?_ ?_
        rotate_left
        · simp only [Act.put, List.setIfInBounds_toArray, List.set_cons_zero, List.set_cons_succ]
          rfl
        refine pure_ (i := 15) (N := (some 27)) (v := undef) (a' := ?_) #[true, true, true, true, true, true, true, true, true, true, true, true, true, true, true, true, false, false, false, false, false, false, false, false] rfl rfl (by kernel_rfl) (fun _ _ _ h => h) (Or.inr ⟨by rfl, rfl⟩) ?_ ?_
        rotate_left
        · simp only [Act.put, List.setIfInBounds_toArray, List.set_cons_zero, List.set_cons_succ]
          rfl
        refine pure_ (i := 16) (N := (some 28)) (v := undef) (a' := ?_) #[true, true, true, true, true, true, true, true, true, true, true, true, true, true, true, true, true, false, false, false, false, false, false, false] rfl rfl (by kernel_rfl) (fun _ _ _ h => h) (Or.inr ⟨by rfl, rfl⟩) ?_ ?_
        rotate_left
        · simp only [Act.put, List.setIfInBounds_toArray, List.set_cons_zero, List.set_cons_succ]
          rfl
        refine pure_ (i := 17) (N := (some 29)) (v := undef) (a' := ?_) #[true, true, true, true, true, true, true, true, true, true, true, true, true, true, true, true, true, true, false, false, false, false, false, false] rfl rfl (by kernel_rfl) (fun _ _ _ h => h) (Or.inr ⟨by rfl, rfl⟩) ?_ ?_
        rotate_left
        · simp only [Act.put, List.setIfInBounds_toArray, List.set_cons_zero, List.set_cons_succ]
          rfl
        refine pure_ (i := 18) (N := (some 30)) (v := undef) (a' := ?_) #[true, true, true, true, true, true, true, true, true, true, true, true, true, true, true, true, true, true, true, false, false, false, false, false] rfl rfl (by kernel_rfl) (fun _ _ _ h => h) (Or.inr ⟨by rfl, rfl⟩) ?_ ?_
        rotate_left
        · simp only [Act.put, List.setIfInBounds_toArray, List.set_cons_zero, List.set_cons_succ]
          rfl
        refine pure_ (i := 19) (N := (some 31)) (v := undef) (a' := ?_) #[true, true, true, true, true, true, true, true, true, true, true, true, true, true, true, true, true, true, true, true, false, false, false, false] rfl rfl (by kernel_rfl) (fun _ _ _ h => h) (Or.inr ⟨by rfl, rfl⟩) ?_ ?_
        rotate_left
        · simp only [Act.put, List.setIfInBounds_toArray, List.set_cons_zero, List.set_cons_succ]
          rfl
        refine pure_ (i := 20) (N := (some 32)) (v := undef) (a' := ?_) #[true, true, true, true, true, true, true, true, true, true, true, true, true, true, true, true, true, true, true, true, true, false, false, false] rfl rfl (by kernel_rfl) (fun _ _ _ h => h) (Or.inr ⟨by rfl, rfl⟩) ?_ ?_
        rotate_left
        · simp only [Act.put, List.setIfInBounds_toArray, List.set_cons_zero, List.set_cons_succ]
          rfl
        refine pure_ (i := 21) (N := (some 33)) (v := undef) (a' := ?_) #[true, true, true, true, true, true, true, true, true, true, true, true, true, true, true, true, true, true, true, true, true, true, false, false] rfl rfl (by kernel_rfl) (fun _ _ _ h => h) (Or.inr ⟨by rfl, rfl⟩) ?_ ?_
        rotate_left
        · simp only [Act.put, List.setIfInBounds_toArray, List.set_cons_zero, List.set_cons_succ]
          rfl
        refine pure_ (i := 22) (N := (some 34)) (v := undef) (a' := ?_) #[true, true, true, true, true, true, true, true, true, true, true, true, true, true, true, true, true, true, true, true, true, true, true, false] rfl rfl (by kernel_rfl) (fun _ _ _ h => h) (Or.inr ⟨by rfl, rfl⟩) ?_ ?_
        rotate_left
        · simp only [Act.put, List.setIfInBounds_toArray, List.set_cons_zero, List.set_cons_succ]
          rfl
        refine pure_ (i := 23) (N := (some 35)) (v := ?_) (a' := ?_) #[true, true, true, true, true, true, true, true, true, true, true, true, true, true, true, true, true, true, true, true, true, true, true, true] rfl rfl (by kernel_rfl) (fun _ _ _ h => h) (Or.inl ⟨by rfl, ?_⟩) ?_ ?_
        rotate_left
        · intro w'
          go_simp
          first | with_reducible rfl | rfl
        rotate_left
        · simp only [Act.put, List.setIfInBounds_toArray, List.set_cons_zero, List.set_cons_succ]
          rfl
        refine done_ (by kernel_rfl) ?_
        go_wp2
        go_ret
        exact ⟨by rw [hno.out]; rfl, below_call (below_alloc hbel _) hHeld.2.2⟩

      | true =>
        cases hN : (s.id == noId) with
        | true =>
          have hno := refs_no hlt (ref_none HS.out hN)
          go_wp2_with (first
            | (refine wpList_load_mid rfl 88 _ rfl b1 (o1 + k * 33) rfl (refc s) _ cu und88 rfl (by rw [refc_length s HId.out]; exact info88s) ?_)
            | (refine wpList_run rfl (op_allocZ _ _ _ _ _ _ _ 88 zero88) ?_)
            | (refine wpList_store_new rfl 88 _ _ rfl _ (refc s).toArray rfl rfl (by rw [List.size_toArray, refc_length s HId.out]; exact info88s) (by rw [zsize88, List.size_toArray, refc_length s HId.out]) (refv_one s) ?_))
          refine start_ (n := 24) (S := (fun V => V.cell? ⟨wr.heap.size, 0, none⟩ = some (.string (bs s.name)) ∧ V.rangeAt wr.heap.size 1 (idc s.id) ∧ Below (wr.alloc (.cells (refc s).toArray 88)).heap.size (wr.alloc (.cells (refc s).toArray 88)) V)) (ds := []) #[false, false, false, false, false, false, false, false, false, false, false, false, false, false, false, false, false, false, false, false, false, false, false, false] (by kernel_rfl) rfl rfl (⟨cn0, cn1, below_drew (Below.refl _ _)⟩) (fun hHeld => ?_)
          refine pure_ (i := 0) (N := (some 12)) (v := ?_) (a' := ?_) #[true, false, false, false, false, false, false, false, false, false, false, false, false, false, false, false, false, false, false, false, false, false, false, false] rfl rfl (by kernel_rfl) (fun _ _ _ h => h) (Or.inl ⟨by rfl, ?_⟩) ?_ ?_
          rotate_left
          · intro w'
            go_simp
            with_reducible rfl
          rotate_left
          · simp only [Act.put, List.setIfInBounds_toArray, List.set_cons_zero, List.set_cons_succ]
            rfl
          refine take_ (i := 1) (N := (some 13)) (v := ?_) (a' := ?_) #[true, true, false, false, false, false, false, false, false, false, false, false, false, false, false, false, false, false, false, false, false, false, false, false] rfl rfl (by kernel_rfl) (fun _ _ _ h => h) (Or.inl ⟨by rfl, ?_⟩) hHeld ?_ ?_
          rotate_left
          · intro w' hS'
            have h1 := hS'.1
            go_simp
            with_reducible rfl
          rotate_left
          · simp only [Act.put, List.setIfInBounds_toArray, List.set_cons_zero, List.set_cons_succ]
            rfl
          refine one_ (i := 2) (N := (some 14)) #[true, true, true, false, false, false, false, false, false, false, false, false, false, false, false, false, false, false, false, false, false, false, false, false] rfl rfl (by kernel_rfl) (by simp) (fun K hK => ?_)
          refine goes_ Tryz.func59 (by kernel_rfl) rfl #[.string (bs s.name)] (by rfl) rfl rfl (by first | rfl | simp [Act.eval]) ?_
          refine (name59_any s.name HN.out _).mono ?_
          rintro e w1 ⟨rfl, rfl⟩
          simp only [hF]
          refine ⟨_, rfl, hK _ _ hHeld (fun hHeld => ?_)⟩
          simp only [Act.put, List.setIfInBounds_toArray, List.set_cons_zero, List.set_cons_succ]
          refine pure_ (i := 3) (N := (some 15)) (v := ?_) (a' := ?_) #[true, true, true, true, false, false, false, false, false, false, false, false, false, false, false, false, false, false, false, false, false, false, false, false] rfl rfl (by kernel_rfl) (fun _ _ _ h => h) (Or.inl ⟨by rfl, ?_⟩) ?_ ?_
          rotate_left
          · intro w'
            go_simp
            first | with_reducible rfl | rfl
          rotate_left
          · simp only [Act.put, List.setIfInBounds_toArray, List.set_cons_zero, List.set_cons_succ]
            rfl
          refine pure_ (i := 4) (N := (some 16)) (v := ?_) (a' := ?_) #[true, true, true, true, true, false, false, false, false, false, false, false, false, false, false, false, false, false, false, false, false, false, false, false] rfl rfl (by kernel_rfl) (fun _ _ _ h => h) (Or.inl ⟨by rfl, ?_⟩) ?_ ?_
          rotate_left
          · intro w'
            go_simp
            with_reducible rfl
          rotate_left
          · simp only [Act.put, List.setIfInBounds_toArray, List.set_cons_zero, List.set_cons_succ]
            rfl
          refine pure_ (i := 5) (N := (some 17)) (v := ?_) (a' := ?_) #[true, true, true, true, true, true, false, false, false, false, false, false, false, false, false, false, false, false, false, false, false, false, false, false] rfl rfl (by kernel_rfl) (fun _ _ _ h => h) (Or.inl ⟨by rfl, ?_⟩) ?_ ?_
          rotate_left
          · intro w'
            go_simp
            with_reducible rfl
          rotate_left
          · simp only [Act.put, List.setIfInBounds_toArray, List.set_cons_zero, List.set_cons_succ]
            rfl
          refine take_ (i := 6) (N := (some 18)) (v := ?_) (a' := ?_) #[true, true, true, true, true, true, true, false, false, false, false, false, false, false, false, false, false, false, false, false, false, false, false, false] rfl rfl (by kernel_rfl) (fun _ _ _ h => h) (Or.inl ⟨by rfl, ?_⟩) hHeld ?_ ?_
          rotate_left
          · intro w' hS'
            refine op_load_mid _ _ _ _ _ _ _ _ 41 wr.heap.size 1 (idc s.id) _ ?_ hS'.2.1 und41 rfl ?_
            rfl
            rw [idc_length, HId.out]; exact info41
          rotate_left
          · simp only [Act.put, List.setIfInBounds_toArray, List.set_cons_zero, List.set_cons_succ]
            rfl
          refine one_ (i := 7) (N := (some 19)) #[true, true, true, true, true, true, true, true, false, false, false, false, false, false, false, false, false, false, false, false, false, false, false, false] rfl rfl (by kernel_rfl) (by simp) (fun K hK => ?_)
          refine goes_ Tryz.func98 (by kernel_rfl) rfl #[.agg (idv s.id)] (by rfl) rfl rfl (by first | rfl | simp [Act.eval]) ?_
          refine (none98_any s.id HId.out _).mono ?_
          rintro e w1 ⟨rfl, hb2⟩
          simp only [hN]
          refine ⟨_, rfl, hK _ _ (⟨cell_below hb2 hHeld.1, range_below hHeld.2.1 hb2, below_call hHeld.2.2 hb2⟩) (fun hHeld => ?_)⟩
          simp only [Act.put, List.setIfInBounds_toArray, List.set_cons_zero, List.set_cons_succ]
          refine pure_ (i := 8) (N := (some 20)) (v := ?_) (a' := ?_) #[true, true, true, true, true, true, true, true, true, false, false, false, false, false, false, false, false, false, false, false, false, false, false, false] rfl rfl (by kernel_rfl) (fun _ _ _ h => h) (Or.inl ⟨by rfl, ?_⟩) ?_ ?_
          rotate_left
          · intro w'
            go_simp
            first | with_reducible rfl | rfl
          rotate_left
          · simp only [Act.put, List.setIfInBounds_toArray, List.set_cons_zero, List.set_cons_succ]
            rfl
          refine pure_ (i := 9) (N := (some 21)) (v := ?_) (a' := ?_) #[true, true, true, true, true, true, true, true, true, true, false, false, false, false, false, false, false, false, false, false, false, false, false, false] rfl rfl (by kernel_rfl) (fun _ _ _ h => h) (Or.inl ⟨by rfl, ?_⟩) ?_ ?_
          rotate_left
          · intro w'
            go_simp
            with_reducible rfl
          rotate_left
          · simp only [Act.put, List.setIfInBounds_toArray, List.set_cons_zero, List.set_cons_succ]
            rfl
          refine pure_ (i := 10) (N := (some 22)) (v := undef) (a' := ?_) #[true, true, true, true, true, true, true, true, true, true, true, false, false, false, false, false, false, false, false, false, false, false, false, false] rfl rfl (by kernel_rfl) (fun _ _ _ h => h) (Or.inr ⟨by rfl, rfl⟩) ?_ ?_
          rotate_left
          · simp only [Act.put, List.setIfInBounds_toArray, List.set_cons_zero, List.set_cons_succ]
            rfl
          refine pure_ (i := 11) (N := (some 23)) (v := undef) (a' := ?_) #[true, true, true, true, true, true, true, true, true, true, true, true, false, false, false, false, false, false, false, false, false, false, false, false] rfl rfl (by kernel_rfl) (fun _ _ _ h => h) (Or.inr ⟨by rfl, rfl⟩) ?_ ?_
          rotate_left
          · simp only [Act.put, List.setIfInBounds_toArray, List.set_cons_zero, List.set_cons_succ]
            rfl
          refine pure_ (i := 12) (N := (some 24)) (v := undef) (a' := ?_) #[true, true, true, true, true, true, true, true, true, true, true, true, true, false, false, false, false, false, false, false, false, false, false, false] rfl rfl (by kernel_rfl) (fun _ _ _ h => h) (Or.inr ⟨by rfl, rfl⟩) ?_ ?_
          rotate_left
          · simp only [Act.put, List.setIfInBounds_toArray, List.set_cons_zero, List.set_cons_succ]
            rfl
          refine pure_ (i := 13) (N := (some 25)) (v := undef) (a' := ?_) #[true, true, true, true, true, true, true, true, true, true, true, true, true, true, false, false, false, false, false, false, false, false, false, false] rfl rfl (by kernel_rfl) (fun _ _ _ h => h) (Or.inr ⟨by rfl, rfl⟩) ?_ ?_
          rotate_left
          · simp only [Act.put, List.setIfInBounds_toArray, List.set_cons_zero, List.set_cons_succ]
            rfl
          refine pure_ (i := 14) (N := (some 26)) (v := undef) (a' := ?_) #[true, true, true, true, true, true, true, true, true, true, true, true, true, true, true, false, false, false, false, false, false, false, false, false] rfl rfl (by kernel_rfl) (fun _ _ _ h => h) (Or.inr ⟨by rfl, rfl⟩) ?_ ?_
          rotate_left
          · simp only [Act.put, List.setIfInBounds_toArray, List.set_cons_zero, List.set_cons_succ]
            rfl
          refine pure_ (i := 15) (N := (some 27)) (v := undef) (a' := ?_) #[true, true, true, true, true, true, true, true, true, true, true, true, true, true, true, true, false, false, false, false, false, false, false, false] rfl rfl (by kernel_rfl) (fun _ _ _ h => h) (Or.inr ⟨by rfl, rfl⟩) ?_ ?_
          rotate_left
          · simp only [Act.put, List.setIfInBounds_toArray, List.set_cons_zero, List.set_cons_succ]
            rfl
          refine pure_ (i := 16) (N := (some 28)) (v := undef) (a' := ?_) #[true, true, true, true, true, true, true, true, true, true, true, true, true, true, true, true, true, false, false, false, false, false, false, false] rfl rfl (by kernel_rfl) (fun _ _ _ h => h) (Or.inr ⟨by rfl, rfl⟩) ?_ ?_
          rotate_left
          · simp only [Act.put, List.setIfInBounds_toArray, List.set_cons_zero, List.set_cons_succ]
            rfl
          refine pure_ (i := 17) (N := (some 29)) (v := undef) (a' := ?_) #[true, true, true, true, true, true, true, true, true, true, true, true, true, true, true, true, true, true, false, false, false, false, false, false] rfl rfl (by kernel_rfl) (fun _ _ _ h => h) (Or.inr ⟨by rfl, rfl⟩) ?_ ?_
          rotate_left
          · simp only [Act.put, List.setIfInBounds_toArray, List.set_cons_zero, List.set_cons_succ]
            rfl
          refine pure_ (i := 18) (N := (some 30)) (v := undef) (a' := ?_) #[true, true, true, true, true, true, true, true, true, true, true, true, true, true, true, true, true, true, true, false, false, false, false, false] rfl rfl (by kernel_rfl) (fun _ _ _ h => h) (Or.inr ⟨by rfl, rfl⟩) ?_ ?_
          rotate_left
          · simp only [Act.put, List.setIfInBounds_toArray, List.set_cons_zero, List.set_cons_succ]
            rfl
          refine pure_ (i := 19) (N := (some 31)) (v := undef) (a' := ?_) #[true, true, true, true, true, true, true, true, true, true, true, true, true, true, true, true, true, true, true, true, false, false, false, false] rfl rfl (by kernel_rfl) (fun _ _ _ h => h) (Or.inr ⟨by rfl, rfl⟩) ?_ ?_
          rotate_left
          · simp only [Act.put, List.setIfInBounds_toArray, List.set_cons_zero, List.set_cons_succ]
            rfl
          refine pure_ (i := 20) (N := (some 32)) (v := undef) (a' := ?_) #[true, true, true, true, true, true, true, true, true, true, true, true, true, true, true, true, true, true, true, true, true, false, false, false] rfl rfl (by kernel_rfl) (fun _ _ _ h => h) (Or.inr ⟨by rfl, rfl⟩) ?_ ?_
          rotate_left
          · simp only [Act.put, List.setIfInBounds_toArray, List.set_cons_zero, List.set_cons_succ]
            rfl
          refine pure_ (i := 21) (N := (some 33)) (v := undef) (a' := ?_) #[true, true, true, true, true, true, true, true, true, true, true, true, true, true, true, true, true, true, true, true, true, true, false, false] rfl rfl (by kernel_rfl) (fun _ _ _ h => h) (Or.inr ⟨by rfl, rfl⟩) ?_ ?_
          rotate_left
          · simp only [Act.put, List.setIfInBounds_toArray, List.set_cons_zero, List.set_cons_succ]
            rfl
          refine pure_ (i := 22) (N := (some 34)) (v := undef) (a' := ?_) #[true, true, true, true, true, true, true, true, true, true, true, true, true, true, true, true, true, true, true, true, true, true, true, false] rfl rfl (by kernel_rfl) (fun _ _ _ h => h) (Or.inr ⟨by rfl, rfl⟩) ?_ ?_
          rotate_left
          · simp only [Act.put, List.setIfInBounds_toArray, List.set_cons_zero, List.set_cons_succ]
            rfl
          refine pure_ (i := 23) (N := (some 35)) (v := ?_) (a' := ?_) #[true, true, true, true, true, true, true, true, true, true, true, true, true, true, true, true, true, true, true, true, true, true, true, true] rfl rfl (by kernel_rfl) (fun _ _ _ h => h) (Or.inl ⟨by rfl, ?_⟩) ?_ ?_
          rotate_left
          · intro w'
            go_simp
            first | with_reducible rfl | rfl
          rotate_left
          · simp only [Act.put, List.setIfInBounds_toArray, List.set_cons_zero, List.set_cons_succ]
            rfl
          refine done_ (by kernel_rfl) ?_
          go_wp2
          go_ret
          exact ⟨by rw [hno.out]; rfl, below_call (below_alloc hbel _) hHeld.2.2⟩
  
        | false =>
          by_cases h0 : k = 0
          · have hnx := range_next hall (ref_zero HS.out hF hN h0)
            have hk0 : decide (0 < (k : Int)) = false := by simp; omega
            have H0 := Lib.hid h0
            clear h0
            go_wp2_with (first
              | (refine wpList_load_mid rfl 88 _ rfl b1 (o1 + k * 33) rfl (refc s) _ cu und88 rfl (by rw [refc_length s HId.out]; exact info88s) ?_)
              | (refine wpList_run rfl (op_allocZ _ _ _ _ _ _ _ 88 zero88) ?_)
              | (refine wpList_store_new rfl 88 _ _ rfl _ (refc s).toArray rfl rfl (by rw [List.size_toArray, refc_length s HId.out]; exact info88s) (by rw [zsize88, List.size_toArray, refc_length s HId.out]) (refv_one s) ?_))
            refine start_ (n := 24) (S := (fun V => V.cell? ⟨wr.heap.size, 0, none⟩ = some (.string (bs s.name)) ∧ V.rangeAt wr.heap.size 1 (idc s.id) ∧ Below (wr.alloc (.cells (refc s).toArray 88)).heap.size (wr.alloc (.cells (refc s).toArray 88)) V)) (ds := []) #[false, false, false, false, false, false, false, false, false, false, false, false, false, false, false, false, false, false, false, false, false, false, false, false] (by kernel_rfl) rfl rfl (⟨cn0, cn1, below_drew (Below.refl _ _)⟩) (fun hHeld => ?_)
            refine pure_ (i := 0) (N := (some 12)) (v := ?_) (a' := ?_) #[true, false, false, false, false, false, false, false, false, false, false, false, false, false, false, false, false, false, false, false, false, false, false, false] rfl rfl (by kernel_rfl) (fun _ _ _ h => h) (Or.inl ⟨by rfl, ?_⟩) ?_ ?_
            rotate_left
            · intro w'
              go_simp
              with_reducible rfl
            rotate_left
            · simp only [Act.put, List.setIfInBounds_toArray, List.set_cons_zero, List.set_cons_succ]
              rfl
            refine take_ (i := 1) (N := (some 13)) (v := ?_) (a' := ?_) #[true, true, false, false, false, false, false, false, false, false, false, false, false, false, false, false, false, false, false, false, false, false, false, false] rfl rfl (by kernel_rfl) (fun _ _ _ h => h) (Or.inl ⟨by rfl, ?_⟩) hHeld ?_ ?_
            rotate_left
            · intro w' hS'
              have h1 := hS'.1
              go_simp
              with_reducible rfl
            rotate_left
            · simp only [Act.put, List.setIfInBounds_toArray, List.set_cons_zero, List.set_cons_succ]
              rfl
            refine one_ (i := 2) (N := (some 14)) #[true, true, true, false, false, false, false, false, false, false, false, false, false, false, false, false, false, false, false, false, false, false, false, false] rfl rfl (by kernel_rfl) (by simp) (fun K hK => ?_)
            refine goes_ Tryz.func59 (by kernel_rfl) rfl #[.string (bs s.name)] (by rfl) rfl rfl (by first | rfl | simp [Act.eval]) ?_
            refine (name59_any s.name HN.out _).mono ?_
            rintro e w1 ⟨rfl, rfl⟩
            simp only [hF]
            refine ⟨_, rfl, hK _ _ hHeld (fun hHeld => ?_)⟩
            simp only [Act.put, List.setIfInBounds_toArray, List.set_cons_zero, List.set_cons_succ]
            refine pure_ (i := 3) (N := (some 15)) (v := ?_) (a' := ?_) #[true, true, true, true, false, false, false, false, false, false, false, false, false, false, false, false, false, false, false, false, false, false, false, false] rfl rfl (by kernel_rfl) (fun _ _ _ h => h) (Or.inl ⟨by rfl, ?_⟩) ?_ ?_
            rotate_left
            · intro w'
              go_simp
              first | with_reducible rfl | rfl
            rotate_left
            · simp only [Act.put, List.setIfInBounds_toArray, List.set_cons_zero, List.set_cons_succ]
              rfl
            refine pure_ (i := 4) (N := (some 16)) (v := ?_) (a' := ?_) #[true, true, true, true, true, false, false, false, false, false, false, false, false, false, false, false, false, false, false, false, false, false, false, false] rfl rfl (by kernel_rfl) (fun _ _ _ h => h) (Or.inl ⟨by rfl, ?_⟩) ?_ ?_
            rotate_left
            · intro w'
              go_simp
              with_reducible rfl
            rotate_left
            · simp only [Act.put, List.setIfInBounds_toArray, List.set_cons_zero, List.set_cons_succ]
              rfl
            refine pure_ (i := 5) (N := (some 17)) (v := ?_) (a' := ?_) #[true, true, true, true, true, true, false, false, false, false, false, false, false, false, false, false, false, false, false, false, false, false, false, false] rfl rfl (by kernel_rfl) (fun _ _ _ h => h) (Or.inl ⟨by rfl, ?_⟩) ?_ ?_
            rotate_left
            · intro w'
              go_simp
              with_reducible rfl
            rotate_left
            · simp only [Act.put, List.setIfInBounds_toArray, List.set_cons_zero, List.set_cons_succ]
              rfl
            refine take_ (i := 6) (N := (some 18)) (v := ?_) (a' := ?_) #[true, true, true, true, true, true, true, false, false, false, false, false, false, false, false, false, false, false, false, false, false, false, false, false] rfl rfl (by kernel_rfl) (fun _ _ _ h => h) (Or.inl ⟨by rfl, ?_⟩) hHeld ?_ ?_
            rotate_left
            · intro w' hS'
              refine op_load_mid _ _ _ _ _ _ _ _ 41 wr.heap.size 1 (idc s.id) _ ?_ hS'.2.1 und41 rfl ?_
              rfl
              rw [idc_length, HId.out]; exact info41
            rotate_left
            · simp only [Act.put, List.setIfInBounds_toArray, List.set_cons_zero, List.set_cons_succ]
              rfl
            refine one_ (i := 7) (N := (some 19)) #[true, true, true, true, true, true, true, true, false, false, false, false, false, false, false, false, false, false, false, false, false, false, false, false] rfl rfl (by kernel_rfl) (by simp) (fun K hK => ?_)
            refine goes_ Tryz.func98 (by kernel_rfl) rfl #[.agg (idv s.id)] (by rfl) rfl rfl (by first | rfl | simp [Act.eval]) ?_
            refine (none98_any s.id HId.out _).mono ?_
            rintro e w1 ⟨rfl, hb2⟩
            simp only [hN]
            refine ⟨_, rfl, hK _ _ (⟨cell_below hb2 hHeld.1, range_below hHeld.2.1 hb2, below_call hHeld.2.2 hb2⟩) (fun hHeld => ?_)⟩
            simp only [Act.put, List.setIfInBounds_toArray, List.set_cons_zero, List.set_cons_succ]
            refine pure_ (i := 8) (N := (some 20)) (v := ?_) (a' := ?_) #[true, true, true, true, true, true, true, true, true, false, false, false, false, false, false, false, false, false, false, false, false, false, false, false] rfl rfl (by kernel_rfl) (fun _ _ _ h => h) (Or.inl ⟨by rfl, ?_⟩) ?_ ?_
            rotate_left
            · intro w'
              go_simp
              first | with_reducible rfl | rfl
            rotate_left
            · simp only [Act.put, List.setIfInBounds_toArray, List.set_cons_zero, List.set_cons_succ]
              rfl
            refine pure_ (i := 9) (N := (some 21)) (v := ?_) (a' := ?_) #[true, true, true, true, true, true, true, true, true, true, false, false, false, false, false, false, false, false, false, false, false, false, false, false] rfl rfl (by kernel_rfl) (fun _ _ _ h => h) (Or.inl ⟨by rfl, ?_⟩) ?_ ?_
            rotate_left
            · intro w'
              go_simp
              with_reducible rfl
            rotate_left
            · simp only [Act.put, List.setIfInBounds_toArray, List.set_cons_zero, List.set_cons_succ]
              rfl
            refine pure_ (i := 10) (N := (some 22)) (v := ?_) (a' := ?_) #[true, true, true, true, true, true, true, true, true, true, true, false, false, false, false, false, false, false, false, false, false, false, false, false] rfl rfl (by kernel_rfl) (fun _ _ _ h => h) (Or.inl ⟨by rfl, ?_⟩) ?_ ?_
            rotate_left
            · intro w'
              go_simp
              with_reducible rfl
            rotate_left
            · simp only [Act.put, List.setIfInBounds_toArray, List.set_cons_zero, List.set_cons_succ]
              rfl
            refine pure_ (i := 11) (N := (some 23)) (v := ?_) (a' := ?_) #[true, true, true, true, true, true, true, true, true, true, true, true, false, false, false, false, false, false, false, false, false, false, false, false] rfl rfl (by kernel_rfl) (fun _ _ _ h => h) (Or.inl ⟨by rfl, ?_⟩) ?_ ?_
            rotate_left
            · intro w'
              refine op_gtr _ _ _ _ _ _ _ _ _ _ _ (k : Int) 0 false hk0 ?_ ?_
              rfl
              rfl
            rotate_left
            · simp only [Act.put, List.setIfInBounds_toArray, List.set_cons_zero, List.set_cons_succ]
              rfl
            refine pure_ (i := 12) (N := (some 24)) (v := ?_) (a' := ?_) #[true, true, true, true, true, true, true, true, true, true, true, true, true, false, false, false, false, false, false, false, false, false, false, false] rfl rfl (by kernel_rfl) (fun _ _ _ h => h) (Or.inl ⟨by rfl, ?_⟩) ?_ ?_
            rotate_left
            · intro w'
              go_simp
              with_reducible rfl
            rotate_left
            · simp only [Act.put, List.setIfInBounds_toArray, List.set_cons_zero, List.set_cons_succ]
              rfl
            refine pure_ (i := 13) (N := (some 25)) (v := undef) (a' := ?_) #[true, true, true, true, true, true, true, true, true, true, true, true, true, true, false, false, false, false, false, false, false, false, false, false] rfl rfl (by kernel_rfl) (fun _ _ _ h => h) (Or.inr ⟨by rfl, rfl⟩) ?_ ?_
            rotate_left
            · simp only [Act.put, List.setIfInBounds_toArray, List.set_cons_zero, List.set_cons_succ]
              rfl
            refine pure_ (i := 14) (N := (some 26)) (v := undef) (a' := ?_) #[true, true, true, true, true, true, true, true, true, true, true, true, true, true, true, false, false, false, false, false, false, false, false, false] rfl rfl (by kernel_rfl) (fun _ _ _ h => h) (Or.inr ⟨by rfl, rfl⟩) ?_ ?_
            rotate_left
            · simp only [Act.put, List.setIfInBounds_toArray, List.set_cons_zero, List.set_cons_succ]
              rfl
            refine pure_ (i := 15) (N := (some 27)) (v := undef) (a' := ?_) #[true, true, true, true, true, true, true, true, true, true, true, true, true, true, true, true, false, false, false, false, false, false, false, false] rfl rfl (by kernel_rfl) (fun _ _ _ h => h) (Or.inr ⟨by rfl, rfl⟩) ?_ ?_
            rotate_left
            · simp only [Act.put, List.setIfInBounds_toArray, List.set_cons_zero, List.set_cons_succ]
              rfl
            refine pure_ (i := 16) (N := (some 28)) (v := undef) (a' := ?_) #[true, true, true, true, true, true, true, true, true, true, true, true, true, true, true, true, true, false, false, false, false, false, false, false] rfl rfl (by kernel_rfl) (fun _ _ _ h => h) (Or.inr ⟨by rfl, rfl⟩) ?_ ?_
            rotate_left
            · simp only [Act.put, List.setIfInBounds_toArray, List.set_cons_zero, List.set_cons_succ]
              rfl
            refine pure_ (i := 17) (N := (some 29)) (v := undef) (a' := ?_) #[true, true, true, true, true, true, true, true, true, true, true, true, true, true, true, true, true, true, false, false, false, false, false, false] rfl rfl (by kernel_rfl) (fun _ _ _ h => h) (Or.inr ⟨by rfl, rfl⟩) ?_ ?_
            rotate_left
            · simp only [Act.put, List.setIfInBounds_toArray, List.set_cons_zero, List.set_cons_succ]
              rfl
            refine pure_ (i := 18) (N := (some 30)) (v := undef) (a' := ?_) #[true, true, true, true, true, true, true, true, true, true, true, true, true, true, true, true, true, true, true, false, false, false, false, false] rfl rfl (by kernel_rfl) (fun _ _ _ h => h) (Or.inr ⟨by rfl, rfl⟩) ?_ ?_
            rotate_left
            · simp only [Act.put, List.setIfInBounds_toArray, List.set_cons_zero, List.set_cons_succ]
              rfl
            refine pure_ (i := 19) (N := (some 31)) (v := undef) (a' := ?_) #[true, true, true, true, true, true, true, true, true, true, true, true, true, true, true, true, true, true, true, true, false, false, false, false] rfl rfl (by kernel_rfl) (fun _ _ _ h => h) (Or.inr ⟨by rfl, rfl⟩) ?_ ?_
            rotate_left
            · simp only [Act.put, List.setIfInBounds_toArray, List.set_cons_zero, List.set_cons_succ]
              rfl
            refine pure_ (i := 20) (N := (some 32)) (v := undef) (a' := ?_) #[true, true, true, true, true, true, true, true, true, true, true, true, true, true, true, true, true, true, true, true, true, false, false, false] rfl rfl (by kernel_rfl) (fun _ _ _ h => h) (Or.inr ⟨by rfl, rfl⟩) ?_ ?_
            rotate_left
            · simp only [Act.put, List.setIfInBounds_toArray, List.set_cons_zero, List.set_cons_succ]
              rfl
            refine pure_ (i := 21) (N := (some 33)) (v := undef) (a' := ?_) #[true, true, true, true, true, true, true, true, true, true, true, true, true, true, true, true, true, true, true, true, true, true, false, false] rfl rfl (by kernel_rfl) (fun _ _ _ h => h) (Or.inr ⟨by rfl, rfl⟩) ?_ ?_
            rotate_left
            · simp only [Act.put, List.setIfInBounds_toArray, List.set_cons_zero, List.set_cons_succ]
              rfl
            refine pure_ (i := 22) (N := (some 34)) (v := ?_) (a' := ?_) #[true, true, true, true, true, true, true, true, true, true, true, true, true, true, true, true, true, true, true, true, true, true, true, false] rfl rfl (by kernel_rfl) (fun _ _ _ h => h) (Or.inl ⟨by rfl, ?_⟩) ?_ ?_
            rotate_left
            · intro w'
              go_simp
              first | with_reducible rfl | rfl
            rotate_left
            · simp only [Act.put, List.setIfInBounds_toArray, List.set_cons_zero, List.set_cons_succ]
              rfl
            refine pure_ (i := 23) (N := (some 35)) (v := ?_) (a' := ?_) #[true, true, true, true, true, true, true, true, true, true, true, true, true, true, true, true, true, true, true, true, true, true, true, true] rfl rfl (by kernel_rfl) (fun _ _ _ h => h) (Or.inl ⟨by rfl, ?_⟩) ?_ ?_
            rotate_left
            · intro w'
              go_simp
              first | with_reducible rfl | rfl
            rotate_left
            · simp only [Act.put, List.setIfInBounds_toArray, List.set_cons_zero, List.set_cons_succ]
              rfl
            refine done_ (by kernel_rfl) ?_
            go_wp2
            go_roundw
            case rel => exact ⟨k + 1, by omega, by go_num, hnx, below_call (below_alloc hbel _) hHeld.2.2⟩
            case measure => simp [intOf]; omega
    
          · have hk0 : decide (0 < (k : Int)) = true := by simp; omega
            obtain ⟨b2, o2, s0, e2, cu0, hs0⟩ := Rd.at (f := refc) (n := 33) (by omega) (hA.below hbel) (fun x hx => refc_length x (HL.out x hx).1) (k - 1) (by omega)
            injection e2 with e2; injection e2 with e3 e4; subst e3 e4
            have hcp := Lib.hid (ref_pos HS.out hs0 hF hN h0)
            have cp : (wr.alloc (.cells (refc s).toArray 88)).cell? ⟨b1, o1 + (k - 1) * 33, none⟩ = some (.string (bs s0.name)) := cell_below (below_alloc (Below.refl _ _) _) (by simpa using cu0 0 (.string (bs s0.name)) rfl)
            have hi : ((k : Int) - 1).toNat = k - 1 := by omega
            have h0' : 0 ≤ (k : Int) - 1 := by omega
            have h1k : 1 ≤ (k : Int) := by omega
            have h9 : (k : Int) - 1 < (rs.length : Int) := by omega
            clear hs0 cu0
            cases hle : slt s0.name s.name with
            | true =>
              have hnx := Lib.hid (range_next hall (by rw [hcp.out, hle]))
              go_wp2_with (first
                | (refine wpList_load_mid rfl 88 _ rfl b1 (o1 + k * 33) rfl (refc s) _ cu und88 rfl (by rw [refc_length s HId.out]; exact info88s) ?_)
                | (refine wpList_run rfl (op_allocZ _ _ _ _ _ _ _ 88 zero88) ?_)
                | (refine wpList_store_new rfl 88 _ _ rfl _ (refc s).toArray rfl rfl (by rw [List.size_toArray, refc_length s HId.out]; exact info88s) (by rw [zsize88, List.size_toArray, refc_length s HId.out]) (refv_one s) ?_))
              refine start_ (n := 24) (S := (fun V => V.cell? ⟨wr.heap.size, 0, none⟩ = some (.string (bs s.name)) ∧ V.rangeAt wr.heap.size 1 (idc s.id) ∧ Below (wr.alloc (.cells (refc s).toArray 88)).heap.size (wr.alloc (.cells (refc s).toArray 88)) V ∧ V.cell? ⟨b1, o1 + (k - 1) * 33, none⟩ = some (.string (bs s0.name)))) (ds := []) #[false, false, false, false, false, false, false, false, false, false, false, false, false, false, false, false, false, false, false, false, false, false, false, false] (by kernel_rfl) rfl rfl (⟨cn0, cn1, below_drew (Below.refl _ _), cp⟩) (fun hHeld => ?_)
              refine pure_ (i := 0) (N := (some 12)) (v := ?_) (a' := ?_) #[true, false, false, false, false, false, false, false, false, false, false, false, false, false, false, false, false, false, false, false, false, false, false, false] rfl rfl (by kernel_rfl) (fun _ _ _ h => h) (Or.inl ⟨by rfl, ?_⟩) ?_ ?_
              rotate_left
              · intro w'
                go_simp
                with_reducible rfl
              rotate_left
              · simp only [Act.put, List.setIfInBounds_toArray, List.set_cons_zero, List.set_cons_succ]
                rfl
              refine take_ (i := 1) (N := (some 13)) (v := ?_) (a' := ?_) #[true, true, false, false, false, false, false, false, false, false, false, false, false, false, false, false, false, false, false, false, false, false, false, false] rfl rfl (by kernel_rfl) (fun _ _ _ h => h) (Or.inl ⟨by rfl, ?_⟩) hHeld ?_ ?_
              rotate_left
              · intro w' hS'
                have h1 := hS'.1
                go_simp
                with_reducible rfl
              rotate_left
              · simp only [Act.put, List.setIfInBounds_toArray, List.set_cons_zero, List.set_cons_succ]
                rfl
              refine one_ (i := 2) (N := (some 14)) #[true, true, true, false, false, false, false, false, false, false, false, false, false, false, false, false, false, false, false, false, false, false, false, false] rfl rfl (by kernel_rfl) (by simp) (fun K hK => ?_)
              refine goes_ Tryz.func59 (by kernel_rfl) rfl #[.string (bs s.name)] (by rfl) rfl rfl (by first | rfl | simp [Act.eval]) ?_
              refine (name59_any s.name HN.out _).mono ?_
              rintro e w1 ⟨rfl, rfl⟩
              simp only [hF]
              refine ⟨_, rfl, hK _ _ hHeld (fun hHeld => ?_)⟩
              simp only [Act.put, List.setIfInBounds_toArray, List.set_cons_zero, List.set_cons_succ]
              refine pure_ (i := 3) (N := (some 15)) (v := ?_) (a' := ?_) #[true, true, true, true, false, false, false, false, false, false, false, false, false, false, false, false, false, false, false, false, false, false, false, false] rfl rfl (by kernel_rfl) (fun _ _ _ h => h) (Or.inl ⟨by rfl, ?_⟩) ?_ ?_
              rotate_left
              · intro w'
                go_simp
                first | with_reducible rfl | rfl
              rotate_left
              · simp only [Act.put, List.setIfInBounds_toArray, List.set_cons_zero, List.set_cons_succ]
                rfl
              refine pure_ (i := 4) (N := (some 16)) (v := ?_) (a' := ?_) #[true, true, true, true, true, false, false, false, false, false, false, false, false, false, false, false, false, false, false, false, false, false, false, false] rfl rfl (by kernel_rfl) (fun _ _ _ h => h) (Or.inl ⟨by rfl, ?_⟩) ?_ ?_
              rotate_left
              · intro w'
                go_simp
                with_reducible rfl
              rotate_left
              · simp only [Act.put, List.setIfInBounds_toArray, List.set_cons_zero, List.set_cons_succ]
                rfl
              refine pure_ (i := 5) (N := (some 17)) (v := ?_) (a' := ?_) #[true, true, true, true, true, true, false, false, false, false, false, false, false, false, false, false, false, false, false, false, false, false, false, false] rfl rfl (by kernel_rfl) (fun _ _ _ h => h) (Or.inl ⟨by rfl, ?_⟩) ?_ ?_
              rotate_left
              · intro w'
                go_simp
                with_reducible rfl
              rotate_left
              · simp only [Act.put, List.setIfInBounds_toArray, List.set_cons_zero, List.set_cons_succ]
                rfl
              refine take_ (i := 6) (N := (some 18)) (v := ?_) (a' := ?_) #[true, true, true, true, true, true, true, false, false, false, false, false, false, false, false, false, false, false, false, false, false, false, false, false] rfl rfl (by kernel_rfl) (fun _ _ _ h => h) (Or.inl ⟨by rfl, ?_⟩) hHeld ?_ ?_
              rotate_left
              · intro w' hS'
                refine op_load_mid _ _ _ _ _ _ _ _ 41 wr.heap.size 1 (idc s.id) _ ?_ hS'.2.1 und41 rfl ?_
                rfl
                rw [idc_length, HId.out]; exact info41
              rotate_left
              · simp only [Act.put, List.setIfInBounds_toArray, List.set_cons_zero, List.set_cons_succ]
                rfl
              refine one_ (i := 7) (N := (some 19)) #[true, true, true, true, true, true, true, true, false, false, false, false, false, false, false, false, false, false, false, false, false, false, false, false] rfl rfl (by kernel_rfl) (by simp) (fun K hK => ?_)
              refine goes_ Tryz.func98 (by kernel_rfl) rfl #[.agg (idv s.id)] (by rfl) rfl rfl (by first | rfl | simp [Act.eval]) ?_
              refine (none98_any s.id HId.out _).mono ?_
              rintro e w1 ⟨rfl, hb2⟩
              simp only [hN]
              refine ⟨_, rfl, hK _ _ (⟨cell_below hb2 hHeld.1, range_below hHeld.2.1 hb2, below_call hHeld.2.2.1 hb2, cell_below hb2 hHeld.2.2.2⟩) (fun hHeld => ?_)⟩
              simp only [Act.put, List.setIfInBounds_toArray, List.set_cons_zero, List.set_cons_succ]
              refine pure_ (i := 8) (N := (some 20)) (v := ?_) (a' := ?_) #[true, true, true, true, true, true, true, true, true, false, false, false, false, false, false, false, false, false, false, false, false, false, false, false] rfl rfl (by kernel_rfl) (fun _ _ _ h => h) (Or.inl ⟨by rfl, ?_⟩) ?_ ?_
              rotate_left
              · intro w'
                go_simp
                first | with_reducible rfl | rfl
              rotate_left
              · simp only [Act.put, List.setIfInBounds_toArray, List.set_cons_zero, List.set_cons_succ]
                rfl
              refine pure_ (i := 9) (N := (some 21)) (v := ?_) (a' := ?_) #[true, true, true, true, true, true, true, true, true, true, false, false, false, false, false, false, false, false, false, false, false, false, false, false] rfl rfl (by kernel_rfl) (fun _ _ _ h => h) (Or.inl ⟨by rfl, ?_⟩) ?_ ?_
              rotate_left
              · intro w'
                go_simp
                with_reducible rfl
              rotate_left
              · simp only [Act.put, List.setIfInBounds_toArray, List.set_cons_zero, List.set_cons_succ]
                rfl
              refine pure_ (i := 10) (N := (some 22)) (v := ?_) (a' := ?_) #[true, true, true, true, true, true, true, true, true, true, true, false, false, false, false, false, false, false, false, false, false, false, false, false] rfl rfl (by kernel_rfl) (fun _ _ _ h => h) (Or.inl ⟨by rfl, ?_⟩) ?_ ?_
              rotate_left
              · intro w'
                go_simp
                with_reducible rfl
              rotate_left
              · simp only [Act.put, List.setIfInBounds_toArray, List.set_cons_zero, List.set_cons_succ]
                rfl
              refine pure_ (i := 11) (N := (some 23)) (v := ?_) (a' := ?_) #[true, true, true, true, true, true, true, true, true, true, true, true, false, false, false, false, false, false, false, false, false, false, false, false] rfl rfl (by kernel_rfl) (fun _ _ _ h => h) (Or.inl ⟨by rfl, ?_⟩) ?_ ?_
              rotate_left
              · intro w'
                refine op_gtr _ _ _ _ _ _ _ _ _ _ _ (k : Int) 0 true hk0 ?_ ?_
                rfl
                rfl
              rotate_left
              · simp only [Act.put, List.setIfInBounds_toArray, List.set_cons_zero, List.set_cons_succ]
                rfl
              refine pure_ (i := 12) (N := (some 24)) (v := ?_) (a' := ?_) #[true, true, true, true, true, true, true, true, true, true, true, true, true, false, false, false, false, false, false, false, false, false, false, false] rfl rfl (by kernel_rfl) (fun _ _ _ h => h) (Or.inl ⟨by rfl, ?_⟩) ?_ ?_
              rotate_left
              · intro w'
                go_simp
                with_reducible rfl
              rotate_left
              · simp only [Act.put, List.setIfInBounds_toArray, List.set_cons_zero, List.set_cons_succ]
                rfl
              refine pure_ (i := 13) (N := (some 25)) (v := ?_) (a' := ?_) #[true, true, true, true, true, true, true, true, true, true, true, true, true, true, false, false, false, false, false, false, false, false, false, false] rfl rfl (by kernel_rfl) (fun _ _ _ h => h) (Or.inl ⟨by rfl, ?_⟩) ?_ ?_
              rotate_left
              · intro w'
                go_simp
                with_reducible rfl
              rotate_left
              · simp only [Act.put, List.setIfInBounds_toArray, List.set_cons_zero, List.set_cons_succ]
                rfl
              refine pure_ (i := 14) (N := (some 26)) (v := ?_) (a' := ?_) #[true, true, true, true, true, true, true, true, true, true, true, true, true, true, true, false, false, false, false, false, false, false, false, false] rfl rfl (by kernel_rfl) (fun _ _ _ h => h) (Or.inl ⟨by rfl, ?_⟩) ?_ ?_
              rotate_left
              · intro w'
                go_simp
                with_reducible rfl
              rotate_left
              · simp only [Act.put, List.setIfInBounds_toArray, List.set_cons_zero, List.set_cons_succ]
                rfl
              refine pure_ (i := 15) (N := (some 27)) (v := ?_) (a' := ?_) #[true, true, true, true, true, true, true, true, true, true, true, true, true, true, true, true, false, false, false, false, false, false, false, false] rfl rfl (by kernel_rfl) (fun _ _ _ h => h) (Or.inl ⟨by rfl, ?_⟩) ?_ ?_
              rotate_left
              · intro w'
                have hw1 := IntWalk.i64_in ((k : Int) - 1) (by omega)
                go_simp
                with_reducible rfl
              rotate_left
              · simp only [Act.put, List.setIfInBounds_toArray, List.set_cons_zero, List.set_cons_succ]
                rfl
              refine pure_ (i := 16) (N := (some 28)) (v := ?_) (a' := ?_) #[true, true, true, true, true, true, true, true, true, true, true, true, true, true, true, true, true, false, false, false, false, false, false, false] rfl rfl (by kernel_rfl) (fun _ _ _ h => h) (Or.inl ⟨by rfl, ?_⟩) ?_ ?_
              rotate_left
              · intro w'
                go_simp
                first | with_reducible rfl | rfl
              rotate_left
              · simp only [Act.put, List.setIfInBounds_toArray, List.set_cons_zero, List.set_cons_succ]
                rfl
              refine pure_ (i := 17) (N := (some 29)) (v := ?_) (a' := ?_) #[true, true, true, true, true, true, true, true, true, true, true, true, true, true, true, true, true, true, false, false, false, false, false, false] rfl rfl (by kernel_rfl) (fun _ _ _ h => h) (Or.inl ⟨by rfl, ?_⟩) ?_ ?_
              rotate_left
              · intro w'
                go_simp
                with_reducible rfl
              rotate_left
              · simp only [Act.put, List.setIfInBounds_toArray, List.set_cons_zero, List.set_cons_succ]
                rfl
              refine take_ (i := 18) (N := (some 30)) (v := ?_) (a' := ?_) #[true, true, true, true, true, true, true, true, true, true, true, true, true, true, true, true, true, true, true, false, false, false, false, false] rfl rfl (by kernel_rfl) (fun _ _ _ h => h) (Or.inl ⟨by rfl, ?_⟩) hHeld ?_ ?_
              rotate_left
              · intro w' hS'
                have h1 := hS'.2.2.2
                go_simp
                with_reducible rfl
              rotate_left
              · simp only [Act.put, List.setIfInBounds_toArray, List.set_cons_zero, List.set_cons_succ]
                rfl
              refine pure_ (i := 19) (N := (some 31)) (v := ?_) (a' := ?_) #[true, true, true, true, true, true, true, true, true, true, true, true, true, true, true, true, true, true, true, true, false, false, false, false] rfl rfl (by kernel_rfl) (fun _ _ _ h => h) (Or.inl ⟨by rfl, ?_⟩) ?_ ?_
              rotate_left
              · intro w'
                go_simp
                with_reducible rfl
              rotate_left
              · simp only [Act.put, List.setIfInBounds_toArray, List.set_cons_zero, List.set_cons_succ]
                rfl
              refine take_ (i := 20) (N := (some 32)) (v := ?_) (a' := ?_) #[true, true, true, true, true, true, true, true, true, true, true, true, true, true, true, true, true, true, true, true, true, false, false, false] rfl rfl (by kernel_rfl) (fun _ _ _ h => h) (Or.inl ⟨by rfl, ?_⟩) hHeld ?_ ?_
              rotate_left
              · intro w' hS'
                have h1 := hS'.1
                go_simp
                with_reducible rfl
              rotate_left
              · simp only [Act.put, List.setIfInBounds_toArray, List.set_cons_zero, List.set_cons_succ]
                rfl
              refine pure_ (i := 21) (N := (some 33)) (v := ?_) (a' := ?_) #[true, true, true, true, true, true, true, true, true, true, true, true, true, true, true, true, true, true, true, true, true, true, false, false] rfl rfl (by kernel_rfl) (fun _ _ _ h => h) (Or.inl ⟨by rfl, ?_⟩) ?_ ?_
              rotate_left
              · intro w'
                refine op_str_geqB _ _ _ _ _ _ _ _ _ _ s0.name s.name false (by rw [hle]; rfl) ?_ ?_
                rfl
                rfl
              rotate_left
              · simp only [Act.put, List.setIfInBounds_toArray, List.set_cons_zero, List.set_cons_succ]
                rfl
              refine pure_ (i := 22) (N := (some 34)) (v := ?_) (a' := ?_) #[true, true, true, true, true, true, true, true, true, true, true, true, true, true, true, true, true, true, true, true, true, true, true, false] rfl rfl (by kernel_rfl) (fun _ _ _ h => h) (Or.inl ⟨by rfl, ?_⟩) ?_ ?_
              rotate_left
              · intro w'
                go_simp
                first | with_reducible rfl | rfl
              rotate_left
              · simp only [Act.put, List.setIfInBounds_toArray, List.set_cons_zero, List.set_cons_succ]
                rfl
              refine pure_ (i := 23) (N := (some 35)) (v := ?_) (a' := ?_) #[true, true, true, true, true, true, true, true, true, true, true, true, true, true, true, true, true, true, true, true, true, true, true, true] rfl rfl (by kernel_rfl) (fun _ _ _ h => h) (Or.inl ⟨by rfl, ?_⟩) ?_ ?_
              rotate_left
              · intro w'
                go_simp
                first | with_reducible rfl | rfl
              rotate_left
              · simp only [Act.put, List.setIfInBounds_toArray, List.set_cons_zero, List.set_cons_succ]
                rfl
              refine done_ (by kernel_rfl) ?_
              go_wp2
              go_roundw
              case rel => exact ⟨k + 1, by omega, by go_num, hnx.out, below_call (below_alloc hbel _) hHeld.2.2.1⟩
              case measure => simp [intOf]; omega
      
            | false =>
              have hno := refs_no hlt (by rw [hcp.out, hle])
              go_wp2_with (first
                | (refine wpList_load_mid rfl 88 _ rfl b1 (o1 + k * 33) rfl (refc s) _ cu und88 rfl (by rw [refc_length s HId.out]; exact info88s) ?_)
                | (refine wpList_run rfl (op_allocZ _ _ _ _ _ _ _ 88 zero88) ?_)
                | (refine wpList_store_new rfl 88 _ _ rfl _ (refc s).toArray rfl rfl (by rw [List.size_toArray, refc_length s HId.out]; exact info88s) (by rw [zsize88, List.size_toArray, refc_length s HId.out]) (refv_one s) ?_))
              refine start_ (n := 24) (S := (fun V => V.cell? ⟨wr.heap.size, 0, none⟩ = some (.string (bs s.name)) ∧ V.rangeAt wr.heap.size 1 (idc s.id) ∧ Below (wr.alloc (.cells (refc s).toArray 88)).heap.size (wr.alloc (.cells (refc s).toArray 88)) V ∧ V.cell? ⟨b1, o1 + (k - 1) * 33, none⟩ = some (.string (bs s0.name)))) (ds := []) #[false, false, false, false, false, false, false, false, false, false, false, false, false, false, false, false, false, false, false, false, false, false, false, false] (by kernel_rfl) rfl rfl (⟨cn0, cn1, below_drew (Below.refl _ _), cp⟩) (fun hHeld => ?_)
              refine pure_ (i := 0) (N := (some 12)) (v := ?_) (a' := ?_) #[true, false, false, false, false, false, false, false, false, false, false, false, false, false, false, false, false, false, false, false, false, false, false, false] rfl rfl (by kernel_rfl) (fun _ _ _ h => h) (Or.inl ⟨by rfl, ?_⟩) ?_ ?_
              rotate_left
              · intro w'
                go_simp
                with_reducible rfl
              rotate_left
              · simp only [Act.put, List.setIfInBounds_toArray, List.set_cons_zero, List.set_cons_succ]
                rfl
              refine take_ (i := 1) (N := (some 13)) (v := ?_) (a' := ?_) #[true, true, false, false, false, false, false, false, false, false, false, false, false, false, false, false, false, false, false, false, false, false, false, false] rfl rfl (by kernel_rfl) (fun _ _ _ h => h) (Or.inl ⟨by rfl, ?_⟩) hHeld ?_ ?_
              rotate_left
              · intro w' hS'
                have h1 := hS'.1
                go_simp
                with_reducible rfl
              rotate_left
              · simp only [Act.put, List.setIfInBounds_toArray, List.set_cons_zero, List.set_cons_succ]
                rfl
              refine one_ (i := 2) (N := (some 14)) #[true, true, true, false, false, false, false, false, false, false, false, false, false, false, false, false, false, false, false, false, false, false, false, false] rfl rfl (by kernel_rfl) (by simp) (fun K hK => ?_)
              refine goes_ Tryz.func59 (by kernel_rfl) rfl #[.string (bs s.name)] (by rfl) rfl rfl (by first | rfl | simp [Act.eval]) ?_
              refine (name59_any s.name HN.out _).mono ?_
              rintro e w1 ⟨rfl, rfl⟩
              simp only [hF]
              refine ⟨_, rfl, hK _ _ hHeld (fun hHeld => ?_)⟩
              simp only [Act.put, List.setIfInBounds_toArray, List.set_cons_zero, List.set_cons_succ]
              refine pure_ (i := 3) (N := (some 15)) (v := ?_) (a' := ?_) #[true, true, true, true, false, false, false, false, false, false, false, false, false, false, false, false, false, false, false, false, false, false, false, false] rfl rfl (by kernel_rfl) (fun _ _ _ h => h) (Or.inl ⟨by rfl, ?_⟩) ?_ ?_
              rotate_left
              · intro w'
                go_simp
                first | with_reducible rfl | rfl
              rotate_left
              · simp only [Act.put, List.setIfInBounds_toArray, List.set_cons_zero, List.set_cons_succ]
                rfl
              refine pure_ (i := 4) (N := (some 16)) (v := ?_) (a' := ?_) #[true, true, true, true, true, false, false, false, false, false, false, false, false, false, false, false, false, false, false, false, false, false, false, false] rfl rfl (by kernel_rfl) (fun _ _ _ h => h) (Or.inl ⟨by rfl, ?_⟩) ?_ ?_
              rotate_left
              · intro w'
                go_simp
                with_reducible rfl
              rotate_left
              · simp only [Act.put, List.setIfInBounds_toArray, List.set_cons_zero, List.set_cons_succ]
                rfl
              refine pure_ (i := 5) (N := (some 17)) (v := ?_) (a' := ?_) #[true, true, true, true, true, true, false, false, false, false, false, false, false, false, false, false, false, false, false, false, false, false, false, false] rfl rfl (by kernel_rfl) (fun _ _ _ h => h) (Or.inl ⟨by rfl, ?_⟩) ?_ ?_
              rotate_left
              · intro w'
                go_simp
                with_reducible rfl
              rotate_left
              · simp only [Act.put, List.setIfInBounds_toArray, List.set_cons_zero, List.set_cons_succ]
                rfl
              refine take_ (i := 6) (N := (some 18)) (v := ?_) (a' := ?_) #[true, true, true, true, true, true, true, false, false, false, false, false, false, false, false, false, false, false, false, false, false, false, false, false] rfl rfl (by kernel_rfl) (fun _ _ _ h => h) (Or.inl ⟨by rfl, ?_⟩) hHeld ?_ ?_
              rotate_left
              · intro w' hS'
                refine op_load_mid _ _ _ _ _ _ _ _ 41 wr.heap.size 1 (idc s.id) _ ?_ hS'.2.1 und41 rfl ?_
                rfl
                rw [idc_length, HId.out]; exact info41
              rotate_left
              · simp only [Act.put, List.setIfInBounds_toArray, List.set_cons_zero, List.set_cons_succ]
                rfl
              refine one_ (i := 7) (N := (some 19)) #[true, true, true, true, true, true, true, true, false, false, false, false, false, false, false, false, false, false, false, false, false, false, false, false] rfl rfl (by kernel_rfl) (by simp) (fun K hK => ?_)
              refine goes_ Tryz.func98 (by kernel_rfl) rfl #[.agg (idv s.id)] (by rfl) rfl rfl (by first | rfl | simp [Act.eval]) ?_
              refine (none98_any s.id HId.out _).mono ?_
              rintro e w1 ⟨rfl, hb2⟩
              simp only [hN]
              refine ⟨_, rfl, hK _ _ (⟨cell_below hb2 hHeld.1, range_below hHeld.2.1 hb2, below_call hHeld.2.2.1 hb2, cell_below hb2 hHeld.2.2.2⟩) (fun hHeld => ?_)⟩
              simp only [Act.put, List.setIfInBounds_toArray, List.set_cons_zero, List.set_cons_succ]
              refine pure_ (i := 8) (N := (some 20)) (v := ?_) (a' := ?_) #[true, true, true, true, true, true, true, true, true, false, false, false, false, false, false, false, false, false, false, false, false, false, false, false] rfl rfl (by kernel_rfl) (fun _ _ _ h => h) (Or.inl ⟨by rfl, ?_⟩) ?_ ?_
              rotate_left
              · intro w'
                go_simp
                first | with_reducible rfl | rfl
              rotate_left
              · simp only [Act.put, List.setIfInBounds_toArray, List.set_cons_zero, List.set_cons_succ]
                rfl
              refine pure_ (i := 9) (N := (some 21)) (v := ?_) (a' := ?_) #[true, true, true, true, true, true, true, true, true, true, false, false, false, false, false, false, false, false, false, false, false, false, false, false] rfl rfl (by kernel_rfl) (fun _ _ _ h => h) (Or.inl ⟨by rfl, ?_⟩) ?_ ?_
              rotate_left
              · intro w'
                go_simp
                with_reducible rfl
              rotate_left
              · simp only [Act.put, List.setIfInBounds_toArray, List.set_cons_zero, List.set_cons_succ]
                rfl
              refine pure_ (i := 10) (N := (some 22)) (v := ?_) (a' := ?_) #[true, true, true, true, true, true, true, true, true, true, true, false, false, false, false, false, false, false, false, false, false, false, false, false] rfl rfl (by kernel_rfl) (fun _ _ _ h => h) (Or.inl ⟨by rfl, ?_⟩) ?_ ?_
              rotate_left
              · intro w'
                go_simp
                with_reducible rfl
              rotate_left
              · simp only [Act.put, List.setIfInBounds_toArray, List.set_cons_zero, List.set_cons_succ]
                rfl
              refine pure_ (i := 11) (N := (some 23)) (v := ?_) (a' := ?_) #[true, true, true, true, true, true, true, true, true, true, true, true, false, false, false, false, false, false, false, false, false, false, false, false] rfl rfl (by kernel_rfl) (fun _ _ _ h => h) (Or.inl ⟨by rfl, ?_⟩) ?_ ?_
              rotate_left
              · intro w'
                refine op_gtr _ _ _ _ _ _ _ _ _ _ _ (k : Int) 0 true hk0 ?_ ?_
                rfl
                rfl
              rotate_left
              · simp only [Act.put, List.setIfInBounds_toArray, List.set_cons_zero, List.set_cons_succ]
                rfl
              refine pure_ (i := 12) (N := (some 24)) (v := ?_) (a' := ?_) #[true, true, true, true, true, true, true, true, true, true, true, true, true, false, false, false, false, false, false, false, false, false, false, false] rfl rfl (by kernel_rfl) (fun _ _ _ h => h) (Or.inl ⟨by rfl, ?_⟩) ?_ ?_
              rotate_left
              · intro w'
                go_simp
                with_reducible rfl
              rotate_left
              · simp only [Act.put, List.setIfInBounds_toArray, List.set_cons_zero, List.set_cons_succ]
                rfl
              refine pure_ (i := 13) (N := (some 25)) (v := ?_) (a' := ?_) #[true, true, true, true, true, true, true, true, true, true, true, true, true, true, false, false, false, false, false, false, false, false, false, false] rfl rfl (by kernel_rfl) (fun _ _ _ h => h) (Or.inl ⟨by rfl, ?_⟩) ?_ ?_
              rotate_left
              · intro w'
                go_simp
                with_reducible rfl
              rotate_left
              · simp only [Act.put, List.setIfInBounds_toArray, List.set_cons_zero, List.set_cons_succ]
                rfl
              refine pure_ (i := 14) (N := (some 26)) (v := ?_) (a' := ?_) #[true, true, true, true, true, true, true, true, true, true, true, true, true, true, true, false, false, false, false, false, false, false, false, false] rfl rfl (by kernel_rfl) (fun _ _ _ h => h) (Or.inl ⟨by rfl, ?_⟩) ?_ ?_
              rotate_left
              · intro w'
                go_simp
                with_reducible rfl
              rotate_left
              · simp only [Act.put, List.setIfInBounds_toArray, List.set_cons_zero, List.set_cons_succ]
                rfl
              refine pure_ (i := 15) (N := (some 27)) (v := ?_) (a' := ?_) #[true, true, true, true, true, true, true, true, true, true, true, true, true, true, true, true, false, false, false, false, false, false, false, false] rfl rfl (by kernel_rfl) (fun _ _ _ h => h) (Or.inl ⟨by rfl, ?_⟩) ?_ ?_
              rotate_left
              · intro w'
                have hw1 := IntWalk.i64_in ((k : Int) - 1) (by omega)
                go_simp
                with_reducible rfl
              rotate_left
              · simp only [Act.put, List.setIfInBounds_toArray, List.set_cons_zero, List.set_cons_succ]
                rfl
              refine pure_ (i := 16) (N := (some 28)) (v := ?_) (a' := ?_) #[true, true, true, true, true, true, true, true, true, true, true, true, true, true, true, true, true, false, false, false, false, false, false, false] rfl rfl (by kernel_rfl) (fun _ _ _ h => h) (Or.inl ⟨by rfl, ?_⟩) ?_ ?_
              rotate_left
              · intro w'
                go_simp
                first | with_reducible rfl | rfl
              rotate_left
              · simp only [Act.put, List.setIfInBounds_toArray, List.set_cons_zero, List.set_cons_succ]
                rfl
              refine pure_ (i := 17) (N := (some 29)) (v := ?_) (a' := ?_) #[true, true, true, true, true, true, true, true, true, true, true, true, true, true, true, true, true, true, false, false, false, false, false, false] rfl rfl (by kernel_rfl) (fun _ _ _ h => h) (Or.inl ⟨by rfl, ?_⟩) ?_ ?_
              rotate_left
              · intro w'
                go_simp
                with_reducible rfl
              rotate_left
              · simp only [Act.put, List.setIfInBounds_toArray, List.set_cons_zero, List.set_cons_succ]
                rfl
              refine take_ (i := 18) (N := (some 30)) (v := ?_) (a' := ?_) #[true, true, true, true, true, true, true, true, true, true, true, true, true, true, true, true, true, true, true, false, false, false, false, false] rfl rfl (by kernel_rfl) (fun _ _ _ h => h) (Or.inl ⟨by rfl, ?_⟩) hHeld ?_ ?_
              rotate_left
              · intro w' hS'
                have h1 := hS'.2.2.2
                go_simp
                with_reducible rfl
              rotate_left
              · simp only [Act.put, List.setIfInBounds_toArray, List.set_cons_zero, List.set_cons_succ]
                rfl
              refine pure_ (i := 19) (N := (some 31)) (v := ?_) (a' := ?_) #[true, true, true, true, true, true, true, true, true, true, true, true, true, true, true, true, true, true, true, true, false, false, false, false] rfl rfl (by kernel_rfl) (fun _ _ _ h => h) (Or.inl ⟨by rfl, ?_⟩) ?_ ?_
              rotate_left
              · intro w'
                go_simp
                with_reducible rfl
              rotate_left
              · simp only [Act.put, List.setIfInBounds_toArray, List.set_cons_zero, List.set_cons_succ]
                rfl
              refine take_ (i := 20) (N := (some 32)) (v := ?_) (a' := ?_) #[true, true, true, true, true, true, true, true, true, true, true, true, true, true, true, true, true, true, true, true, true, false, false, false] rfl rfl (by kernel_rfl) (fun _ _ _ h => h) (Or.inl ⟨by rfl, ?_⟩) hHeld ?_ ?_
              rotate_left
              · intro w' hS'
                have h1 := hS'.1
                go_simp
                with_reducible rfl
              rotate_left
              · simp only [Act.put, List.setIfInBounds_toArray, List.set_cons_zero, List.set_cons_succ]
                rfl
              refine pure_ (i := 21) (N := (some 33)) (v := ?_) (a' := ?_) #[true, true, true, true, true, true, true, true, true, true, true, true, true, true, true, true, true, true, true, true, true, true, false, false] rfl rfl (by kernel_rfl) (fun _ _ _ h => h) (Or.inl ⟨by rfl, ?_⟩) ?_ ?_
              rotate_left
              · intro w'
                refine op_str_geqB _ _ _ _ _ _ _ _ _ _ s0.name s.name true (by rw [hle]; rfl) ?_ ?_
                rfl
                rfl
              rotate_left
              · simp only [Act.put, List.setIfInBounds_toArray, List.set_cons_zero, List.set_cons_succ]
                rfl
              refine pure_ (i := 22) (N := (some 34)) (v := ?_) (a' := ?_) #[true, true, true, true, true, true, true, true, true, true, true, true, true, true, true, true, true, true, true, true, true, true, true, false] rfl rfl (by kernel_rfl) (fun _ _ _ h => h) (Or.inl ⟨by rfl, ?_⟩) ?_ ?_
              rotate_left
              · intro w'
                go_simp
                first | with_reducible rfl | rfl
              rotate_left
              · simp only [Act.put, List.setIfInBounds_toArray, List.set_cons_zero, List.set_cons_succ]
                rfl
              refine pure_ (i := 23) (N := (some 35)) (v := ?_) (a' := ?_) #[true, true, true, true, true, true, true, true, true, true, true, true, true, true, true, true, true, true, true, true, true, true, true, true] rfl rfl (by kernel_rfl) (fun _ _ _ h => h) (Or.inl ⟨by rfl, ?_⟩) ?_ ?_
              rotate_left
              · intro w'
                go_simp
                first | with_reducible rfl | rfl
              rotate_left
              · simp only [Act.put, List.setIfInBounds_toArray, List.set_cons_zero, List.set_cons_succ]
                rfl
              refine done_ (by kernel_rfl) ?_
              go_wp2
              go_ret
              exact ⟨by rw [hno.out]; rfl, below_call (below_alloc hbel _) hHeld.2.2.1⟩
      
    · obtain rfl : k = rs.length := by omega
      have hw := refs_end hall
      go_wp2
      go_ret
      exact ⟨by rw [hw.out]; first | (simp [*]; done) | (simp [*]; omega) | (simp; omega), hbel⟩
def tellsLs (r : Rep) : Bool := capsOk r.caps && (refsOk r.refs && ((decide (r.acks.length ≤ 400) && (decide (r.shallow.length ≤ 400) && decide (r.deep.length ≤ 400))) && decide (r.told.length ≤ 64)))
theorem tells_parts (r : Rep) : tellsB r = (tellsT r.told && (tellsN r && (tellsLs r && (decide (r.data.length ≤ 2000) && (decide (r.note.length ≤ 2000) && (r.band || r.note == [])))))) := by
  simp only [tellsB, tellsL, tellsLs, Bool.and_assoc]
theorem toldT_next (l : List Int) (k : Nat) (n : Int) (h : l[k]? = some n) : tellsT (l.take (k + 1)) = (tellsT (l.take k) && inR n 99) := by
  obtain ⟨hk, hs⟩ := List.getElem?_eq_some_iff.1 h
  rw [List.take_succ_eq_append_getElem hk, hs, tellsT, tellsT, List.all_append]; simp
theorem toldT_no {l : List Int} {k : Nat} {n : Int} (h : l[k]? = some n) (hn : inR n 99 = false) : tellsT l = false := by
  rw [tellsT, List.all_eq_false]; exact ⟨n, List.mem_of_getElem? h, by rw [hn]; decide⟩
theorem Rd.intN {w : World} {A : Option Addr} {l : List Int} (h : Rd w A (intsc l)) (k : Nat) (hk : k < l.length) : ∃ b o n, A = some ⟨b, o, none⟩ ∧ w.cell? ⟨b, o + k, none⟩ = some (.int .i64 n) ∧ l[k]? = some n := by
  obtain ⟨b, o, e, hr⟩ := h (by intro h0; have := congrArg List.length h0; simp [intsc] at this; subst this; simp at hk)
  refine ⟨b, o, l[k], e, hr k _ ?_, List.getElem?_eq_getElem hk⟩
  simp [intsc, List.getElem?_eq_getElem hk]
set_option maxHeartbeats 4000000 in
theorem tells49_any (r : Rep) (a : RepA) (w : World) (hq : IsRep w r a) : Calls Tryz.prog 49 #[.agg (repc r a).toArray] w fun e w' => e = .returned (.bool (tellsB r)) ∧ Below w.heap.size w w' := by
  have HQ := Lib.hid hq
  have n1 := hq.nCaps
  have n2 := hq.nRefs
  have n3 := hq.iAcks.1
  have n4 := hq.iShallow.1
  have n5 := hq.iDeep.1
  have n6 := hq.nTold
  have n7 := hq.nData
  have n8 := hq.nNote
  have HSum := Lib.hid hq.iSum
  clear hq
  obtain ⟨cs0, Hcs⟩ : ∃ cs, Hid (repc r a = cs) := ⟨_, Lib.hid rfl⟩
  have K0 : Hid (cs0[0]? = some (.int .i64 r.op)) := Lib.hid (by rw [← Hcs.out]; rfl)
  have K1 : Hid (cs0[1]? = some (.int .i64 r.err)) := Lib.hid (by rw [← Hcs.out]; rfl)
  have K2 : Hid (cs0[2]? = some (.slice a.a2 r.caps.length a.c2)) := Lib.hid (by rw [← Hcs.out]; rfl)
  have K3 : Hid (cs0[3]? = some (.slice a.a3 r.refs.length a.c3)) := Lib.hid (by rw [← Hcs.out]; rfl)
  have K4 : Hid (cs0[4]? = some (.slice a.a4 r.acks.length a.c4)) := Lib.hid (by rw [← Hcs.out]; rfl)
  have K5 : Hid (cs0[5]? = some (.slice a.a5 r.shallow.length a.c5)) := Lib.hid (by rw [← Hcs.out]; rfl)
  have K6 : Hid (cs0[6]? = some (.slice a.a6 r.deep.length a.c6)) := Lib.hid (by rw [← Hcs.out]; rfl)
  have K8 : Hid (cs0[8]? = some (.bool r.band)) := Lib.hid (by rw [← Hcs.out]; rfl)
  have K9 : Hid (cs0[9]? = some (.int .i64 r.size)) := Lib.hid (by rw [← Hcs.out]; rfl)
  have K42 : Hid (cs0[42]? = some (.slice a.a11 r.told.length a.c11)) := Lib.hid (by rw [← Hcs.out]; exact rep_t11 r a HSum.out)
  have K43 : Hid (cs0[43]? = some (.string (bs r.data))) := Lib.hid (by rw [← Hcs.out]; exact rep_t12 r a HSum.out)
  have K44 : Hid (cs0[44]? = some (.string (bs r.note))) := Lib.hid (by rw [← Hcs.out]; exact rep_t13 r a HSum.out)
  have KS : Hid (∀ j v, (idc r.sum)[j]? = some v → cs0[10 + j]? = some v) := Lib.hid (by rw [← Hcs.out]; exact rep_sum r a)
  rw [Hcs.out]
  have c42 := K42.out
  go_enter Tryz.func49, Tryz.ntmps49
  have hbx0 := Boxed.start w cs0 44
  go_wp2
  go_loopw [10] (fun i wr => ∃ k : Nat, k ≤ r.told.length ∧ i = .int .i64 k ∧ Hid (tellsT (r.told.take k) = true) ∧ Boxed w cs0 44 wr) (fun i _ => r.told.length - (intOf i).toNat)
  case atStart => exact ⟨0, by omega, rfl, Lib.hid rfl, hbx0⟩
  case round =>
    obtain ⟨k, hk, rfl, hall, hbx⟩ := hrel
    have hltb := hbx.lt
    have hbel := hbx.below
    clear c42
    by_cases hlt : k < r.told.length
    · obtain ⟨b1, o1, n, e1, cn, hs⟩ := Rd.intN (HQ.out.below hbel).told k hlt
      have hnx := Lib.hid (toldT_next r.told k n hs)
      have HS := Lib.hid hs
      rw [e1]
      clear hs e1
      cases hF : inR n 99 with
      | true =>
        have hF2 : (decide (0 ≤ n) && decide (n ≤ 99)) = true := hF
        go_wp2_with (first | (go_at_call 60; refine (in60_any _ _ _).mono ?_; rintro e w1 ⟨rfl, rfl⟩; simp only [hF2]))
        go_roundw
        case rel => exact ⟨k + 1, by omega, by go_num, Lib.hid (by rw [hnx.out, hall.out, hF]; rfl), hbx⟩
        case measure => simp [intOf]; omega
      | false =>
        have hF2 : (decide (0 ≤ n) && decide (n ≤ 99)) = false := hF
        have hno : Hid (tellsB r = false) := Lib.hid (by rw [tells_parts, toldT_no HS.out hF]; rfl)
        go_wp2_with (first | (go_at_call 60; refine (in60_any _ _ _).mono ?_; rintro e w1 ⟨rfl, rfl⟩; simp only [hF2]))
        go_ret
        exact ⟨by rw [hno.out]; rfl, hbel⟩
    · obtain rfl : k = r.told.length := by omega
      rw [List.take_length] at hall
      have c0 := hbx.cell 0 _ K0.out
      have c1 := hbx.cell 1 _ K1.out
      have c9 := hbx.cell 9 _ K9.out
      have cs := hbx.range 10 (idc r.sum) KS.out
      go_upto_region 7 with (fail)
      go_cut [5] (fun v wx => v = .bool (tellsN r) ∧ Boxed w cs0 44 wx)
      case first =>
        by_cases h1 : r.op < 1
        · have b1 : decide (1 ≤ r.op) = false := by simpa using h1
          have hno : Hid (tellsN r = false) := Lib.hid (by rw [tellsN, b1]; rfl)
          go_wp2
          go_meet
          exact ⟨by rw [hno.out]; try rfl, hbx⟩
        have b1 : decide (1 ≤ r.op) = true := by simpa using h1
        by_cases h2 : 6 < r.op
        · have b2 : decide (r.op ≤ 6) = false := by simpa using h2
          have hno : Hid (tellsN r = false) := Lib.hid (by rw [tellsN, b2, Bool.false_and, Bool.and_false])
          go_wp2
          go_meet
          exact ⟨by rw [hno.out]; try rfl, hbx⟩
        have b2 : decide (r.op ≤ 6) = true := by simpa using h2
        cases h3 : (decide (0 ≤ r.err) && decide (r.err ≤ 99)) with
        | false =>
          have hno : Hid (tellsN r = false) := Lib.hid (by rw [tellsN, inR, h3]; simp)
          go_wp2_with (first | (go_at_call 60; refine (in60_any _ _ _).mono ?_; rintro e w1 ⟨rfl, rfl⟩; (try simp only [h3])))
          iterate 3 (try go_wp2_with (first | (go_at_call 60; refine (in60_any _ _ _).mono ?_; rintro e w1 ⟨rfl, rfl⟩; (try simp only [h3]))))
          go_meet
          exact ⟨by rw [hno.out]; try rfl, hbx⟩
        | true =>
          cases h4 : (decide (0 ≤ r.size) && decide (r.size ≤ 262144)) with
          | false =>
            have hno : Hid (tellsN r = false) := Lib.hid (by rw [tellsN, inR, inR, h4]; simp)
            go_wp2_with (first | (go_at_call 60; refine (in60_any _ _ _).mono ?_; rintro e w1 ⟨rfl, rfl⟩; (try simp only [h3, h4])))
            iterate 4 (try go_wp2_with (first | (go_at_call 60; refine (in60_any _ _ _).mono ?_; rintro e w1 ⟨rfl, rfl⟩; (try simp only [h3, h4]))))
            go_meet
            exact ⟨by rw [hno.out]; try rfl, hbx⟩
          | true =>
            cases h5 : decide (0 < r.size) with
            | true =>
              have hyes : Hid (tellsN r = true) := Lib.hid (by rw [tellsN, inR, inR, h3, h4, h5, b1, b2]; rfl)
              go_wp2_with (first | (go_at_call 60; refine (in60_any _ _ _).mono ?_; rintro e w1 ⟨rfl, rfl⟩; (try simp only [h3, h4])))
              iterate 5 (try go_wp2_with (first | (go_at_call 60; refine (in60_any _ _ _).mono ?_; rintro e w1 ⟨rfl, rfl⟩; (try simp only [h3, h4]))))
              go_meet
              exact ⟨by rw [hyes.out]; try rfl, hbx⟩
            | false =>
              have hEq := eqIn_sum r.sum HSum.out
              have hyes : Hid (tellsN r = (r.sum == noId)) := Lib.hid (by rw [tellsN, inR, inR, h3, h4, h5, b1, b2]; rfl)
              go_wp2_with (first | (go_at_call 60; refine (in60_any _ _ _).mono ?_; rintro e w1 ⟨rfl, rfl⟩; (try simp only [h3, h4])) | ((with_reducible refine wpList_runG ?hw (op_load_mid _ _ _ _ _ _ _ _ 41 w.heap.size 10 (idc r.sum) _ ?hx cs und41 ?hd ?hi) ?hk); (case hw => rfl); (case hx => rfl); (case hd => rfl); (case hi => rw [idc_length, HSum.out]; exact info41)))
              iterate 6 (try go_wp2_with (first | (go_at_call 60; refine (in60_any _ _ _).mono ?_; rintro e w1 ⟨rfl, rfl⟩; (try simp only [h3, h4])) | ((with_reducible refine wpList_runG ?hw (op_load_mid _ _ _ _ _ _ _ _ 41 w.heap.size 10 (idc r.sum) _ ?hx cs und41 ?hd ?hi) ?hk); (case hw => rfl); (case hx => rfl); (case hd => rfl); (case hi => rw [idc_length, HSum.out]; exact info41))))
              go_meet
              exact ⟨by rw [hyes.out]; try rfl, hbx⟩
      case rest =>
        obtain ⟨rfl, hbx1⟩ := hcut
        clear c0 c1 c9 cs
        have hltb1 := hbx1.lt
        have c2 := hbx1.cell 2 _ K2.out
        go_upto_region 8 with (fail)
        go_cut [6] (fun v wx => v = .bool (tellsLs r) ∧ Boxed w cs0 44 wx)
        case first =>
          cases hc : capsOk r.caps with
          | false =>
            have hno : Hid (tellsLs r = false) := Lib.hid (by rw [tellsLs, hc]; rfl)
            go_wp2_with (first | (go_at_call 61; refine (fine61_any r.caps a.a2 a.c2 n1 HQ.out.lCaps _ (HQ.out.below hbx1.below).caps).mono ?_; rintro e w2 ⟨rfl, hb2⟩; simp only [hc]; have hy2 := hbx1.call hb2; have hlt2 := hy2.lt; have d3 := hy2.cell 3 _ K3.out))
            iterate 3 (try go_wp2_with (first | (go_at_call 61; refine (fine61_any r.caps a.a2 a.c2 n1 HQ.out.lCaps _ (HQ.out.below hbx1.below).caps).mono ?_; rintro e w2 ⟨rfl, hb2⟩; simp only [hc]; have hy2 := hbx1.call hb2; have hlt2 := hy2.lt; have d3 := hy2.cell 3 _ K3.out)))
            go_meet
            exact ⟨by rw [hno.out]; try rfl, hy2⟩
          | true =>
            cases hr : refsOk r.refs with
            | false =>
              have hno : Hid (tellsLs r = false) := Lib.hid (by rw [tellsLs, hc, hr]; rfl)
              go_wp2_with (first | (go_at_call 61; refine (fine61_any r.caps a.a2 a.c2 n1 HQ.out.lCaps _ (HQ.out.below hbx1.below).caps).mono ?_; rintro e w2 ⟨rfl, hb2⟩; simp only [hc]; have hy2 := hbx1.call hb2; have hlt2 := hy2.lt; have d3 := hy2.cell 3 _ K3.out) | (go_at_call 76; refine (fine76_any r.refs a.a3 a.c3 n2 HQ.out.iRefs _ (HQ.out.below hy2.below).refs).mono ?_; rintro e w3 ⟨rfl, hb3⟩; simp only [hr]; have hy3 := hy2.call hb3; have hlt3 := hy3.lt; have d4 := hy3.cell 4 _ K4.out; have d5 := hy3.cell 5 _ K5.out; have d6 := hy3.cell 6 _ K6.out; have d42 := hy3.cell 42 _ K42.out))
              iterate 3 (try go_wp2_with (first | (go_at_call 61; refine (fine61_any r.caps a.a2 a.c2 n1 HQ.out.lCaps _ (HQ.out.below hbx1.below).caps).mono ?_; rintro e w2 ⟨rfl, hb2⟩; simp only [hc]; have hy2 := hbx1.call hb2; have hlt2 := hy2.lt; have d3 := hy2.cell 3 _ K3.out) | (go_at_call 76; refine (fine76_any r.refs a.a3 a.c3 n2 HQ.out.iRefs _ (HQ.out.below hy2.below).refs).mono ?_; rintro e w3 ⟨rfl, hb3⟩; simp only [hr]; have hy3 := hy2.call hb3; have hlt3 := hy3.lt; have d4 := hy3.cell 4 _ K4.out; have d5 := hy3.cell 5 _ K5.out; have d6 := hy3.cell 6 _ K6.out; have d42 := hy3.cell 42 _ K42.out)))
              go_meet
              exact ⟨by rw [hno.out]; try rfl, hy3⟩
            | true =>
              cases hf : (decide (r.acks.length ≤ 400) && (decide (r.shallow.length ≤ 400) && decide (r.deep.length ≤ 400))) with
              | false =>
                have hno : Hid (tellsLs r = false) := Lib.hid (by rw [tellsLs, hc, hr, hf]; rfl)
                go_wp2_with (first | (go_at_call 61; refine (fine61_any r.caps a.a2 a.c2 n1 HQ.out.lCaps _ (HQ.out.below hbx1.below).caps).mono ?_; rintro e w2 ⟨rfl, hb2⟩; simp only [hc]; have hy2 := hbx1.call hb2; have hlt2 := hy2.lt; have d3 := hy2.cell 3 _ K3.out) | (go_at_call 76; refine (fine76_any r.refs a.a3 a.c3 n2 HQ.out.iRefs _ (HQ.out.below hy2.below).refs).mono ?_; rintro e w3 ⟨rfl, hb3⟩; simp only [hr]; have hy3 := hy2.call hb3; have hlt3 := hy3.lt; have d4 := hy3.cell 4 _ K4.out; have d5 := hy3.cell 5 _ K5.out; have d6 := hy3.cell 6 _ K6.out; have d42 := hy3.cell 42 _ K42.out) | (go_at_call 62; refine (few62_any [(a.a4, r.acks.length, a.c4), (a.a5, r.shallow.length, a.c5), (a.a6, r.deep.length, a.c6)] _ 3 (by simp) _ (fun _ => ⟨_, _, rfl, rangeAt_new w3 [.slice a.a4 r.acks.length a.c4, .slice a.a5 r.shallow.length a.c5, .slice a.a6 r.deep.length a.c6] 23⟩)).mono ?_; rintro e w4 ⟨rfl, rfl⟩; simp only [List.all_cons, List.all_nil, Bool.and_true, hf]))
                iterate 4 (try go_wp2_with (first | (go_at_call 61; refine (fine61_any r.caps a.a2 a.c2 n1 HQ.out.lCaps _ (HQ.out.below hbx1.below).caps).mono ?_; rintro e w2 ⟨rfl, hb2⟩; simp only [hc]; have hy2 := hbx1.call hb2; have hlt2 := hy2.lt; have d3 := hy2.cell 3 _ K3.out) | (go_at_call 76; refine (fine76_any r.refs a.a3 a.c3 n2 HQ.out.iRefs _ (HQ.out.below hy2.below).refs).mono ?_; rintro e w3 ⟨rfl, hb3⟩; simp only [hr]; have hy3 := hy2.call hb3; have hlt3 := hy3.lt; have d4 := hy3.cell 4 _ K4.out; have d5 := hy3.cell 5 _ K5.out; have d6 := hy3.cell 6 _ K6.out; have d42 := hy3.cell 42 _ K42.out) | (go_at_call 62; refine (few62_any [(a.a4, r.acks.length, a.c4), (a.a5, r.shallow.length, a.c5), (a.a6, r.deep.length, a.c6)] _ 3 (by simp) _ (fun _ => ⟨_, _, rfl, rangeAt_new w3 [.slice a.a4 r.acks.length a.c4, .slice a.a5 r.shallow.length a.c5, .slice a.a6 r.deep.length a.c6] 23⟩)).mono ?_; rintro e w4 ⟨rfl, rfl⟩; simp only [List.all_cons, List.all_nil, Bool.and_true, hf])))
                go_meet
                exact ⟨by rw [hno.out]; try rfl, hy3.alloc _⟩
              | true =>
                cases ht : decide (r.told.length ≤ 64) with
                | false =>
                  have hno : Hid (tellsLs r = false) := Lib.hid (by rw [tellsLs, hc, hr, hf, ht]; rfl)
                  have ht2 : decide ((r.told.length : Int) ≤ 64) = false := by rw [← ht]; exact decide_eq_decide.2 (by omega)
                  go_wp2_with (first | (go_at_call 61; refine (fine61_any r.caps a.a2 a.c2 n1 HQ.out.lCaps _ (HQ.out.below hbx1.below).caps).mono ?_; rintro e w2 ⟨rfl, hb2⟩; simp only [hc]; have hy2 := hbx1.call hb2; have hlt2 := hy2.lt; have d3 := hy2.cell 3 _ K3.out) | (go_at_call 76; refine (fine76_any r.refs a.a3 a.c3 n2 HQ.out.iRefs _ (HQ.out.below hy2.below).refs).mono ?_; rintro e w3 ⟨rfl, hb3⟩; simp only [hr]; have hy3 := hy2.call hb3; have hlt3 := hy3.lt; have d4 := hy3.cell 4 _ K4.out; have d5 := hy3.cell 5 _ K5.out; have d6 := hy3.cell 6 _ K6.out; have d42 := hy3.cell 42 _ K42.out) | (go_at_call 62; refine (few62_any [(a.a4, r.acks.length, a.c4), (a.a5, r.shallow.length, a.c5), (a.a6, r.deep.length, a.c6)] _ 3 (by simp) _ (fun _ => ⟨_, _, rfl, rangeAt_new w3 [.slice a.a4 r.acks.length a.c4, .slice a.a5 r.shallow.length a.c5, .slice a.a6 r.deep.length a.c6] 23⟩)).mono ?_; rintro e w4 ⟨rfl, rfl⟩; simp only [List.all_cons, List.all_nil, Bool.and_true, hf]))
                  iterate 4 (try go_wp2_with (first | (go_at_call 61; refine (fine61_any r.caps a.a2 a.c2 n1 HQ.out.lCaps _ (HQ.out.below hbx1.below).caps).mono ?_; rintro e w2 ⟨rfl, hb2⟩; simp only [hc]; have hy2 := hbx1.call hb2; have hlt2 := hy2.lt; have d3 := hy2.cell 3 _ K3.out) | (go_at_call 76; refine (fine76_any r.refs a.a3 a.c3 n2 HQ.out.iRefs _ (HQ.out.below hy2.below).refs).mono ?_; rintro e w3 ⟨rfl, hb3⟩; simp only [hr]; have hy3 := hy2.call hb3; have hlt3 := hy3.lt; have d4 := hy3.cell 4 _ K4.out; have d5 := hy3.cell 5 _ K5.out; have d6 := hy3.cell 6 _ K6.out; have d42 := hy3.cell 42 _ K42.out) | (go_at_call 62; refine (few62_any [(a.a4, r.acks.length, a.c4), (a.a5, r.shallow.length, a.c5), (a.a6, r.deep.length, a.c6)] _ 3 (by simp) _ (fun _ => ⟨_, _, rfl, rangeAt_new w3 [.slice a.a4 r.acks.length a.c4, .slice a.a5 r.shallow.length a.c5, .slice a.a6 r.deep.length a.c6] 23⟩)).mono ?_; rintro e w4 ⟨rfl, rfl⟩; simp only [List.all_cons, List.all_nil, Bool.and_true, hf])))
                  go_meet
                  exact ⟨by rw [hno.out]; try rfl, hy3.alloc _⟩
                | true =>
                  have hno : Hid (tellsLs r = true) := Lib.hid (by rw [tellsLs, hc, hr, hf, ht]; rfl)
                  have ht2 : decide ((r.told.length : Int) ≤ 64) = true := by rw [← ht]; exact decide_eq_decide.2 (by omega)
                  go_wp2_with (first | (go_at_call 61; refine (fine61_any r.caps a.a2 a.c2 n1 HQ.out.lCaps _ (HQ.out.below hbx1.below).caps).mono ?_; rintro e w2 ⟨rfl, hb2⟩; simp only [hc]; have hy2 := hbx1.call hb2; have hlt2 := hy2.lt; have d3 := hy2.cell 3 _ K3.out) | (go_at_call 76; refine (fine76_any r.refs a.a3 a.c3 n2 HQ.out.iRefs _ (HQ.out.below hy2.below).refs).mono ?_; rintro e w3 ⟨rfl, hb3⟩; simp only [hr]; have hy3 := hy2.call hb3; have hlt3 := hy3.lt; have d4 := hy3.cell 4 _ K4.out; have d5 := hy3.cell 5 _ K5.out; have d6 := hy3.cell 6 _ K6.out; have d42 := hy3.cell 42 _ K42.out) | (go_at_call 62; refine (few62_any [(a.a4, r.acks.length, a.c4), (a.a5, r.shallow.length, a.c5), (a.a6, r.deep.length, a.c6)] _ 3 (by simp) _ (fun _ => ⟨_, _, rfl, rangeAt_new w3 [.slice a.a4 r.acks.length a.c4, .slice a.a5 r.shallow.length a.c5, .slice a.a6 r.deep.length a.c6] 23⟩)).mono ?_; rintro e w4 ⟨rfl, rfl⟩; simp only [List.all_cons, List.all_nil, Bool.and_true, hf]))
                  iterate 4 (try go_wp2_with (first | (go_at_call 61; refine (fine61_any r.caps a.a2 a.c2 n1 HQ.out.lCaps _ (HQ.out.below hbx1.below).caps).mono ?_; rintro e w2 ⟨rfl, hb2⟩; simp only [hc]; have hy2 := hbx1.call hb2; have hlt2 := hy2.lt; have d3 := hy2.cell 3 _ K3.out) | (go_at_call 76; refine (fine76_any r.refs a.a3 a.c3 n2 HQ.out.iRefs _ (HQ.out.below hy2.below).refs).mono ?_; rintro e w3 ⟨rfl, hb3⟩; simp only [hr]; have hy3 := hy2.call hb3; have hlt3 := hy3.lt; have d4 := hy3.cell 4 _ K4.out; have d5 := hy3.cell 5 _ K5.out; have d6 := hy3.cell 6 _ K6.out; have d42 := hy3.cell 42 _ K42.out) | (go_at_call 62; refine (few62_any [(a.a4, r.acks.length, a.c4), (a.a5, r.shallow.length, a.c5), (a.a6, r.deep.length, a.c6)] _ 3 (by simp) _ (fun _ => ⟨_, _, rfl, rangeAt_new w3 [.slice a.a4 r.acks.length a.c4, .slice a.a5 r.shallow.length a.c5, .slice a.a6 r.deep.length a.c6] 23⟩)).mono ?_; rintro e w4 ⟨rfl, rfl⟩; simp only [List.all_cons, List.all_nil, Bool.and_true, hf])))
                  go_meet
                  exact ⟨by rw [hno.out]; try rfl, hy3.alloc _⟩
        case rest =>
          obtain ⟨rfl, hbx2⟩ := hcut
          have hltb2 := hbx2.lt
          have hbel2 := hbx2.below
          have c8 := hbx2.cell 8 _ K8.out
          have c43 := hbx2.cell 43 _ K43.out
          have c44 := hbx2.cell 44 _ K44.out
          clear c2 hbel hbx hbx1 hltb hltb1
          cases hN : tellsN r with
          | false =>
            have hno : Hid (tellsB r = false) := Lib.hid (by rw [tells_parts, hall.out, hN]; first | rfl | simp)
            go_wp2
            go_ret
            exact ⟨by rw [hno.out]; try rfl, hbel2⟩
          | true =>
            cases hL : tellsLs r with
            | false =>
              have hno : Hid (tellsB r = false) := Lib.hid (by rw [tells_parts, hall.out, hN, hL]; first | rfl | simp)
              go_wp2
              go_ret
              exact ⟨by rw [hno.out]; try rfl, hbel2⟩
            | true =>
              cases hd : decide (r.data.length ≤ 2000) with
              | false =>
                have hd2 : decide ((r.data.length : Int) ≤ 2000) = false := by rw [← hd]; exact decide_eq_decide.2 (by omega)
                have hno : Hid (tellsB r = false) := Lib.hid (by rw [tells_parts, hall.out, hN, hL, hd]; first | rfl | simp)
                clear hd
                go_wp2
                go_ret
                exact ⟨by rw [hno.out]; try rfl, hbel2⟩
              | true =>
                have hd2 : decide ((r.data.length : Int) ≤ 2000) = true := by rw [← hd]; exact decide_eq_decide.2 (by omega)
                cases ho : decide (r.note.length ≤ 2000) with
                | false =>
                  have ho2 : decide ((r.note.length : Int) ≤ 2000) = false := by rw [← ho]; exact decide_eq_decide.2 (by omega)
                  have hno : Hid (tellsB r = false) := Lib.hid (by rw [tells_parts, hall.out, hN, hL, hd, ho]; first | rfl | simp)
                  clear ho
                  go_wp2
                  go_ret
                  exact ⟨by rw [hno.out]; try rfl, hbel2⟩
                | true =>
                  have ho2 : decide ((r.note.length : Int) ≤ 2000) = true := by rw [← ho]; exact decide_eq_decide.2 (by omega)
                  cases hb : r.band with
                  | true =>
                    have hno : Hid (tellsB r = true) := Lib.hid (by rw [tells_parts, hall.out, hN, hL, hd, ho, hb]; first | rfl | simp)
                    rw [hb] at c8
                    clear hd ho hb
                    go_wp2
                    go_ret
                    exact ⟨by rw [hno.out]; try rfl, hbel2⟩
                  | false =>
                    cases he : (r.note == []) with
                    | true =>
                      have hno : Hid (tellsB r = true) := Lib.hid (by rw [tells_parts, hall.out, hN, hL, hd, ho, hb, he]; first | rfl | simp)
                      rw [hb] at c8
                      clear hd ho hb
                      go_wp2_with (first | (refine wpList_runG (by rfl) (op_str_eqlB _ _ _ _ _ _ _ _ _ _ r.note [] true he rfl rfl) ?_))
                      go_ret
                      exact ⟨by rw [hno.out]; try rfl, hbel2⟩
                    | false =>
                      have hno : Hid (tellsB r = false) := Lib.hid (by rw [tells_parts, hall.out, hN, hL, hd, ho, hb, he]; first | rfl | simp)
                      rw [hb] at c8
                      clear hd ho hb
                      go_wp2_with (first | (refine wpList_runG (by rfl) (op_str_eqlB _ _ _ _ _ _ _ _ _ _ r.note [] false he rfl rfl) ?_))
                      go_ret
                      exact ⟨by rw [hno.out]; try rfl, hbel2⟩
end Go.Proofs.YtmfpmedkhlhnpaaGreatDoor
