import Derived.Test.YtmfpmedkhlhnpaaGreatDoorS2
import Derived.Test.YtmfpmedkhlhnpaaGreatDoorS5
import Derived.Test.YtmfpmedkhlhnpaaGreatDoorS6
import Derived.Test.YtmfpmedkhlhnpaaGreatDoorR3
/- function 19: line.Told. -/
namespace Go.Proofs.YtmfpmedkhlhnpaaGreatDoor
open Go.RowKit Go.Extern.Stop Go.Proofs.YtmfpmedkhlhnpaaGreatDoorW.PrintLast
set_option maxRecDepth 100000
set_option linter.unusedSimpArgs false
set_option linter.unusedVariables false
theorem op_slice63h (ρ : Operand → Value) (dst : Option Tmp) (ty : TypeId) (pos : String) (after : Array Edge) (g : Option (Nat × Bool)) (w : World) (x y : Operand) (b o n ca k : Nat) (hk : k ≤ ca) (hx : ρ x = .slice (some ⟨b, o, none⟩) n ca) (hy : ρ y = .int .i64 ((k : Nat) : Int)) :
    (execOp ρ ⟨dst, .slice 63 x none (some y) none, ty, pos, after, g⟩).run Tryz.prog w = .ok (.value (.slice (some ⟨b, o, none⟩) k ca)) w := by
  show (do let x ← Instr.sliceAt 63 (ρ x) none (some (ρ y)) none; pure (Next.value x) : Sem Next).run Tryz.prog w = _
  rw [hx, hy, Sem.run_bind, run_sliceAt_slice _ _ _ _ _ _ und63e, run_slice_h _ _ _ _ _ und63e .i64 (k : Int) (by omega) (by omega)]
  simp [siz63e, sliced, Addr.add_mid]
theorem rd_take {w : World} {A : Option Addr} {ps : List Pk} (h : Rd w A (pksc ps)) : Rd w A (pksc ps.dropLast) := by
  intro hne
  have hsp : pksc ps = pksc ps.dropLast ++ pksc (ps.drop (ps.length - 1)) := by rw [← pksc_append, List.dropLast_eq_take, List.take_append_drop]
  obtain ⟨b, o, e, hr⟩ := h (by intro h0; rw [h0] at hsp; exact hne (List.append_eq_nil_iff.1 hsp.symm).1)
  refine ⟨b, o, e, fun j v hj => hr j v ?_⟩
  rw [hsp, List.getElem?_append_left (List.getElem?_eq_some_iff.1 hj).1]; exact hj
theorem bandG_len (ps : List Pk) : (bandG ps).1.length ≤ (loads ps).length ∧ (bandG ps).2.length ≤ (loads ps).length := by
  rw [bandG]; split
  · exact ⟨bandS_len 1 ps, bandS_len 2 ps⟩
  · exact ⟨Nat.zero_le _, Nat.zero_le _⟩
theorem loads_dropLast (ps : List Pk) : (loads ps.dropLast).length ≤ (loads ps).length := by
  rw [List.dropLast_eq_take]; exact loads_len ps _
/-- What a reply of a text is; the error beside it. -/
def toldQ (s : List UInt8) : Rep := if tellsB (readTell s) = true ∧ tellT (readTell s) = s then readTell s else noRep
def toldE (s : List UInt8) : Int := if tellsB (readTell s) = true ∧ tellT (readTell s) = s then 0 else 2
def ToldRes (s : List UInt8) (w' : World) (e : Ending) : Prop := ∃ a, e = .returned (.tuple #[.agg (repc (toldQ s) a).toArray, .int .i64 (toldE s)]) ∧ IsRep w' (toldQ s) a ∧ (toldQ s).caps.length ≤ a.c2
theorem isRep_no (w : World) : IsRep w noRep noRA := ⟨fun h => absurd rfl h, fun h => absurd rfl h, fun h => absurd rfl h, fun h => absurd rfl h, fun h => absurd rfl h, fun h => absurd rfl h, by simp, by simp, by simp, by simp, ⟨by simp, by simp⟩, ⟨by simp, by simp⟩, ⟨by simp, by simp⟩, noId_length, by simp, by simp, by simp⟩
theorem told_no {s : List UInt8} (h : ¬ (tellsB (readTell s) = true ∧ tellT (readTell s) = s)) {w' : World} : ToldRes s w' (.returned (.tuple #[.agg (repc noRep noRA).toArray, .int .i64 2])) := by
  have hq : toldQ s = noRep := by rw [toldQ, if_neg h]
  have he : toldE s = 2 := by rw [toldE, if_neg h]
  exact ⟨noRA, by rw [hq, he], by rw [hq]; exact isRep_no _, by rw [hq]; exact Nat.le_refl _⟩
theorem told_yes {s : List UInt8} {q : Rep} {a : RepA} {w' : World} (h : tellsB (readTell s) = true ∧ tellT (readTell s) = s) (ht : readTell s = q) (h1 : IsRep w' q a) (h2 : q.caps.length ≤ a.c2) : ToldRes s w' (.returned (.tuple #[.agg (repc q a).toArray, .int .i64 0])) := by
  have hq : toldQ s = q := by rw [toldQ, if_pos h, ht]
  have he : toldE s = 0 := by rw [toldE, if_pos h]
  exact ⟨a, by rw [hq, he], by rw [hq]; exact h1, by rw [hq]; exact h2⟩
theorem info44q (q : Rep) (a : RepA) (h : q.sum.length = 32) : (Tryz.prog.info? 44).map (·.size) = some (repc q a).toArray.size := by rw [List.size_toArray, repc_length q a h]; exact info44
theorem zsize44 (q : Rep) (a : RepA) (h : q.sum.length = 32) : (zeroCells 44).size = (repc q a).toArray.size := by rw [zero44_eq, List.size_toArray, List.size_toArray, repc_length q a h, repc_length noRep noRA noId_length]
def PartsRes2 (l : List UInt8) (w' : World) (e : Ending) : Prop := ∃ A ca B cb, e = .returned (.tuple #[.slice A (cutP (allD l)).1.length ca, .slice B (cutP (allD l)).2.length cb]) ∧ Rd w' A (strc (cutP (allD l)).1) ∧ Rd w' B (pksc (cutP (allD l)).2) ∧ (cutP (allD l)).2.length ≤ cb
set_option maxHeartbeats 2000000 in
theorem parts43_cap (l : List UInt8) (hl : l.length ≤ 1000000) (w : World) : Calls Tryz.prog 43 #[.string (bs l)] w fun e w' => PartsRes2 l w' e ∧ Below w.heap.size w w' := by
  have hps : (allD l).length ≤ 1000000 := by have := allD_len l; omega
  obtain ⟨ps, Hps⟩ : ∃ ps, Hid (allD l = ps) := ⟨_, Lib.hid rfl⟩
  go_enter Tryz.func43, Tryz.ntmps43
  go_wp2_with (first | (go_at_call 71; refine (all71_rd l hl _).mono ?_; rintro e W1 ⟨⟨A, ca, er, rfl, hA, hca⟩, hb1⟩; rw [Hps.out] at hA hca hps ⊢))
  go_loopw [6, 16] (fun v i wr => ∃ k : Nat, ∃ u : Value, k ≤ ps.length ∧ i = .int .i64 k ∧ u = v ∧ wr.ownsRow W1.heap.size 9 1 u k (strc ((ps.take k).map (·.load))) ∧ Hid (∀ q ∈ ps.take k, q.kind = 0) ∧ Below W1.heap.size W1 wr) (fun _ i _ => ps.length - (intOf i).toNat)
  case atStart => exact ⟨0, _, by omega, rfl, rfl, own_nil _ _ _ _, Lib.hid (by simp), Below.refl _ _⟩
  case round =>
    obtain ⟨k, u, hk, rfl, rfl, ho, hz, hbel⟩ := hrel
    by_cases hlt : k < ps.length
    · obtain ⟨b1, o1, p, rfl, cu, hp⟩ := Rd.at (f := pkc) (n := 2) (by omega) (hA.below hbel) (fun x _ => rfl) k hlt
      have cu0 := rangeAt_new wr (pkc p) 73 0 (.int .i64 p.kind) rfl
      have cu1 := rangeAt_new wr (pkc p) 73 1 (.string (bs p.load)) rfl
      rw [Nat.zero_add] at cu0 cu1
      by_cases hk0 : p.kind = 0
      · have hb : (p.kind != 0) = false := by rw [hk0]; rfl
        have hz2 : Hid (∀ q ∈ ps.take (k + 1), q.kind = 0) := Lib.hid (by
          obtain ⟨hk2, hs2⟩ := List.getElem?_eq_some_iff.1 hp
          rw [List.take_succ_eq_append_getElem hk2, hs2]
          intro q hq
          rcases List.mem_append.1 hq with h | h
          · exact hz.out q h
          · simp only [List.mem_singleton] at h; rw [h]; exact hk0)
        have hnx : Hid (strc ((ps.take (k + 1)).map (·.load)) = strc ((ps.take k).map (·.load)) ++ [.string (bs p.load)]) := Lib.hid (by
          obtain ⟨hk2, hs2⟩ := List.getElem?_eq_some_iff.1 hp
          rw [List.take_succ_eq_append_getElem hk2, hs2, List.map_append, ← strc_snoc]; rfl)
        have hszb := hbel.size
        clear hk0 hp
        go_wp2_with (first
        | (refine wpList_load_mid rfl 73 _ rfl b1 (o1 + k * 2) rfl (pkc p) _ cu und73 rfl (by kernel_rfl) ?_)
        | (refine wpList_run rfl (op_allocZ _ _ _ _ _ _ _ 73 zero73) ?_)
        | (refine wpList_store_new rfl 73 _ _ rfl _ #[.int .i64 p.kind, .string (bs p.load)] rfl rfl (by kernel_rfl) zsize73 (one2 _ _) ?_)
          | (refine wpList_append rfl (.tmp 29) (.tmp 32) 22 rfl W1.heap.size 9 (.string ⟨#[]⟩) 1 16 und22 info9 rfl (by decide) u k _ rfl (own_below (own_below ho (below_alloc (Below.refl _ _) _)) (below_alloc (Below.refl _ _) _)) ⟨wr.heap.size + 1, 0, none⟩ 1 1 [.string (bs p.load)] rfl rfl (by have h := news_new (wr.alloc (.cells (pkc p).toArray 73)) [.string (bs p.load)] 9; rwa [World.size_alloc] at h) ?_ ?_ ?_ ?_ ?_))
        · first | rfl | (intro u hu; simp at hu; rcases hu with rfl; rfl)
        · unfold maxLen; omega
        · omega
        · first | omega | (simp; omega)
        intro v9 W9 hown9 hgr9
        have hb9 : Below W1.heap.size W1 W9 := ((hbel.alloc (by omega) _).alloc (by simp; omega) _).grown hgr9 (by simp; omega) (own_base ho)
        go_wp2
        go_roundw
        case rel => exact ⟨k + 1, v9, by omega, by go_num, rfl, by rw [hnx.out, List.map_take]; exact hown9, hz2, hb9⟩
        case measure => simp [intOf]; omega
      · have hb : (p.kind != 0) = true := by simpa using hk0
        have hcut := Lib.hid (cutP_at ps k p hz.out hp hk0)
        have hk1 : (.int .i64 ((k : Int) + 1) : Value) = .int .i64 ((k + 1 : Nat) : Int) := rfl
        obtain ⟨R9, hR9⟩ : ∃ R, Hid ((if ca = k + 1 then some (⟨b1, o1, none⟩ : Addr) else some ⟨b1, o1 + (k + 1) * 2, none⟩) = R) := ⟨_, Lib.hid rfl⟩
        have hrd := rd_drop (k := k + 1) (hA.below hbel) hca (by omega)
        rw [hR9.out] at hrd
        have hlen : Hid (((ps.take k).map (·.load)).length = k) := Lib.hid (by rw [List.length_map, List.length_take]; omega)
        obtain ⟨B, cb, rfl⟩ := own_slice ho
        clear hk0 hp
        go_wp2_with (first
        | (refine wpList_load_mid rfl 73 _ rfl b1 (o1 + k * 2) rfl (pkc p) _ cu und73 rfl (by kernel_rfl) ?_)
        | (refine wpList_run rfl (op_allocZ _ _ _ _ _ _ _ 73 zero73) ?_)
        | (refine wpList_store_new rfl 73 _ _ rfl _ #[.int .i64 p.kind, .string (bs p.load)] rfl rfl (by kernel_rfl) zsize73 (one2 _ _) ?_))
        refine start_ (n := 7) (S := (fun _ => True)) (ds := []) #[false, false, false, false, false, false, false] (by kernel_rfl) rfl rfl (trivial) (fun hHeld => ?_)
        refine pure_ (i := 0) (N := (some 24)) (v := ?_) (a' := ?_) #[true, false, false, false, false, false, false] rfl rfl (by kernel_rfl) (fun _ _ _ h => h) (Or.inl ⟨by rfl, ?_⟩) ?_ ?_
        rotate_left
        · intro w'
          go_simp
          with_reducible rfl
        rotate_left
        · simp only [Act.put, List.setIfInBounds_toArray, List.set_cons_zero, List.set_cons_succ]
          rfl
        refine pure_ (i := 1) (N := (some 25)) (v := ?_) (a' := ?_) #[true, true, false, false, false, false, false] rfl rfl (by kernel_rfl) (fun _ _ _ h => h) (Or.inl ⟨by rfl, ?_⟩) ?_ ?_
        rotate_left
        · intro w'
          go_simp
          with_reducible rfl
        rotate_left
        · simp only [Act.put, List.setIfInBounds_toArray, List.set_cons_zero, List.set_cons_succ]
          rfl
        refine pure_ (i := 2) (N := (some 26)) (v := ?_) (a' := ?_) #[true, true, true, false, false, false, false] rfl rfl (by kernel_rfl) (fun _ _ _ h => h) (Or.inl ⟨by rfl, ?_⟩) ?_ ?_
        rotate_left
        · intro w'
          go_simp
          with_reducible rfl
        rotate_left
        · simp only [Act.put, List.setIfInBounds_toArray, List.set_cons_zero, List.set_cons_succ]
          rfl
        refine pure_ (i := 3) (N := (some 27)) (v := ?_) (a' := ?_) #[true, true, true, true, false, false, false] rfl rfl (by kernel_rfl) (fun _ _ _ h => h) (Or.inl ⟨by rfl, ?_⟩) ?_ ?_
        rotate_left
        · intro w'
          have hw1 := IntWalk.i64_in ((k : Int) + 1) (by omega)
          go_simp
          with_reducible rfl
        rotate_left
        · simp only [Act.put, List.setIfInBounds_toArray, List.set_cons_zero, List.set_cons_succ]
          rfl
        refine pure_ (i := 4) (N := (some 28)) (v := ?_) (a' := ?_) #[true, true, true, true, true, false, false] rfl rfl (by kernel_rfl) (fun _ _ _ h => h) (Or.inl ⟨by rfl, ?_⟩) ?_ ?_
        rotate_left
        · intro w'
          refine op_slice63 _ _ _ _ _ _ _ _ _ b1 o1 ps.length ca (k + 1) R9 hR9 (by omega) ?_ ?_
          rfl
          rfl
        rotate_left
        · simp only [Act.put, List.setIfInBounds_toArray, List.set_cons_zero, List.set_cons_succ]
          rfl
        refine pure_ (i := 5) (N := (some 2)) (v := ?_) (a' := ?_) #[true, true, true, true, true, true, false] rfl rfl (by kernel_rfl) (fun _ _ _ h => h) (Or.inl ⟨by rfl, ?_⟩) ?_ ?_
        rotate_left
        · intro w'
          go_simp
          with_reducible rfl
        rotate_left
        · simp only [Act.put, List.setIfInBounds_toArray, List.set_cons_zero, List.set_cons_succ]
          rfl
        refine pure_ (i := 6) (N := (some 3)) (v := ?_) (a' := ?_) #[true, true, true, true, true, true, true] rfl rfl (by kernel_rfl) (fun _ _ _ h => h) (Or.inl ⟨by rfl, ?_⟩) ?_ ?_
        rotate_left
        · intro w'
          go_simp
          with_reducible rfl
        rotate_left
        · simp only [Act.put, List.setIfInBounds_toArray, List.set_cons_zero, List.set_cons_succ]
          rfl
        refine done_ (by kernel_rfl) ?_
        go_wp2
        go_ret2
        refine ⟨⟨B, cb, R9, ca - (k + 1), ?_, ?_, ?_, ?_⟩, below_call hb1 (below_drew (below_alloc hbel _))⟩
        · rw [Hps.out, hcut.out, hlen.out, List.length_drop]; rfl
        · rw [Hps.out, hcut.out]; exact (Rd.of_own ho).below (below_drew (below_alloc (Below.refl _ _) _))
        · rw [Hps.out, hcut.out]; exact hrd.below (below_drew (below_alloc (Below.refl _ _) _))
        · rw [Hps.out, hcut.out, List.length_drop]; omega
    · obtain rfl : k = ps.length := by omega
      have hcut := Lib.hid (cutP_all ps (by rw [List.take_length] at hz; exact hz.out))
      rw [List.take_length] at ho
      obtain ⟨B, cb, rfl⟩ := own_slice ho
      go_wp2
      go_ret2
      refine ⟨⟨B, cb, none, 0, ?_, ?_, ?_, ?_⟩, below_call hb1 hbel⟩
      · rw [Hps.out, hcut.out, List.length_map]; rfl
      · rw [Hps.out, hcut.out]; exact Rd.of_own ho
      · rw [Hps.out, hcut.out]; exact fun hn => absurd rfl hn
      · rw [Hps.out, hcut.out]; exact Nat.le_refl _
set_option maxHeartbeats 12000000 in
theorem told19_any (s : List UInt8) (hs : s.length ≤ 100000) (w : World) (hE : Env w) : Calls Tryz.prog 19 #[.string (bs s)] w fun e w' => ToldRes s w' e ∧ Below w.heap.size w w' := by
  have hmf : ∀ (fn : Fn) (first cap : Array Value) (w : World), (Instr.makeFunc fn first cap).run Tryz.prog w = .ok (.func fn first cap) w := fun _ _ _ _ => rfl
  have HE := Lib.hid hE
  clear hE
  obtain ⟨c1, c2, c3, c4⟩ := cutP_len (allD s)
  have n1 := allD_len s
  have n2 := allD_loads s
  have HT : Hid (readTell s = dataR ((cutP (allD s)).1.foldl readR noRep) (cutP (allD s)).2) := Lib.hid rfl
  have HC4 := Lib.hid c4
  clear c4
  obtain ⟨hd, Hhd⟩ : ∃ x, Hid ((cutP (allD s)).1 = x) := ⟨_, Lib.hid rfl⟩
  obtain ⟨tl, Htl⟩ : ∃ x, Hid ((cutP (allD s)).2 = x) := ⟨_, Lib.hid rfl⟩
  rw [Hhd.out] at c1 HC4 HT
  rw [Htl.out] at c2 c3 HT
  have hg0 := heap_alloc_new w (.cells (zeroCells 44) 44)
  have HG0 := Lib.hid hg0
  clear hg0
  go_enter Tryz.func19, Tryz.ntmps19
  go_wp2_with (first | (refine wpList_run rfl (op_allocZ _ _ _ _ _ _ _ 44 zero44) ?_))
  refine (parts43_cap s (by omega) _).mono ?_
  rintro e W1 ⟨⟨A, ca, B, cb, rfl, hA, hB, hcb⟩, hb1⟩
  rw [Hhd.out, Htl.out]
  rw [Hhd.out] at hA
  rw [Htl.out] at hB hcb
  have hlt1 : w.heap.size < W1.heap.size := by have := hb1.size; rw [World.size_alloc] at this; omega
  have HG1 : Hid (W1.heap[w.heap.size]? = some (.cells (zeroCells 44) 44 (0, 0))) := Lib.hid ((hb1.block _ (by rw [World.size_alloc]; omega)).trans HG0.out)
  have HB1 : Hid (Below w.heap.size w W1) := Lib.hid (below_call (below_alloc (Below.refl _ _) _) hb1)
  have HE1 := Lib.hid (HE.out.below HB1.out)
  have HS := Lib.hid (start_rep W1 W1.heap.size (Nat.le_refl _))
  have HA := Lib.hid hA
  have HBt := Lib.hid hB
  clear hb1 hA hB
  go_wp2_with (first | (refine wpList_run rfl (op_allocZ _ _ _ _ _ _ _ 44 zero44) ?_))
  go_loopw [9, 20] (fun _ i wr => ∃ k : Nat, ∃ a, k ≤ hd.length ∧ i = .int .i64 k ∧ RepAt k W1.heap.size W1.heap.size wr ((hd.take k).foldl readR noRep) a ∧ Below W1.heap.size W1 wr) (fun _ i _ => hd.length - (intOf i).toNat)
  case atStart => exact ⟨0, noRA, by omega, rfl, HS.out, below_alloc (Below.refl _ _) _⟩
  case round =>
    obtain ⟨k, a, hk, rfl, hR, hbel⟩ := hrel
    have HR := Lib.hid hR
    have HB := Lib.hid hbel
    clear hR hbel
    by_cases hlt : k < hd.length
    · obtain ⟨b1, o1, x1, rfl, hcell, Hx1⟩ := Rd.strN (HA.out.below HB.out) k hlt
      have hk? : hd[k]? = some x1 := by rw [Hx1.out, List.getD_eq_getElem?_getD, List.getElem?_eq_getElem hlt]; rfl
      have hx1l := HC4.out x1 (List.mem_of_getElem? hk?)
      have Hfold := Lib.hid (foldl_take readR noRep hd k x1 hk?)
      clear hk?
      obtain ⟨q, Hq⟩ : ∃ q, Hid ((hd.take k).foldl readR noRep = q) := ⟨_, Lib.hid rfl⟩
      rw [Hq.out] at HR Hfold
      go_wp2_with (first
        | (go_at_call 53; refine (read53_any x1 (by omega) k _ _ q a _ (HE1.out.below HB.out) HR.out (by omega)).mono ?_; rintro e W3 ⟨rfl, ⟨a3, hR3⟩, hb3⟩; have HR3 := Lib.hid hR3; have HB3 := Lib.hid hb3; clear hR3 hb3))
      go_roundw
      case rel => exact ⟨k + 1, a3, by omega, by go_num, by rw [Hfold.out]; exact HR3.out, HB.out.trans HB3.out⟩
      case measure => simp [intOf]; omega
    · obtain rfl : k = hd.length := by omega
      rw [List.take_length] at HR
      obtain ⟨q, Hq⟩ : ∃ q, Hid (hd.foldl readR noRep = q) := ⟨_, Lib.hid rfl⟩
      rw [Hq.out] at HR HT
      have c8 := (cell_of_row _ W1.heap.size 8 _ _ _ HR.out.hg).trans (rep_h q a 8 (.bool q.band) rfl)
      have hbg := bandG_len tl.dropLast
      have hbl := loads_dropLast tl
      obtain ⟨Q, HQ⟩ : ∃ Q, Hid (dataR q tl = Q) := ⟨_, Lib.hid rfl⟩
      rw [HQ.out] at HT
      go_upto_region 9 with (fail)
      go_cut [34] (fun v wx => v = .bool (q.band && decide (0 < tl.length)) ∧ wx = wr)
      case first =>
        cases hz : q.band with
        | true =>
          have Hb := Lib.hid hz
          rw [hz] at c8
          clear hz
          cases ht : decide ((0 : Int) < (tl.length : Int)) with
          | true =>
            have ht2 : Hid (decide (0 < tl.length) = true) := Lib.hid (by rw [← ht]; exact decide_eq_decide.2 (by omega))
            go_wp2_with (first | (refine wpList_runG (by rfl) (op_gtr _ _ _ _ _ _ _ _ _ _ _ (tl.length : Int) 0 true ht rfl rfl) ?_))
            go_meet
            exact ⟨by rw [ht2.out, Hb.out]; rfl, rfl⟩
          | false =>
            have ht2 : Hid (decide (0 < tl.length) = false) := Lib.hid (by rw [← ht]; exact decide_eq_decide.2 (by omega))
            go_wp2_with (first | (refine wpList_runG (by rfl) (op_gtr _ _ _ _ _ _ _ _ _ _ _ (tl.length : Int) 0 false ht rfl rfl) ?_))
            go_meet
            exact ⟨by rw [ht2.out, Hb.out]; rfl, rfl⟩
        | false =>
          have Hb := Lib.hid hz
          rw [hz] at c8
          clear hz
          go_wp2
          go_meet
          exact ⟨by rw [Hb.out]; rfl, rfl⟩
      case rest =>
        obtain ⟨rfl, hwe⟩ := hcut
        subst hwe
        obtain ⟨z, Hz⟩ : ∃ z, Hid ((q.band && decide (0 < tl.length)) = z) := ⟨_, Lib.hid rfl⟩
        rw [Hz.out]
        clear c8
        go_upto_if 34 with (fail)
        go_cut [] (fun wx => RepAt hd.length W1.heap.size W1.heap.size wx Q a ∧ Below W1.heap.size W1 wx)
        case first =>
          cases z with
          | true =>
            have hz2 := Hz.out
            rw [Bool.and_eq_true, decide_eq_true_eq] at hz2
            obtain ⟨hband, htl⟩ := hz2
            have HQ2 : Hid (({ q with data := (bandG tl.dropLast).1, note := (bandG tl.dropLast).2 } : Rep) = Q) := Lib.hid (by rw [← HQ.out, dataR, Hz.out]; rfl)
            have hrd := HBt.out.below HB.out
            obtain ⟨b, o, rfl, -⟩ := hrd (by
              cases tl with
              | nil => simp at htl
              | cons p r => simp [pksc])
            have hdl : tl.dropLast.length = tl.length - 1 := List.length_dropLast
            have hk1 : ((tl.length : Int) - 1) = ((tl.dropLast.length : Nat) : Int) := by omega
            have hw1 := IntWalk.i64_in ((tl.length : Int) - 1) (by omega)
            have HW1 : Hid (IntKind.i64.wrap ((tl.length : Int) - 1) = ((tl.dropLast.length : Nat) : Int)) := Lib.hid (hw1.trans hk1)
            have hrd2 := rd_take hrd
            have HRD := Lib.hid hrd2
            have h1tl : 1 ≤ (tl.length : Int) := by omega
            have hkc : tl.dropLast.length ≤ cb := by omega
            clear hw1 hk1 hrd hrd2 hdl
            have HD : Hid (tl.length - 1 = tl.dropLast.length) := Lib.hid (by rw [List.length_dropLast])
            have hdn : tl.dropLast.length ≤ 1000000 := by rw [← HD.out]; omega
            have hdl2 : (loads tl.dropLast).length ≤ 1000000 := by omega
            go_wp2_with fail
            rw [HD.out]
            refine (get54_any tl.dropLast (some ⟨b, o, none⟩) cb hdn hdl2 _ HRD.out).mono ?_
            rintro e W4 ⟨⟨er, rfl⟩, hb4⟩
            obtain ⟨d1, Hd1⟩ : ∃ d, Hid ((bandG tl.dropLast).1 = d) := ⟨_, Lib.hid rfl⟩
            obtain ⟨d2, Hd2⟩ : ∃ d, Hid ((bandG tl.dropLast).2 = d) := ⟨_, Lib.hid rfl⟩
            rw [Hd1.out, Hd2.out] at hbg HQ2
            rw [Hd1.out, Hd2.out]
            have HR4 := Lib.hid (HR.out.below hb4)
            have HR5 := Lib.hid (HR4.out.set_data d1 (by omega))
            have HR6 := Lib.hid (HR5.out.set_note d2 (by omega))
            have HG4 := Lib.hid HR4.out.hg
            have HG5 := Lib.hid HR5.out.hg
            have HB4 : Hid (Below W1.heap.size W1 W4) := Lib.hid (below_base HB.out HB.out.size hb4)
            have HB6 : Hid (Below W1.heap.size W1 ((W4.setCell ⟨W1.heap.size, 43, none⟩ (.string (bs d1))).setCell ⟨W1.heap.size, 44, none⟩ (.string (bs d2)))) := Lib.hid ((HB4.out.setCell (Nat.le_refl _) _).setCell (Nat.le_refl _) _)
            have HK43 := Lib.hid (rep_g (rep_t12 q a HR.out.sum))
            have HK44 := Lib.hid (rep_g (rep_t13 { q with data := d1 } a HR.out.sum))
            clear hb4 hbg hbl
            go_wp2_with (first
              | (refine wpList_storeMid rfl 9 _ _ rfl W1.heap.size 43 (repc q a).toArray (.string (bs q.data)) (.string (bs d1)) 44 rfl rfl rfl rfl HG4.out HK43.out (by kernel_rfl) ?_)
              | (refine wpList_storeMid rfl 9 _ _ rfl W1.heap.size 44 (repc { q with data := d1 } a).toArray (.string (bs q.note)) (.string (bs d2)) 44 rfl rfl rfl rfl HG5.out HK44.out (by kernel_rfl) ?_))
            go_meet
            exact ⟨by rw [← HQ2.out]; exact HR6.out, HB6.out⟩
          | false =>
            have HQ2 : Hid (({ q with data := loads tl } : Rep) = Q) := Lib.hid (by rw [← HQ.out, dataR, Hz.out]; rfl)
            go_wp2_with fail
            refine (joined45_any tl B cb (by omega) (by omega) _ (HBt.out.below HB.out)).mono ?_
            rintro e W4 ⟨rfl, hb4⟩
            have HR4 := Lib.hid (HR.out.below hb4)
            have HR5 := Lib.hid (HR4.out.set_data (loads tl) (by omega))
            have HG4 := Lib.hid HR4.out.hg
            have HB4 : Hid (Below W1.heap.size W1 W4) := Lib.hid (below_base HB.out HB.out.size hb4)
            have HB5 : Hid (Below W1.heap.size W1 (W4.setCell ⟨W1.heap.size, 43, none⟩ (.string (bs (loads tl))))) := Lib.hid (HB4.out.setCell (Nat.le_refl _) _)
            have HK43 := Lib.hid (rep_g (rep_t12 q a HR.out.sum))
            clear hb4
            go_wp2_with (first
              | (refine wpList_storeMid rfl 9 _ _ rfl W1.heap.size 43 (repc q a).toArray (.string (bs q.data)) (.string (bs (loads tl))) 44 rfl rfl rfl rfl HG4.out HK43.out (by kernel_rfl) ?_))
            go_meet
            exact ⟨by rw [← HQ2.out]; exact HR5.out, HB5.out⟩
        case rest =>
          obtain ⟨W5, hw5e⟩ : ∃ x, x = wc := ⟨_, rfl⟩
          subst hw5e
          obtain ⟨hR5, hB5⟩ := hcut
          have HR5 := Lib.hid hR5
          have HB5 := Lib.hid hB5
          have HG5 := Lib.hid hR5.hg
          have HSm := Lib.hid hR5.sum
          clear hR5 hB5
          by_cases hB : tellsB Q = true
          · obtain ⟨tx, Htx⟩ : ∃ t, Hid (tellT Q = t) := ⟨_, Lib.hid rfl⟩
            by_cases heq : tx = s
            · have hyes : tellsB (readTell s) = true ∧ tellT (readTell s) = s := by rw [HT.out, Htx.out]; exact ⟨hB, heq⟩
              have hne : Hid ((!(tx == s)) = false) := Lib.hid (by rw [heq]; simp)
              clear heq
              go_wp2_with (first
                | (refine wpList_load_row rfl 44 _ rfl W1.heap.size rfl 44 (repc Q a).toArray (0, 0) _ HG5.out und44 rfl (info44q Q a HSm.out) ?_))
              refine (tell15_any _ a _ (HE1.out.below HB5.out) HR5.out.isRep hB (own_le HR5.out.caps).2).mono ?_
              rintro e W6 ⟨rfl, hb6⟩
              rw [Htx.out]
              have HG6 : Hid (W6.heap[w.heap.size]? = some (.cells (zeroCells 44) 44 (0, 0))) := Lib.hid ((hb6.block _ (by have := HB5.out.size; omega)).trans ((HB5.out.block _ hlt1).trans HG1.out))
              have HB6 : Hid (Below w.heap.size w W6) := Lib.hid (HB1.out.trans ((below_base HB5.out HB5.out.size hb6).mono (by omega)))
              have hR6 := HR5.out.below hb6
              have HRW := Lib.hid (setRow_heap W6 w.heap.size (zeroCells 44) (repc Q a).toArray 44 (0, 0) HG6.out)
              have HL6 := Lib.hid hR6.hg
              have HB7 : Hid (Below w.heap.size w (W6.setRow w.heap.size (repc Q a).toArray)) := Lib.hid (below_setRow HB6.out (Nat.le_refl _) _)
              have HIQ : Hid (IsRep (W6.setRow w.heap.size (repc Q a).toArray) Q a) := Lib.hid (hR6.setRow hlt1 _).isRep
              have HIC : Hid (Q.caps.length ≤ a.c2) := Lib.hid (own_le hR6.caps).2
              clear hb6 hR6
              go_wp2_with (first
                | (refine wpList_runG (by rfl) (op_str_neqB _ _ _ _ _ _ _ _ _ _ tx s false hne.out rfl rfl) ?_)
                | (refine wpList_load_row rfl 44 _ rfl W1.heap.size rfl 44 (repc Q a).toArray (0, 0) _ HL6.out und44 rfl (info44q Q a HSm.out) ?_)
                | (refine wpList_storeRow rfl 44 _ _ rfl w.heap.size 44 (zeroCells 44) (repc Q a).toArray rfl rfl HG6.out (info44q Q a HSm.out) (zsize44 Q a HSm.out) (repv_one _ _) ?_))
              refine bodyPost_ret (v := .tuple #[.agg (repc Q a).toArray, .int .i64 0]) ((results_cellT rfl _ _ w.heap.size 44 (repc Q a).toArray (0, 0) _ rfl HRW.out und44 rfl (info44q Q a HSm.out)).trans rfl) rfl ⟨told_yes hyes HT.out HIQ.out HIC.out, HB7.out⟩
            · have hno : ¬ (tellsB (readTell s) = true ∧ tellT (readTell s) = s) := by rw [HT.out, Htx.out]; exact fun h => heq h.2
              have hne : Hid ((!(tx == s)) = true) := Lib.hid (by simpa using heq)
              clear heq
              go_wp2_with (first
                | (refine wpList_load_row rfl 44 _ rfl W1.heap.size rfl 44 (repc Q a).toArray (0, 0) _ HG5.out und44 rfl (info44q Q a HSm.out) ?_))
              refine (tell15_any _ a _ (HE1.out.below HB5.out) HR5.out.isRep hB (own_le HR5.out.caps).2).mono ?_
              rintro e W6 ⟨rfl, hb6⟩
              rw [Htx.out]
              have HG6 : Hid (W6.heap[w.heap.size]? = some (.cells (zeroCells 44) 44 (0, 0))) := Lib.hid ((hb6.block _ (by have := HB5.out.size; omega)).trans ((HB5.out.block _ hlt1).trans HG1.out))
              have HB6 : Hid (Below w.heap.size w W6) := Lib.hid (HB1.out.trans ((below_base HB5.out HB5.out.size hb6).mono (by omega)))
              have HR6 := Lib.hid (setRow_heap W6 w.heap.size (zeroCells 44) (repc noRep noRA).toArray 44 (0, 0) HG6.out)
              have HB7 : Hid (Below w.heap.size w (W6.setRow w.heap.size (repc noRep noRA).toArray)) := Lib.hid (below_setRow HB6.out (Nat.le_refl _) _)
              clear hb6
              go_wp2_with (first
                | (refine wpList_run rfl (op_build44 _ _ _ _ _ _ _) ?_)
                | (refine wpList_runG (by rfl) (op_str_neqB _ _ _ _ _ _ _ _ _ _ tx s true hne.out rfl rfl) ?_)
                | (refine wpList_storeRow rfl 44 _ _ rfl w.heap.size 44 (zeroCells 44) (repc noRep noRA).toArray rfl rfl HG6.out (info44q _ _ noId_length) (zsize44 _ _ noId_length) (repv_one _ _) ?_))
              refine bodyPost_ret (v := .tuple #[.agg (repc noRep noRA).toArray, .int .i64 2]) ((results_cellT rfl _ _ w.heap.size 44 (repc noRep noRA).toArray (0, 0) _ rfl HR6.out und44 rfl (info44q _ _ noId_length)).trans rfl) rfl ⟨told_no hno, HB7.out⟩
          · have hB : tellsB Q = false := by simpa using hB
            have hno : ¬ (tellsB (readTell s) = true ∧ tellT (readTell s) = s) := by rw [HT.out, hB]; exact fun h => absurd h.1 (by decide)
            go_wp2_with (first
              | (refine wpList_load_row rfl 44 _ rfl W1.heap.size rfl 44 (repc Q a).toArray (0, 0) _ HG5.out und44 rfl (info44q Q a HSm.out) ?_))
            refine (tell15_no _ a _ HR5.out.isRep hB).mono ?_
            rintro e W6 ⟨rfl, hb6⟩
            have HG6 : Hid (W6.heap[w.heap.size]? = some (.cells (zeroCells 44) 44 (0, 0))) := Lib.hid ((hb6.block _ (by have := HB5.out.size; omega)).trans ((HB5.out.block _ hlt1).trans HG1.out))
            have HB6 : Hid (Below w.heap.size w W6) := Lib.hid (HB1.out.trans ((below_base HB5.out HB5.out.size hb6).mono (by omega)))
            have HR6 := Lib.hid (setRow_heap W6 w.heap.size (zeroCells 44) (repc noRep noRA).toArray 44 (0, 0) HG6.out)
            have HB7 : Hid (Below w.heap.size w (W6.setRow w.heap.size (repc noRep noRA).toArray)) := Lib.hid (below_setRow HB6.out (Nat.le_refl _) _)
            clear hb6
            go_wp2_with (first
              | (refine wpList_run rfl (op_build44 _ _ _ _ _ _ _) ?_)
              | (refine wpList_storeRow rfl 44 _ _ rfl w.heap.size 44 (zeroCells 44) (repc noRep noRA).toArray rfl rfl HG6.out (info44q _ _ noId_length) (zsize44 _ _ noId_length) (repv_one _ _) ?_))
            refine bodyPost_ret (v := .tuple #[.agg (repc noRep noRA).toArray, .int .i64 2]) ((results_cellT rfl _ _ w.heap.size 44 (repc noRep noRA).toArray (0, 0) _ rfl HR6.out und44 rfl (info44q _ _ noId_length)).trans rfl) rfl ⟨told_no hno, HB7.out⟩
end Go.Proofs.YtmfpmedkhlhnpaaGreatDoor
