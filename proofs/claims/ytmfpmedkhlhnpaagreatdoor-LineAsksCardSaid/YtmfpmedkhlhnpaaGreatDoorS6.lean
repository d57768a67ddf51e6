import Derived.Test.YtmfpmedkhlhnpaaGreatDoorS1
import Derived.Deep.DeepCutAuto
/- function 54: band.Get. -/
namespace Go.Proofs.YtmfpmedkhlhnpaaGreatDoor
open Go.RowKit Go.Extern.Stop Go.Proofs.YtmfpmedkhlhnpaaGreatDoorW.PrintLast
set_option maxRecDepth 100000
set_option linter.unusedSimpArgs false
set_option linter.unusedVariables false
theorem bandS_len (c : Nat) (l : List Pk) : (bandS c l).length ≤ (loads l).length := by
  induction l with
  | nil => simp [bandS]
  | cons p r ih =>
    have e1 : bandS c (p :: r) = (if (p.load.headD 0).toNat = c then p.load.tail else []) ++ bandS c r := rfl
    have e2 : loads (p :: r) = p.load ++ loads r := rfl
    rw [e1, e2, List.length_append, List.length_append]
    split <;> simp <;> omega
theorem bandS_next (c : Nat) (l : List Pk) (k : Nat) (p : Pk) (h : l[k]? = some p) : bandS c (l.take (k + 1)) = bandS c (l.take k) ++ (if (p.load.headD 0).toNat = c then p.load.tail else []) := by
  obtain ⟨hk, hs⟩ := List.getElem?_eq_some_iff.1 h
  rw [List.take_succ_eq_append_getElem hk, hs, bandS_append]
  simp [bandS]
/-- The streams' cells. -/
def strs (l : List Pk) : Array Value := #[.string (bs (bandS 0 l)), .string (bs (bandS 1 l)), .string (bs (bandS 2 l)), .string (bs (bandS 3 l))]
theorem strs_get (l : List Pk) (c : Nat) (hc : c < 4) : (strs l)[c]? = some (.string (bs (bandS c l))) := by
  rcases c with _ | _ | _ | _ | c
  · rfl
  · rfl
  · rfl
  · rfl
  · omega
theorem strs_set (l : List Pk) (k : Nat) (p : Pk) (h : l[k]? = some p) (c : Nat) (hc : (p.load.headD 0).toNat = c) (hc4 : c < 4) : (strs (l.take k)).setIfInBounds c (.string (bs (bandS c (l.take k) ++ p.load.tail))) = strs (l.take (k + 1)) := by
  have hn : ∀ d, bandS d (l.take (k + 1)) = if c = d then bandS d (l.take k) ++ p.load.tail else bandS d (l.take k) := fun d => by
    rw [bandS_next d l k p h, hc]; split <;> simp
  rw [strs, strs, hn 0, hn 1, hn 2, hn 3]
  rcases c with _ | _ | _ | _ | c
  · rfl
  · rfl
  · rfl
  · rfl
  · omega
theorem und122 : Tryz.prog.underlying 122 = some (.array 4 9) := by kernel_rfl
theorem zero122 : ((Tryz.prog.info? 122).bind (·.zero)).isSome = true := by kernel_rfl
theorem zero122_eq : zeroCells 122 = strs [] := by kernel_rfl
theorem siz9 (w : World) : (sizeOf 9).run Tryz.prog w = .ok 1 w := by kernel_rfl
section
variable (ρ : Operand → Value) (dst : Option Tmp) (ty : TypeId) (pos : String) (after : Array Edge) (g : Option (Nat × Bool)) (w : World)
theorem op_straddr (x y : Operand) (b c : Nat) (hc : c < 4) (hx : ρ x = .pointer (some ⟨b, 0, none⟩)) (hy : ρ y = .int .u8 (c : Int)) :
    (execOp ρ ⟨dst, .indexAddr 122 x y, ty, pos, after, g⟩).run Tryz.prog w = .ok (.value (.pointer (some ⟨b, c, none⟩))) w := by
  show (do let x ← Instr.indexAt 122 (ρ x) (ρ y); pure (Next.value x) : Sem Next).run Tryz.prog w = _
  rw [hx, hy, Sem.run_bind, run_indexAt_array (P := Tryz.prog) w 122 ⟨b, 0, none⟩ .u8 (c : Int) (by kernel_rfl)]
  have h4 : Tryz.prog.arrayLen 122 = 4 := by kernel_rfl
  have hs : Tryz.prog.elem 122 = 9 := by kernel_rfl
  rw [h4, hs, if_pos ⟨by omega, by omega⟩, siz9]
  simp [Addr.add_mid]
theorem op_lss8 (x y : Operand) (t t' : TypeId) (n m : Int) (b : Bool) (hb : decide (n < m) = b) (hx : ρ x = .int .u8 n) (hy : ρ y = .int .u8 m) :
    (execOp ρ ⟨dst, .binOp .lss t x y t', ty, pos, after, g⟩).run Tryz.prog w = .ok (.value (.bool b)) w := by
  show (do let x ← (do eqGuard .lss t x y (ρ x) (ρ y); binOp .lss t (ρ x) (ρ y)); pure (Next.value x) : Sem Next).run Tryz.prog w = _
  rw [hx, hy, ← hb]
  simp [eqGuard, binOp, Op.intCmp]
theorem op_gtr8 (x y : Operand) (t t' : TypeId) (n m : Int) (b : Bool) (hb : decide (m < n) = b) (hx : ρ x = .int .u8 n) (hy : ρ y = .int .u8 m) :
    (execOp ρ ⟨dst, .binOp .gtr t x y t', ty, pos, after, g⟩).run Tryz.prog w = .ok (.value (.bool b)) w := by
  show (do let x ← (do eqGuard .gtr t x y (ρ x) (ρ y); binOp .gtr t (ρ x) (ρ y)); pure (Next.value x) : Sem Next).run Tryz.prog w = _
  rw [hx, hy, ← hb]
  simp [eqGuard, binOp, Op.intCmp]
end
theorem ev_storeMidV {P : Program} {w : World} {oi : Oper} {a : Act} {K : Act → World → Prop} {Q : Exit → Act → World → Prop} {b : Bool} (hw : b = true) (hN : oi.dst = none) (t : TypeId) (x y : Operand) (ho : oi.op = .store t x y) (g o : Nat) (c : Array Value) (u v : Value) (T : TypeId)
    (hx : a.eval x = .pointer (some ⟨g, o, none⟩)) (hy : a.eval y = v) (hv : v.cells = #[v]) (h1c : v.oneCell' = true) (hg : w.heap[g]? = some (.cells c T (0, 0))) (hu : c[o]? = some u) (hi : (P.info? t).map (·.size) = some 1)
    (h : ∀ W', Hid (W' = w.setCell ⟨g, o, none⟩ v) → K a W') : if b = true then oi.wp P a w K Q else K (a.put none undef) w :=
  ev_storeMid hw hN t x y ho g o c u v T hx hy hv h1c hg hu hi (h _ (Lib.hid rfl))
def GetRes (ps : List Pk) (e : Ending) : Prop := ∃ er, e = .returned (.tuple #[.string (bs (bandG ps).1), .string (bs (bandG ps).2), .int .i64 er])
theorem bandG_bad {ps : List Pk} {k : Nat} {p : Pk} (h : ps[k]? = some p) (hp : bandP p = false) : bandG ps = ([], []) := by
  have : ps.all bandP = false := List.all_eq_false.2 ⟨p, List.mem_of_getElem? h, by rw [hp]; decide⟩
  rw [bandG, this]; rfl
theorem bandP_next {ps : List Pk} {k : Nat} {p : Pk} (h : ps[k]? = some p) (ha : (ps.take k).all bandP = true) (hp : bandP p = true) : (ps.take (k + 1)).all bandP = true := by
  obtain ⟨hk, hs⟩ := List.getElem?_eq_some_iff.1 h
  rw [List.take_succ_eq_append_getElem hk, hs, List.all_append, ha]; simp [hp]
theorem head_get (l : List UInt8) : l.headD 0 = l.getD 0 0 := by cases l <;> rfl
theorem tail_drop (l : List UInt8) : l.tail = l.drop 1 := by cases l <;> rfl
set_option maxHeartbeats 8000000 in
theorem get54_any (ps : List Pk) (A : Option Addr) (ca : Nat) (hn : ps.length ≤ 1000000) (hj : (loads ps).length ≤ 1000000) (w : World) (hA : Rd w A (pksc ps)) :
    Calls Tryz.prog 54 #[.slice A ps.length ca] w fun e w' => GetRes ps e ∧ Below w.heap.size w w' := by
  have HG0 : Hid ((w.alloc (.cells (zeroCells 122) 122)).heap[w.heap.size]? = some (.cells (strs (ps.take 0)) 122 (0, 0))) := Lib.hid (by rw [List.take_zero, ← zero122_eq]; exact heap_alloc_new _ _)
  go_enter Tryz.func54, Tryz.ntmps54
  go_wp2_with (first | (refine wpList_run rfl (op_allocZ _ _ _ _ _ _ _ 122 zero122) ?_))
  go_loopw [10] (fun i wr => ∃ k : Nat, k ≤ ps.length ∧ i = .int .i64 k ∧ wr.heap[w.heap.size]? = some (.cells (strs (ps.take k)) 122 (0, 0)) ∧ Hid ((ps.take k).all bandP = true) ∧ Below w.heap.size w wr) (fun i _ => ps.length - (intOf i).toNat)
  case atStart => exact ⟨0, by omega, rfl, HG0.out, Lib.hid rfl, below_alloc (Below.refl _ _) _⟩
  case round =>
    obtain ⟨k, hk, rfl, hg, hall, hbel⟩ := hrel
    have HG := Lib.hid hg
    have hltg : w.heap.size < wr.heap.size := (Array.getElem?_eq_some_iff.1 hg).1
    clear hg HG0
    by_cases hlt : k < ps.length
    · obtain ⟨b1, o1, p, rfl, cu, hp⟩ := Rd.at (f := pkc) (n := 2) (by omega) (hA.below hbel) (fun x _ => rfl) k hlt
      have HP := Lib.hid hp
      have cn0 := rangeAt_new wr (pkc p) 73 0 (.int .i64 p.kind) rfl
      have cn1 := rangeAt_new wr (pkc p) 73 1 (.string (bs p.load)) rfl
      rw [Nat.zero_add] at cn0 cn1
      have hpl : p.load.length ≤ 1000000 := by
        have := loads_len ps (k + 1)
        rw [loads_next ps k p hp, List.length_append] at this
        omega
      clear hp
      go_upto_region 5 with (first
        | (refine wpList_load_mid rfl 73 _ rfl b1 (o1 + k * 2) rfl (pkc p) _ cu und73 rfl (by kernel_rfl) ?_)
        | (refine wpList_run rfl (op_allocZ _ _ _ _ _ _ _ 73 zero73) ?_)
        | (refine wpList_store_new rfl 73 _ _ rfl _ #[.int .i64 p.kind, .string (bs p.load)] rfl rfl (by kernel_rfl) zsize73 (one2 _ _) ?_))
      by_cases hk0 : p.kind = 0
      · have hb0 : (p.kind != 0) = false := by rw [hk0]; rfl
        have Hk0 := Lib.hid hk0
        clear hk0
        cases h2 : decide ((p.load.length : Int) < 2) with
        | true =>
          have hbad : Hid (bandG ps = ([], [])) := Lib.hid (bandG_bad HP.out (by rw [bandP, Hk0.out, decide_eq_false (show ¬ 2 ≤ p.load.length by have := of_decide_eq_true h2; omega)]; rfl))
          go_wp2
          go_ret3
          exact ⟨⟨2, by rw [hbad.out]; rfl⟩, (below_alloc hbel _)⟩
        | false =>
          cases h3 : decide ((1000 : Int) < (p.load.length : Int)) with
          | true =>
            have hbad : Hid (bandG ps = ([], [])) := Lib.hid (bandG_bad HP.out (by rw [bandP, decide_eq_false (show ¬ p.load.length ≤ 1000 by have := of_decide_eq_true h3; omega)]; simp))
            go_wp2
            go_ret3
            exact ⟨⟨2, by rw [hbad.out]; rfl⟩, (below_alloc hbel _)⟩
          | false =>
            have hp2 : 2 ≤ p.load.length := by have := of_decide_eq_false h2; omega
            have hp3 : p.load.length ≤ 1000 := by have := of_decide_eq_false h3; omega
            have hp0 : 0 < p.load.length := by omega
            obtain ⟨c, hc2, Hc⟩ := byte_at p.load 0
            have hix : ∀ h : 0 < (bs p.load).size, ((bs p.load)[0]'h).toNat = c := fun h => by rw [bs_at _ _ _ hp0, Hc.out, List.getD_eq_getElem?_getD, List.getElem?_eq_getElem hp0]; rfl
            have Hcc : Hid ((p.load.headD 0).toNat = c) := Lib.hid (by rw [head_get, Hc.out])
            cases h4 : decide ((c : Int) < 1) with
            | true =>
              have hbad : Hid (bandG ps = ([], [])) := Lib.hid (bandG_bad HP.out (by rw [bandP, Hcc.out, decide_eq_false (show ¬ 1 ≤ c by have := of_decide_eq_true h4; omega)]; simp))
              go_wp2
              go_ret3
              exact ⟨⟨2, by rw [hbad.out]; rfl⟩, (below_alloc hbel _)⟩
            | false =>
              cases h5 : decide ((3 : Int) < (c : Int)) with
              | true =>
                have hbad : Hid (bandG ps = ([], [])) := Lib.hid (bandG_bad HP.out (by rw [bandP, Hcc.out, decide_eq_false (show ¬ c ≤ 3 by have := of_decide_eq_true h5; omega)]; simp))
                go_wp2
                go_ret3
                exact ⟨⟨2, by rw [hbad.out]; rfl⟩, (below_alloc hbel _)⟩
              | false =>
                have hc1 : 1 ≤ c := by have := of_decide_eq_false h4; omega
                have hc3 : c ≤ 3 := by have := of_decide_eq_false h5; omega
                have hc4 : c < 4 := by omega
                have hok : Hid ((ps.take (k + 1)).all bandP = true) := Lib.hid (bandP_next HP.out hall.out (by
                  rw [bandP, Hcc.out, Hk0.out, decide_eq_true hp2, decide_eq_true hp3, decide_eq_true hc1, decide_eq_true hc3]; rfl))
                obtain ⟨s0, Hs0⟩ : ∃ s, Hid (bandS c (ps.take k) = s) := ⟨_, Lib.hid rfl⟩
                have hs0l : s0.length ≤ 1000000 := by rw [← Hs0.out]; have := bandS_len c (ps.take k); have := loads_len ps k; omega
                have hsg : Hid ((strs (ps.take k))[c]? = some (.string (bs s0))) := Lib.hid (by rw [strs_get _ c hc4, Hs0.out])
                have hset : Hid ((strs (ps.take k)).setIfInBounds c (.string (bs (s0 ++ p.load.drop 1))) = strs (ps.take (k + 1))) := Lib.hid (by rw [← Hs0.out, ← tail_drop]; exact strs_set ps k p HP.out c Hcc.out hc4)
                have hgA : Hid ((wr.alloc (.cells (pkc p).toArray 73)).heap[w.heap.size]? = some (.cells (strs (ps.take k)) 122 (0, 0))) := Lib.hid ((heap_alloc_old _ _ hltg).trans HG.out)
                have cs0 : (wr.alloc (.cells (pkc p).toArray 73)).cell? ⟨w.heap.size, c, none⟩ = some (.string (bs s0)) := (cell_of_row _ _ c _ _ _ hgA.out).trans hsg.out
                go_wp2
                refine start_ (n := 11) (S := (fun V => V.cell? ⟨wr.heap.size, 1, none⟩ = some (.string (bs p.load)) ∧ V.cell? ⟨w.heap.size, c, none⟩ = some (.string (bs s0)) ∧ V.heap = (wr.alloc (.cells (pkc p).toArray 73)).heap ∧ Below w.heap.size w V)) (ds := [10]) #[false, false, false, false, false, false, false, false, false, false, false] (by kernel_rfl) rfl rfl (⟨cn1, cs0, rfl, below_drew (below_alloc hbel _)⟩) (fun hHeld => ?_)
                refine pure_ (i := 0) (N := (some 41)) (v := ?_) (a' := ?_) #[true, false, false, false, false, false, false, false, false, false, false] rfl rfl (by kernel_rfl) (fun _ _ _ h => h) (Or.inl ⟨by rfl, ?_⟩) ?_ ?_
                rotate_left
                · intro w'
                  go_simp
                  with_reducible rfl
                rotate_left
                · simp only [Act.put, List.setIfInBounds_toArray, List.set_cons_zero, List.set_cons_succ]
                  rfl
                refine take_ (i := 1) (N := (some 42)) (v := ?_) (a' := ?_) #[true, true, false, false, false, false, false, false, false, false, false] rfl rfl (by kernel_rfl) (fun _ _ _ h => h) (Or.inl ⟨by rfl, ?_⟩) hHeld ?_ ?_
                rotate_left
                · intro w' hS'
                  have h1 := hS'.1
                  go_simp
                  with_reducible rfl
                rotate_left
                · simp only [Act.put, List.setIfInBounds_toArray, List.set_cons_zero, List.set_cons_succ]
                  rfl
                refine pure_ (i := 2) (N := (some 43)) (v := ?_) (a' := ?_) #[true, true, true, false, false, false, false, false, false, false, false] rfl rfl (by kernel_rfl) (fun _ _ _ h => h) (Or.inl ⟨by rfl, ?_⟩) ?_ ?_
                rotate_left
                · intro w'
                  refine op_index_str' _ _ _ _ _ _ _ _ _ p.load 0 c hp0 Hc ?_ ?_
                  rfl
                  rfl
                rotate_left
                · simp only [Act.put, List.setIfInBounds_toArray, List.set_cons_zero, List.set_cons_succ]
                  rfl
                refine pure_ (i := 3) (N := (some 44)) (v := ?_) (a' := ?_) #[true, true, true, true, false, false, false, false, false, false, false] rfl rfl (by kernel_rfl) (fun _ _ _ h => h) (Or.inl ⟨by rfl, ?_⟩) ?_ ?_
                rotate_left
                · intro w'
                  refine op_straddr _ _ _ _ _ _ _ _ _ w.heap.size c hc4 ?_ ?_
                  rfl
                  rfl
                rotate_left
                · simp only [Act.put, List.setIfInBounds_toArray, List.set_cons_zero, List.set_cons_succ]
                  rfl
                refine take_ (i := 4) (N := (some 45)) (v := ?_) (a' := ?_) #[true, true, true, true, true, false, false, false, false, false, false] rfl rfl (by kernel_rfl) (fun _ _ _ h => h) (Or.inl ⟨by rfl, ?_⟩) hHeld ?_ ?_
                rotate_left
                · intro w' hS'
                  have h1 := hS'.2.1
                  go_simp
                  with_reducible rfl
                rotate_left
                · simp only [Act.put, List.setIfInBounds_toArray, List.set_cons_zero, List.set_cons_succ]
                  rfl
                refine pure_ (i := 5) (N := (some 46)) (v := ?_) (a' := ?_) #[true, true, true, true, true, true, false, false, false, false, false] rfl rfl (by kernel_rfl) (fun _ _ _ h => h) (Or.inl ⟨by rfl, ?_⟩) ?_ ?_
                rotate_left
                · intro w'
                  go_simp
                  with_reducible rfl
                rotate_left
                · simp only [Act.put, List.setIfInBounds_toArray, List.set_cons_zero, List.set_cons_succ]
                  rfl
                refine take_ (i := 6) (N := (some 47)) (v := ?_) (a' := ?_) #[true, true, true, true, true, true, true, false, false, false, false] rfl rfl (by kernel_rfl) (fun _ _ _ h => h) (Or.inl ⟨by rfl, ?_⟩) hHeld ?_ ?_
                rotate_left
                · intro w' hS'
                  have h1 := hS'.1
                  go_simp
                  with_reducible rfl
                rotate_left
                · simp only [Act.put, List.setIfInBounds_toArray, List.set_cons_zero, List.set_cons_succ]
                  rfl
                refine pure_ (i := 7) (N := (some 48)) (v := ?_) (a' := ?_) #[true, true, true, true, true, true, true, true, false, false, false] rfl rfl (by kernel_rfl) (fun _ _ _ h => h) (Or.inl ⟨by rfl, ?_⟩) ?_ ?_
                rotate_left
                · intro w'
                  refine op_slice_drop _ _ _ _ _ _ _ _ _ p.load 1 (by omega) ?_ ?_
                  rfl
                  rfl
                rotate_left
                · simp only [Act.put, List.setIfInBounds_toArray, List.set_cons_zero, List.set_cons_succ]
                  rfl
                refine pure_ (i := 8) (N := (some 49)) (v := ?_) (a' := ?_) #[true, true, true, true, true, true, true, true, true, false, false] rfl rfl (by kernel_rfl) (fun _ _ _ h => h) (Or.inl ⟨by rfl, ?_⟩) ?_ ?_
                rotate_left
                · intro w'
                  refine op_concat _ _ _ _ _ _ _ _ _ _ s0 (p.load.drop 1) ?_ ?_ ?_
                  rfl
                  rfl
                  rw [List.length_drop]; omega
                rotate_left
                · simp only [Act.put, List.setIfInBounds_toArray, List.set_cons_zero, List.set_cons_succ]
                  rfl
                refine pure_ (i := 9) (N := (some 50)) (v := ?_) (a' := ?_) #[true, true, true, true, true, true, true, true, true, true, false] rfl rfl (by kernel_rfl) (fun _ _ _ h => h) (Or.inl ⟨by rfl, ?_⟩) ?_ ?_
                rotate_left
                · intro w'
                  refine op_straddr _ _ _ _ _ _ _ _ _ w.heap.size c hc4 ?_ ?_
                  rfl
                  rfl
                rotate_left
                · simp only [Act.put, List.setIfInBounds_toArray, List.set_cons_zero, List.set_cons_succ]
                  rfl
                refine last_ (i := 10) (N := none) #[true, true, true, true, true, true, true, true, true, true, true] rfl rfl (by kernel_rfl) (by simp) (fun K hK => ?_)
                have hg10 : _ = some (Obj.cells (strs (ps.take k)) 122 (0, 0)) := (congrArg (fun h => h[w.heap.size]?) hHeld.2.2.1).trans hgA.out
                have hb10 := hHeld.2.2.2
                have hfin := heap_setCell_same _ w.heap.size c (strs (ps.take k)) 122 (.string (bs (s0 ++ p.load.drop 1))) hg10
                rw [hset.out] at hfin
                have hbn := hb10.setCell (p := ⟨w.heap.size, c, none⟩) (Nat.le_refl _) (.string (bs (s0 ++ p.load.drop 1)))
                refine ev_storeMidV (by rfl) rfl 9 _ _ rfl w.heap.size c (strs (ps.take k)) (.string (bs s0)) (.string (bs (s0 ++ p.load.drop 1))) 122 rfl rfl rfl rfl hg10 hsg.out (by kernel_rfl) ?_
                intro W9 hW9
                rw [← hW9.out] at hfin hbn
                have HFin := Lib.hid hfin
                have HB10 := Lib.hid hbn
                clear hfin hbn hg10 hb10
                refine hK _ _ ?_
                refine done_ (by kernel_rfl) ?_
                go_wp2
                go_roundw
                case rel => exact ⟨k + 1, by omega, by go_num, HFin.out, hok, HB10.out⟩
                case measure => simp [intOf]; omega
      · have hb0 : (p.kind != 0) = true := by simpa using hk0
        have hbad : Hid (bandG ps = ([], [])) := Lib.hid (bandG_bad HP.out (by rw [bandP, decide_eq_false hk0]; rfl))
        clear hk0
        go_wp2
        go_ret3
        exact ⟨⟨2, by rw [hbad.out]; rfl⟩, (below_alloc hbel _)⟩
    · obtain rfl : k = ps.length := by omega
      rw [List.take_length] at hall HG
      have c1 := (cell_of_row wr w.heap.size 1 _ _ _ HG.out).trans (strs_get ps 1 (by omega))
      have c2 := (cell_of_row wr w.heap.size 2 _ _ _ HG.out).trans (strs_get ps 2 (by omega))
      have c3 := (cell_of_row wr w.heap.size 3 _ _ _ HG.out).trans (strs_get ps 3 (by omega))
      cases he : (bandS 3 ps == []) with
      | true =>
        have hgood : Hid (bandG ps = (bandS 1 ps, bandS 2 ps)) := Lib.hid (by rw [bandG, hall.out, he]; rfl)
        go_wp2_with (first | (refine wpList_run rfl (op_str_neqB _ _ _ _ _ _ _ _ _ _ (bandS 3 ps) [] false (by rw [he]; rfl) rfl rfl) ?_))
        go_quiet (fail)
        go_wp2
        go_ret3
        exact ⟨⟨0, by rw [hgood.out]; rfl⟩, below_drewN hbel _⟩
      | false =>
        have hbad : Hid (bandG ps = ([], [])) := Lib.hid (by rw [bandG, he, Bool.and_false]; rfl)
        go_wp2_with (first | (refine wpList_run rfl (op_str_neqB _ _ _ _ _ _ _ _ _ _ (bandS 3 ps) [] true (by rw [he]; rfl) rfl rfl) ?_))
        go_ret3
        exact ⟨⟨13, by rw [hbad.out]; rfl⟩, hbel⟩
end Go.Proofs.YtmfpmedkhlhnpaaGreatDoor
