import Derived.Test.YtmfpmedkhlhnpaaGreatDoorQ4
/- functions 97, 75. -/
namespace Go.Proofs.YtmfpmedkhlhnpaaGreatDoor
open Go.RowKit Go.Extern.Stop Go.Proofs.YtmfpmedkhlhnpaaGreatDoorW.PrintLast
set_option maxRecDepth 100000
set_option linter.unusedSimpArgs false
set_option linter.unusedVariables false
theorem wpList_storeRow {P : Program} {ops : Array Oper} {rest : List Oper} {w : World} {oi : Oper} {a : Act} {Q : Exit → Act → World → Prop} (hgd : oi.guard = none) (t : TypeId) (x y : Operand) (ho : oi.op = .store t x y) (g : Nat) (T : TypeId) (old c' : Array Value)
    (hx : a.eval x = .pointer (some ⟨g, 0, none⟩)) (hy : a.eval y = .agg c') (hg : w.heap[g]? = some (.cells old T (0, 0))) (hi : (P.info? t).map (·.size) = some c'.size) (hsz : old.size = c'.size) (h1 : c'.all (·.oneCell') = true)
    (h : wpList P ops Q rest (a.put oi.dst undef) (w.setRow g c')) : wpList P ops Q (oi :: rest) a w :=
  wpList_plain hgd fun K hK => by
    have hr : (execOp a.eval oi).run P w = .ok .skip (w.setRow g c') := by
      unfold execOp
      simp only [ho, hx, hy, Instr.storeAt, Instr.sureAddr, Sem.run_bind, Sem.run_pure, Result.andThen_ok, run_storeVar_row (P := P) w g T t old c' hg hi hsz h1]
    unfold Oper.wp
    rw [hr]
    exact hK _ _ h
/-- The byte of two figures. -/
def twoF (l : List UInt8) (j : Nat) : UInt8 := UInt8.ofNat ((hexI (l.getD (2 * j) 0)).toNat * 16 + (hexI (l.getD (2 * j + 1) 0)).toNat)
/-- The id of the figures that a text is; none, if it is none. -/
def unhexI (l : List UInt8) : List UInt8 := if l.length = 64 ∧ ∀ c ∈ l, 0 ≤ hexI c then (List.range 32).map (twoF l) else noId
/-- The bytes behind the first k figures. -/
def hexAt (l : List UInt8) (k : Nat) : List UInt8 := (List.range 32).map fun j => if 2 * j + 1 < k then twoF l j else if 2 * j < k then UInt8.ofNat (hexI (l.getD (2 * j) 0)).toNat else 0
theorem hexAt_length (l : List UInt8) (k : Nat) : (hexAt l k).length = 32 := by simp [hexAt]
theorem hexAt_end (l : List UInt8) : hexAt l 64 = (List.range 32).map (twoF l) := by
  refine List.map_congr_left fun j hj => ?_
  rw [List.mem_range] at hj
  rw [if_pos (by omega)]
theorem hexAt_start (l : List UInt8) : hexAt l 0 = noId := by
  rw [hexAt, noId]
  rfl
theorem unhexI_length (l : List UInt8) : (unhexI l).length = 32 := by
  rw [unhexI]; split
  · simp
  · exact noId_length
theorem hexAt_get (l : List UInt8) (k j : Nat) (hj : j < 32) : (hexAt l k).getD j 0 = if 2 * j + 1 < k then twoF l j else if 2 * j < k then UInt8.ofNat (hexI (l.getD (2 * j) 0)).toNat else 0 := by
  rw [List.getD_eq_getElem?_getD, List.getElem?_eq_getElem (by rw [hexAt_length]; exact hj)]
  simp [hexAt]
theorem hexAt_old (l : List UInt8) (k : Nat) (hk : k < 64) : (hexAt l k).getD (k / 2) 0 = if k % 2 = 0 then 0 else UInt8.ofNat (hexI (l.getD (k - 1) 0)).toNat := by
  rw [hexAt_get l k (k / 2) (by omega), if_neg (by omega)]
  by_cases h : k % 2 = 0
  · rw [if_neg (by omega), if_pos h]
  · rw [if_pos (by omega), if_neg h, show 2 * (k / 2) = k - 1 by omega]
theorem hexAt_next (l : List UInt8) (k : Nat) (hk : k < 64) : hexAt l (k + 1) = (hexAt l k).set (k / 2) (UInt8.ofNat (((hexAt l k).getD (k / 2) 0).toNat * 16 + (hexI (l.getD k 0)).toNat)) := by
  refine List.ext_getElem (by simp [hexAt_length]) fun j h1 h2 => ?_
  have hj : j < 32 := by rw [hexAt_length] at h1; exact h1
  have hb := hexI_lt (l.getD (k - 1) 0)
  have e1 : (hexAt l (k + 1))[j] = (hexAt l (k + 1)).getD j 0 := by rw [List.getD_eq_getElem?_getD, List.getElem?_eq_getElem h1]; rfl
  refine e1.trans ?_
  rw [hexAt_get l (k + 1) j hj, List.getElem_set]
  by_cases he : k / 2 = j
  · rw [if_pos he, hexAt_old l k hk]
    by_cases h : k % 2 = 0
    · rw [if_pos h, if_neg (by omega), if_pos (by omega), show 2 * j = k by omega]; simp
    · rw [if_neg h, if_pos (by omega), twoF, show 2 * j = k - 1 by omega, show k - 1 + 1 = k by omega]
      congr 2
      rw [UInt8.toNat_ofNat']
      omega
  · rw [if_neg he]
    have e2 : (hexAt l k)[j]'(by rw [hexAt_length]; exact hj) = (hexAt l k).getD j 0 := by rw [List.getD_eq_getElem?_getD, List.getElem?_eq_getElem (by rw [hexAt_length]; exact hj)]; rfl
    refine Eq.trans ?_ e2.symm
    rw [hexAt_get l k j hj]
    by_cases h3 : 2 * j + 1 < k
    · rw [if_pos h3, if_pos (by omega)]
    · rw [if_neg h3, if_neg (by omega)]
      by_cases h4 : 2 * j < k
      · omega
      · rw [if_neg h4, if_neg (by omega)]
theorem zero41_eq : zeroCells 41 = idv noId := by kernel_rfl
theorem below_setRow {B : Nat} {a w : World} (h : Below B a w) {g : Nat} (hg : B ≤ g) (cs : Array Value) : Below B a (w.setRow g cs) := ⟨h.os, h.tape, h.output, by simpa using h.size, fun i hi => (setRow_other w g i cs (by omega)).trans (h.block i hi)⟩
/-- A value stored in the midst of a block. -/
theorem wpList_storeMid {P : Program} {ops : Array Oper} {rest : List Oper} {w : World} {oi : Oper} {a : Act} {Q : Exit → Act → World → Prop} (hgd : oi.guard = none) (t : TypeId) (x y : Operand) (ho : oi.op = .store t x y) (g o : Nat) (c : Array Value) (u v : Value) (T : TypeId)
    (hx : a.eval x = .pointer (some ⟨g, o, none⟩)) (hy : a.eval y = v) (hv : v.cells = #[v]) (h1c : v.oneCell' = true) (hg : w.heap[g]? = some (.cells c T (0, 0))) (hu : c[o]? = some u) (hi : (P.info? t).map (·.size) = some 1)
    (h : wpList P ops Q rest (a.put oi.dst undef) (w.setCell ⟨g, o, none⟩ v)) : wpList P ops Q (oi :: rest) a w :=
  wpList_plain hgd fun K hK => by
    have hr : (execOp a.eval oi).run P w = .ok .skip (w.setCell ⟨g, o, none⟩ v) := by
      have hs : (storeVar t ⟨g, o, none⟩ v).run P w = .ok () (w.setCell ⟨g, o, none⟩ v) := by
        have hc := cell_of_row w g o c T (0, 0) hg
        have hf : w.frozen? ⟨g, o, none⟩ = false := frozen_of_row w g o c T hg
        cases hq : P.info? t with
        | none => simp [hq] at hi
        | some i =>
          have h1 : i.size = 1 := by simpa [hq] using hi
          simp only [storeVar, hv, sizeOf, typeInfo, Sem.run_bind]
          have hc' : w.cell? ⟨g, o, none⟩ = some u := hc.trans hu
          simp [hq, h1, storeCells, Addr.add_mid, run_store (P := P) w ⟨g, o, none⟩ v _ h1c, stored, hc', hf]
      unfold execOp
      simp only [ho, hx, hy, Instr.storeAt, Instr.sureAddr, Sem.run_bind, Sem.run_pure, Result.andThen_ok, hs]
    unfold Oper.wp
    rw [hr]
    exact hK _ _ h
theorem results_cellT {P : Program} {fn : Func} {p u : Tmp} {ty : TypeId} (h : fn.results = #[.cell p ty, .tmp u]) (tmps : Array Value) (w : World) (g : Nat) (t : TypeId) (cs : Array Value) (fr : Nat × Nat) (d : TypeDesc)
    (hp : tmps.getD p undef = .pointer (some ⟨g, 0, none⟩)) (hg : w.heap[g]? = some (.cells cs t fr))
    (hu : P.underlying ty = some d) (hd : (match d with | .struct _ | .array _ _ => true | _ => false) = true) (hi : (P.info? ty).map (·.size) = some cs.size) :
    (results fn tmps).run P w = .ok (.tuple #[.agg cs, tmps.getD u undef]) w := by
  rw [results_cell_tmp h, hp]
  simp [asAddr, run_loadVar_row w g t ty cs fr d hg hu hd hi, Result.andThen]
theorem idv_set (l : List UInt8) (j n : Nat) (hn : n < 256) : (idv l).setIfInBounds j (.int .u8 (n : Int)) = idv (l.set j (UInt8.ofNat n)) := by
  have e : (.int .u8 (n : Int) : Value) = cell (UInt8.ofNat n) := by rw [ofNat_cell, UInt8.toNat_ofNat', Nat.mod_eq_of_lt hn]
  rw [e, idv, idv, idc, idc, List.setIfInBounds_toArray, List.map_set]
theorem u8_shl4 : ∀ x : Nat, x < 16 → IntKind.u8.wrap ((x : Int) * 2 ^ 4) = ((x * 16 : Nat) : Int) := by decide
theorem u8_or4 : ∀ x : Nat, x < 16 → ∀ d : Nat, d < 16 → Go.bits .or .u8 ((x * 16 : Nat) : Int) (d : Int) = ((x * 16 + d : Nat) : Int) := by decide +kernel
theorem u8_wrap : ∀ d : Nat, d < 16 → IntKind.u8.wrap (d : Int) = (d : Int) := by decide
section
variable (ρ : Operand → Value) (dst : Option Tmp) (ty : TypeId) (pos : String) (after : Array Edge) (g : Option (Nat × Bool)) (w : World)
theorem op_shl4b (x y : Operand) (t : TypeId) (n : Nat) (hn : n < 16) (hx : ρ x = .int .u8 (n : Int)) (hy : ρ y = .int .u64 4) :
    (execOp ρ ⟨dst, .binOp .shl 5 x y t, ty, pos, after, g⟩).run Tryz.prog w = .ok (.value (.int .u8 ((n * 16 : Nat) : Int))) w := by
  show (do let x ← (do eqGuard .shl 5 x y (ρ x) (ρ y); binOp .shl 5 (ρ x) (ρ y)); pure (Next.value x) : Sem Next).run Tryz.prog w = _
  rw [hx, hy, eqGuard_shl, binOp_shl, shift_shl .u8 .u64 (n : Int) 4 (by omega) (by decide)]
  have := u8_shl4 n hn
  simpa using this
theorem op_or4b (x y : Operand) (t : TypeId) (n d : Nat) (hn : n < 16) (hd : d < 16) (hx : ρ x = .int .u8 ((n * 16 : Nat) : Int)) (hy : ρ y = .int .u8 (d : Int)) :
    (execOp ρ ⟨dst, .binOp .or 5 x y t, ty, pos, after, g⟩).run Tryz.prog w = .ok (.value (.int .u8 ((n * 16 + d : Nat) : Int))) w := by
  rw [← u8_or4 n hn d hd]
  show (do let x ← (do eqGuard .or 5 x y (ρ x) (ρ y); binOp .or 5 (ρ x) (ρ y)); pure (Next.value x) : Sem Next).run Tryz.prog w = _
  rw [hx, hy]
  simp [eqGuard, binOp, Op.intBits, Go.bits]
end
theorem hex_none {l : List UInt8} {k : Nat} (hk : k < l.length) {i : Int} (hi : Hid (i = hexI (l.getD k 0))) (h0 : i < 0) : Hid (unhexI l = noId) := Lib.hid (by
  rw [unhexI, if_neg]
  rintro ⟨-, h⟩
  have := h (l.getD k 0) (by rw [List.getD_eq_getElem?_getD, List.getElem?_eq_getElem hk]; exact List.getElem_mem hk)
  rw [← hi.out] at this; omega)
theorem hex_next {l : List UInt8} {k d : Nat} (h : Hid (∀ j, j < k → 0 ≤ hexI (l.getD j 0))) (hd : Hid ((d : Int) = hexI (l.getD k 0))) : Hid (∀ j, j < k + 1 → 0 ≤ hexI (l.getD j 0)) := Lib.hid fun j hj => by
  rcases Nat.lt_or_eq_of_le (Nat.le_of_lt_succ hj) with h1 | h1
  · exact h.out j h1
  · rw [h1, ← hd.out]; omega
theorem hex_end {l : List UInt8} (hl : l.length = 64) (h : Hid (∀ j, j < 64 → 0 ≤ hexI (l.getD j 0))) : Hid (unhexI l = hexAt l 64) := Lib.hid (by
  rw [hexAt_end, unhexI, if_pos]
  refine ⟨hl, fun c hc => ?_⟩
  obtain ⟨j, hj, e⟩ := List.getElem_of_mem hc
  have := h.out j (by omega)
  rw [List.getD_eq_getElem?_getD, List.getElem?_eq_getElem hj, e] at this
  exact this)
def UnhexRes (l : List UInt8) (e : Ending) : Prop := ∃ b, e = .returned (.tuple #[.agg (idv (unhexI l)), .bool b])
set_option maxHeartbeats 4000000 in
theorem unhex97_any (l : List UInt8) (hl : l.length ≤ 1000000) (w : World) : Calls Tryz.prog 97 #[.string (bs l)] w fun e w' => UnhexRes l e ∧ Below w.heap.size w w' := by
  have hg0 := heap_alloc2_old w (.cells (zeroCells 41) 41) (.cells (zeroCells 41) 41)
  have hg1 := heap_alloc2_new w (.cells (zeroCells 41) 41) (.cells (zeroCells 41) 41)
  have hsz2 : ((w.alloc (.cells (zeroCells 41) 41)).alloc (.cells (zeroCells 41) 41)).heap.size = w.heap.size + 2 := by rw [World.size_alloc, World.size_alloc]
  have hbl2 : Below w.heap.size w ((w.alloc (.cells (zeroCells 41) 41)).alloc (.cells (zeroCells 41) 41)) := below_alloc (below_alloc (Below.refl _ _) _) _
  by_cases h64 : l.length = 64
  · have hb : ((l.length : Int) != 64) = false := by rw [h64]; rfl
    have H64 := Lib.hid h64
    have hlen64 : 64 ≤ l.length := by omega
    obtain ⟨n64, hn64⟩ : ∃ n : Nat, Hid (l.length = n) := ⟨_, Lib.hid rfl⟩
    have hstart : Hid (∃ c, c = idv (hexAt l 0) ∧ ((w.alloc (.cells (zeroCells 41) 41)).alloc (.cells (zeroCells 41) 41)).heap[w.heap.size + 1]? = some (.cells c 41 (0, 0))) := Lib.hid ⟨_, rfl, by rw [hexAt_start, ← zero41_eq]; exact hg1⟩
    have HG0 := Lib.hid hg0
    have HB2 := Lib.hid hbl2
    clear hg1 h64 hg0 hbl2 hn64
    clear hsz2
    go_enter Tryz.func97, Tryz.ntmps97
    go_wp2_with (first
      | (refine wpList_run rfl (op_allocZ _ _ _ _ _ _ _ 41 zero41) ?_))
    go_loopw [5, 6, 13] (fun _ _ i wr => ∃ k : Nat, k ≤ 64 ∧ i = .int .i64 k ∧ wr.heap[w.heap.size]? = some (.cells (zeroCells 41) 41 (0, 0)) ∧ (∃ c, c = idv (hexAt l k) ∧ wr.heap[w.heap.size + 1]? = some (.cells c 41 (0, 0))) ∧ Below w.heap.size w wr ∧ Hid (∀ j, j < k → 0 ≤ hexI (l.getD j 0))) (fun _ _ i _ => 64 - (intOf i).toNat)
    case atStart => exact ⟨0, by omega, rfl, HG0.out, hstart.out, HB2.out, Lib.hid fun j hj => absurd hj (by omega)⟩
    case round =>
      obtain ⟨k, hk, rfl, hg0, ⟨c41, hc41, hg1⟩, hbel, Hall⟩ := hrel
      have HC41 := Lib.hid hc41
      by_cases hlt : k < 64
      · have hlt2 : ((k : Int) < (l.length : Int)) := by omega
        obtain ⟨c, hc2, Hc⟩ := byte_at l k
        have hkl : k < l.length := by omega
        have hb := hexI_lt (l.getD k 0)
        obtain ⟨i, hi⟩ : ∃ i, Hid (i = hexI (l.getD k 0)) := ⟨_, Lib.hid rfl⟩
        rw [← hi.out] at hb
        clear hc41
        by_cases h0 : i < 0
        · have hno := hex_none hkl hi h0
          have hr0 := setRow_heap wr w.heap.size (zeroCells 41) (idv noId) 41 (0, 0) hg0
          have HR0 := Lib.hid hr0
          have HBR : Hid (Below w.heap.size w (wr.setRow w.heap.size (idv noId))) := Lib.hid (below_setRow hbel (Nat.le_refl _) _)
          clear hr0 hstart HG0 HB2
          go_wp2_with (first
            | (refine wpList_run rfl (op_index_str' _ _ _ _ _ _ _ _ _ l k c hkl Hc rfl rfl) ?_)
            | (refine wpList_run rfl (op_build41 _ _ _ _ _ _ _) ?_)
            | (refine wpList_storeRow rfl 41 _ _ rfl w.heap.size 41 (zeroCells 41) (idv noId) rfl rfl hg0 (by kernel_rfl) (by rw [zero41_eq]) (idv_one _) ?_)
            | (go_at_call 115; refine (byte115_any l k c i Hc hi _).mono ?_; rintro e w1 ⟨rfl, rfl⟩))
          refine bodyPost_ret (v := .tuple #[.agg (idv noId), .bool false]) ((results_cellT rfl _ _ w.heap.size 41 (idv noId) (0, 0) _ rfl HR0.out und41 rfl (by kernel_rfl)).trans rfl) rfl ⟨⟨false, by rw [hno.out]⟩, HBR.out⟩
        · obtain ⟨d, rfl⟩ := Int.eq_ofNat_of_zero_le (by omega : 0 ≤ i)
          have hd : d < 16 := by omega
          have hall := hex_next Hall hi
          have hx16 : ((hexAt l k).getD (k / 2) 0).toNat < 16 := by
            rw [hexAt_old l k hlt]
            split
            · decide
            · have hb2 := hexI_lt (l.getD (k - 1) 0)
              rw [UInt8.toNat_ofNat']; omega
          obtain ⟨x, Hx⟩ : ∃ x : Nat, Hid (x = ((hexAt l k).getD (k / 2) 0).toNat) := ⟨_, Lib.hid rfl⟩
          rw [← Hx.out] at hx16
          have hnx : Hid (c41.setIfInBounds (k / 2) (.int .u8 ((x * 16 + d : Nat) : Int)) = idv (hexAt l (k + 1))) := Lib.hid (by
            rw [HC41.out, idv_set _ _ _ (by omega), hexAt_next l k hlt, ← Hx.out, ← hi.out, Int.toNat_natCast])
          have hcu : Hid (c41[(k / 2)]? = some (.int .u8 (x : Int))) := Lib.hid (by
            rw [HC41.out, Hx.out]
            have h32 : (k / 2) < (hexAt l k).length := by rw [hexAt_length]; omega
            simp [idv, idc, List.getElem?_map, List.getElem?_eq_getElem h32, List.getD_eq_getElem?_getD]
            rfl)
          have cld : wr.cell? ⟨w.heap.size + 1, (k / 2), none⟩ = some (.int .u8 (x : Int)) := (cell_of_row wr (w.heap.size + 1) (k / 2) c41 41 (0, 0) hg1).trans hcu.out
          have hwd := u8_wrap d hd
          have hs0 : (wr.setCell ⟨w.heap.size + 1, (k / 2), none⟩ (.int .u8 ((x * 16 + d : Nat) : Int))).heap[w.heap.size]? = some (.cells (zeroCells 41) 41 (0, 0)) := (heap_setCell_other wr _ _ _ (by simp)).trans hg0
          have hs1 := heap_setCell_same wr (w.heap.size + 1) (k / 2) c41 41 (.int .u8 ((x * 16 + d : Nat) : Int)) hg1
          rw [hnx.out] at hs1
          have HS0 := Lib.hid hs0
          have HS1 := Lib.hid hs1
          have HBS : Hid (Below w.heap.size w (wr.setCell ⟨w.heap.size + 1, (k / 2), none⟩ (.int .u8 ((x * 16 + d : Nat) : Int)))) := Lib.hid (hbel.setCell (by simp) _)
          clear hs0 hs1 hstart HG0 HB2 hb
          go_wp2_with (first
            | (refine wpList_run rfl (op_index_str' _ _ _ _ _ _ _ _ _ l k c hkl Hc rfl rfl) ?_)
            | (refine wpList_run rfl (op_shl4b _ _ _ _ _ _ _ _ _ _ x hx16 rfl rfl) ?_)
            | (refine wpList_run rfl (op_or4b _ _ _ _ _ _ _ _ _ _ x d hx16 hd rfl rfl) ?_)
            | (refine wpList_storeMid rfl 5 _ _ rfl (w.heap.size + 1) (k / 2) c41 (.int .u8 (x : Int)) (.int .u8 ((x * 16 + d : Nat) : Int)) 41 rfl rfl rfl rfl hg1 hcu.out (by kernel_rfl) ?_)
            | (go_at_call 115; refine (byte115_any l k c d Hc hi _).mono ?_; rintro e w1 ⟨rfl, rfl⟩))
          go_roundw
          case rel => exact ⟨k + 1, by omega, by go_num, HS0.out, ⟨_, rfl, HS1.out⟩, HBS.out, hall⟩
          case measure => simp [intOf]; omega
      · obtain rfl : k = 64 := by omega
        have hend := hex_end H64.out Hall
        have hnl : ¬ ((64 : Int) < (l.length : Int)) := by rw [H64.out]; omega
        subst hc41
        have HR0 := Lib.hid (setRow_heap wr w.heap.size (zeroCells 41) (idv (hexAt l 64)) 41 (0, 0) hg0)
        have HBR : Hid (Below w.heap.size w (wr.setRow w.heap.size (idv (hexAt l 64)))) := Lib.hid (below_setRow hbel (Nat.le_refl _) _)
        have h32i : (idv (hexAt l 64)).size = 32 := by simp [idc_length, hexAt_length]
        have H32 := Lib.hid h32i
        clear hstart HG0 HB2 h32i
        go_wp2_with (first
          | (refine wpList_load_row rfl 41 _ rfl (w.heap.size + 1) rfl 41 (idv (hexAt l 64)) (0, 0) _ hg1 und41 rfl (by rw [H32.out]; kernel_rfl) ?_)
          | (refine wpList_storeRow rfl 41 _ _ rfl w.heap.size 41 (zeroCells 41) (idv (hexAt l 64)) rfl rfl hg0 (by rw [H32.out]; kernel_rfl) (by rw [zero41_eq, H32.out]; rfl) (idv_one _) ?_))
        refine bodyPost_ret (v := .tuple #[.agg (idv (hexAt l 64)), .bool true]) ((results_cellT rfl _ _ w.heap.size 41 (idv (hexAt l 64)) (0, 0) _ rfl HR0.out und41 rfl (by rw [H32.out]; kernel_rfl)).trans rfl) rfl ⟨⟨true, by rw [hend.out]⟩, HBR.out⟩
  · have hu : Hid (unhexI l = noId) := Lib.hid (by rw [unhexI, if_neg (fun h => h64 h.1)])
    have hb : ((l.length : Int) != 64) = true := by simp; omega
    clear h64
    have hr0 := setRow_heap _ w.heap.size (zeroCells 41) (idv noId) 41 (0, 0) hg0
    have HR0 := Lib.hid hr0
    have HBR : Hid (Below w.heap.size w (((w.alloc (.cells (zeroCells 41) 41)).alloc (.cells (zeroCells 41) 41)).setRow w.heap.size (idv noId))) := Lib.hid (below_setRow hbl2 (Nat.le_refl _) _)
    have hg1' : ((w.alloc (.cells (zeroCells 41) 41)).alloc (.cells (zeroCells 41) 41)).heap[w.heap.size + 1]? = some (.cells (idv noId) 41 (0, 0)) := by rw [← zero41_eq]; exact hg1
    have HG0 := Lib.hid hg0
    have HG1 := Lib.hid hg1'
    clear hr0 hg0 hg1 hg1' hbl2
    clear hsz2
    go_enter Tryz.func97, Tryz.ntmps97
    go_wp2_with (first
      | (refine wpList_run rfl (op_allocZ _ _ _ _ _ _ _ 41 zero41) ?_)
      | (refine wpList_load_row rfl 41 _ rfl (w.heap.size + 1) rfl 41 (idv noId) (0, 0) _ HG1.out und41 rfl (by kernel_rfl) ?_)
      | (refine wpList_storeRow rfl 41 _ _ rfl w.heap.size 41 (zeroCells 41) (idv noId) rfl rfl HG0.out (by kernel_rfl) (by rw [zero41_eq]) (idv_one _) ?_))
    refine bodyPost_ret (v := .tuple #[.agg (idv noId), .bool false]) ((results_cellT rfl _ _ w.heap.size 41 (idv noId) (0, 0) _ rfl HR0.out und41 rfl (by kernel_rfl)).trans rfl) rfl ⟨⟨false, by rw [hu.out]⟩, HBR.out⟩
set_option maxHeartbeats 4000000 in
theorem id75_any (l : List UInt8) (hl : l.length ≤ 1000000) (w : World) : Calls Tryz.prog 75 #[.string (bs l)] w fun e w' => e = .returned (.agg (idv (unhexI l))) ∧ Below w.heap.size w w' := by
  have h32i : (idv (unhexI l)).size = 32 := by simp [idc_length, unhexI_length]
  have H32 := Lib.hid h32i
  clear h32i
  go_enter Tryz.func75, Tryz.ntmps75
  go_wp2_with (first
    | (refine wpList_run rfl (op_allocZ _ _ _ _ _ _ _ 41 zero41) ?_))
  have hg0 := heap_alloc_new w (.cells (zeroCells 41) 41)
  refine (unhex97_any l hl _).mono ?_
  rintro e w1 ⟨⟨b, rfl⟩, hb1⟩
  have hlt1 : w.heap.size < w1.heap.size := by have := hb1.size; rw [World.size_alloc] at this; omega
  have hg1 : w1.heap[w.heap.size]? = some (.cells (zeroCells 41) 41 (0, 0)) := (hb1.block _ (by rw [World.size_alloc]; omega)).trans hg0
  have hb2 : Below w.heap.size w w1 := below_call (below_alloc (Below.refl _ _) _) hb1
  have hg1a : (w1.alloc (.cells (idv (unhexI l)) 41)).heap[w.heap.size]? = some (.cells (zeroCells 41) 41 (0, 0)) := (heap_alloc_old _ _ hlt1).trans hg1
  have hn1 := heap_alloc_new w1 (.cells (idv (unhexI l)) 41)
  have hR := setRow_heap _ w.heap.size (zeroCells 41) (idv (unhexI l)) 41 (0, 0) hg1a
  have HR0 := Lib.hid hR
  have HBR : Hid (Below w.heap.size w ((w1.alloc (.cells (idv (unhexI l)) 41)).setRow w.heap.size (idv (unhexI l)))) := Lib.hid (below_setRow (below_alloc hb2 _) (Nat.le_refl _) _)
  have HG1 := Lib.hid hg1a
  have HN1 := Lib.hid hn1
  clear hg1 hg1a hn1 hR hg0
  go_wp2_with (first
    | (refine wpList_run rfl (op_allocZ _ _ _ _ _ _ _ 41 zero41) ?_)
    | (refine wpList_store_new rfl 41 _ _ rfl _ (idv (unhexI l)) rfl rfl (by rw [H32.out]; kernel_rfl) (by rw [zsize41, H32.out]) (idv_one _) ?_)
    | (refine wpList_load_row rfl 41 _ rfl w1.heap.size rfl 41 (idv (unhexI l)) (0, 0) _ HN1.out und41 rfl (by rw [H32.out]; kernel_rfl) ?_)
    | (refine wpList_storeRow rfl 41 _ _ rfl w.heap.size 41 (zeroCells 41) (idv (unhexI l)) rfl rfl HG1.out (by rw [H32.out]; kernel_rfl) (by rw [zero41_eq, H32.out]; rfl) (idv_one _) ?_))
  exact bodyPost_ret (v := .agg (idv (unhexI l))) (results_cell_row rfl _ _ w.heap.size 41 (idv (unhexI l)) (0, 0) _ rfl HR0.out und41 rfl (by rw [H32.out]; kernel_rfl)) rfl ⟨rfl, HBR.out⟩
end Go.Proofs.YtmfpmedkhlhnpaaGreatDoor
