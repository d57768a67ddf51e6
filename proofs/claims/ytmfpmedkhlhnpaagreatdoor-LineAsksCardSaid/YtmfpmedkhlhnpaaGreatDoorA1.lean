import Derived.Test.YtmfpmedkhlhnpaaGreatDoorA0
import Derived.Test.YtmfpmedkhlhnpaaGreatDoorWLast
import Derived.OwnWalk
import Derived.Laws.OwnMore
import Derived.Laws.BytesArg
import Derived.Deep.LoopGhost
namespace Go.Proofs.YtmfpmedkhlhnpaaGreatDoor
open Go.RowKit Go.Extern.Stop Go.Proofs.YtmfpmedkhlhnpaaGreatDoorW.PrintLast
set_option maxRecDepth 100000
set_option linter.unusedSimpArgs false
set_option linter.unusedVariables false
/-- A string of these bytes. -/
abbrev bs (l : List UInt8) : ByteArray := ⟨l.toArray⟩
theorem bs_append (a b : List UInt8) : bs a ++ bs b = bs (a ++ b) := by
  apply ByteArray.ext
  simp [ByteArray.data_append]
theorem bs_size (a : List UInt8) : (bs a).size = a.length := by simp [ByteArray.size]
theorem bs_of (s : ByteArray) : s = bs s.data.toList := by cases s; simp
theorem bs_inj {a b : List UInt8} : bs a = bs b ↔ a = b := by
  constructor
  · intro h; injection h with h; simpa using h
  · rintro rfl; rfl
theorem ev_ {b : Bool} {A B : Prop} (hw : b = true) (h : A) : if b = true then A else B := by rw [if_pos hw]; exact h
section
variable {P : Program}
theorem wpList_runG {ops : Array Oper} {rest : List Oper} {o : Oper} {a : Act} {Q : Exit → Act → World → Prop} {W w1 : World} {v : Value} (hw : Region.wanted o (yielded ops a.tmps) = true) (hrun : (execOp a.eval o).run P W = .ok (.value v) w1) (h : wpList P ops Q rest (a.put o.dst v) w1) : wpList P ops Q (o :: rest) a W :=
  BigFrame.wpList_want hw fun K hK => by
    unfold Oper.wp
    rw [hrun]
    exact hK _ _ h
/-- append onto a row of the call's own, as an event of a region. -/
theorem ev_append {w : World} {oi : Oper} {N : Option Tmp} {a : Act} {K : Act → World → Prop} {Q : Exit → Act → World → Prop} {b : Bool} {B : Prop} (hw : b = true) (hN : oi.dst = N) (s x : Operand) (t : TypeId)
    (ho : oi.op = .call { callee := .builtin .append, args := #[s, x], argTypes := #[t, t] })
    (base : Nat) (e : TypeId) (z : Value) (size bytes : Nat) (ht : P.underlying t = some (.slice e)) (hinfo : (P.info? e).map (fun i => (i.zero, i.size, i.bytes)) = some (some z, size, bytes)) (hzs : z.cells.size = size) (hsz : 0 < size)
    (v : Value) (n : Nat) (xs : List Value) (hs : a.eval s = v) (hown : w.ownsRow base e size v n xs)
    (ad : Addr) (m c : Nat) (news : List Value) (hx : a.eval x = .slice (some ad) m c) (hl : news.length = m * size) (hnews : ∀ j u, news[j]? = some u → w.cell? (ad.add j) = some u) (h1 : ∀ u ∈ news, u.oneCell' = true)
    (h63 : n + m ≤ maxLen) (hbytes : (n + m) * bytes ≤ 140737488355328) (hbase : base ≤ w.heap.size)
    (h : ∀ v' w', w'.ownsRow base e size v' (n + m) (xs ++ news) → w.grownBy w' v.ownBlock → K (a.put N v') w') : if b = true then oi.wp P a w K Q else B := by
  obtain ⟨i0, hi, hzz⟩ := Option.map_eq_some_iff.1 hinfo
  simp only [Prod.mk.injEq] at hzz
  obtain ⟨hz0, hz1, hz2⟩ := hzz
  subst hN
  exact ev_ hw (wp_append_own w s x t ho base e i0 z size bytes ht hi hz0 hz1 hz2 hzs hsz v n xs hs hown ad m c news hx hl hnews h1 h63 hbytes hbase fun v' w' h2 h3 _ => h v' w' h2 h3)
theorem own_base {w : World} {base : Nat} {e : TypeId} {size n : Nat} {v : Value} {xs : List Value} (h : w.ownsRow base e size v n xs) (k : Nat) (hk : v.ownBlock = some k) : base ≤ k := by
  rcases h.2 with ⟨rfl, _⟩ | ⟨g, cap, cur, rfl, hb, _⟩
  · simp [Value.ownBlock] at hk
  · have : g = k := by simpa [Value.ownBlock] using hk
    omega
theorem own_nil (W : World) (base : Nat) (e : TypeId) (size : Nat) : W.ownsRow base e size (.slice none 0 0) 0 [] := ⟨by simp, .inl ⟨rfl, rfl⟩⟩
theorem below_alloc {w W : World} (h : Below w.heap.size w W) (o : Obj) : Below w.heap.size w (W.alloc o) := h.alloc h.size o
theorem below_drew {B : Nat} {w W : World} (h : Below B w W) : Below B w W.drew := ⟨h.os, h.tape, h.output, h.size, h.block⟩
/-- Behind what has grown, its own row written. -/
theorem below_grown {w W w1 : World} (h : Below w.heap.size w W) {base : Nat} {e : TypeId} {size n : Nat} {v : Value} {xs : List Value} (hown : W.ownsRow base e size v n xs) (hb : w.heap.size ≤ base) (hg : W.grownBy w1 v.ownBlock) : Below w.heap.size w w1 :=
  h.grown hg h.size fun k hk => Nat.le_trans hb (own_base hown k hk)
/-- Two new cells of the block that was made last. -/
theorem news_new (w : World) (cs : List Value) (t : TypeId) : ∀ j u, cs[j]? = some u → (w.alloc (.cells cs.toArray t)).cell? ((⟨w.heap.size, 0, none⟩ : Addr).add j) = some u := by
  intro j u hj
  rw [Addr.add_mid]
  exact rangeAt_new w cs t j u hj
theorem ofNat_cell (b : UInt8) : cell b = .int .u8 (b.toNat : Int) := rfl
theorem own_bytes {w : World} {base n : Nat} {e' src dst e : TypeId} {v : Value} {xs : List UInt8} (hs : P.underlying src = some (.slice e)) (he : P.underlying e = some (.int .u8)) (hd : P.underlying dst = some .string)
    (h : w.ownsRow base e' 1 v n (xs.map cell)) : (convert src dst v).run P w = .ok (.string ⟨xs.toArray⟩) w := by
  have hl : xs.length = n := by have := h.1; simpa using this
  have hst : strOfNums (xs.map fun b => (b.toNat : Int)) = (⟨xs.toArray⟩ : ByteArray) := by
    have hm : (xs.map ((fun n : Int => UInt8.ofNat n.toNat) ∘ fun b => (b.toNat : Int))) = xs := by
      rw [List.map_congr_left (g := id) (fun b _ => by simp)]
      simp
    simp [strOfNums, hm]
  rcases h.2 with ⟨rfl, rfl⟩ | ⟨g, cap, cur, rfl, _⟩
  · obtain rfl : xs = [] := List.eq_nil_of_length_eq_zero hl
    exact run_convert_bytes_nil w src e hs he 0 0 dst hd
  · rw [← hst]
    refine run_convert_bytes_arg w src e hs he g 0 n cap _ (by simp [hl]) (fun i hi => ?_) dst hd
    have hc := h.cells (g := g) rfl i (cell (xs.getD i 0)) (by simp [List.getElem?_eq_getElem (show i < xs.length by omega), List.getD_eq_getElem?_getD])
    rw [Addr.add_mid] at hc
    rw [hc]
    simp [cell, List.getD_eq_getElem?_getD, List.getElem?_eq_getElem (show i < xs.length by omega)]
/-- A new row. -/
theorem own_new (w : World) (e : TypeId) (size n : Nat) (cs : List Value) (h : cs.length = n * size) (hn : n ≤ maxLen) : (w.alloc (.cells cs.toArray e)).ownsRow w.heap.size e size (.slice (some ⟨w.heap.size, 0, none⟩) n n) n cs := by
  refine ⟨h, .inr ⟨_, n, cs.toArray, rfl, Nat.le_refl _, heap_alloc_new _ _, Nat.le_refl _, hn, by simpa using h, ?_⟩⟩
  rw [← h]
  simp
end
theorem und104 : Tryz.prog.underlying 104 = some (.slice 5) := by kernel_rfl
theorem und9 : Tryz.prog.underlying 9 = some .string := by kernel_rfl
theorem info5 : (Tryz.prog.info? 5).map (fun i => (i.zero, i.size, i.bytes)) = some (some (.int .u8 0), 1, 1) := by kernel_rfl
section
variable (ρ : Operand → Value) (dst : Option Tmp) (ty : TypeId) (pos : String) (after : Array Edge) (g : Option (Nat × Bool)) (w : World)
theorem op_own_bytes (x : Operand) {base n : Nat} {e' : TypeId} {v : Value} {xs : List UInt8} (hx : ρ x = v) (h : w.ownsRow base e' 1 v n (xs.map cell)) :
    (execOp ρ ⟨dst, .convert 104 9 x, ty, pos, after, g⟩).run Tryz.prog w = .ok (.value (.string ⟨xs.toArray⟩)) w := by
  show (do let x ← convert 104 9 (ρ x); pure (Next.value x) : Sem Next).run Tryz.prog w = _
  rw [hx, Sem.run_bind, own_bytes (P := Tryz.prog) und104 und5 und9 h]; rfl
/-- The bytes of a slice that was built just now, as a string. -/
theorem op_new_bytes (x : Operand) (n : Nat) (xs : List UInt8) (cs : Array Value) (hx : ρ x = .slice (some ⟨w.heap.size, 0, none⟩) n n) (hn : xs.length = n) (hm : n ≤ maxLen) (hcs : cs = (xs.map cell).toArray) :
    (execOp ρ ⟨dst, .convert 104 9 x, ty, pos, after, g⟩).run Tryz.prog (w.alloc (.cells cs 5)) = .ok (.value (.string ⟨xs.toArray⟩)) (w.alloc (.cells cs 5)) := by
  subst hcs
  exact op_own_bytes ρ dst ty pos after g _ x hx (own_new w 5 1 n (xs.map cell) (by simp [hn]) hm)
theorem op_concat (x y : Operand) (t : TypeId) (a b : List UInt8) (hx : ρ x = .string (bs a)) (hy : ρ y = .string (bs b)) (hl : a.length + b.length ≤ 9223372036854775807) :
    (execOp ρ ⟨dst, .binOp .add 9 x y t, ty, pos, after, g⟩).run Tryz.prog w = .ok (.value (.string (bs (a ++ b)))) w := by
  show (do let x ← (do eqGuard .add 9 x y (ρ x) (ρ y); binOp .add 9 (ρ x) (ρ y)); pure (Next.value x) : Sem Next).run Tryz.prog w = _
  rw [hx, hy, ← bs_append]
  simp [eqGuard, binOp, Op.stringOp, ByteArray.size]
  omega
end
section
variable (ρ : Operand → Value) (dst : Option Tmp) (ty : TypeId) (pos : String) (after : Array Edge) (g : Option (Nat × Bool)) (w : World)
theorem bs_get (l : List UInt8) (k : Nat) (hk : k < l.length) : (bs l)[k]? = some (l.getD k 0) := by
  rw [List.getD_eq_getElem?_getD, List.getElem?_eq_getElem hk, Option.getD_some]
  show (if h : k < (bs l).size then some ((bs l)[k]'h) else none) = _
  rw [dif_pos (by rw [bs_size]; exact hk)]
  rfl
theorem op_index_str (x y : Operand) (l : List UInt8) (k : Nat) (hk : k < l.length) (hx : ρ x = .string (bs l)) (hy : ρ y = .int .i64 (k : Int)) :
    (execOp ρ ⟨dst, .index 9 x y, ty, pos, after, g⟩).run Tryz.prog w = .ok (.value (.int .u8 ((l.getD k 0).toNat : Int))) w := by
  show (do let x ← Instr.index 9 (ρ x) (ρ y); pure (Next.value x) : Sem Next).run Tryz.prog w = _
  rw [hx, hy]
  unfold Instr.index
  have h : (if 0 ≤ (k : Int) then (bs l)[((k : Int)).toNat]? else none) = some (l.getD k 0) := by
    rw [if_pos (by omega), Int.toNat_natCast, bs_get l k hk]
  simp only [asIntOf, Sem.run_bind, Sem.run_pure, Result.andThen_ok, run_underlying und9, h]
/-- The same, the byte under a name. -/
theorem op_index_str' (x y : Operand) (l : List UInt8) (k : Nat) (c : Nat) (hk : k < l.length) (hc : Hid (c = (l.getD k 0).toNat)) (hx : ρ x = .string (bs l)) (hy : ρ y = .int .i64 (k : Int)) :
    (execOp ρ ⟨dst, .index 9 x y, ty, pos, after, g⟩).run Tryz.prog w = .ok (.value (.int .u8 (c : Int))) w := by
  rw [hc.out]
  exact op_index_str ρ dst ty pos after g w x y l k hk hx hy
theorem bs_toList (l : List UInt8) : (bs l).toList = l := by
  exact ByteArray.toList_mk l
theorem op_str_eql (x y : Operand) (t : TypeId) (a b : List UInt8) (hx : ρ x = .string (bs a)) (hy : ρ y = .string (bs b)) :
    (execOp ρ ⟨dst, .binOp .eql 9 x y t, ty, pos, after, g⟩).run Tryz.prog w = .ok (.value (.bool (a == b))) w := by
  show (do let x ← (do eqGuard .eql 9 x y (ρ x) (ρ y); binOp .eql 9 (ρ x) (ρ y)); pure (Next.value x) : Sem Next).run Tryz.prog w = _
  rw [hx, hy]
  simp [eqGuard, binOp, Op.stringOp, bs_toList]
theorem op_str_neq (x y : Operand) (t : TypeId) (a b : List UInt8) (hx : ρ x = .string (bs a)) (hy : ρ y = .string (bs b)) :
    (execOp ρ ⟨dst, .binOp .neq 9 x y t, ty, pos, after, g⟩).run Tryz.prog w = .ok (.value (.bool (!(a == b)))) w := by
  show (do let x ← (do eqGuard .neq 9 x y (ρ x) (ρ y); binOp .neq 9 (ρ x) (ρ y)); pure (Next.value x) : Sem Next).run Tryz.prog w = _
  rw [hx, hy]
  simp [eqGuard, binOp, Op.stringOp, bs_toList]
/-- a < b, as texts. -/
def slt (a b : List UInt8) : Bool := Op.bytesLess a b
theorem op_str_geq (x y : Operand) (t : TypeId) (a b : List UInt8) (hx : ρ x = .string (bs a)) (hy : ρ y = .string (bs b)) :
    (execOp ρ ⟨dst, .binOp .geq 9 x y t, ty, pos, after, g⟩).run Tryz.prog w = .ok (.value (.bool (!slt a b))) w := by
  show (do let x ← (do eqGuard .geq 9 x y (ρ x) (ρ y); binOp .geq 9 (ρ x) (ρ y)); pure (Next.value x) : Sem Next).run Tryz.prog w = _
  rw [hx, hy]
  simp [eqGuard, binOp, Op.stringOp, bs_toList, slt]
theorem op_str_leq (x y : Operand) (t : TypeId) (a b : List UInt8) (hx : ρ x = .string (bs a)) (hy : ρ y = .string (bs b)) :
    (execOp ρ ⟨dst, .binOp .leq 9 x y t, ty, pos, after, g⟩).run Tryz.prog w = .ok (.value (.bool (slt a b || a == b))) w := by
  show (do let x ← (do eqGuard .leq 9 x y (ρ x) (ρ y); binOp .leq 9 (ρ x) (ρ y)); pure (Next.value x) : Sem Next).run Tryz.prog w = _
  rw [hx, hy]
  simp [eqGuard, binOp, Op.stringOp, bs_toList, slt]
end
/-- A call by its contract, in a region that draws. -/
theorem below_call {w W W1 : World} (h : Below w.heap.size w W) (hb : Below W.heap.size W W1) : Below w.heap.size w W1 :=
  h.trans ⟨hb.os, hb.tape, hb.output, hb.size, fun i hi => hb.block i (Nat.lt_of_lt_of_le hi h.size)⟩
/-- A cell that was there. -/
theorem cell_below {W W1 : World} (h : Below W.heap.size W W1) {ad : Addr} {v : Value} (hc : W.cell? ad = some v) : W1.cell? ad = some v :=
  (h.cell (World.block_lt_of_cell? W ad hc)).trans hc
/-- The byte at a place, under a name. -/
theorem byte_at (l : List UInt8) (k : Nat) : ∃ c : Nat, c < 256 ∧ Hid (c = (l.getD k 0).toNat) := ⟨_, UInt8.toNat_lt _, Lib.hid rfl⟩
theorem all_take_succ (p : UInt8 → Bool) (l : List UInt8) (k : Nat) (hk : k < l.length) : (l.take (k + 1)).all p = ((l.take k).all p && p (l.getD k 0)) := by
  rw [List.take_succ_eq_append_getElem hk, List.all_append]
  simp [List.getD_eq_getElem?_getD, List.getElem?_eq_getElem hk]
theorem all_false_of (p : UInt8 → Bool) (l : List UInt8) (k : Nat) (hk : k < l.length) (h : p (l.getD k 0) = false) : l.all p = false := by
  rw [List.all_eq_false]
  exact ⟨l.getD k 0, by rw [List.getD_eq_getElem?_getD, List.getElem?_eq_getElem hk]; simp, by rw [h]; simp⟩
/-- A slice's cells, read: whatever the slice is, if there are none. -/
def Rd (w : World) (A : Option Addr) (cs : List Value) : Prop := cs ≠ [] → ∃ b o, A = some ⟨b, o, none⟩ ∧ w.rangeAt b o cs
theorem Rd.below {w w1 : World} {A : Option Addr} {cs : List Value} (h : Rd w A cs) (hb : Below w.heap.size w w1) : Rd w1 A cs := fun hn => by
  obtain ⟨b, o, e, hr⟩ := h hn
  exact ⟨b, o, e, fun j v hj => cell_below hb (hr j v hj)⟩
/-- Texts' cells. -/
def strc (ss : List (List UInt8)) : List Value := ss.map fun s => .string (bs s)
/-- A text of some, under a name. -/
theorem Rd.strN {w : World} {A : Option Addr} {ss : List (List UInt8)} (h : Rd w A (strc ss)) (k : Nat) (hk : k < ss.length) : ∃ b o s, A = some ⟨b, o, none⟩ ∧ w.cell? ⟨b, o + k, none⟩ = some (.string (bs s)) ∧ Hid (s = ss.getD k []) := by
  obtain ⟨b, o, e, hr⟩ := h (by intro h0; simp [strc] at h0; subst h0; simp at hk)
  refine ⟨b, o, _, e, hr k _ ?_, Lib.hid rfl⟩
  simp [strc, List.getD_eq_getElem?_getD, List.getElem?_eq_getElem hk]
theorem Rd.str {w : World} {A : Option Addr} {ss : List (List UInt8)} (h : Rd w A (strc ss)) (k : Nat) (hk : k < ss.length) : ∃ b o, A = some ⟨b, o, none⟩ ∧ w.cell? ⟨b, o + k, none⟩ = some (.string (bs (ss.getD k []))) := by
  obtain ⟨b, o, e, hr⟩ := h (by intro h0; simp [strc] at h0; subst h0; simp at hk)
  refine ⟨b, o, e, hr k _ ?_⟩
  simp [strc, List.getD_eq_getElem?_getD, List.getElem?_eq_getElem hk]
end Go.Proofs.YtmfpmedkhlhnpaaGreatDoor
