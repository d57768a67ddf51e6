import Derived.Test.YtmfpmedkhlhnpaaGreatDoorA1
import Derived.Lib.ItoaNum
/- More words for the walks: what is built, what is kept. -/
namespace Go.Proofs.YtmfpmedkhlhnpaaGreatDoor
open Go.RowKit Go.Extern.Stop Go.Proofs.YtmfpmedkhlhnpaaGreatDoorW.PrintLast
set_option maxRecDepth 100000
set_option linter.unusedSimpArgs false
set_option linter.unusedVariables false
theorem own_below {w w1 : World} {base : Nat} {e : TypeId} {size n : Nat} {v : Value} {xs : List Value} (h : w.ownsRow base e size v n xs) (hb : Below w.heap.size w w1) : w1.ownsRow base e size v n xs :=
  h.kept (show w.grownBy w1 none from ⟨hb.os, hb.tape, hb.output, hb.size, fun i hi _ => hb.block i hi⟩) (by cases v.ownBlock <;> simp)
section
variable {P : Program}
/-- A slice is built: its row is new. -/
theorem ev_build {w : World} {oi : Oper} {N : Option Tmp} {a : Act} {K : Act → World → Prop} {Q : Exit → Act → World → Prop} {b : Bool} (hw : b = true) (hN : oi.dst = N) (cs : List Value) (e : TypeId) (size m : Nat)
    (hrun : (execOp a.eval oi).run P w = .ok (.value (.slice (some ⟨w.heap.size, 0, none⟩) m m)) (w.alloc (.cells cs.toArray e))) (hl : cs.length = m * size) (hm : m ≤ maxLen)
    (h : ∀ g W1, W1.ownsRow w.heap.size e size (.slice (some ⟨g, 0, none⟩) m m) m cs → Below w.heap.size w W1 → K (a.put N (.slice (some ⟨g, 0, none⟩) m m)) W1) : if b = true then oi.wp P a w K Q else K (a.put N undef) w := by
  subst hN
  refine ev_ hw ?_
  unfold Oper.wp
  rw [hrun]
  exact h _ _ (own_new w e size m cs hl hm) ((Below.refl _ _).alloc (Nat.le_refl _) _)
/-- An operation that reads. -/
theorem ev_value {w : World} {oi : Oper} {N : Option Tmp} {a : Act} {K : Act → World → Prop} {Q : Exit → Act → World → Prop} {b : Bool} {v : Value} (hw : b = true) (hN : oi.dst = N)
    (hrun : (execOp a.eval oi).run P w = .ok (.value v) w) (h : K (a.put N v) w) : if b = true then oi.wp P a w K Q else K (a.put N undef) w := by
  subst hN
  refine ev_ hw ?_
  unfold Oper.wp
  rw [hrun]
  exact h
end
section
variable (ρ : Operand → Value) (dst : Option Tmp) (ty : TypeId) (pos : String) (after : Array Edge) (g : Option (Nat × Bool)) (w : World)
theorem op_str_eqlB (x y : Operand) (t : TypeId) (a b : List UInt8) (r : Bool) (hr : (a == b) = r) (hx : ρ x = .string (bs a)) (hy : ρ y = .string (bs b)) :
    (execOp ρ ⟨dst, .binOp .eql 9 x y t, ty, pos, after, g⟩).run Tryz.prog w = .ok (.value (.bool r)) w := by
  rw [← hr]; exact op_str_eql ρ dst ty pos after g w x y t a b hx hy
theorem op_str_neqB (x y : Operand) (t : TypeId) (a b : List UInt8) (r : Bool) (hr : (!(a == b)) = r) (hx : ρ x = .string (bs a)) (hy : ρ y = .string (bs b)) :
    (execOp ρ ⟨dst, .binOp .neq 9 x y t, ty, pos, after, g⟩).run Tryz.prog w = .ok (.value (.bool r)) w := by
  rw [← hr]; exact op_str_neq ρ dst ty pos after g w x y t a b hx hy
theorem ba_take (l : List UInt8) (n : Nat) : (bs l).extract 0 n = bs (l.take n) := by
  apply ByteArray.ext
  simp [ByteArray.data_extract]
theorem ba_drop (l : List UInt8) (n : Nat) : (bs l).extract n l.length = bs (l.drop n) := by
  apply ByteArray.ext
  simp [ByteArray.data_extract, List.extract_eq_take_drop]
  exact List.take_of_length_le (by simp)
theorem op_slice_take (x y : Operand) (l : List UInt8) (n : Nat) (hn : n ≤ l.length) (hx : ρ x = .string (bs l)) (hy : ρ y = .int .i64 (n : Int)) :
    (execOp ρ ⟨dst, .slice 9 x none (some y) none, ty, pos, after, g⟩).run Tryz.prog w = .ok (.value (.string (bs (l.take n)))) w := by
  show (do let x ← Instr.sliceAt 9 (ρ x) none (some (ρ y)) none; pure (Next.value x) : Sem Next).run Tryz.prog w = _
  rw [hx, hy, Sem.run_bind, run_sliceAt_string (P := Tryz.prog) _ _ _ _ _ _ und9, ← ba_take]
  unfold Instr.slice
  simp [run_underlying und9, Instr.sliceBounds, Instr.sliceBound, asIntOf, bs_size, hn]
theorem op_slice_drop (x y : Operand) (l : List UInt8) (n : Nat) (hn : n ≤ l.length) (hx : ρ x = .string (bs l)) (hy : ρ y = .int .i64 (n : Int)) :
    (execOp ρ ⟨dst, .slice 9 x (some y) none none, ty, pos, after, g⟩).run Tryz.prog w = .ok (.value (.string (bs (l.drop n)))) w := by
  show (do let x ← Instr.sliceAt 9 (ρ x) (some (ρ y)) none none; pure (Next.value x) : Sem Next).run Tryz.prog w = _
  rw [hx, hy, Sem.run_bind, run_sliceAt_string (P := Tryz.prog) _ _ _ _ _ _ und9, ← ba_drop]
  unfold Instr.slice
  simp [run_underlying und9, Instr.sliceBounds, Instr.sliceBound, asIntOf, bs_size, hn]
theorem op_quo (x y : Operand) (t t' : TypeId) (n m : Int) (hx : ρ x = .int .i64 n) (hy : ρ y = .int .i64 m) (hn : 0 ≤ n) (hm : 0 < m) (hb : n ≤ 9223372036854775807) :
    (execOp ρ ⟨dst, .binOp .quo t x y t', ty, pos, after, g⟩).run Tryz.prog w = .ok (.value (.int .i64 (n / m))) w := by
  show (do let x ← (do eqGuard .quo t x y (ρ x) (ρ y); binOp .quo t (ρ x) (ρ y)); pure (Next.value x) : Sem Next).run Tryz.prog w = _
  rw [hx, hy]
  have h0 := Int.ediv_nonneg hn (Int.le_of_lt hm)
  have h1 := Int.ediv_le_self m hn
  have hw := IntWalk.i64_in (n / m) (by omega)
  have hz : ¬ m = 0 := by omega
  simp [eqGuard, binOp, Op.intDiv, Int.tdiv_eq_ediv_of_nonneg hn, hw, hz]
theorem op_rem (x y : Operand) (t t' : TypeId) (n m : Int) (hx : ρ x = .int .i64 n) (hy : ρ y = .int .i64 m) (hn : 0 ≤ n) (hm : 0 < m) :
    (execOp ρ ⟨dst, .binOp .rem t x y t', ty, pos, after, g⟩).run Tryz.prog w = .ok (.value (.int .i64 (n % m))) w := by
  show (do let x ← (do eqGuard .rem t x y (ρ x) (ρ y); binOp .rem t (ρ x) (ρ y)); pure (Next.value x) : Sem Next).run Tryz.prog w = _
  rw [hx, hy]
  have hz : ¬ m = 0 := by omega
  simp [eqGuard, binOp, Op.intDiv, Int.tmod_eq_emod_of_nonneg hn, hz]
theorem op_gtr (x y : Operand) (t t' : TypeId) (n m : Int) (b : Bool) (hb : decide (m < n) = b) (hx : ρ x = .int .i64 n) (hy : ρ y = .int .i64 m) :
    (execOp ρ ⟨dst, .binOp .gtr t x y t', ty, pos, after, g⟩).run Tryz.prog w = .ok (.value (.bool b)) w := by
  show (do let x ← (do eqGuard .gtr t x y (ρ x) (ρ y); binOp .gtr t (ρ x) (ρ y)); pure (Next.value x) : Sem Next).run Tryz.prog w = _
  rw [hx, hy, ← hb]
  simp [eqGuard, binOp, Op.intCmp]
end
theorem Rd.of_own {w : World} {base : Nat} {e : TypeId} {size n : Nat} {A : Option Addr} {c : Nat} {cs : List Value} (h : w.ownsRow base e size (.slice A n c) n cs) : Rd w A cs := fun hn => by
  rcases h.2 with ⟨h1, h2⟩ | ⟨g, cap, cur, he, hb, hh, h1, h2, h3, h4⟩
  · have := h.1
    rw [h2] at this
    exact absurd (List.eq_nil_of_length_eq_zero (by simpa using this)) hn
  · have he' := he
    injection he with ha hb2 hc
    refine ⟨g, 0, ha, fun j v hj => ?_⟩
    have := h.cells (g := g) (by rw [he']; rfl) j v hj
    rwa [Addr.add_mid] at this
/-- Ids' cells. -/
def idsc (l : List (List UInt8)) : List Value := l.flatMap idc
theorem idsc_length (l : List (List UInt8)) (h : ∀ x ∈ l, x.length = 32) : (idsc l).length = 32 * l.length := by
  induction l with
  | nil => rfl
  | cons a r ih =>
    rw [idsc, List.flatMap_cons, List.length_append, ← idsc, ih (fun x hx => h x (List.mem_cons_of_mem _ hx)), idc_length, h a (List.mem_cons_self ..), List.length_cons]
    omega
theorem flat_at {α : Type} (f : α → List Value) (n : Nat) : ∀ (l : List α) (k : Nat) (x : α), (∀ y ∈ l, (f y).length = n) → l[k]? = some x → ∀ (j : Nat) (v : Value), (f x)[j]? = some v → (l.flatMap f)[k * n + j]? = some v
  | [], k, x, _, h, _, _, _ => by simp at h
  | a :: r, 0, x, hn, h, j, v, hj => by
    simp at h; subst h
    rw [List.flatMap_cons, Nat.zero_mul, Nat.zero_add, List.getElem?_append_left (List.getElem?_eq_some_iff.1 hj).1]
    exact hj
  | a :: r, k + 1, x, hn, h, j, v, hj => by
    have ha := hn a (List.mem_cons_self ..)
    rw [List.flatMap_cons, List.getElem?_append_right (by rw [ha, Nat.succ_mul]; omega), ha, show (k + 1) * n + j - n = k * n + j by rw [Nat.succ_mul]; omega]
    exact flat_at f n r k x (fun y hy => hn y (List.mem_cons_of_mem _ hy)) (by simpa using h) j v hj
/-- An id of some, under a name. -/
theorem Rd.idN {w : World} {A : Option Addr} {l : List (List UInt8)} (h : Rd w A (idsc l)) (hl : ∀ x ∈ l, x.length = 32) (k : Nat) (hk : k < l.length) : ∃ b o s, A = some ⟨b, o, none⟩ ∧ s.length = 32 ∧ w.rangeAt b (o + k * 32) (idc s) ∧ Hid (s = l.getD k []) := by
  have hs : l[k]? = some (l.getD k []) := by rw [List.getD_eq_getElem?_getD, List.getElem?_eq_getElem hk]; rfl
  have hm : l.getD k [] ∈ l := List.mem_of_getElem? hs
  have hne : idsc l ≠ [] := by
    intro h0
    have := idsc_length l hl
    rw [h0] at this
    simp at this
    omega
  obtain ⟨b, o, e, hr⟩ := h hne
  refine ⟨b, o, _, e, hl _ hm, fun j v hj => ?_, Lib.hid rfl⟩
  rw [Nat.add_assoc]
  exact hr _ _ (flat_at idc 32 l k _ (fun y hy => by rw [idc_length]; exact hl y hy) hs j v hj)
theorem range_below {w w1 : World} {b o : Nat} {cs : List Value} (h : w.rangeAt b o cs) (hb : Below w.heap.size w w1) : w1.rangeAt b o cs := fun j v hj => cell_below hb (h j v hj)
end Go.Proofs.YtmfpmedkhlhnpaaGreatDoor
