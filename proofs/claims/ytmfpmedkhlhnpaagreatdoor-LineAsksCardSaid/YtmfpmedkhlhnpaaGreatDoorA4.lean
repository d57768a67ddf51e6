import Derived.Test.YtmfpmedkhlhnpaaGreatDoorA3
/- A struct in a box; bounds on numerals. -/
namespace Go.Proofs.YtmfpmedkhlhnpaaGreatDoor
open Go.RowKit Go.Extern.Stop Go.Proofs.YtmfpmedkhlhnpaaGreatDoorW.PrintLast
set_option maxRecDepth 100000
set_option linter.unusedSimpArgs false
set_option linter.unusedVariables false
/-- Behind a box that was laid at the head. -/
def Boxed (w : World) (cs : List Value) (t : TypeId) (W : World) : Prop := Below (w.heap.size + 1) (w.alloc (.cells cs.toArray t)) W
theorem Boxed.start (w : World) (cs : List Value) (t : TypeId) : Boxed w cs t (w.alloc (.cells cs.toArray t)) := Below.refl _ _
theorem Boxed.size {w W : World} {cs : List Value} {t : TypeId} (h : Boxed w cs t W) : w.heap.size + 1 ≤ W.heap.size := by have := Below.size h; simpa using this
theorem Boxed.lt {w W : World} {cs : List Value} {t : TypeId} (h : Boxed w cs t W) : w.heap.size < W.heap.size := h.size
theorem Boxed.below {w W : World} {cs : List Value} {t : TypeId} (h : Boxed w cs t W) : Below w.heap.size w W :=
  (below_alloc (Below.refl _ _) (.cells cs.toArray t)).trans (Below.mono h (Nat.le_succ _))
theorem Boxed.call {w W W1 : World} {cs : List Value} {t : TypeId} (h : Boxed w cs t W) (hb : Below W.heap.size W W1) : Boxed w cs t W1 :=
  Below.trans h ⟨hb.os, hb.tape, hb.output, hb.size, fun i hi => hb.block i (Nat.lt_of_lt_of_le hi h.size)⟩
theorem Boxed.drew {w W : World} {cs : List Value} {t : TypeId} (h : Boxed w cs t W) : Boxed w cs t W.drew := below_drew h
theorem Boxed.alloc {w W : World} {cs : List Value} {t : TypeId} (h : Boxed w cs t W) (o : Obj) : Boxed w cs t (W.alloc o) := Below.alloc h h.size o
theorem Boxed.cell {w W : World} {cs : List Value} {t : TypeId} (h : Boxed w cs t W) (j : Nat) (v : Value) (hj : cs[j]? = some v) : W.cell? ⟨w.heap.size, j, none⟩ = some v := by
  have h1 := Below.cell h (p := ⟨w.heap.size, j, none⟩) (by simp)
  rw [h1]
  have := rangeAt_new w cs t j v hj
  rwa [Nat.zero_add] at this
theorem Boxed.range {w W : World} {cs : List Value} {t : TypeId} (h : Boxed w cs t W) (o : Nat) (seg : List Value) (hs : ∀ j v, seg[j]? = some v → cs[o + j]? = some v) : W.rangeAt w.heap.size o seg :=
  fun j v hj => h.cell _ _ (hs j v hj)
theorem Boxed.grown {w W W1 : World} {cs : List Value} {t : TypeId} (h : Boxed w cs t W) {base : Nat} {e : TypeId} {size n : Nat} {v : Value} {xs : List Value} (hown : W.ownsRow base e size v n xs) (hb : w.heap.size + 1 ≤ base) (hg : W.grownBy W1 v.ownBlock) : Boxed w cs t W1 :=
  Below.grown h hg h.size fun k hk => Nat.le_trans hb (own_base hown k hk)
theorem dec_len10 : ∀ (k : Nat), 1 ≤ k → ∀ n, n < 10 ^ k → (Lib.decDigits n).length ≤ k
  | 0, h, _, _ => by omega
  | k + 1, _, n, hn => by
    by_cases h : n < 10
    · rw [Lib.decDigits, dif_pos h]; simp
    · rw [Lib.decDigits, dif_neg h]
      have hk : 1 ≤ k := by
        rcases Nat.eq_zero_or_pos k with rfl | h'
        · simp at hn; omega
        · exact h'
      have := dec_len10 k hk (n / 10) (by rw [Nat.pow_succ] at hn; omega)
      simp
      omega
theorem dec_len7 {n : Nat} (h : n ≤ 9999999) : (Lib.decDigits n).length ≤ 7 := dec_len10 7 (by omega) n (by simp; omega)
theorem wpList_store_new {P : Program} {ops : Array Oper} {rest : List Oper} {o : Oper} {a : Act} {Q : Exit → Act → World → Prop} {w : World} (hgd : o.guard = none) (t : TypeId) (x y : Operand) (ho : o.op = .store t x y) (c c' : Array Value)
    (hx : a.eval x = .pointer (some ⟨w.heap.size, 0, none⟩)) (hy : a.eval y = .agg c') (hi : (P.info? t).map (·.size) = some c'.size) (hsz : c.size = c'.size) (h1 : c'.all (·.oneCell') = true)
    (h : wpList P ops Q rest (a.put o.dst undef) (w.alloc (.cells c' t))) : wpList P ops Q (o :: rest) a (w.alloc (.cells c t)) :=
  wpList_plain hgd fun K hK => by
    have hr : (execOp a.eval o).run P (w.alloc (.cells c t)) = .ok .skip (w.alloc (.cells c' t)) := by
      unfold execOp
      simp only [ho, hx, hy, Sem.run_bind, run_storeAt_new w t c c' hi hsz h1, Result.andThen_ok]
      rfl
    unfold Oper.wp
    rw [hr]
    exact hK _ _ h
noncomputable def zeroCells (t : TypeId) : Array Value := match (Tryz.prog.info? t).bind (·.zero) with | some v => v.cells | none => #[]
theorem zero_of {t : TypeId} (h : ((Tryz.prog.info? t).bind (·.zero)).isSome = true) (w : World) : ∃ v, (zeroValue t).run Tryz.prog w = .ok v w ∧ v.cells = zeroCells t := by
  cases hi : Tryz.prog.info? t with
  | none => simp [hi] at h
  | some i =>
    cases hz : i.zero with
    | none => simp [hi, hz] at h
    | some v => exact ⟨v, by simp [zeroValue, typeInfo, hi, hz], by simp [zeroCells, hi, hz]⟩
theorem zero60 : ((Tryz.prog.info? 60).bind (·.zero)).isSome = true := by kernel_rfl
theorem zero41 : ((Tryz.prog.info? 41).bind (·.zero)).isSome = true := by kernel_rfl
theorem zsize60 : (zeroCells 60).size = 65 := by kernel_rfl
theorem zsize41 : (zeroCells 41).size = 32 := by kernel_rfl
theorem op_allocZ (ρ : Operand → Value) (dst : Option Tmp) (ty : TypeId) (pos : String) (after : Array Edge) (g : Option (Nat × Bool)) (w : World) (t : TypeId) (h : ((Tryz.prog.info? t).bind (·.zero)).isSome = true) :
    (execOp ρ ⟨dst, .alloc t, ty, pos, after, g⟩).run Tryz.prog w = .ok (.value (.pointer (some ⟨w.heap.size, 0, none⟩))) (w.alloc (.cells (zeroCells t) t)) := by
  obtain ⟨v, hv, hc⟩ := zero_of h w
  show (do let x ← Instr.alloc t true (.tuple #[]); pure (Next.value x) : Sem Next).run Tryz.prog w = _
  unfold Instr.alloc
  simp only [Sem.run_bind, hv, Result.andThen_ok, newVar, newRow, hc]
  go_simp
theorem idc_one (l : List UInt8) : ∀ v ∈ idc l, v.oneCell' = true := by
  intro v hv
  simp only [idc, List.mem_map] at hv
  obtain ⟨b, _, rfl⟩ := hv
  rfl
theorem idv_one (l : List UInt8) : (idv l).all (·.oneCell') = true := by
  rw [Array.all_eq_true_iff_forall_mem]
  intro v hv
  exact idc_one l v (by simpa using hv)
theorem updv_one (u : Upd) : (updc u).toArray.all (·.oneCell') = true := by
  rw [Array.all_eq_true_iff_forall_mem]
  intro v hv
  simp only [List.mem_toArray, updc, List.mem_cons, List.mem_append] at hv
  rcases hv with rfl | hv | hv
  · rfl
  · exact idc_one _ v hv
  · exact idc_one _ v hv
end Go.Proofs.YtmfpmedkhlhnpaaGreatDoor
