import Derived.Test.YtmfpmedkhlhnpaaGreatDoorR2
import Derived.Test.YtmfpmedkhlhnpaaGreatDoorL4
import Derived.Laws.CopyRow
/- A reply that is being read: where its lists lie. -/
namespace Go.Proofs.YtmfpmedkhlhnpaaGreatDoor
open Go.RowKit Go.Extern.Stop Go.Proofs.YtmfpmedkhlhnpaaGreatDoorW.PrintLast
set_option maxRecDepth 100000
set_option linter.unusedSimpArgs false
set_option linter.unusedVariables false
structure RepA where
  (a2 a3 a4 a5 a6 a11 : Option Addr)
  (c2 c3 c4 c5 c6 c11 : Nat)
def refc (x : Rf) : List Value := .string (bs x.name) :: idc x.id
def refsc (l : List Rf) : List Value := l.flatMap refc
def intsc (l : List Int) : List Value := l.map (Value.int .i64)
def Rf.ok (x : Rf) : Prop := x.id.length = 32 ∧ x.name.length ≤ 9223372036854775807
theorem refc_length (x : Rf) (h : x.id.length = 32) : (refc x).length = 33 := by simp [refc, idc_length, h]
abbrev repHead (r : Rep) (a : RepA) : List Value := [.int .i64 r.op, .int .i64 r.err, .slice a.a2 r.caps.length a.c2, .slice a.a3 r.refs.length a.c3, .slice a.a4 r.acks.length a.c4, .slice a.a5 r.shallow.length a.c5, .slice a.a6 r.deep.length a.c6, .bool r.ready, .bool r.band, .int .i64 r.size]
abbrev repTail (r : Rep) (a : RepA) : List Value := [.slice a.a11 r.told.length a.c11, .string (bs r.data), .string (bs r.note)]
abbrev repc (r : Rep) (a : RepA) : List Value := repHead r a ++ (idc r.sum ++ repTail r a)
theorem repc_length (r : Rep) (a : RepA) (h : r.sum.length = 32) : (repc r a).length = 45 := by simp [repc, idc_length, h]
theorem get_mid (p r : List Value) (x : Value) (k : Nat) (h : p.length = k) : (p ++ x :: r)[k]? = some x := by subst h; simp
theorem set_mid (p r : List Value) (x v : Value) (k : Nat) (h : p.length = k) : (p ++ x :: r).toArray.setIfInBounds k v = (p ++ v :: r).toArray := by
  subst h; simp [List.set_append]
theorem rep_t11 (r : Rep) (a : RepA) (h : r.sum.length = 32) : (repc r a)[42]? = some (.slice a.a11 r.told.length a.c11) := by
  rw [repc, ← List.append_assoc]; exact get_mid _ _ _ 42 (by simp [idc_length, h])
theorem rep_t12 (r : Rep) (a : RepA) (h : r.sum.length = 32) : (repc r a)[43]? = some (.string (bs r.data)) := by
  have := get_mid (repHead r a ++ idc r.sum ++ [.slice a.a11 r.told.length a.c11]) [.string (bs r.note)] (.string (bs r.data)) 43 (by simp [idc_length, h])
  rw [← this]; simp [repc]
theorem rep_t13 (r : Rep) (a : RepA) (h : r.sum.length = 32) : (repc r a)[44]? = some (.string (bs r.note)) := by
  have := get_mid (repHead r a ++ idc r.sum ++ [.slice a.a11 r.told.length a.c11, .string (bs r.data)]) [] (.string (bs r.note)) 44 (by simp [idc_length, h])
  rw [← this]; simp [repc]
theorem rep_sum (r : Rep) (a : RepA) : ∀ j v, (idc r.sum)[j]? = some v → (repc r a)[10 + j]? = some v := by
  intro j v hj
  rw [repc, List.getElem?_append_right (by simp), List.getElem?_append_left (by have := (List.getElem?_eq_some_iff.1 hj).1; simpa using this)]
  simpa using hj
structure IsRep (w : World) (r : Rep) (a : RepA) : Prop where
  caps : Rd w a.a2 (strc r.caps)
  refs : Rd w a.a3 (refsc r.refs)
  acks : Rd w a.a4 (idsc r.acks)
  shallow : Rd w a.a5 (idsc r.shallow)
  deep : Rd w a.a6 (idsc r.deep)
  told : Rd w a.a11 (intsc r.told)
  nCaps : r.caps.length ≤ 9223372036854775807
  lCaps : ∀ s ∈ r.caps, s.length ≤ 9223372036854775807
  nRefs : r.refs.length ≤ 9223372036854775807
  iRefs : ∀ x ∈ r.refs, x.ok
  iAcks : Ids r.acks
  iShallow : Ids r.shallow
  iDeep : Ids r.deep
  iSum : r.sum.length = 32
  nTold : r.told.length ≤ 9223372036854775807
  nData : r.data.length ≤ 4611686018427387903
  nNote : r.note.length ≤ 4611686018427387903
theorem IsRep.below {w w1 : World} {r : Rep} {a : RepA} (h : IsRep w r a) (hb : Below w.heap.size w w1) : IsRep w1 r a :=
  ⟨h.caps.below hb, h.refs.below hb, h.acks.below hb, h.shallow.below hb, h.deep.below hb, h.told.below hb, h.nCaps, h.lCaps, h.nRefs, h.iRefs, h.iAcks, h.iShallow, h.iDeep, h.iSum, h.nTold, h.nData, h.nNote⟩
theorem IsRep.fit {w : World} {r : Rep} {a : RepA} (h : IsRep w r a) : RepFit r := ⟨fun x hx => (h.iRefs x hx).1, h.iAcks.2, h.iShallow.2, h.iDeep.2, h.iSum⟩
theorem und44 : Tryz.prog.underlying 44 = some (.struct (Tryz.prog.fieldsOf 44)) := by kernel_rfl
theorem info44 : (Tryz.prog.info? 44).map (·.size) = some 45 := by kernel_rfl
theorem zero44 : ((Tryz.prog.info? 44).bind (·.zero)).isSome = true := by kernel_rfl
theorem und39 : Tryz.prog.underlying 39 = some (.slice 88) := by kernel_rfl
theorem und42 : Tryz.prog.underlying 42 = some (.slice 3) := by kernel_rfl
theorem und88 : Tryz.prog.underlying 88 = some (.struct (Tryz.prog.fieldsOf 88)) := by kernel_rfl
theorem info88a : (Tryz.prog.info? 88).map (fun i => (i.zero, i.size, i.bytes)) = some (some (.agg (refc ⟨[], noId⟩).toArray), 33, 48) := by kernel_rfl
theorem info3a : (Tryz.prog.info? 3).map (fun i => (i.zero, i.size, i.bytes)) = some (some (.int .i64 0), 1, 8) := by kernel_rfl
theorem run_new39 (w : World) (u : Rf) (hu : u.id.length = 32) : (Instr.buildSlice 39 1 #[(0, .agg (refc u).toArray)]).run Tryz.prog w = .ok (.slice (some ⟨w.heap.size, 0, none⟩) 1 1) (w.alloc (.cells (refc u).toArray 88)) := by
  obtain ⟨i0, hi, hzz⟩ := Option.map_eq_some_iff.1 info88a
  simp only [Prod.mk.injEq] at hzz
  obtain ⟨hz0, hz1, hz2⟩ := hzz
  have hszx : (refc u).toArray.size = 33 := by simp [refc_length u hu]
  refine run_buildSlice w 39 88 1 _ (refc u).toArray i0 _ und39 hi hz0 (by rw [hz1]; omega) (by rw [hz1]; omega) ?_
  rw [hz1]
  exact fill_one (by omega) (.agg (refc u).toArray) _ hszx (by simp)
theorem op_new39 (ρ : Operand → Value) (dst : Option Tmp) (ty : TypeId) (pos : String) (after : Array Edge) (g : Option (Nat × Bool)) (w : World) (x : Operand) (u : Rf) (hu : u.id.length = 32) (hx : ρ x = .agg (refc u).toArray) :
    (execOp ρ ⟨dst, .buildSlice 39 1 #[(0, x)], ty, pos, after, g⟩).run Tryz.prog w = .ok (.value (.slice (some ⟨w.heap.size, 0, none⟩) 1 1)) (w.alloc (.cells (refc u).toArray 88)) := by
  unfold execOp
  simp only [List.map_toArray, List.map_cons, List.map_nil, hx, Sem.run_bind, run_new39 w u hu, Result.andThen_ok]
  rfl
theorem op_new42 (ρ : Operand → Value) (dst : Option Tmp) (ty : TypeId) (pos : String) (after : Array Edge) (g : Option (Nat × Bool)) (w : World) (x : Operand) (n : Int) (hx : ρ x = .int .i64 n) :
    (execOp ρ ⟨dst, .buildSlice 42 1 #[(0, x)], ty, pos, after, g⟩).run Tryz.prog w = .ok (.value (.slice (some ⟨w.heap.size, 0, none⟩) 1 1)) (w.alloc (.cells (intsc [n]).toArray 3)) := by
  obtain ⟨i0, hi, hzz⟩ := Option.map_eq_some_iff.1 info3a
  simp only [Prod.mk.injEq] at hzz
  obtain ⟨hz0, hz1, hz2⟩ := hzz
  have hr : (Instr.buildSlice 42 1 #[(0, .int .i64 n)]).run Tryz.prog w = .ok (.slice (some ⟨w.heap.size, 0, none⟩) 1 1) (w.alloc (.cells (intsc [n]).toArray 3)) := by
    refine run_buildSlice w 42 3 1 _ _ i0 _ und42 hi hz0 (by rw [hz1]; omega) (by rw [hz1]; omega) ?_
    rw [hz1]
    exact fill_one (by omega) (.int .i64 n) _ rfl (by simp)
  unfold execOp
  simp only [List.map_toArray, List.map_cons, List.map_nil, hx, Sem.run_bind, hr, Result.andThen_ok]
  rfl
theorem built88 (n o : List UInt8) (ho : o.length = 32) : Tryz.prog.built 88 [(0, .string (bs n)), (1, .agg (idv o))] = some (refc ⟨n, o⟩).toArray := by
  obtain ⟨x0, xr0, rfl, xh0⟩ := cons_of o ho
  obtain ⟨x1, xr1, rfl, xh1⟩ := cons_of xr0 xh0
  obtain ⟨x2, xr2, rfl, xh2⟩ := cons_of xr1 xh1
  obtain ⟨x3, xr3, rfl, xh3⟩ := cons_of xr2 xh2
  obtain ⟨x4, xr4, rfl, xh4⟩ := cons_of xr3 xh3
  obtain ⟨x5, xr5, rfl, xh5⟩ := cons_of xr4 xh4
  obtain ⟨x6, xr6, rfl, xh6⟩ := cons_of xr5 xh5
  obtain ⟨x7, xr7, rfl, xh7⟩ := cons_of xr6 xh6
  obtain ⟨x8, xr8, rfl, xh8⟩ := cons_of xr7 xh7
  obtain ⟨x9, xr9, rfl, xh9⟩ := cons_of xr8 xh8
  obtain ⟨x10, xr10, rfl, xh10⟩ := cons_of xr9 xh9
  obtain ⟨x11, xr11, rfl, xh11⟩ := cons_of xr10 xh10
  obtain ⟨x12, xr12, rfl, xh12⟩ := cons_of xr11 xh11
  obtain ⟨x13, xr13, rfl, xh13⟩ := cons_of xr12 xh12
  obtain ⟨x14, xr14, rfl, xh14⟩ := cons_of xr13 xh13
  obtain ⟨x15, xr15, rfl, xh15⟩ := cons_of xr14 xh14
  obtain ⟨x16, xr16, rfl, xh16⟩ := cons_of xr15 xh15
  obtain ⟨x17, xr17, rfl, xh17⟩ := cons_of xr16 xh16
  obtain ⟨x18, xr18, rfl, xh18⟩ := cons_of xr17 xh17
  obtain ⟨x19, xr19, rfl, xh19⟩ := cons_of xr18 xh18
  obtain ⟨x20, xr20, rfl, xh20⟩ := cons_of xr19 xh19
  obtain ⟨x21, xr21, rfl, xh21⟩ := cons_of xr20 xh20
  obtain ⟨x22, xr22, rfl, xh22⟩ := cons_of xr21 xh21
  obtain ⟨x23, xr23, rfl, xh23⟩ := cons_of xr22 xh22
  obtain ⟨x24, xr24, rfl, xh24⟩ := cons_of xr23 xh23
  obtain ⟨x25, xr25, rfl, xh25⟩ := cons_of xr24 xh24
  obtain ⟨x26, xr26, rfl, xh26⟩ := cons_of xr25 xh25
  obtain ⟨x27, xr27, rfl, xh27⟩ := cons_of xr26 xh26
  obtain ⟨x28, xr28, rfl, xh28⟩ := cons_of xr27 xh27
  obtain ⟨x29, xr29, rfl, xh29⟩ := cons_of xr28 xh28
  obtain ⟨x30, xr30, rfl, xh30⟩ := cons_of xr29 xh29
  obtain ⟨x31, xr31, rfl, xh31⟩ := cons_of xr30 xh30
  obtain rfl := List.length_eq_zero_iff.1 xh31
  kernel_rfl
theorem op_build88 (ρ : Operand → Value) (dst : Option Tmp) (ty : TypeId) (pos : String) (after : Array Edge) (g : Option (Nat × Bool)) (w : World) (x y : Operand) (n o : List UInt8) (ho : o.length = 32) (hx : ρ x = .string (bs n)) (hy : ρ y = .agg (idv o)) :
    (execOp ρ ⟨dst, .build 88 #[(0, x), (1, y)], ty, pos, after, g⟩).run Tryz.prog w = .ok (.value (.agg (refc ⟨n, o⟩).toArray)) w := by
  unfold execOp
  simp only [List.map_toArray, List.map_cons, List.map_nil, hx, hy, Sem.run_bind, run_build w 88 #[(0, .string (bs n)), (1, .agg (idv o))] _ (built88 n o ho), Result.andThen_ok]
  rfl
/-- An id stored in the midst of a block. -/
theorem wpList_storeIdMid {ops : Array Oper} {rest : List Oper} {w : World} {oi : Oper} {a : Act} {Q : Exit → Act → World → Prop} (hgd : oi.guard = none) (x y : Operand) (ho : oi.op = .store 41 x y) (g o : Nat) (c : Array Value) (l : List UInt8) (T : TypeId)
    (hl : l.length = 32) (hx : a.eval x = .pointer (some ⟨g, o, none⟩)) (hy : a.eval y = .agg (idv l)) (hg : w.heap[g]? = some (.cells c T (0, 0))) (hc : o + 32 ≤ c.size)
    (h : wpList Tryz.prog ops Q rest (a.put oi.dst undef) (w.setRow g (c.toList.take o ++ idc l ++ c.toList.drop (o + 32)).toArray)) : wpList Tryz.prog ops Q (oi :: rest) a w :=
  wpList_plain hgd fun K hK => by
    have hs := run_storeCells_at (P := Tryz.prog) g o T (idc l) 0 c w hg (by rw [idc_length, hl]; omega) (idc_one l)
    rw [idc_length, hl, Nat.add_zero] at hs
    have hr : (execOp a.eval oi).run Tryz.prog w = .ok .skip (w.setRow g (c.toList.take o ++ idc l ++ c.toList.drop (o + 32)).toArray) := by
      have hs2 : (storeVar 41 ⟨g, o, none⟩ (.agg (idv l))).run Tryz.prog w = .ok () (w.setRow g (c.toList.take o ++ idc l ++ c.toList.drop (o + 32)).toArray) := by
        have hi := info41
        cases hq : Tryz.prog.info? 41 with
        | none => simp [hq] at hi
        | some i =>
          have h1 : i.size = 32 := by simpa [hq] using hi
          have h2 : (idv l).size = 32 := by simp [idc_length, hl]
          simp only [storeVar, sizeOf, typeInfo, Sem.run_bind]
          simpa [hq, h1, Value.cells, idc_length, hl] using hs
      unfold execOp
      simp only [ho, hx, hy, Instr.storeAt, Instr.sureAddr, Sem.run_bind, Sem.run_pure, Result.andThen_ok, hs2]
    unfold Oper.wp
    rw [hr]
    exact hK _ _ h
structure RepAt (m base g : Nat) (W : World) (q : Rep) (a : RepA) : Prop where
  hbg : base ≤ g
  hg : W.heap[g]? = some (.cells (repc q a).toArray 44 (0, 0))
  caps : W.ownsRow base 9 1 (.slice a.a2 q.caps.length a.c2) q.caps.length (strc q.caps)
  refs : W.ownsRow base 88 33 (.slice a.a3 q.refs.length a.c3) q.refs.length (refsc q.refs)
  acks : W.ownsRow base 41 32 (.slice a.a4 q.acks.length a.c4) q.acks.length (idsc q.acks)
  shallow : W.ownsRow base 41 32 (.slice a.a5 q.shallow.length a.c5) q.shallow.length (idsc q.shallow)
  deep : W.ownsRow base 41 32 (.slice a.a6 q.deep.length a.c6) q.deep.length (idsc q.deep)
  told : W.ownsRow base 3 1 (.slice a.a11 q.told.length a.c11) q.told.length (intsc q.told)
  p45 : Apart a.a4 a.a5
  p46 : Apart a.a4 a.a6
  p56 : Apart a.a5 a.a6
  sum : q.sum.length = 32
  iRefs : ∀ x ∈ q.refs, x.ok
  iAcks : ∀ x ∈ q.acks, x.length = 32
  iShallow : ∀ x ∈ q.shallow, x.length = 32
  iDeep : ∀ x ∈ q.deep, x.length = 32
  lCaps : ∀ s ∈ q.caps, s.length ≤ 9223372036854775807
  n3 : q.refs.length ≤ m
  n4 : q.acks.length ≤ m
  n5 : q.shallow.length ≤ m
  n6 : q.deep.length ≤ m
  n11 : q.told.length ≤ m
  nData : q.data.length ≤ 4611686018427387903
  nNote : q.note.length ≤ 4611686018427387903
theorem RepAt.lt {m base g : Nat} {W : World} {q : Rep} {a : RepA} (h : RepAt m base g W q a) : g < W.heap.size := (Array.getElem?_eq_some_iff.1 h.hg).1
theorem RepAt.below {m base g : Nat} {W W1 : World} {q : Rep} {a : RepA} (h : RepAt m base g W q a) (hb : Below W.heap.size W W1) : RepAt m base g W1 q a :=
  ⟨h.hbg, (hb.block g h.lt).trans h.hg, own_below h.caps hb, own_below h.refs hb, own_below h.acks hb, own_below h.shallow hb, own_below h.deep hb, own_below h.told hb, h.p45, h.p46, h.p56, h.sum, h.iRefs, h.iAcks, h.iShallow, h.iDeep, h.lCaps, h.n3, h.n4, h.n5, h.n6, h.n11, h.nData, h.nNote⟩
theorem RepAt.drew {m base g : Nat} {W : World} {q : Rep} {a : RepA} (h : RepAt m base g W q a) : RepAt m base g W.drew q a :=
  ⟨h.hbg, h.hg, h.caps, h.refs, h.acks, h.shallow, h.deep, h.told, h.p45, h.p46, h.p56, h.sum, h.iRefs, h.iAcks, h.iShallow, h.iDeep, h.lCaps, h.n3, h.n4, h.n5, h.n6, h.n11, h.nData, h.nNote⟩
theorem RepAt.isRep {m base g : Nat} {W : World} {q : Rep} {a : RepA} (h : RepAt m base g W q a) : IsRep W q a :=
  ⟨Rd.of_own h.caps, Rd.of_own h.refs, Rd.of_own h.acks, Rd.of_own h.shallow, Rd.of_own h.deep, Rd.of_own h.told, (own_le h.caps).1, h.lCaps, (own_le h.refs).1, h.iRefs, ⟨(own_le h.acks).1, h.iAcks⟩, ⟨(own_le h.shallow).1, h.iShallow⟩, ⟨(own_le h.deep).1, h.iDeep⟩, h.sum, (own_le h.told).1, h.nData, h.nNote⟩
theorem RepAt.ne {m base g : Nat} {W : World} {q : Rep} {a : RepA} (h : RepAt m base g W q a) {e : TypeId} (he : e ≠ 44) {size n c k : Nat} {xs : List Value} {A : Option Addr} (ho : W.ownsRow base e size (.slice A k c) n xs) : ∀ x, A = some x → x.block ≠ g := fun x hx => by
  obtain ⟨-, ⟨cur, hc⟩, -⟩ := own_addr ho hx
  exact type_ne hc h.hg he
theorem ownR_set {m base g o : Nat} {W : World} {q : Rep} {a : RepA} {v : Value} (h : RepAt m base g W q a) {e : TypeId} (he : e ≠ 44) {size n c k : Nat} {xs : List Value} {A : Option Addr} (ho : W.ownsRow base e size (.slice A k c) n xs) : (W.setCell ⟨g, o, none⟩ v).ownsRow base e size (.slice A k c) n xs :=
  own_kept ho fun x hx => heap_setCell_other _ _ _ _ (h.ne he ho x hx)
theorem ownR_row {m base g : Nat} {W : World} {q : Rep} {a : RepA} (cs : Array Value) (h : RepAt m base g W q a) {e : TypeId} (he : e ≠ 44) {size n c k : Nat} {xs : List Value} {A : Option Addr} (ho : W.ownsRow base e size (.slice A k c) n xs) : (W.setRow g cs).ownsRow base e size (.slice A k c) n xs :=
  own_kept ho fun x hx => setRow_other _ _ _ _ (h.ne he ho x hx)
theorem RepAt.set_op {m base g : Nat} {W : World} {q : Rep} {a : RepA} (h : RepAt m base g W q a) (n : Int) : RepAt m base g (W.setCell ⟨g, 0, none⟩ (.int .i64 n)) { q with op := n } a :=
  ⟨h.hbg, (heap_setCell_same W g 0 _ 44 _ h.hg).trans (by simp [repc]), ownR_set h (by decide) h.caps, ownR_set h (by decide) h.refs, ownR_set h (by decide) h.acks, ownR_set h (by decide) h.shallow, ownR_set h (by decide) h.deep, ownR_set h (by decide) h.told, h.p45, h.p46, h.p56, h.sum, h.iRefs, h.iAcks, h.iShallow, h.iDeep, h.lCaps, h.n3, h.n4, h.n5, h.n6, h.n11, h.nData, h.nNote⟩
theorem RepAt.set_err {m base g : Nat} {W : World} {q : Rep} {a : RepA} (h : RepAt m base g W q a) (n : Int) : RepAt m base g (W.setCell ⟨g, 1, none⟩ (.int .i64 n)) { q with err := n } a :=
  ⟨h.hbg, (heap_setCell_same W g 1 _ 44 _ h.hg).trans (by simp [repc]), ownR_set h (by decide) h.caps, ownR_set h (by decide) h.refs, ownR_set h (by decide) h.acks, ownR_set h (by decide) h.shallow, ownR_set h (by decide) h.deep, ownR_set h (by decide) h.told, h.p45, h.p46, h.p56, h.sum, h.iRefs, h.iAcks, h.iShallow, h.iDeep, h.lCaps, h.n3, h.n4, h.n5, h.n6, h.n11, h.nData, h.nNote⟩
theorem RepAt.set_ready {m base g : Nat} {W : World} {q : Rep} {a : RepA} (h : RepAt m base g W q a) (n : Bool) : RepAt m base g (W.setCell ⟨g, 7, none⟩ (.bool n)) { q with ready := n } a :=
  ⟨h.hbg, (heap_setCell_same W g 7 _ 44 _ h.hg).trans (by simp [repc]), ownR_set h (by decide) h.caps, ownR_set h (by decide) h.refs, ownR_set h (by decide) h.acks, ownR_set h (by decide) h.shallow, ownR_set h (by decide) h.deep, ownR_set h (by decide) h.told, h.p45, h.p46, h.p56, h.sum, h.iRefs, h.iAcks, h.iShallow, h.iDeep, h.lCaps, h.n3, h.n4, h.n5, h.n6, h.n11, h.nData, h.nNote⟩
theorem RepAt.set_band {m base g : Nat} {W : World} {q : Rep} {a : RepA} (h : RepAt m base g W q a) (n : Bool) : RepAt m base g (W.setCell ⟨g, 8, none⟩ (.bool n)) { q with band := n } a :=
  ⟨h.hbg, (heap_setCell_same W g 8 _ 44 _ h.hg).trans (by simp [repc]), ownR_set h (by decide) h.caps, ownR_set h (by decide) h.refs, ownR_set h (by decide) h.acks, ownR_set h (by decide) h.shallow, ownR_set h (by decide) h.deep, ownR_set h (by decide) h.told, h.p45, h.p46, h.p56, h.sum, h.iRefs, h.iAcks, h.iShallow, h.iDeep, h.lCaps, h.n3, h.n4, h.n5, h.n6, h.n11, h.nData, h.nNote⟩
theorem RepAt.set_size {m base g : Nat} {W : World} {q : Rep} {a : RepA} (h : RepAt m base g W q a) (n : Int) : RepAt m base g (W.setCell ⟨g, 9, none⟩ (.int .i64 n)) { q with size := n } a :=
  ⟨h.hbg, (heap_setCell_same W g 9 _ 44 _ h.hg).trans (by simp [repc]), ownR_set h (by decide) h.caps, ownR_set h (by decide) h.refs, ownR_set h (by decide) h.acks, ownR_set h (by decide) h.shallow, ownR_set h (by decide) h.deep, ownR_set h (by decide) h.told, h.p45, h.p46, h.p56, h.sum, h.iRefs, h.iAcks, h.iShallow, h.iDeep, h.lCaps, h.n3, h.n4, h.n5, h.n6, h.n11, h.nData, h.nNote⟩
theorem RepAt.set_data {m base g : Nat} {W : World} {q : Rep} {a : RepA} (h : RepAt m base g W q a) (l : List UInt8) (hl : l.length ≤ 4611686018427387903) : RepAt m base g (W.setCell ⟨g, 43, none⟩ (.string (bs l))) { q with data := l } a := by
  have hcell : (repc q a).toArray.setIfInBounds 43 (.string (bs l)) = (repc { q with data := l } a).toArray := by
    have := set_mid (repHead q a ++ idc q.sum ++ [.slice a.a11 q.told.length a.c11]) [.string (bs q.note)] (.string (bs q.data)) (.string (bs l)) 43 (by simp [idc_length, h.sum])
    simpa [repc] using this
  exact ⟨h.hbg, (heap_setCell_same W g 43 _ 44 _ h.hg).trans (by rw [hcell]), ownR_set h (by decide) h.caps, ownR_set h (by decide) h.refs, ownR_set h (by decide) h.acks, ownR_set h (by decide) h.shallow, ownR_set h (by decide) h.deep, ownR_set h (by decide) h.told, h.p45, h.p46, h.p56, h.sum, h.iRefs, h.iAcks, h.iShallow, h.iDeep, h.lCaps, h.n3, h.n4, h.n5, h.n6, h.n11, hl, h.nNote⟩
theorem RepAt.set_note {m base g : Nat} {W : World} {q : Rep} {a : RepA} (h : RepAt m base g W q a) (l : List UInt8) (hl : l.length ≤ 4611686018427387903) : RepAt m base g (W.setCell ⟨g, 44, none⟩ (.string (bs l))) { q with note := l } a := by
  have hcell : (repc q a).toArray.setIfInBounds 44 (.string (bs l)) = (repc { q with note := l } a).toArray := by
    have := set_mid (repHead q a ++ idc q.sum ++ [.slice a.a11 q.told.length a.c11] ++ [.string (bs q.data)]) [] (.string (bs q.note)) (.string (bs l)) 44 (by simp [idc_length, h.sum])
    simpa [repc] using this
  exact ⟨h.hbg, (heap_setCell_same W g 44 _ 44 _ h.hg).trans (by rw [hcell]), ownR_set h (by decide) h.caps, ownR_set h (by decide) h.refs, ownR_set h (by decide) h.acks, ownR_set h (by decide) h.shallow, ownR_set h (by decide) h.deep, ownR_set h (by decide) h.told, h.p45, h.p46, h.p56, h.sum, h.iRefs, h.iAcks, h.iShallow, h.iDeep, h.lCaps, h.n3, h.n4, h.n5, h.n6, h.n11, h.nData, hl⟩
theorem RepAt.set_sum {m base g : Nat} {W : World} {q : Rep} {a : RepA} (h : RepAt m base g W q a) (l : List UInt8) (hl : l.length = 32) : RepAt m base g (W.setRow g ((repc q a).toArray.toList.take 10 ++ idc l ++ (repc q a).toArray.toList.drop 42).toArray) { q with sum := l } a := by
  have hcell : (repc q a).toArray.toList.take 10 ++ idc l ++ (repc q a).toArray.toList.drop 42 = repc { q with sum := l } a := by
    have h1 : (repc q a).toArray.toList = repHead q a ++ (idc q.sum ++ repTail q a) := rfl
    have h2 : (repHead q a ++ (idc q.sum ++ repTail q a)).drop 42 = repTail q a := by
      rw [← List.append_assoc]; exact List.drop_left' (by simp [idc_length, h.sum])
    have h3 : (repHead q a ++ (idc q.sum ++ repTail q a)).take 10 = repHead q a := List.take_left' rfl
    rw [h1, h2, h3]; simp [repc]
  rw [hcell]
  exact ⟨h.hbg, setRow_heap W g _ _ 44 _ h.hg, ownR_row _ h (by decide) h.caps, ownR_row _ h (by decide) h.refs, ownR_row _ h (by decide) h.acks, ownR_row _ h (by decide) h.shallow, ownR_row _ h (by decide) h.deep, ownR_row _ h (by decide) h.told, h.p45, h.p46, h.p56, hl, h.iRefs, h.iAcks, h.iShallow, h.iDeep, h.lCaps, h.n3, h.n4, h.n5, h.n6, h.n11, h.nData, h.nNote⟩
theorem RepAt.set_caps {m base g : Nat} {W : World} {q : Rep} {a : RepA} (h : RepAt m base g W q a) (l : List (List UInt8)) (A : Option Addr) (c : Nat) (ho : W.ownsRow base 9 1 (.slice A l.length c) l.length (strc l)) (hl : ∀ s ∈ l, s.length ≤ 9223372036854775807) : RepAt m base g (W.setCell ⟨g, 2, none⟩ (.slice A l.length c)) { q with caps := l } { a with a2 := A, c2 := c } :=
  ⟨h.hbg, (heap_setCell_same W g 2 _ 44 _ h.hg).trans (by simp [repc]), ownR_set h (by decide) ho, ownR_set h (by decide) h.refs, ownR_set h (by decide) h.acks, ownR_set h (by decide) h.shallow, ownR_set h (by decide) h.deep, ownR_set h (by decide) h.told, h.p45, h.p46, h.p56, h.sum, h.iRefs, h.iAcks, h.iShallow, h.iDeep, hl, h.n3, h.n4, h.n5, h.n6, h.n11, h.nData, h.nNote⟩
theorem ownR_app {m base g o : Nat} {W W9 : World} {q : Rep} {a : RepA} {v : Value} (h : RepAt m base g W q a) {A0 : Option Addr} {n0 c0 : Nat} (hgr : W.grownBy W9 (Value.slice A0 n0 c0).ownBlock) {e : TypeId} (he : e ≠ 44) {size n c k : Nat} {xs : List Value} {A : Option Addr} (ho : W.ownsRow base e size (.slice A k c) n xs) (hap : Apart A A0) : (W9.setCell ⟨g, o, none⟩ v).ownsRow base e size (.slice A k c) n xs :=
  own_kept ho fun x hx => (heap_setCell_other _ _ _ _ (h.ne he ho x hx)).trans (grown_kept hgr (own_addr ho hx).2.2 fun y hy => hap x y hx hy)
theorem gR_app {m base g : Nat} {W W9 : World} {q : Rep} {a : RepA} (h : RepAt m base g W q a) {A0 : Option Addr} {n0 c0 : Nat} (hgr : W.grownBy W9 (Value.slice A0 n0 c0).ownBlock) {e : TypeId} (he : e ≠ 44) {size n : Nat} {xs : List Value} (ho : W.ownsRow base e size (.slice A0 n0 c0) n xs) : W9.heap[g]? = some (.cells (repc q a).toArray 44 (0, 0)) :=
  (grown_kept hgr h.lt fun x hx e => h.ne he ho x hx e.symm).trans h.hg
theorem newR_app {m base g o : Nat} {W W9 : World} {q : Rep} {a : RepA} {v : Value} (h : RepAt m base g W q a) {A0 A9 : Option Addr} {n0 c0 : Nat} {e : TypeId} (he : e ≠ 44) {size n n9 c9 m9 : Nat} {xs ys : List Value} (ho : W.ownsRow base e size (.slice A0 n0 c0) n xs) (hat : LiesAt W A0 A9) (h9 : W9.ownsRow base e size (.slice A9 m9 c9) n9 ys) : (W9.setCell ⟨g, o, none⟩ v).ownsRow base e size (.slice A9 m9 c9) n9 ys :=
  own_kept h9 fun y hy => heap_setCell_other _ _ _ _ (by
    rcases hat y hy with ⟨z, hz, e⟩ | e
    · rw [e]; exact h.ne he ho z hz
    · rw [e]; exact Nat.ne_of_gt h.lt)
theorem RepAt.add_refs {m base g : Nat} {W W9 : World} {q : Rep} {a : RepA} (h : RepAt m base g W q a) (x : Rf) (hx : x.ok) (A9 : Option Addr) (c9 : Nat) (own9 : W9.ownsRow base 88 33 (.slice A9 (q.refs.length + 1) c9) (q.refs.length + 1) (refsc q.refs ++ refc x))
    (hgr : W.grownBy W9 (Value.slice a.a3 q.refs.length a.c3).ownBlock) (hat : LiesAt W a.a3 A9) : RepAt (m + 1) base g (W9.setCell ⟨g, 3, none⟩ (.slice A9 (q.refs.length + 1) c9)) { q with refs := q.refs ++ [x] } { a with a3 := A9, c3 := c9 } := by
  have hlen : (q.refs ++ [x]).length = q.refs.length + 1 := by simp
  have hcs : refsc (q.refs ++ [x]) = refsc q.refs ++ refc x := by simp [refsc]
  have hcell : (repc q a).toArray.setIfInBounds 3 (.slice A9 (q.refs.length + 1) c9) = (repc { q with refs := q.refs ++ [x] } { a with a3 := A9, c3 := c9 }).toArray := by simp [repc]
  have hfit : ∀ y ∈ q.refs ++ [x], y.ok := by
    intro y hy
    rcases List.mem_append.1 hy with hy | hy
    · exact h.iRefs y hy
    · rw [List.mem_singleton.1 hy]; exact hx
  exact ⟨h.hbg, (heap_setCell_same W9 g 3 _ 44 _ (gR_app h hgr (by decide) h.refs)).trans (by rw [hcell]), ownR_app h hgr (by decide) h.caps (apart_type h.caps h.refs (by decide)), by rw [hlen, hcs]; exact newR_app h (by decide) h.refs hat own9, ownR_app h hgr (by decide) h.acks (apart_type h.acks h.refs (by decide)), ownR_app h hgr (by decide) h.shallow (apart_type h.shallow h.refs (by decide)), ownR_app h hgr (by decide) h.deep (apart_type h.deep h.refs (by decide)), ownR_app h hgr (by decide) h.told (apart_type h.told h.refs (by decide)), h.p45, h.p46, h.p56, h.sum, hfit, h.iAcks, h.iShallow, h.iDeep, h.lCaps, by rw [hlen]; have := h.n3; omega, Nat.le_succ_of_le h.n4, Nat.le_succ_of_le h.n5, Nat.le_succ_of_le h.n6, Nat.le_succ_of_le h.n11, h.nData, h.nNote⟩
theorem RepAt.add_acks {m base g : Nat} {W W9 : World} {q : Rep} {a : RepA} (h : RepAt m base g W q a) (x : List UInt8) (hx : x.length = 32) (A9 : Option Addr) (c9 : Nat) (own9 : W9.ownsRow base 41 32 (.slice A9 (q.acks.length + 1) c9) (q.acks.length + 1) (idsc q.acks ++ idc x))
    (hgr : W.grownBy W9 (Value.slice a.a4 q.acks.length a.c4).ownBlock) (hat : LiesAt W a.a4 A9) : RepAt (m + 1) base g (W9.setCell ⟨g, 4, none⟩ (.slice A9 (q.acks.length + 1) c9)) { q with acks := q.acks ++ [x] } { a with a4 := A9, c4 := c9 } := by
  have hlen : (q.acks ++ [x]).length = q.acks.length + 1 := by simp
  have hcs : idsc (q.acks ++ [x]) = idsc q.acks ++ idc x := by simp [idsc]
  have hcell : (repc q a).toArray.setIfInBounds 4 (.slice A9 (q.acks.length + 1) c9) = (repc { q with acks := q.acks ++ [x] } { a with a4 := A9, c4 := c9 }).toArray := by simp [repc]
  have hfit : ∀ y ∈ q.acks ++ [x], y.length = 32 := by
    intro y hy
    rcases List.mem_append.1 hy with hy | hy
    · exact h.iAcks y hy
    · rw [List.mem_singleton.1 hy]; exact hx
  exact ⟨h.hbg, (heap_setCell_same W9 g 4 _ 44 _ (gR_app h hgr (by decide) h.acks)).trans (by rw [hcell]), ownR_app h hgr (by decide) h.caps (apart_type h.caps h.acks (by decide)), ownR_app h hgr (by decide) h.refs (apart_type h.refs h.acks (by decide)), by rw [hlen, hcs]; exact newR_app h (by decide) h.acks hat own9, ownR_app h hgr (by decide) h.shallow (h.p45.symm), ownR_app h hgr (by decide) h.deep (h.p46.symm), ownR_app h hgr (by decide) h.told (apart_type h.told h.acks (by decide)), (apart_lies h.shallow (h.p45.symm) hat).symm, (apart_lies h.deep (h.p46.symm) hat).symm, h.p56, h.sum, h.iRefs, hfit, h.iShallow, h.iDeep, h.lCaps, Nat.le_succ_of_le h.n3, by rw [hlen]; have := h.n4; omega, Nat.le_succ_of_le h.n5, Nat.le_succ_of_le h.n6, Nat.le_succ_of_le h.n11, h.nData, h.nNote⟩
theorem RepAt.add_shallow {m base g : Nat} {W W9 : World} {q : Rep} {a : RepA} (h : RepAt m base g W q a) (x : List UInt8) (hx : x.length = 32) (A9 : Option Addr) (c9 : Nat) (own9 : W9.ownsRow base 41 32 (.slice A9 (q.shallow.length + 1) c9) (q.shallow.length + 1) (idsc q.shallow ++ idc x))
    (hgr : W.grownBy W9 (Value.slice a.a5 q.shallow.length a.c5).ownBlock) (hat : LiesAt W a.a5 A9) : RepAt (m + 1) base g (W9.setCell ⟨g, 5, none⟩ (.slice A9 (q.shallow.length + 1) c9)) { q with shallow := q.shallow ++ [x] } { a with a5 := A9, c5 := c9 } := by
  have hlen : (q.shallow ++ [x]).length = q.shallow.length + 1 := by simp
  have hcs : idsc (q.shallow ++ [x]) = idsc q.shallow ++ idc x := by simp [idsc]
  have hcell : (repc q a).toArray.setIfInBounds 5 (.slice A9 (q.shallow.length + 1) c9) = (repc { q with shallow := q.shallow ++ [x] } { a with a5 := A9, c5 := c9 }).toArray := by simp [repc]
  have hfit : ∀ y ∈ q.shallow ++ [x], y.length = 32 := by
    intro y hy
    rcases List.mem_append.1 hy with hy | hy
    · exact h.iShallow y hy
    · rw [List.mem_singleton.1 hy]; exact hx
  exact ⟨h.hbg, (heap_setCell_same W9 g 5 _ 44 _ (gR_app h hgr (by decide) h.shallow)).trans (by rw [hcell]), ownR_app h hgr (by decide) h.caps (apart_type h.caps h.shallow (by decide)), ownR_app h hgr (by decide) h.refs (apart_type h.refs h.shallow (by decide)), ownR_app h hgr (by decide) h.acks (h.p45), by rw [hlen, hcs]; exact newR_app h (by decide) h.shallow hat own9, ownR_app h hgr (by decide) h.deep (h.p56.symm), ownR_app h hgr (by decide) h.told (apart_type h.told h.shallow (by decide)), (apart_lies h.acks (h.p45) hat), h.p46, (apart_lies h.deep (h.p56.symm) hat).symm, h.sum, h.iRefs, h.iAcks, hfit, h.iDeep, h.lCaps, Nat.le_succ_of_le h.n3, Nat.le_succ_of_le h.n4, by rw [hlen]; have := h.n5; omega, Nat.le_succ_of_le h.n6, Nat.le_succ_of_le h.n11, h.nData, h.nNote⟩
theorem RepAt.add_deep {m base g : Nat} {W W9 : World} {q : Rep} {a : RepA} (h : RepAt m base g W q a) (x : List UInt8) (hx : x.length = 32) (A9 : Option Addr) (c9 : Nat) (own9 : W9.ownsRow base 41 32 (.slice A9 (q.deep.length + 1) c9) (q.deep.length + 1) (idsc q.deep ++ idc x))
    (hgr : W.grownBy W9 (Value.slice a.a6 q.deep.length a.c6).ownBlock) (hat : LiesAt W a.a6 A9) : RepAt (m + 1) base g (W9.setCell ⟨g, 6, none⟩ (.slice A9 (q.deep.length + 1) c9)) { q with deep := q.deep ++ [x] } { a with a6 := A9, c6 := c9 } := by
  have hlen : (q.deep ++ [x]).length = q.deep.length + 1 := by simp
  have hcs : idsc (q.deep ++ [x]) = idsc q.deep ++ idc x := by simp [idsc]
  have hcell : (repc q a).toArray.setIfInBounds 6 (.slice A9 (q.deep.length + 1) c9) = (repc { q with deep := q.deep ++ [x] } { a with a6 := A9, c6 := c9 }).toArray := by simp [repc]
  have hfit : ∀ y ∈ q.deep ++ [x], y.length = 32 := by
    intro y hy
    rcases List.mem_append.1 hy with hy | hy
    · exact h.iDeep y hy
    · rw [List.mem_singleton.1 hy]; exact hx
  exact ⟨h.hbg, (heap_setCell_same W9 g 6 _ 44 _ (gR_app h hgr (by decide) h.deep)).trans (by rw [hcell]), ownR_app h hgr (by decide) h.caps (apart_type h.caps h.deep (by decide)), ownR_app h hgr (by decide) h.refs (apart_type h.refs h.deep (by decide)), ownR_app h hgr (by decide) h.acks (h.p46), ownR_app h hgr (by decide) h.shallow (h.p56), by rw [hlen, hcs]; exact newR_app h (by decide) h.deep hat own9, ownR_app h hgr (by decide) h.told (apart_type h.told h.deep (by decide)), h.p45, (apart_lies h.acks (h.p46) hat), (apart_lies h.shallow (h.p56) hat), h.sum, h.iRefs, h.iAcks, h.iShallow, hfit, h.lCaps, Nat.le_succ_of_le h.n3, Nat.le_succ_of_le h.n4, Nat.le_succ_of_le h.n5, by rw [hlen]; have := h.n6; omega, Nat.le_succ_of_le h.n11, h.nData, h.nNote⟩
theorem RepAt.add_told {m base g : Nat} {W W9 : World} {q : Rep} {a : RepA} (h : RepAt m base g W q a) (x : Int) (A9 : Option Addr) (c9 : Nat) (own9 : W9.ownsRow base 3 1 (.slice A9 (q.told.length + 1) c9) (q.told.length + 1) (intsc q.told ++ intsc [x]))
    (hgr : W.grownBy W9 (Value.slice a.a11 q.told.length a.c11).ownBlock) (hat : LiesAt W a.a11 A9) : RepAt (m + 1) base g (W9.setCell ⟨g, 42, none⟩ (.slice A9 (q.told.length + 1) c9)) { q with told := q.told ++ [x] } { a with a11 := A9, c11 := c9 } := by
  have hlen : (q.told ++ [x]).length = q.told.length + 1 := by simp
  have hcs : intsc (q.told ++ [x]) = intsc q.told ++ intsc [x] := by simp [intsc]
  have hcell : (repc q a).toArray.setIfInBounds 42 (.slice A9 (q.told.length + 1) c9) = (repc { q with told := q.told ++ [x] } { a with a11 := A9, c11 := c9 }).toArray := by
    have := set_mid (repHead q a ++ idc q.sum) [.string (bs q.data), .string (bs q.note)] (.slice a.a11 q.told.length a.c11) (.slice A9 (q.told.length + 1) c9) 42 (by simp [idc_length, h.sum])
    simpa [repc, repTail, hlen] using this
  exact ⟨h.hbg, (heap_setCell_same W9 g 42 _ 44 _ (gR_app h hgr (by decide) h.told)).trans (by rw [hcell]), ownR_app h hgr (by decide) h.caps (apart_type h.caps h.told (by decide)), ownR_app h hgr (by decide) h.refs (apart_type h.refs h.told (by decide)), ownR_app h hgr (by decide) h.acks (apart_type h.acks h.told (by decide)), ownR_app h hgr (by decide) h.shallow (apart_type h.shallow h.told (by decide)), ownR_app h hgr (by decide) h.deep (apart_type h.deep h.told (by decide)), by rw [hlen, hcs]; exact newR_app h (by decide) h.told hat own9, h.p45, h.p46, h.p56, h.sum, h.iRefs, h.iAcks, h.iShallow, h.iDeep, h.lCaps, Nat.le_succ_of_le h.n3, Nat.le_succ_of_le h.n4, Nat.le_succ_of_le h.n5, Nat.le_succ_of_le h.n6, by rw [hlen]; have := h.n11; omega, h.nData, h.nNote⟩
theorem RepAt.mono {m m2 base g : Nat} {W : World} {q : Rep} {a : RepA} (h : RepAt m base g W q a) (hm : m ≤ m2) : RepAt m2 base g W q a :=
  ⟨h.hbg, h.hg, h.caps, h.refs, h.acks, h.shallow, h.deep, h.told, h.p45, h.p46, h.p56, h.sum, h.iRefs, h.iAcks, h.iShallow, h.iDeep, h.lCaps, Nat.le_trans h.n3 hm, Nat.le_trans h.n4 hm, Nat.le_trans h.n5 hm, Nat.le_trans h.n6 hm, Nat.le_trans h.n11 hm, h.nData, h.nNote⟩
abbrev noRA : RepA := ⟨none, none, none, none, none, none, 0, 0, 0, 0, 0, 0⟩
theorem zero44_eq : zeroCells 44 = (repc noRep noRA).toArray := by kernel_rfl
theorem start_rep (W : World) (base : Nat) (h : base ≤ W.heap.size) : RepAt 0 base W.heap.size (W.alloc (.cells (zeroCells 44) 44)) noRep noRA :=
  ⟨h, by rw [zero44_eq]; exact heap_alloc_new W _, own_nil _ _ _ _, own_nil _ _ _ _, own_nil _ _ _ _, own_nil _ _ _ _, own_nil _ _ _ _, own_nil _ _ _ _, Apart.nil _, Apart.nil _, Apart.nil _,
    noId_length, by simp, by simp, by simp, by simp, by simp, by simp, by simp, by simp, by simp, by simp, by simp, by simp⟩
theorem op_build44 (ρ : Operand → Value) (dst : Option Tmp) (ty : TypeId) (pos : String) (after : Array Edge) (g : Option (Nat × Bool)) (w : World) : (execOp ρ ⟨dst, .build 44 #[], ty, pos, after, g⟩).run Tryz.prog w = .ok (.value (.agg (repc noRep noRA).toArray)) w := by kernel_rfl
theorem repv_one (q : Rep) (a : RepA) : (repc q a).toArray.all (·.oneCell') = true := by
  rw [Array.all_eq_true']
  intro v hv
  simp only [repc, List.mem_toArray, List.mem_append] at hv
  rcases hv with h | h | h
  · simp only [repHead, List.mem_cons, List.not_mem_nil, or_false] at h
    rcases h with rfl | rfl | rfl | rfl | rfl | rfl | rfl | rfl | rfl | rfl <;> rfl
  · exact idc_one _ v h
  · simp only [repTail, List.mem_cons, List.not_mem_nil, or_false] at h
    rcases h with rfl | rfl | rfl <;> rfl
theorem ownR_row0 {W : World} {base g0 : Nat} (h0 : g0 < base) (cs : Array Value) {e : TypeId} {size n c k : Nat} {xs : List Value} {A : Option Addr} (ho : W.ownsRow base e size (.slice A k c) n xs) : (W.setRow g0 cs).ownsRow base e size (.slice A k c) n xs :=
  own_kept ho fun x hx => setRow_other W g0 _ cs (by have := (own_addr ho hx).1; omega)
theorem RepAt.setRow {m base g g0 : Nat} {W : World} {q : Rep} {a : RepA} (h : RepAt m base g W q a) (h0 : g0 < base) (cs : Array Value) : RepAt m base g (W.setRow g0 cs) q a :=
  ⟨h.hbg, (setRow_other W g0 g cs (by have := h.hbg; omega)).trans h.hg, ownR_row0 h0 cs h.caps, ownR_row0 h0 cs h.refs, ownR_row0 h0 cs h.acks, ownR_row0 h0 cs h.shallow, ownR_row0 h0 cs h.deep, ownR_row0 h0 cs h.told, h.p45, h.p46, h.p56, h.sum, h.iRefs, h.iAcks, h.iShallow, h.iDeep, h.lCaps, h.n3, h.n4, h.n5, h.n6, h.n11, h.nData, h.nNote⟩
end Go.Proofs.YtmfpmedkhlhnpaaGreatDoor
