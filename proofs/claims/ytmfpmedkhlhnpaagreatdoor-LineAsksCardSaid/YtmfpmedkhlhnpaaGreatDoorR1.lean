import Derived.Test.YtmfpmedkhlhnpaaGreatDoorQ5
import Derived.Test.YtmfpmedkhlhnpaaGreatDoorL3
import Derived.Test.YtmfpmedkhlhnpaaGreatDoorP6
import Derived.Great.BuildSlice
import Derived.Maps.AppendAt
/- A request that is being read: where its lists lie. -/
namespace Go.Proofs.YtmfpmedkhlhnpaaGreatDoor
open Go.RowKit Go.Extern.Stop Go.Proofs.YtmfpmedkhlhnpaaGreatDoorW.PrintLast
set_option maxRecDepth 100000
set_option linter.unusedSimpArgs false
set_option linter.unusedVariables false
theorem own_addr {w : World} {base : Nat} {e : TypeId} {size n m c : Nat} {xs : List Value} {A : Option Addr} (h : w.ownsRow base e size (.slice A m c) n xs) {x : Addr} (hA : A = some x) : base ≤ x.block ∧ (∃ cur, w.heap[x.block]? = some (.cells cur e (0, 0))) ∧ x.block < w.heap.size := by
  subst hA
  rcases h.2 with ⟨h1, _⟩ | ⟨g, cap, cur, h1, hb, hh, _⟩
  · injection h1 with h1; cases h1
  · injection h1 with h1 _ _; injection h1 with h1; subst h1
    exact ⟨hb, ⟨cur, hh⟩, (Array.getElem?_eq_some_iff.1 hh).1⟩
theorem own_kept {w w1 : World} {base : Nat} {e : TypeId} {size n m c : Nat} {xs : List Value} {A : Option Addr} (h : w.ownsRow base e size (.slice A m c) n xs) (hk : ∀ x, A = some x → w1.heap[x.block]? = w.heap[x.block]?) : w1.ownsRow base e size (.slice A m c) n xs := by
  refine ⟨h.1, ?_⟩
  rcases h.2 with h1 | ⟨g, cap, cur, h1, hb, hh, hr⟩
  · exact .inl h1
  · refine .inr ⟨g, cap, cur, h1, hb, ?_, hr⟩
    injection h1 with h1 _ _
    exact (hk _ h1).trans hh
theorem own_le {w : World} {base : Nat} {e : TypeId} {size n c : Nat} {xs : List Value} {A : Option Addr} (h : w.ownsRow base e size (.slice A n c) n xs) : n ≤ 9223372036854775807 ∧ n ≤ c := by
  rcases h.2 with ⟨h1, h2⟩ | ⟨g, cap, cur, h1, hb, hh, h2, h3, _⟩
  · subst h2; exact ⟨by omega, by omega⟩
  · injection h1 with _ _ h4; subst h4; unfold maxLen at h3; exact ⟨by omega, h2⟩
theorem type_ne {w : World} {b g : Nat} {cur c : Array Value} {e T : TypeId} {fr : Nat × Nat} (h : w.heap[b]? = some (.cells cur e (0, 0))) (hg : w.heap[g]? = some (.cells c T fr)) (hn : e ≠ T) : b ≠ g := by
  rintro rfl
  rw [h] at hg; injection hg with hg; injection hg with _ h2; exact hn h2
/-- Two slices that lie apart. -/
def Apart (A B : Option Addr) : Prop := ∀ x y, A = some x → B = some y → x.block ≠ y.block
theorem Apart.symm {A B : Option Addr} (h : Apart A B) : Apart B A := fun x y hx hy e => h y x hy hx e.symm
theorem Apart.nil (A : Option Addr) : Apart none A := fun x y hx => by cases hx
/-- Where the new row of an append lies. -/
def LiesAt (w : World) (A B : Option Addr) : Prop := ∀ y, B = some y → (∃ x, A = some x ∧ y.block = x.block) ∨ y.block = w.heap.size
theorem ev_append_at {P : Program} {w : World} {oi : Oper} {N : Option Tmp} {a : Act} {K : Act → World → Prop} {Q : Exit → Act → World → Prop} {b : Bool} {B : Prop} (hw : b = true) (hN : oi.dst = N) (s x : Operand) (t : TypeId)
    (ho : oi.op = .call { callee := .builtin .append, args := #[s, x], argTypes := #[t, t] })
    (base : Nat) (e : TypeId) (z : Value) (size bytes : Nat) (ht : P.underlying t = some (.slice e)) (hinfo : (P.info? e).map (fun i => (i.zero, i.size, i.bytes)) = some (some z, size, bytes)) (hzs : z.cells.size = size) (hsz : 0 < size)
    (A : Option Addr) (n ca : Nat) (xs : List Value) (hs : a.eval s = .slice A n ca) (hown : w.ownsRow base e size (.slice A n ca) n xs)
    (ad : Addr) (m c : Nat) (news : List Value) (hx : a.eval x = .slice (some ad) m c) (hl : news.length = m * size) (hnews : ∀ j u, news[j]? = some u → w.cell? (ad.add j) = some u) (h1 : ∀ u ∈ news, u.oneCell' = true)
    (h63 : n + m ≤ maxLen) (hbytes : (n + m) * bytes ≤ 140737488355328) (hbase : base ≤ w.heap.size)
    (h : ∀ A' c' w', w'.ownsRow base e size (.slice A' (n + m) c') (n + m) (xs ++ news) → w.grownBy w' (Value.slice A n ca).ownBlock → LiesAt w A A' → K (a.put N (.slice A' (n + m) c')) w') : if b = true then oi.wp P a w K Q else B := by
  obtain ⟨i0, hi, hzz⟩ := Option.map_eq_some_iff.1 hinfo
  simp only [Prod.mk.injEq] at hzz
  obtain ⟨hz0, hz1, hz2⟩ := hzz
  subst hN
  refine ev_ hw ?_
  obtain ⟨v', w', hr, h2, h3, -, h5⟩ := run_append_own_at (P := P) w base t oi.type e i0 z size bytes ht hi hz0 hz1 hz2 hzs hsz (.slice A n ca) n xs hown ad m c news hl hnews h1 h63 hbytes hbase
  obtain ⟨A', c', rfl⟩ := own_slice h2
  unfold Oper.wp execOp
  simp only [ho, resolve, invoke, builtin, Sem.run_bind, Sem.run_pure, Result.andThen_ok, List.map_toArray, List.map_cons, List.map_nil, hs, hx, hr]
  refine h A' c' w' h2 h3 ?_
  rintro y rfl
  rcases h5 with h5 | h5
  · cases A with
    | none => simp [Value.ownBlock] at h5
    | some x => exact .inl ⟨x, rfl, by simpa [Value.ownBlock] using h5⟩
  · exact .inr (by simpa [Value.ownBlock] using h5)
theorem grown_kept {w w1 : World} {A : Option Addr} {n c k : Nat} (hgr : w.grownBy w1 (Value.slice A n c).ownBlock) (hk : k < w.heap.size) (hne : ∀ x, A = some x → k ≠ x.block) : w1.heap[k]? = w.heap[k]? :=
  hgr.block k hk (by
    cases A with
    | none => simp [Value.ownBlock]
    | some x => simpa [Value.ownBlock] using hne x rfl)
/-- An event that stores in the midst of a block. -/
theorem ev_storeMid {P : Program} {w : World} {oi : Oper} {a : Act} {K : Act → World → Prop} {Q : Exit → Act → World → Prop} {b : Bool} (hw : b = true) (hN : oi.dst = none) (t : TypeId) (x y : Operand) (ho : oi.op = .store t x y) (g o : Nat) (c : Array Value) (u v : Value) (T : TypeId)
    (hx : a.eval x = .pointer (some ⟨g, o, none⟩)) (hy : a.eval y = v) (hv : v.cells = #[v]) (h1c : v.oneCell' = true) (hg : w.heap[g]? = some (.cells c T (0, 0))) (hu : c[o]? = some u) (hi : (P.info? t).map (·.size) = some 1)
    (h : K a (w.setCell ⟨g, o, none⟩ v)) : if b = true then oi.wp P a w K Q else K (a.put none undef) w := by
  refine ev_ hw ?_
  have hr : (execOp a.eval oi).run P w = .ok .skip (w.setCell ⟨g, o, none⟩ v) := by
    have hs : (storeVar t ⟨g, o, none⟩ v).run P w = .ok () (w.setCell ⟨g, o, none⟩ v) := by
      have hc := cell_of_row w g o c T (0, 0) hg
      have hf : w.frozen? ⟨g, o, none⟩ = false := frozen_of_row w g o c T hg
      cases hq : P.info? t with
      | none => simp [hq] at hi
      | some i =>
        have h1 : i.size = 1 := by simpa [hq] using hi
        simp only [storeVar, hv, sizeOf, typeInfo, Sem.run_bind]
        have hc' : w.cell? ⟨g, o, none⟩ = some u := hc.trans hu
        simp [hq, h1, storeCells, Addr.add_mid, run_store (P := P) w ⟨g, o, none⟩ v _ h1c, stored, hc', hf]
    unfold execOp
    simp only [ho, hx, hy, Instr.storeAt, Instr.sureAddr, Sem.run_bind, Sem.run_pure, Result.andThen_ok, hs]
  unfold Oper.wp
  rw [hr]
  show K (a.put oi.dst undef) _
  rw [hN]
  exact h
theorem fill_one {s : Nat} (hs : 0 < s) (v : Value) (cells : Array Value) (hv : v.cells.size = s) (hc : cells.size = s) : Instr.fill (fun i => some (i * s, s)) cells [(0, v)] = some v.cells := by
  obtain ⟨r, hr, hsz, hk⟩ := Great.fill_dense hs [v] 0 cells (fun u hu => by rw [List.mem_singleton.1 hu]; exact hv) (by simp [hc])
  have e : ([v].zipIdx 0).map (fun x => (x.2, x.1)) = [(0, v)] := rfl
  rw [e] at hr
  rw [hr]
  congr 1
  refine Array.ext_getElem? fun k => ?_
  rw [hk k]
  by_cases h : k < s
  · rw [if_pos ⟨by omega, by simpa using h⟩, Nat.div_eq_of_lt h, Nat.mod_eq_of_lt h]; rfl
  · rw [if_neg (by simp; omega), Array.getElem?_eq_none (by omega), Array.getElem?_eq_none (by omega)]
theorem und23 : Tryz.prog.underlying 23 = some (.slice 41) := by kernel_rfl
theorem und24 : Tryz.prog.underlying 24 = some (.slice 60) := by kernel_rfl
theorem info41b : (Tryz.prog.info? 41).map (fun i => (i.size, i.bytes)) = some (32, 32) := by kernel_rfl
theorem info41z : ((Tryz.prog.info? 41).bind (·.zero)).map (·.cells.size) = some 32 := by kernel_rfl
theorem info41a : (Tryz.prog.info? 41).map (fun i => (i.zero, i.size, i.bytes)) = some (some (.agg (idv noId)), 32, 32) := by kernel_rfl
theorem info60a : (Tryz.prog.info? 60).map (fun i => (i.zero, i.size, i.bytes)) = some (some (.agg (updc ⟨[], noId, noId⟩).toArray), 65, 80) := by kernel_rfl
theorem run_new23 (w : World) (x : List UInt8) (hx : x.length = 32) : (Instr.buildSlice 23 1 #[(0, .agg (idv x))]).run Tryz.prog w = .ok (.slice (some ⟨w.heap.size, 0, none⟩) 1 1) (w.alloc (.cells (idv x) 41)) := by
  obtain ⟨i0, hi, hzz⟩ := Option.map_eq_some_iff.1 info41a
  simp only [Prod.mk.injEq] at hzz
  obtain ⟨hz0, hz1, hz2⟩ := hzz
  have hsz : (idv noId).size = 32 := by simp [idc_length, noId_length]
  have hszx : (idv x).size = 32 := by simp [idc_length, hx]
  refine run_buildSlice w 23 41 1 _ (idv x) i0 _ und23 hi hz0 (by rw [hz1]; omega) (by rw [hz1]; omega) ?_
  rw [hz1]
  exact fill_one (by omega) (.agg (idv x)) _ hszx (by simp)
theorem run_new24 (w : World) (u : Upd) (hu : u.ok) : (Instr.buildSlice 24 1 #[(0, .agg (updc u).toArray)]).run Tryz.prog w = .ok (.slice (some ⟨w.heap.size, 0, none⟩) 1 1) (w.alloc (.cells (updc u).toArray 60)) := by
  obtain ⟨i0, hi, hzz⟩ := Option.map_eq_some_iff.1 info60a
  simp only [Prod.mk.injEq] at hzz
  obtain ⟨hz0, hz1, hz2⟩ := hzz
  have hszx : (updc u).toArray.size = 65 := by simp [updc_length u hu]
  refine run_buildSlice w 24 60 1 _ (updc u).toArray i0 _ und24 hi hz0 (by rw [hz1]; omega) (by rw [hz1]; omega) ?_
  rw [hz1]
  exact fill_one (by omega) (.agg (updc u).toArray) _ hszx (by simp)
theorem op_new23 (ρ : Operand → Value) (dst : Option Tmp) (ty : TypeId) (pos : String) (after : Array Edge) (g : Option (Nat × Bool)) (w : World) (x : Operand) (l : List UInt8) (hl : l.length = 32) (hx : ρ x = .agg (idv l)) :
    (execOp ρ ⟨dst, .buildSlice 23 1 #[(0, x)], ty, pos, after, g⟩).run Tryz.prog w = .ok (.value (.slice (some ⟨w.heap.size, 0, none⟩) 1 1)) (w.alloc (.cells (idv l) 41)) := by
  unfold execOp
  simp only [List.map_toArray, List.map_cons, List.map_nil, hx, Sem.run_bind, run_new23 w l hl, Result.andThen_ok]
  rfl
theorem op_new24 (ρ : Operand → Value) (dst : Option Tmp) (ty : TypeId) (pos : String) (after : Array Edge) (g : Option (Nat × Bool)) (w : World) (x : Operand) (u : Upd) (hu : u.ok) (hx : ρ x = .agg (updc u).toArray) :
    (execOp ρ ⟨dst, .buildSlice 24 1 #[(0, x)], ty, pos, after, g⟩).run Tryz.prog w = .ok (.value (.slice (some ⟨w.heap.size, 0, none⟩) 1 1)) (w.alloc (.cells (updc u).toArray 60)) := by
  unfold execOp
  simp only [List.map_toArray, List.map_cons, List.map_nil, hx, Sem.run_bind, run_new24 w u hu, Result.andThen_ok]
  rfl
theorem cons_of {α : Type} {n : Nat} (l : List α) (h : l.length = n + 1) : ∃ a r, l = a :: r ∧ r.length = n := by
  cases l with
  | nil => simp at h
  | cons a r => exact ⟨a, r, rfl, by simpa using h⟩
theorem built60 (n o p : List UInt8) (ho : o.length = 32) (hp : p.length = 32) : Tryz.prog.built 60 [(0, .string (bs n)), (1, .agg (idv o)), (2, .agg (idv p))] = some (updc ⟨n, o, p⟩).toArray := by
  obtain ⟨x0, xr0, rfl, xh0⟩ := cons_of o ho
  obtain ⟨x1, xr1, rfl, xh1⟩ := cons_of xr0 xh0
  obtain ⟨x2, xr2, rfl, xh2⟩ := cons_of xr1 xh1
  obtain ⟨x3, xr3, rfl, xh3⟩ := cons_of xr2 xh2
  obtain ⟨x4, xr4, rfl, xh4⟩ := cons_of xr3 xh3
  obtain ⟨x5, xr5, rfl, xh5⟩ := cons_of xr4 xh4
  obtain ⟨x6, xr6, rfl, xh6⟩ := cons_of xr5 xh5
  obtain ⟨x7, xr7, rfl, xh7⟩ := cons_of xr6 xh6
  obtain ⟨x8, xr8, rfl, xh8⟩ := cons_of xr7 xh7
  obtain ⟨x9, xr9, rfl, xh9⟩ := cons_of xr8 xh8
  obtain ⟨x10, xr10, rfl, xh10⟩ := cons_of xr9 xh9
  obtain ⟨x11, xr11, rfl, xh11⟩ := cons_of xr10 xh10
  obtain ⟨x12, xr12, rfl, xh12⟩ := cons_of xr11 xh11
  obtain ⟨x13, xr13, rfl, xh13⟩ := cons_of xr12 xh12
  obtain ⟨x14, xr14, rfl, xh14⟩ := cons_of xr13 xh13
  obtain ⟨x15, xr15, rfl, xh15⟩ := cons_of xr14 xh14
  obtain ⟨x16, xr16, rfl, xh16⟩ := cons_of xr15 xh15
  obtain ⟨x17, xr17, rfl, xh17⟩ := cons_of xr16 xh16
  obtain ⟨x18, xr18, rfl, xh18⟩ := cons_of xr17 xh17
  obtain ⟨x19, xr19, rfl, xh19⟩ := cons_of xr18 xh18
  obtain ⟨x20, xr20, rfl, xh20⟩ := cons_of xr19 xh19
  obtain ⟨x21, xr21, rfl, xh21⟩ := cons_of xr20 xh20
  obtain ⟨x22, xr22, rfl, xh22⟩ := cons_of xr21 xh21
  obtain ⟨x23, xr23, rfl, xh23⟩ := cons_of xr22 xh22
  obtain ⟨x24, xr24, rfl, xh24⟩ := cons_of xr23 xh23
  obtain ⟨x25, xr25, rfl, xh25⟩ := cons_of xr24 xh24
  obtain ⟨x26, xr26, rfl, xh26⟩ := cons_of xr25 xh25
  obtain ⟨x27, xr27, rfl, xh27⟩ := cons_of xr26 xh26
  obtain ⟨x28, xr28, rfl, xh28⟩ := cons_of xr27 xh27
  obtain ⟨x29, xr29, rfl, xh29⟩ := cons_of xr28 xh28
  obtain ⟨x30, xr30, rfl, xh30⟩ := cons_of xr29 xh29
  obtain ⟨x31, xr31, rfl, xh31⟩ := cons_of xr30 xh30
  obtain rfl := List.length_eq_zero_iff.1 xh31
  obtain ⟨y0, yr0, rfl, yh0⟩ := cons_of p hp
  obtain ⟨y1, yr1, rfl, yh1⟩ := cons_of yr0 yh0
  obtain ⟨y2, yr2, rfl, yh2⟩ := cons_of yr1 yh1
  obtain ⟨y3, yr3, rfl, yh3⟩ := cons_of yr2 yh2
  obtain ⟨y4, yr4, rfl, yh4⟩ := cons_of yr3 yh3
  obtain ⟨y5, yr5, rfl, yh5⟩ := cons_of yr4 yh4
  obtain ⟨y6, yr6, rfl, yh6⟩ := cons_of yr5 yh5
  obtain ⟨y7, yr7, rfl, yh7⟩ := cons_of yr6 yh6
  obtain ⟨y8, yr8, rfl, yh8⟩ := cons_of yr7 yh7
  obtain ⟨y9, yr9, rfl, yh9⟩ := cons_of yr8 yh8
  obtain ⟨y10, yr10, rfl, yh10⟩ := cons_of yr9 yh9
  obtain ⟨y11, yr11, rfl, yh11⟩ := cons_of yr10 yh10
  obtain ⟨y12, yr12, rfl, yh12⟩ := cons_of yr11 yh11
  obtain ⟨y13, yr13, rfl, yh13⟩ := cons_of yr12 yh12
  obtain ⟨y14, yr14, rfl, yh14⟩ := cons_of yr13 yh13
  obtain ⟨y15, yr15, rfl, yh15⟩ := cons_of yr14 yh14
  obtain ⟨y16, yr16, rfl, yh16⟩ := cons_of yr15 yh15
  obtain ⟨y17, yr17, rfl, yh17⟩ := cons_of yr16 yh16
  obtain ⟨y18, yr18, rfl, yh18⟩ := cons_of yr17 yh17
  obtain ⟨y19, yr19, rfl, yh19⟩ := cons_of yr18 yh18
  obtain ⟨y20, yr20, rfl, yh20⟩ := cons_of yr19 yh19
  obtain ⟨y21, yr21, rfl, yh21⟩ := cons_of yr20 yh20
  obtain ⟨y22, yr22, rfl, yh22⟩ := cons_of yr21 yh21
  obtain ⟨y23, yr23, rfl, yh23⟩ := cons_of yr22 yh22
  obtain ⟨y24, yr24, rfl, yh24⟩ := cons_of yr23 yh23
  obtain ⟨y25, yr25, rfl, yh25⟩ := cons_of yr24 yh24
  obtain ⟨y26, yr26, rfl, yh26⟩ := cons_of yr25 yh25
  obtain ⟨y27, yr27, rfl, yh27⟩ := cons_of yr26 yh26
  obtain ⟨y28, yr28, rfl, yh28⟩ := cons_of yr27 yh27
  obtain ⟨y29, yr29, rfl, yh29⟩ := cons_of yr28 yh28
  obtain ⟨y30, yr30, rfl, yh30⟩ := cons_of yr29 yh29
  obtain ⟨y31, yr31, rfl, yh31⟩ := cons_of yr30 yh30
  obtain rfl := List.length_eq_zero_iff.1 yh31
  kernel_rfl
theorem op_build60 (ρ : Operand → Value) (dst : Option Tmp) (ty : TypeId) (pos : String) (after : Array Edge) (g : Option (Nat × Bool)) (w : World) (x y z : Operand) (n o p : List UInt8) (ho : o.length = 32) (hp : p.length = 32) (hx : ρ x = .string (bs n)) (hy : ρ y = .agg (idv o)) (hz : ρ z = .agg (idv p)) :
    (execOp ρ ⟨dst, .build 60 #[(0, x), (1, y), (2, z)], ty, pos, after, g⟩).run Tryz.prog w = .ok (.value (.agg (updc ⟨n, o, p⟩).toArray)) w := by
  unfold execOp
  simp only [List.map_toArray, List.map_cons, List.map_nil, hx, hy, hz, Sem.run_bind, run_build w 60 #[(0, .string (bs n)), (1, .agg (idv o)), (2, .agg (idv p))] _ (built60 n o p ho hp), Result.andThen_ok]
  rfl
structure ReqAt (m base g : Nat) (W : World) (q : Req) (a : ReqA) : Prop where
  hbg : base ≤ g
  hg : W.heap[g]? = some (.cells (reqc q a).toArray 26 (0, 0))
  caps : W.ownsRow base 9 1 (.slice a.a2 q.caps.length a.c2) q.caps.length (strc q.caps)
  wants : W.ownsRow base 41 32 (.slice a.a3 q.wants.length a.c3) q.wants.length (idsc q.wants)
  haves : W.ownsRow base 41 32 (.slice a.a4 q.haves.length a.c4) q.haves.length (idsc q.haves)
  common : W.ownsRow base 41 32 (.slice a.a5 q.common.length a.c5) q.common.length (idsc q.common)
  shallow : W.ownsRow base 41 32 (.slice a.a6 q.shallow.length a.c6) q.shallow.length (idsc q.shallow)
  updates : W.ownsRow base 60 65 (.slice a.a9 q.updates.length a.c9) q.updates.length (updsc q.updates)
  p34 : Apart a.a3 a.a4
  p35 : Apart a.a3 a.a5
  p36 : Apart a.a3 a.a6
  p45 : Apart a.a4 a.a5
  p46 : Apart a.a4 a.a6
  p56 : Apart a.a5 a.a6
  fit : ReqFit q
  lCaps : ∀ s ∈ q.caps, s.length ≤ 9223372036854775807
  n3 : q.wants.length ≤ m
  n4 : q.haves.length ≤ m
  n5 : q.common.length ≤ m
  n6 : q.shallow.length ≤ m
  n9 : q.updates.length ≤ m
  nData : q.data.length ≤ 9223372036854775807
theorem ReqAt.lt {m base g : Nat} {W : World} {q : Req} {a : ReqA} (h : ReqAt m base g W q a) : g < W.heap.size := (Array.getElem?_eq_some_iff.1 h.hg).1
theorem ReqAt.below {m base g : Nat} {W W1 : World} {q : Req} {a : ReqA} (h : ReqAt m base g W q a) (hb : Below W.heap.size W W1) : ReqAt m base g W1 q a :=
  ⟨h.hbg, (hb.block g h.lt).trans h.hg, own_below h.caps hb, own_below h.wants hb, own_below h.haves hb, own_below h.common hb, own_below h.shallow hb, own_below h.updates hb, h.p34, h.p35, h.p36, h.p45, h.p46, h.p56, h.fit, h.lCaps, h.n3, h.n4, h.n5, h.n6, h.n9, h.nData⟩
theorem ReqAt.drew {m base g : Nat} {W : World} {q : Req} {a : ReqA} (h : ReqAt m base g W q a) : ReqAt m base g W.drew q a :=
  ⟨h.hbg, h.hg, h.caps, h.wants, h.haves, h.common, h.shallow, h.updates, h.p34, h.p35, h.p36, h.p45, h.p46, h.p56, h.fit, h.lCaps, h.n3, h.n4, h.n5, h.n6, h.n9, h.nData⟩
theorem ReqAt.isReq {m base g : Nat} {W : World} {q : Req} {a : ReqA} (h : ReqAt m base g W q a) : IsReq W q a :=
  ⟨Rd.of_own h.caps, Rd.of_own h.wants, Rd.of_own h.haves, Rd.of_own h.common, Rd.of_own h.shallow, Rd.of_own h.updates, (own_le h.caps).1, h.lCaps, ⟨(own_le h.wants).1, h.fit.wants⟩, ⟨(own_le h.haves).1, h.fit.haves⟩, ⟨(own_le h.common).1, h.fit.common⟩, ⟨(own_le h.shallow).1, h.fit.shallow⟩, (own_le h.updates).1, h.fit.updates, h.nData⟩
theorem ReqAt.ne {m base g : Nat} {W : World} {q : Req} {a : ReqA} (h : ReqAt m base g W q a) {e : TypeId} (he : e ≠ 26) {size n c k : Nat} {xs : List Value} {A : Option Addr} (ho : W.ownsRow base e size (.slice A k c) n xs) : ∀ x, A = some x → x.block ≠ g := fun x hx => by
  obtain ⟨-, ⟨cur, hc⟩, -⟩ := own_addr ho hx
  exact type_ne hc h.hg he
theorem own_set {m base g o : Nat} {W : World} {q : Req} {a : ReqA} {v : Value} (h : ReqAt m base g W q a) {e : TypeId} (he : e ≠ 26) {size n c k : Nat} {xs : List Value} {A : Option Addr} (ho : W.ownsRow base e size (.slice A k c) n xs) : (W.setCell ⟨g, o, none⟩ v).ownsRow base e size (.slice A k c) n xs :=
  own_kept ho fun x hx => heap_setCell_other _ _ _ _ (h.ne he ho x hx)
theorem ReqAt.set_op {m base g : Nat} {W : World} {q : Req} {a : ReqA} (h : ReqAt m base g W q a) (n : Int) : ReqAt m base g (W.setCell ⟨g, 0, none⟩ (.int .i64 n)) { q with op := n } a :=
  ⟨h.hbg, heap_setCell_same W g 0 _ 26 _ h.hg, own_set h (by decide) h.caps, own_set h (by decide) h.wants, own_set h (by decide) h.haves, own_set h (by decide) h.common, own_set h (by decide) h.shallow, own_set h (by decide) h.updates, h.p34, h.p35, h.p36, h.p45, h.p46, h.p56, ⟨h.fit.wants, h.fit.haves, h.fit.common, h.fit.shallow, h.fit.updates⟩, h.lCaps, h.n3, h.n4, h.n5, h.n6, h.n9, h.nData⟩
theorem ReqAt.set_session {m base g : Nat} {W : World} {q : Req} {a : ReqA} (h : ReqAt m base g W q a) (n : Int) : ReqAt m base g (W.setCell ⟨g, 1, none⟩ (.int .i64 n)) { q with session := n } a :=
  ⟨h.hbg, heap_setCell_same W g 1 _ 26 _ h.hg, own_set h (by decide) h.caps, own_set h (by decide) h.wants, own_set h (by decide) h.haves, own_set h (by decide) h.common, own_set h (by decide) h.shallow, own_set h (by decide) h.updates, h.p34, h.p35, h.p36, h.p45, h.p46, h.p56, ⟨h.fit.wants, h.fit.haves, h.fit.common, h.fit.shallow, h.fit.updates⟩, h.lCaps, h.n3, h.n4, h.n5, h.n6, h.n9, h.nData⟩
theorem ReqAt.set_depth {m base g : Nat} {W : World} {q : Req} {a : ReqA} (h : ReqAt m base g W q a) (n : Int) : ReqAt m base g (W.setCell ⟨g, 7, none⟩ (.int .i64 n)) { q with depth := n } a :=
  ⟨h.hbg, heap_setCell_same W g 7 _ 26 _ h.hg, own_set h (by decide) h.caps, own_set h (by decide) h.wants, own_set h (by decide) h.haves, own_set h (by decide) h.common, own_set h (by decide) h.shallow, own_set h (by decide) h.updates, h.p34, h.p35, h.p36, h.p45, h.p46, h.p56, ⟨h.fit.wants, h.fit.haves, h.fit.common, h.fit.shallow, h.fit.updates⟩, h.lCaps, h.n3, h.n4, h.n5, h.n6, h.n9, h.nData⟩
theorem ReqAt.set_place {m base g : Nat} {W : World} {q : Req} {a : ReqA} (h : ReqAt m base g W q a) (n : Int) : ReqAt m base g (W.setCell ⟨g, 8, none⟩ (.int .i64 n)) { q with place := n } a :=
  ⟨h.hbg, heap_setCell_same W g 8 _ 26 _ h.hg, own_set h (by decide) h.caps, own_set h (by decide) h.wants, own_set h (by decide) h.haves, own_set h (by decide) h.common, own_set h (by decide) h.shallow, own_set h (by decide) h.updates, h.p34, h.p35, h.p36, h.p45, h.p46, h.p56, ⟨h.fit.wants, h.fit.haves, h.fit.common, h.fit.shallow, h.fit.updates⟩, h.lCaps, h.n3, h.n4, h.n5, h.n6, h.n9, h.nData⟩
theorem ReqAt.set_data {m base g : Nat} {W : World} {q : Req} {a : ReqA} (h : ReqAt m base g W q a) (l : List UInt8) (hl : l.length ≤ 9223372036854775807) : ReqAt m base g (W.setCell ⟨g, 10, none⟩ (.string (bs l))) { q with data := l } a :=
  ⟨h.hbg, heap_setCell_same W g 10 _ 26 _ h.hg, own_set h (by decide) h.caps, own_set h (by decide) h.wants, own_set h (by decide) h.haves, own_set h (by decide) h.common, own_set h (by decide) h.shallow, own_set h (by decide) h.updates, h.p34, h.p35, h.p36, h.p45, h.p46, h.p56, ⟨h.fit.wants, h.fit.haves, h.fit.common, h.fit.shallow, h.fit.updates⟩, h.lCaps, h.n3, h.n4, h.n5, h.n6, h.n9, hl⟩
theorem ReqAt.set_caps {m base g : Nat} {W : World} {q : Req} {a : ReqA} (h : ReqAt m base g W q a) (l : List (List UInt8)) (A : Option Addr) (c : Nat) (ho : W.ownsRow base 9 1 (.slice A l.length c) l.length (strc l)) (hl : ∀ s ∈ l, s.length ≤ 9223372036854775807) : ReqAt m base g (W.setCell ⟨g, 2, none⟩ (.slice A l.length c)) { q with caps := l } { a with a2 := A, c2 := c } :=
  ⟨h.hbg, heap_setCell_same W g 2 _ 26 _ h.hg, own_set h (by decide) ho, own_set h (by decide) h.wants, own_set h (by decide) h.haves, own_set h (by decide) h.common, own_set h (by decide) h.shallow, own_set h (by decide) h.updates, h.p34, h.p35, h.p36, h.p45, h.p46, h.p56, ⟨h.fit.wants, h.fit.haves, h.fit.common, h.fit.shallow, h.fit.updates⟩, hl, h.n3, h.n4, h.n5, h.n6, h.n9, h.nData⟩
theorem own_app {m base g o : Nat} {W W9 : World} {q : Req} {a : ReqA} {v : Value} (h : ReqAt m base g W q a) {A0 : Option Addr} {n0 c0 : Nat} (hgr : W.grownBy W9 (Value.slice A0 n0 c0).ownBlock) {e : TypeId} (he : e ≠ 26) {size n c k : Nat} {xs : List Value} {A : Option Addr} (ho : W.ownsRow base e size (.slice A k c) n xs) (hap : Apart A A0) : (W9.setCell ⟨g, o, none⟩ v).ownsRow base e size (.slice A k c) n xs :=
  own_kept ho fun x hx => (heap_setCell_other _ _ _ _ (h.ne he ho x hx)).trans (grown_kept hgr (own_addr ho hx).2.2 fun y hy => hap x y hx hy)
theorem apart_type {W : World} {b1 b2 : Nat} {e1 e2 : TypeId} {s1 s2 n1 n2 m1 m2 c1 c2 : Nat} {xs ys : List Value} {A B : Option Addr} (h1 : W.ownsRow b1 e1 s1 (.slice A m1 c1) n1 xs) (h2 : W.ownsRow b2 e2 s2 (.slice B m2 c2) n2 ys) (hn : e1 ≠ e2) : Apart A B := fun x y hx hy => by
  obtain ⟨-, ⟨cur, hc⟩, -⟩ := own_addr h1 hx
  obtain ⟨-, ⟨cur2, hc2⟩, -⟩ := own_addr h2 hy
  exact type_ne hc hc2 hn
theorem apart_lies {W : World} {b1 : Nat} {e1 : TypeId} {s1 n1 m1 c1 : Nat} {xs : List Value} {A A0 A9 : Option Addr} (h1 : W.ownsRow b1 e1 s1 (.slice A m1 c1) n1 xs) (hap : Apart A A0) (hat : LiesAt W A0 A9) : Apart A A9 := fun x y hx hy => by
  rcases hat y hy with ⟨z, hz, e⟩ | e
  · rw [e]; exact hap x z hx hz
  · rw [e]; exact Nat.ne_of_lt (own_addr h1 hx).2.2
theorem g_app {m base g : Nat} {W W9 : World} {q : Req} {a : ReqA} (h : ReqAt m base g W q a) {A0 : Option Addr} {n0 c0 : Nat} (hgr : W.grownBy W9 (Value.slice A0 n0 c0).ownBlock) {e : TypeId} (he : e ≠ 26) {size n : Nat} {xs : List Value} (ho : W.ownsRow base e size (.slice A0 n0 c0) n xs) : W9.heap[g]? = some (.cells (reqc q a).toArray 26 (0, 0)) :=
  (grown_kept hgr h.lt fun x hx e => h.ne he ho x hx e.symm).trans h.hg
theorem new_app {m base g o : Nat} {W W9 : World} {q : Req} {a : ReqA} {v : Value} (h : ReqAt m base g W q a) {A0 A9 : Option Addr} {n0 c0 : Nat} {e : TypeId} (he : e ≠ 26) {size n n9 c9 m9 : Nat} {xs ys : List Value} (ho : W.ownsRow base e size (.slice A0 n0 c0) n xs) (hat : LiesAt W A0 A9) (h9 : W9.ownsRow base e size (.slice A9 m9 c9) n9 ys) : (W9.setCell ⟨g, o, none⟩ v).ownsRow base e size (.slice A9 m9 c9) n9 ys :=
  own_kept h9 fun y hy => heap_setCell_other _ _ _ _ (by
    rcases hat y hy with ⟨z, hz, e⟩ | e
    · rw [e]; exact h.ne he ho z hz
    · rw [e]; exact Nat.ne_of_gt h.lt)
theorem ReqAt.add_wants {m base g : Nat} {W W9 : World} {q : Req} {a : ReqA} (h : ReqAt m base g W q a) (x : List UInt8) (hx : x.length = 32) (A9 : Option Addr) (c9 : Nat) (own9 : W9.ownsRow base 41 32 (.slice A9 (q.wants.length + 1) c9) (q.wants.length + 1) (idsc q.wants ++ idc x))
    (hgr : W.grownBy W9 (Value.slice a.a3 q.wants.length a.c3).ownBlock) (hat : LiesAt W a.a3 A9) : ReqAt (m + 1) base g (W9.setCell ⟨g, 3, none⟩ (.slice A9 (q.wants.length + 1) c9)) { q with wants := q.wants ++ [x] } { a with a3 := A9, c3 := c9 } := by
  have hlen : (q.wants ++ [x]).length = q.wants.length + 1 := by simp
  have hcs : idsc (q.wants ++ [x]) = idsc q.wants ++ idc x := by simp [idsc]
  have hcell : (reqc q a).toArray.setIfInBounds 3 (.slice A9 (q.wants.length + 1) c9) = (reqc { q with wants := q.wants ++ [x] } { a with a3 := A9, c3 := c9 }).toArray := by simp only [reqc, hlen]; rfl
  have hfit : ∀ y ∈ q.wants ++ [x], y.length = 32 := by
    intro y hy
    rcases List.mem_append.1 hy with hy | hy
    · exact h.fit.wants y hy
    · rw [List.mem_singleton.1 hy]; exact hx
  exact ⟨h.hbg, (heap_setCell_same W9 g 3 _ 26 _ (g_app h hgr (by decide) h.wants)).trans (by rw [hcell]), own_app h hgr (by decide) h.caps (apart_type h.caps h.wants (by decide)), by rw [hlen, hcs]; exact new_app h (by decide) h.wants hat own9, own_app h hgr (by decide) h.haves (h.p34.symm), own_app h hgr (by decide) h.common (h.p35.symm), own_app h hgr (by decide) h.shallow (h.p36.symm), own_app h hgr (by decide) h.updates (apart_type h.updates h.wants (by decide)), (apart_lies h.haves (h.p34.symm) hat).symm, (apart_lies h.common (h.p35.symm) hat).symm, (apart_lies h.shallow (h.p36.symm) hat).symm, h.p45, h.p46, h.p56, ⟨hfit, h.fit.haves, h.fit.common, h.fit.shallow, h.fit.updates⟩, h.lCaps, by rw [hlen]; have := h.n3; omega, Nat.le_succ_of_le h.n4, Nat.le_succ_of_le h.n5, Nat.le_succ_of_le h.n6, Nat.le_succ_of_le h.n9, h.nData⟩
theorem ReqAt.add_haves {m base g : Nat} {W W9 : World} {q : Req} {a : ReqA} (h : ReqAt m base g W q a) (x : List UInt8) (hx : x.length = 32) (A9 : Option Addr) (c9 : Nat) (own9 : W9.ownsRow base 41 32 (.slice A9 (q.haves.length + 1) c9) (q.haves.length + 1) (idsc q.haves ++ idc x))
    (hgr : W.grownBy W9 (Value.slice a.a4 q.haves.length a.c4).ownBlock) (hat : LiesAt W a.a4 A9) : ReqAt (m + 1) base g (W9.setCell ⟨g, 4, none⟩ (.slice A9 (q.haves.length + 1) c9)) { q with haves := q.haves ++ [x] } { a with a4 := A9, c4 := c9 } := by
  have hlen : (q.haves ++ [x]).length = q.haves.length + 1 := by simp
  have hcs : idsc (q.haves ++ [x]) = idsc q.haves ++ idc x := by simp [idsc]
  have hcell : (reqc q a).toArray.setIfInBounds 4 (.slice A9 (q.haves.length + 1) c9) = (reqc { q with haves := q.haves ++ [x] } { a with a4 := A9, c4 := c9 }).toArray := by simp only [reqc, hlen]; rfl
  have hfit : ∀ y ∈ q.haves ++ [x], y.length = 32 := by
    intro y hy
    rcases List.mem_append.1 hy with hy | hy
    · exact h.fit.haves y hy
    · rw [List.mem_singleton.1 hy]; exact hx
  exact ⟨h.hbg, (heap_setCell_same W9 g 4 _ 26 _ (g_app h hgr (by decide) h.haves)).trans (by rw [hcell]), own_app h hgr (by decide) h.caps (apart_type h.caps h.haves (by decide)), own_app h hgr (by decide) h.wants (h.p34), by rw [hlen, hcs]; exact new_app h (by decide) h.haves hat own9, own_app h hgr (by decide) h.common (h.p45.symm), own_app h hgr (by decide) h.shallow (h.p46.symm), own_app h hgr (by decide) h.updates (apart_type h.updates h.haves (by decide)), (apart_lies h.wants (h.p34) hat), h.p35, h.p36, (apart_lies h.common (h.p45.symm) hat).symm, (apart_lies h.shallow (h.p46.symm) hat).symm, h.p56, ⟨h.fit.wants, hfit, h.fit.common, h.fit.shallow, h.fit.updates⟩, h.lCaps, Nat.le_succ_of_le h.n3, by rw [hlen]; have := h.n4; omega, Nat.le_succ_of_le h.n5, Nat.le_succ_of_le h.n6, Nat.le_succ_of_le h.n9, h.nData⟩
theorem ReqAt.add_common {m base g : Nat} {W W9 : World} {q : Req} {a : ReqA} (h : ReqAt m base g W q a) (x : List UInt8) (hx : x.length = 32) (A9 : Option Addr) (c9 : Nat) (own9 : W9.ownsRow base 41 32 (.slice A9 (q.common.length + 1) c9) (q.common.length + 1) (idsc q.common ++ idc x))
    (hgr : W.grownBy W9 (Value.slice a.a5 q.common.length a.c5).ownBlock) (hat : LiesAt W a.a5 A9) : ReqAt (m + 1) base g (W9.setCell ⟨g, 5, none⟩ (.slice A9 (q.common.length + 1) c9)) { q with common := q.common ++ [x] } { a with a5 := A9, c5 := c9 } := by
  have hlen : (q.common ++ [x]).length = q.common.length + 1 := by simp
  have hcs : idsc (q.common ++ [x]) = idsc q.common ++ idc x := by simp [idsc]
  have hcell : (reqc q a).toArray.setIfInBounds 5 (.slice A9 (q.common.length + 1) c9) = (reqc { q with common := q.common ++ [x] } { a with a5 := A9, c5 := c9 }).toArray := by simp only [reqc, hlen]; rfl
  have hfit : ∀ y ∈ q.common ++ [x], y.length = 32 := by
    intro y hy
    rcases List.mem_append.1 hy with hy | hy
    · exact h.fit.common y hy
    · rw [List.mem_singleton.1 hy]; exact hx
  exact ⟨h.hbg, (heap_setCell_same W9 g 5 _ 26 _ (g_app h hgr (by decide) h.common)).trans (by rw [hcell]), own_app h hgr (by decide) h.caps (apart_type h.caps h.common (by decide)), own_app h hgr (by decide) h.wants (h.p35), own_app h hgr (by decide) h.haves (h.p45), by rw [hlen, hcs]; exact new_app h (by decide) h.common hat own9, own_app h hgr (by decide) h.shallow (h.p56.symm), own_app h hgr (by decide) h.updates (apart_type h.updates h.common (by decide)), h.p34, (apart_lies h.wants (h.p35) hat), h.p36, (apart_lies h.haves (h.p45) hat), h.p46, (apart_lies h.shallow (h.p56.symm) hat).symm, ⟨h.fit.wants, h.fit.haves, hfit, h.fit.shallow, h.fit.updates⟩, h.lCaps, Nat.le_succ_of_le h.n3, Nat.le_succ_of_le h.n4, by rw [hlen]; have := h.n5; omega, Nat.le_succ_of_le h.n6, Nat.le_succ_of_le h.n9, h.nData⟩
theorem ReqAt.add_shallow {m base g : Nat} {W W9 : World} {q : Req} {a : ReqA} (h : ReqAt m base g W q a) (x : List UInt8) (hx : x.length = 32) (A9 : Option Addr) (c9 : Nat) (own9 : W9.ownsRow base 41 32 (.slice A9 (q.shallow.length + 1) c9) (q.shallow.length + 1) (idsc q.shallow ++ idc x))
    (hgr : W.grownBy W9 (Value.slice a.a6 q.shallow.length a.c6).ownBlock) (hat : LiesAt W a.a6 A9) : ReqAt (m + 1) base g (W9.setCell ⟨g, 6, none⟩ (.slice A9 (q.shallow.length + 1) c9)) { q with shallow := q.shallow ++ [x] } { a with a6 := A9, c6 := c9 } := by
  have hlen : (q.shallow ++ [x]).length = q.shallow.length + 1 := by simp
  have hcs : idsc (q.shallow ++ [x]) = idsc q.shallow ++ idc x := by simp [idsc]
  have hcell : (reqc q a).toArray.setIfInBounds 6 (.slice A9 (q.shallow.length + 1) c9) = (reqc { q with shallow := q.shallow ++ [x] } { a with a6 := A9, c6 := c9 }).toArray := by simp only [reqc, hlen]; rfl
  have hfit : ∀ y ∈ q.shallow ++ [x], y.length = 32 := by
    intro y hy
    rcases List.mem_append.1 hy with hy | hy
    · exact h.fit.shallow y hy
    · rw [List.mem_singleton.1 hy]; exact hx
  exact ⟨h.hbg, (heap_setCell_same W9 g 6 _ 26 _ (g_app h hgr (by decide) h.shallow)).trans (by rw [hcell]), own_app h hgr (by decide) h.caps (apart_type h.caps h.shallow (by decide)), own_app h hgr (by decide) h.wants (h.p36), own_app h hgr (by decide) h.haves (h.p46), own_app h hgr (by decide) h.common (h.p56), by rw [hlen, hcs]; exact new_app h (by decide) h.shallow hat own9, own_app h hgr (by decide) h.updates (apart_type h.updates h.shallow (by decide)), h.p34, h.p35, (apart_lies h.wants (h.p36) hat), h.p45, (apart_lies h.haves (h.p46) hat), (apart_lies h.common (h.p56) hat), ⟨h.fit.wants, h.fit.haves, h.fit.common, hfit, h.fit.updates⟩, h.lCaps, Nat.le_succ_of_le h.n3, Nat.le_succ_of_le h.n4, Nat.le_succ_of_le h.n5, by rw [hlen]; have := h.n6; omega, Nat.le_succ_of_le h.n9, h.nData⟩
theorem ReqAt.add_updates {m base g : Nat} {W W9 : World} {q : Req} {a : ReqA} (h : ReqAt m base g W q a) (u : Upd) (hu : u.ok) (A9 : Option Addr) (c9 : Nat) (own9 : W9.ownsRow base 60 65 (.slice A9 (q.updates.length + 1) c9) (q.updates.length + 1) (updsc q.updates ++ updc u))
    (hgr : W.grownBy W9 (Value.slice a.a9 q.updates.length a.c9).ownBlock) (hat : LiesAt W a.a9 A9) : ReqAt (m + 1) base g (W9.setCell ⟨g, 9, none⟩ (.slice A9 (q.updates.length + 1) c9)) { q with updates := q.updates ++ [u] } { a with a9 := A9, c9 := c9 } := by
  have hlen : (q.updates ++ [u]).length = q.updates.length + 1 := by simp
  have hcs : updsc (q.updates ++ [u]) = updsc q.updates ++ updc u := by simp [updsc]
  have hcell : (reqc q a).toArray.setIfInBounds 9 (.slice A9 (q.updates.length + 1) c9) = (reqc { q with updates := q.updates ++ [u] } { a with a9 := A9, c9 := c9 }).toArray := by simp only [reqc, hlen]; rfl
  have hfit : ∀ y ∈ q.updates ++ [u], y.ok := by
    intro y hy
    rcases List.mem_append.1 hy with hy | hy
    · exact h.fit.updates y hy
    · rw [List.mem_singleton.1 hy]; exact hu
  exact ⟨h.hbg, (heap_setCell_same W9 g 9 _ 26 _ (g_app h hgr (by decide) h.updates)).trans (by rw [hcell]), own_app h hgr (by decide) h.caps (apart_type h.caps h.updates (by decide)), own_app h hgr (by decide) h.wants (apart_type h.wants h.updates (by decide)), own_app h hgr (by decide) h.haves (apart_type h.haves h.updates (by decide)), own_app h hgr (by decide) h.common (apart_type h.common h.updates (by decide)), own_app h hgr (by decide) h.shallow (apart_type h.shallow h.updates (by decide)), by rw [hlen, hcs]; exact new_app h (by decide) h.updates hat own9, h.p34, h.p35, h.p36, h.p45, h.p46, h.p56, ⟨h.fit.wants, h.fit.haves, h.fit.common, h.fit.shallow, hfit⟩, h.lCaps, Nat.le_succ_of_le h.n3, Nat.le_succ_of_le h.n4, Nat.le_succ_of_le h.n5, Nat.le_succ_of_le h.n6, by rw [hlen]; have := h.n9; omega, h.nData⟩
theorem ReqAt.mono {m m2 base g : Nat} {W : World} {q : Req} {a : ReqA} (h : ReqAt m base g W q a) (hm : m ≤ m2) : ReqAt m2 base g W q a :=
  ⟨h.hbg, h.hg, h.caps, h.wants, h.haves, h.common, h.shallow, h.updates, h.p34, h.p35, h.p36, h.p45, h.p46, h.p56, h.fit, h.lCaps, Nat.le_trans h.n3 hm, Nat.le_trans h.n4 hm, Nat.le_trans h.n5 hm, Nat.le_trans h.n6 hm, Nat.le_trans h.n9 hm, h.nData⟩
end Go.Proofs.YtmfpmedkhlhnpaaGreatDoor
