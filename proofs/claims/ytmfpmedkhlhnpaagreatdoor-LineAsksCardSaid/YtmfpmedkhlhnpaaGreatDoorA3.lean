import Derived.Test.YtmfpmedkhlhnpaaGreatDoorA2
import Derived.Laws.StructEq
/- What is asked, as data; ids and updates, held against each other. -/
namespace Go.Proofs.YtmfpmedkhlhnpaaGreatDoor
open Go.RowKit Go.Extern.Stop Go.Proofs.YtmfpmedkhlhnpaaGreatDoorW.PrintLast
set_option maxRecDepth 100000
set_option linter.unusedSimpArgs false
set_option linter.unusedVariables false
structure Upd where
  name : List UInt8
  old : List UInt8
  new : List UInt8
def updc (u : Upd) : List Value := .string (bs u.name) :: (idc u.old ++ idc u.new)
def Upd.ok (u : Upd) : Prop := u.old.length = 32 ∧ u.new.length = 32 ∧ u.name.length ≤ 9223372036854775807
theorem updc_length (u : Upd) (h : u.ok) : (updc u).length = 65 := by simp [updc, idc_length, h.1, h.2.1]
def updsc (l : List Upd) : List Value := l.flatMap updc
structure Req where
  op : Int
  session : Int
  caps : List (List UInt8)
  wants : List (List UInt8)
  haves : List (List UInt8)
  common : List (List UInt8)
  shallow : List (List UInt8)
  depth : Int
  place : Int
  updates : List Upd
  data : List UInt8
/-- Where a request's lists lie. -/
structure ReqA where
  (a2 a3 a4 a5 a6 a9 : Option Addr)
  (c2 c3 c4 c5 c6 c9 : Nat)
abbrev reqc (r : Req) (a : ReqA) : List Value := [.int .i64 r.op, .int .i64 r.session, .slice a.a2 r.caps.length a.c2, .slice a.a3 r.wants.length a.c3, .slice a.a4 r.haves.length a.c4, .slice a.a5 r.common.length a.c5, .slice a.a6 r.shallow.length a.c6, .int .i64 r.depth, .int .i64 r.place, .slice a.a9 r.updates.length a.c9, .string (bs r.data)]
def Ids (l : List (List UInt8)) : Prop := l.length ≤ 9223372036854775807 ∧ ∀ x ∈ l, x.length = 32
structure IsReq (w : World) (r : Req) (a : ReqA) : Prop where
  caps : Rd w a.a2 (strc r.caps)
  wants : Rd w a.a3 (idsc r.wants)
  haves : Rd w a.a4 (idsc r.haves)
  common : Rd w a.a5 (idsc r.common)
  shallow : Rd w a.a6 (idsc r.shallow)
  updates : Rd w a.a9 (updsc r.updates)
  nCaps : r.caps.length ≤ 9223372036854775807
  lCaps : ∀ s ∈ r.caps, s.length ≤ 9223372036854775807
  iWants : Ids r.wants
  iHaves : Ids r.haves
  iCommon : Ids r.common
  iShallow : Ids r.shallow
  nUpd : r.updates.length ≤ 9223372036854775807
  iUpd : ∀ u ∈ r.updates, u.ok
  nData : r.data.length ≤ 9223372036854775807
theorem IsReq.below {w w1 : World} {r : Req} {a : ReqA} (h : IsReq w r a) (hb : Below w.heap.size w w1) : IsReq w1 r a :=
  ⟨h.caps.below hb, h.wants.below hb, h.haves.below hb, h.common.below hb, h.shallow.below hb, h.updates.below hb, h.nCaps, h.lCaps, h.iWants, h.iHaves, h.iCommon, h.iShallow, h.nUpd, h.iUpd, h.nData⟩
/-- An element of some of one width, under a name. -/
theorem Rd.at {α : Type} {w : World} {A : Option Addr} {f : α → List Value} {n : Nat} (hn0 : 0 < n) {l : List α} (h : Rd w A (l.flatMap f)) (hl : ∀ x ∈ l, (f x).length = n) (k : Nat) (hk : k < l.length) : ∃ b o s, A = some ⟨b, o, none⟩ ∧ w.rangeAt b (o + k * n) (f s) ∧ l[k]? = some s := by
  have hs : l[k]? = some l[k] := List.getElem?_eq_getElem hk
  have hm : l[k] ∈ l := List.getElem_mem hk
  have hne : l.flatMap f ≠ [] := by
    intro h0
    have h1 := List.flatMap_eq_nil_iff.1 h0 _ hm
    have := hl _ hm
    rw [h1] at this
    simp at this
    omega
  obtain ⟨b, o, e, hr⟩ := h hne
  refine ⟨b, o, _, e, fun j v hj => ?_, hs⟩
  rw [Nat.add_assoc]
  exact hr _ _ (flat_at f n l k _ hl hs j v hj)
theorem info60s : (Tryz.prog.info? 60).map (·.size) = some 65 := by kernel_rfl
theorem und60 : Tryz.prog.underlying 60 = some (.struct (Tryz.prog.fieldsOf 60)) := by kernel_rfl
theorem stood60 : Tryz.prog.stoodInHeld 60 = false := by kernel_rfl
theorem eqg60 : Tryz.prog.eqGuardType Tryz.prog.depth 60 = false := by kernel_rfl
theorem fields60 : (Tryz.prog.fieldsOf 60).toList.map (fun f => (f.name == "_", f.type, f.offset)) = [(false, 9, 0), (false, 41, 1), (false, 41, 33)] := by kernel_rfl
theorem siz41 (w : World) : (sizeOf 41).run Tryz.prog w = .ok 32 w := by kernel_rfl
theorem part_id (w : World) (pre : List Value) (s post : List UInt8) (cs : List Value) (o : Nat) (ho : pre.length = o) (hs : s.length = 32) (hc : cs = pre ++ (idc s ++ idc post)) :
    (part 41 cs.toArray o).run Tryz.prog w = .ok (.agg (idv s)) w := by
  subst hc
  have hag : (isAgg 41).run Tryz.prog w = .ok true w := by
    unfold isAgg; rw [Sem.run_bind, run_underlying und41]; rfl
  unfold part
  simp only [Sem.run_bind, hag, Result.andThen_ok, siz41, if_true, Sem.run_pure]
  have : (List.toArray (pre ++ (idc s ++ idc post))).extract o (o + 32) = idv s := by
    apply Array.ext'
    simp only [Array.toList_extract, List.extract_eq_take_drop]
    rw [show o + 32 - o = 32 by omega, ← ho, List.drop_left, List.take_append_of_le_length (by rw [idc_length]; omega), List.take_of_length_le (by rw [idc_length]; omega)]
  rw [this]
theorem len3 {α : Type} (l : List α) (h : l.length = 3) : ∃ a b c, l = [a, b, c] := by
  cases l with
  | nil => simp at h
  | cons a l => cases l with
    | nil => simp at h
    | cons b l => cases l with
      | nil => simp at h
      | cons c l => cases l with
        | nil => exact ⟨a, b, c, rfl⟩
        | cons d l => simp at h
theorem eqIn_id (w : World) (s : List UInt8) (hs : s.length = 32) : (Op.equalIn (9997 + 2) 41 (.agg (idv s)) (.agg (idv s))).run Tryz.prog w = .ok true w := by
  have := run_equalIn_bytes (P := Tryz.prog) w 9997 41 5 32 und41 und5 siz5 s s hs hs
  rw [beq_self_eq_true] at this
  exact this
theorem eqIn_str (w : World) (s : List UInt8) : (Op.equalIn (9998 + 1) 9 (.string (bs s)) (.string (bs s))).run Tryz.prog w = .ok true w := by
  rw [run_equalIn_string w 9998 9 _ _ und9]; simp
theorem part_str (w : World) (s : List UInt8) (r : List Value) : (part 9 (Value.string (bs s) :: r).toArray 0).run Tryz.prog w = .ok (.string (bs s)) w := by
  have hag : (isAgg 9).run Tryz.prog w = .ok false w := by unfold isAgg; rw [Sem.run_bind, run_underlying und9]; rfl
  unfold part
  simp only [Sem.run_bind, hag, Result.andThen_ok]
  rfl
theorem eqFields_upd (w : World) (u : Upd) (h : u.ok) (f0 f1 f2 : Field) (n0 : (f0.name == "_") = false) (t0 : f0.type = 9) (o0 : f0.offset = 0) (n1 : (f1.name == "_") = false) (t1 : f1.type = 41) (o1 : f1.offset = 1) (n2 : (f2.name == "_") = false) (t2 : f2.type = 41) (o2 : f2.offset = 33) (d : Nat)
    (e0 : (Op.equalIn d 9 (.string (bs u.name)) (.string (bs u.name))).run Tryz.prog w = .ok true w) (e1 : ∀ s : List UInt8, s.length = 32 → (Op.equalIn d 41 (.agg (idv s)) (.agg (idv s))).run Tryz.prog w = .ok true w) :
    (Op.eqFields d (updc u).toArray (updc u).toArray [f0, f1, f2]).run Tryz.prog w = .ok true w := by
  have p0 : (part 9 (updc u).toArray 0).run Tryz.prog w = .ok (.string (bs u.name)) w := part_str w u.name _
  have p1 : (part 41 (updc u).toArray 1).run Tryz.prog w = .ok (.agg (idv u.old)) w := part_id w [.string (bs u.name)] u.old u.new _ 1 rfl h.1 rfl
  have p2 : (part 41 (updc u).toArray 33).run Tryz.prog w = .ok (.agg (idv u.new)) w := part_id w (.string (bs u.name) :: idc u.old) u.new [] _ 33 (by simp [idc_length, h.1]) h.2.1 (by simp [updc, idc])
  simp only [beq_eq_false_iff_ne] at n0 n1 n2
  unfold Op.eqFields Op.eqFields Op.eqFields Op.eqFields
  simp only [if_pos n0, if_pos n1, if_pos n2, t0, t1, t2, o0, o1, o2, Sem.run_bind, p0, p1, p2, e0, e1 _ h.1, e1 _ h.2.1, Result.andThen_ok, Bool.not_true, Bool.false_eq_true, if_false, Sem.run_pure]
theorem eq_upd_same (w : World) (u : Upd) (h : u.ok) : (Op.equalIn (9999 + 1) 60 (.agg (updc u).toArray) (.agg (updc u).toArray)).run Tryz.prog w = .ok true w := by
  rw [run_equalIn_struct (P := Tryz.prog) w 9999 60 _ _ und60 stood60]
  have hf := fields60
  have h3 : (Tryz.prog.fieldsOf 60).toList.length = 3 := by have := congrArg List.length hf; simpa using this
  generalize (Tryz.prog.fieldsOf 60).toList = L at hf h3 ⊢
  obtain ⟨f0, f1, f2, rfl⟩ := len3 L h3
  simp only [List.map_cons, List.map_nil, List.cons.injEq, Prod.mk.injEq, and_true] at hf
  obtain ⟨⟨n0, t0, o0⟩, ⟨n1, t1, o1⟩, ⟨n2, t2, o2⟩⟩ := hf
  exact eqFields_upd w u h f0 f1 f2 n0 t0 o0 n1 t1 o1 n2 t2 o2 9999 (eqIn_str w u.name) (fun s hs => eqIn_id w s hs)
section
variable (ρ : Operand → Value) (dst : Option Tmp) (ty : TypeId) (pos : String) (after : Array Edge) (g : Option (Nat × Bool)) (w : World)
theorem op_neq60_same (x y : Operand) (t : TypeId) (u : Upd) (h : u.ok) (hx : ρ x = .agg (updc u).toArray) (hy : ρ y = .agg (updc u).toArray) :
    (execOp ρ ⟨dst, .binOp .neq 60 x y t, ty, pos, after, g⟩).run Tryz.prog w = .ok (.value (.bool false)) w := by
  show (do let x ← (do eqGuard .neq 60 x y (ρ x) (ρ y); binOp .neq 60 (ρ x) (ρ y)); pure (Next.value x) : Sem Next).run Tryz.prog w = _
  rw [hx, hy, Sem.run_bind, Sem.run_bind]
  have he : (eqGuard .neq 60 x y (.agg (updc u).toArray) (.agg (updc u).toArray)).run Tryz.prog w = .ok () w := by
    simp [eqGuard, eqg60]
  rw [he]
  simp only [Result.andThen_ok]
  rw [run_neq_struct, show Op.equalIn 10000 60 (.agg (updc u).toArray) (.agg (updc u).toArray) = Op.equalIn (9999 + 1) 60 (.agg (updc u).toArray) (.agg (updc u).toArray) from rfl, eq_upd_same w u h]; rfl
theorem op_neq41_same (x y : Operand) (t : TypeId) (a : List UInt8) (ha : a.length = 32) (hx : ρ x = .agg (idv a)) (hy : ρ y = .agg (idv a)) :
    (execOp ρ ⟨dst, .binOp .neq 41 x y t, ty, pos, after, g⟩).run Tryz.prog w = .ok (.value (.bool false)) w := by
  show (do let x ← (do eqGuard .neq 41 x y (ρ x) (ρ y); binOp .neq 41 (ρ x) (ρ y)); pure (Next.value x) : Sem Next).run Tryz.prog w = _
  rw [hx, hy, Sem.run_bind, Sem.run_bind]
  have he : (eqGuard .neq 41 x y (.agg (idv a)) (.agg (idv a))).run Tryz.prog w = .ok () w := by
    simp [eqGuard]
  rw [he]
  simp only [Result.andThen_ok]
  have := run_equalIn_bytes (P := Tryz.prog) w 9998 41 5 32 und41 und5 siz5 a a ha ha
  rw [run_neq_struct]
  rw [beq_self_eq_true] at this
  rw [show Op.equalIn 10000 41 (.agg (idv a)) (.agg (idv a)) = Op.equalIn (9998 + 2) 41 (.agg (List.map cell a).toArray) (.agg (List.map cell a).toArray) from rfl, this]; rfl
/-- A whole value out of memory. -/
theorem op_load_mid (x : Operand) (t : TypeId) (b o : Nat) (cs : List Value) (d : TypeDesc) (hx : ρ x = .pointer (some ⟨b, o, none⟩)) (hc : w.rangeAt b o cs)
    (hu : Tryz.prog.underlying t = some d) (hd : d.isRow = true) (hi : (Tryz.prog.info? t).map (·.size) = some cs.length) :
    (execOp ρ ⟨dst, .load t x, ty, pos, after, g⟩).run Tryz.prog w = .ok (.value (.agg cs.toArray)) w := by
  show (do let x ← Instr.loadAt t (ρ x); pure (Next.value x) : Sem Next).run Tryz.prog w = _
  rw [hx, Sem.run_bind, run_loadAt_mid w b o t cs d hc hu hd hi]; rfl
end
end Go.Proofs.YtmfpmedkhlhnpaaGreatDoor
