import Derived.Test.YtmfpmedkhlhnpaaGreatDoorA4
import Derived.Test.YtmfpmedkhlhnpaaGreatDoorShelf
import Derived.Lib.LaidTab
import Derived.WalkSmall
/- What the library's functions want of the world; the writer's state. -/
namespace Go.Proofs.YtmfpmedkhlhnpaaGreatDoor
open Go.RowKit Go.Extern.Stop Go.Proofs.YtmfpmedkhlhnpaaGreatDoorW.PrintLast
set_option maxRecDepth 100000
set_option linter.unusedSimpArgs false
set_option linter.unusedVariables false
/-- The package-level variables that are read. -/
structure Env (w : World) : Prop where
  maxlen : ∃ m, w.cell? ⟨1, 0, none⟩ = some (.int .i64 m)
  pow : Lib.TabIs Tryz.prog w "internal/strconv.uint64pow10" .u64 Lib.pow10Tab
  syn : ∃ tp p, w.var? Tryz.prog "strconv.ErrSyntax" = some #[.iface tp p]
  rng : ∃ tp p, w.var? Tryz.prog "strconv.ErrRange" = some #[.iface tp p]
theorem var_below {w w1 : World} (hb : Below w.heap.size w w1) {n : String} {cs : Array Value} (h : w.var? Tryz.prog n = some cs) : w1.var? Tryz.prog n = some cs := by
  cases hg : Tryz.prog.globalNamed n with
  | none => unfold World.var? at h; rw [hg] at h; simp at h
  | some g =>
    refine var?_below hb hg ?_ h
    unfold World.var? at h
    rw [hg, Option.bind_some] at h
    rcases Nat.lt_or_ge g w.heap.size with h1 | h1
    · exact h1
    · rw [Array.getElem?_eq_none h1] at h
      simp at h
theorem Env.below {w w1 : World} (h : Env w) (hb : Below w.heap.size w w1) : Env w1 :=
  ⟨by obtain ⟨m, hm⟩ := h.maxlen; exact ⟨m, cell_below hb hm⟩, var_below hb h.pow, by obtain ⟨t, p, hv⟩ := h.syn; exact ⟨t, p, var_below hb hv⟩, by obtain ⟨t, p, hv⟩ := h.rng; exact ⟨t, p, var_below hb hv⟩⟩
theorem below_drewN {B : Nat} {w W : World} (h : Below B w W) (n : Nat) : Below B w (W.drewN n) := ⟨h.os, h.tape, h.output, h.size, h.block⟩
theorem below_grow (w : World) (q : Nat) (os : Array Obj) : Below w.heap.size w (Go.Sort.grow (w.drewN q) os) :=
  ⟨rfl, rfl, rfl, by first | (simp [Go.Sort.grow]; done) | (simp [Go.Sort.grow]; omega), fun i hi => by
    show ((w.drewN q).heap ++ os)[i]? = _
    rw [Array.getElem?_append_left (by show i < w.heap.size; omega)]
    rfl⟩
theorem itoa26_any (n : Nat) (hn : n ≤ 1000000000000000000) (w : World) (hE : Env w) :
    Calls Tryz.prog 26 #[.int .i64 (n : Int)] w fun e w' => e = .returned (.string (bs (Lib.decDigits n))) ∧ Below w.heap.size w w' :=
  (Tryz.strconv_Itoa (n : Int) (by omega) (by omega) w hE.pow).mono fun e w' ⟨he, k, os, hw⟩ => by
    subst hw
    refine ⟨?_, below_grow w k os⟩
    rw [he, Lib.itoa, if_neg (by omega), Int.toNat_natCast]
/-- A line. -/
structure Pk where
  kind : Int
  load : List UInt8
abbrev pkc (p : Pk) : List Value := [.int .i64 p.kind, .string (bs p.load)]
def pksc (l : List Pk) : List Value := l.flatMap pkc
theorem pksc_append (l m : List Pk) : pksc (l ++ m) = pksc l ++ pksc m := by simp [pksc]
theorem und63 : Tryz.prog.underlying 63 = some (.slice 73) := by kernel_rfl
theorem info73 : (Tryz.prog.info? 73).map (fun i => (i.zero, i.size, i.bytes)) = some (some (.agg #[.int .i64 0, .string ⟨#[]⟩]), 2, 24) := by kernel_rfl
/-- The writer at block g has these lines. -/
def Wr (base g : Nat) (W : World) (ls : List Pk) : Prop := base ≤ g ∧ ∃ v, W.heap[g]? = some (.cells #[v] 65 (0, 0)) ∧ W.ownsRow base 73 2 v ls.length (pksc ls)
theorem own_ne {W : World} {base g : Nat} {v u : Value} {n : Nat} {xs : List Value} (hg : W.heap[g]? = some (.cells #[u] 65 (0, 0))) (h : W.ownsRow base 73 2 v n xs) : v.ownBlock ≠ some g := by
  intro e
  rcases h.2 with ⟨rfl, _⟩ | ⟨g', cap, cur, rfl, _, hh, _⟩
  · simp [Value.ownBlock] at e
  · have : g' = g := by simpa [Value.ownBlock] using e
    subst this
    rw [hg] at hh
    injection hh with hh
    injection hh with _ ht
    exact absurd ht (by decide)
theorem Wr.lt {base g : Nat} {W : World} {ls : List Pk} (h : Wr base g W ls) : g < W.heap.size := by
  obtain ⟨_, v, hg, _⟩ := h
  exact (Array.getElem?_eq_some_iff.1 hg).1
theorem Wr.below {base g : Nat} {W W1 : World} {ls : List Pk} (h : Wr base g W ls) (hb : Below W.heap.size W W1) : Wr base g W1 ls := by
  have hlt := h.lt
  obtain ⟨hbg, v, hg, ho⟩ := h
  exact ⟨hbg, v, by rw [hb.block g hlt]; exact hg, own_below ho hb⟩
theorem setCell_block (W : World) (g k : Nat) (v : Value) (hk : k ≠ g) : (W.setCell ⟨g, 0, none⟩ v).heap[k]? = W.heap[k]? := by
  simp [World.setCell, Array.getElem?_modify, Ne.symm hk]
theorem setCell_at (W : World) (g : Nat) (u v : Value) (t : TypeId) (hg : W.heap[g]? = some (.cells #[u] t (0, 0))) : (W.setCell ⟨g, 0, none⟩ v).heap[g]? = some (.cells #[v] t (0, 0)) := by
  simp [World.setCell, Array.getElem?_modify, hg]
theorem Wr.stored {base g : Nat} {W : World} {u v : Value} {ls : List Pk} (hbg : base ≤ g) (hg : W.heap[g]? = some (.cells #[u] 65 (0, 0))) (ho : W.ownsRow base 73 2 v ls.length (pksc ls)) : Wr base g (W.setCell ⟨g, 0, none⟩ v) ls := by
  refine ⟨hbg, v, setCell_at W g u v 65 hg, ?_⟩
  have hne := own_ne hg ho
  refine ⟨ho.1, ?_⟩
  rcases ho.2 with h | ⟨g', cap, cur, rfl, h1, h2, h3⟩
  · exact .inl h
  · refine .inr ⟨g', cap, cur, rfl, h1, ?_, h3⟩
    rw [setCell_block W g g' _ (fun e => hne (by simp [Value.ownBlock, e]))]
    exact h2
/-- A store into a block of one cell. -/
theorem ev_store1 {P : Program} {w : World} {oi : Oper} {a : Act} {K : Act → World → Prop} {Q : Exit → Act → World → Prop} {b : Bool} (hw : b = true) (hN : oi.dst = none) (t : TypeId) (x y : Operand) (ho : oi.op = .store t x y) (g : Nat) (u v : Value) (T : TypeId)
    (hx : a.eval x = .pointer (some ⟨g, 0, none⟩)) (hy : a.eval y = v) (hv : v.cells = #[v]) (h1c : v.oneCell' = true) (hg : w.heap[g]? = some (.cells #[u] T (0, 0))) (hi : (P.info? t).map (·.size) = some 1)
    (h : K a (w.setCell ⟨g, 0, none⟩ v)) : if b = true then oi.wp P a w K Q else K (a.put none undef) w := by
  refine ev_ hw ?_
  have hr : (execOp a.eval oi).run P w = .ok .skip (w.setCell ⟨g, 0, none⟩ v) := by
    have hs : (storeVar t ⟨g, 0, none⟩ v).run P w = .ok () (w.setCell ⟨g, 0, none⟩ v) := by
      have hc := cell_of_row w g 0 #[u] T (0, 0) hg
      have hf : w.frozen? ⟨g, 0, none⟩ = false := by simp [World.frozen?, hg]
      cases hq : P.info? t with
      | none => simp [hq] at hi
      | some i =>
        have h1 : i.size = 1 := by simpa [hq] using hi
        simp only [storeVar, hv, sizeOf, typeInfo, Sem.run_bind]
        have hc' : w.cell? ⟨g, 0, none⟩ = some u := by simpa using hc
        simp [hq, h1, storeCells, Addr.add_mid, run_store (P := P) w ⟨g, 0, none⟩ v _ h1c, stored, hc', hf]
    unfold execOp
    simp only [ho, hx, hy, Instr.storeAt, Instr.sureAddr, Sem.run_bind, Sem.run_pure, Result.andThen_ok, hs]
  unfold Oper.wp
  rw [hr]
  show K (a.put oi.dst undef) _
  rw [hN]
  exact h
end Go.Proofs.YtmfpmedkhlhnpaaGreatDoor
