import Derived.Test.YtmfpmedkhlhnpaaGreatDoorT3
import Derived.Deep.Slices
import Derived.OpenShut
import Derived.ChangeSame
/- What a request that is handed in reads as: where its lists lie. -/
namespace Go.Proofs.YtmfpmedkhlhnpaaGreatDoor
open Go.RowKit Go.Extern.Stop Go.Proofs.YtmfpmedkhlhnpaaGreatDoorW.PrintLast Go.ChangeShapes Go.WideShapes
set_option maxRecDepth 100000
set_option linter.unusedSimpArgs false
set_option linter.unusedVariables false
theorem flat_back {α : Type} (f : α → List Value) (n : Nat) (hn0 : 0 < n) : ∀ (l : List α) (j : Nat) (v : Value), (∀ x ∈ l, (f x).length = n) → (l.flatMap f)[j]? = some v → ∃ i x r, l[i]? = some x ∧ j = i * n + r ∧ r < n ∧ (f x)[r]? = some v
  | [], j, v, _, h => by simp at h
  | a :: l, j, v, hl, h => by
    have ha := hl a (List.mem_cons_self ..)
    rw [List.flatMap_cons] at h
    by_cases hj : j < n
    · rw [List.getElem?_append_left (by omega)] at h
      exact ⟨0, a, j, rfl, by omega, hj, h⟩
    · rw [List.getElem?_append_right (by omega), ha] at h
      obtain ⟨i, x, r, h1, h2, h3, h4⟩ := flat_back f n hn0 l (j - n) v (fun x hx => hl x (List.mem_cons_of_mem _ hx)) h
      refine ⟨i + 1, x, r, by simpa using h1, ?_, h3, h4⟩
      rw [Nat.add_mul, Nat.one_mul]; omega
theorem strc_flat : ∀ l : List (List UInt8), l.flatMap (fun s : List UInt8 => [(.string (bs s) : Value)]) = strc l
  | [] => rfl
  | a :: r => by rw [List.flatMap_cons, strc_flat r]; rfl
section
variable {H : Type} {enc : TypeId × Value → H} {w : World} {base : Nat} {spare : Nat → Bool} {held : Bool}
theorem open_rd {α : Type} [Inhabited α] {t e : TypeId} {fuel : Nat} {cs : List Value} {x : DataW H × List MemPlace} (ht : Tryz.prog.underlying t = some (.slice e)) {n : Nat} (hn : Tryz.prog.cellsOf e = n) (hn0 : 0 < n) (f : α → List Value) (Q : α → Prop)
    (hE : ∀ fuel cs y, DataW.trod enc Tryz.prog w base spare held fuel e cs = some y → ∃ x, Q x ∧ cs = f x) (h : DataW.trod enc Tryz.prog w base spare held fuel t cs = some x) :
    ∃ (A : Option Addr) (l : List α) (c : Nat), cs = [.slice A l.length c] ∧ (∀ x ∈ l, Q x) ∧ Rd w A (l.flatMap f) ∧ l.length ≤ c ∧ c ≤ maxLen := by
  rcases Go.Deep.open_slice ht h with ⟨rfl, -⟩ | ⟨a, len, cap, m, n', D, Pl, rfl, hb, hl, hm, hmm, -, hx⟩
  · exact ⟨none, [], 0, rfl, by simp, fun hn => absurd rfl hn, Nat.le_refl _, Nat.zero_le _⟩
  · have hlm : len ≤ m := by rw [hmm]; split <;> omega
    have each : ∀ i, i < len → ∃ y : α, Q y ∧ ∃ cs', cs' = f y ∧ cs'.length = n ∧ ∀ r, r < n → w.cell? ((a.add (i * n)).add r) = cs'[r]? := fun i hi => by
      obtain ⟨cs', h1, h2⟩ := hx i (by omega)
      rw [hn] at h1
      obtain ⟨_, h3, h4⟩ := World.cells?_some h1
      obtain ⟨y, hy, e2⟩ := hE _ _ _ h2
      exact ⟨y, hy, cs', e2, h3, h4⟩
    have hch : ∃ V : Nat → α, ∀ i, i < len → Q (V i) ∧ ∃ cs', cs' = f (V i) ∧ cs'.length = n ∧ ∀ r, r < n → w.cell? ((a.add (i * n)).add r) = cs'[r]? :=
      ⟨fun i => if h : i < len then Classical.choose (each i h) else default, fun i hi => by
        simp only [dif_pos hi]
        exact Classical.choose_spec (each i hi)⟩
    obtain ⟨V, hV⟩ := hch
    have hlen : ((List.range len).map V).length = len := by simp
    have hmem : ∀ y ∈ (List.range len).map V, ∃ i, i < len ∧ y = V i := fun y hy => by
      obtain ⟨i, hi, rfl⟩ := List.mem_map.1 hy
      exact ⟨i, List.mem_range.1 hi, rfl⟩
    have hfl : ∀ y ∈ (List.range len).map V, (f y).length = n := fun y hy => by
      obtain ⟨i, hi, rfl⟩ := hmem y hy
      obtain ⟨_, cs', e2, h3, _⟩ := hV i hi
      rw [← e2]; exact h3
    refine ⟨some a, (List.range len).map V, cap, by rw [hlen], fun y hy => by obtain ⟨i, hi, rfl⟩ := hmem y hy; exact (hV i hi).1, ?_, by rw [hlen]; exact hl, hm⟩
    intro hne
    have hlp : 0 < len := by
      rcases Nat.eq_zero_or_pos len with h0 | h0
      · subst h0; exact absurd rfl hne
      · exact h0
    obtain ⟨b, o, sp⟩ := a
    have hsp : sp = none := by
      obtain ⟨_, cs', _, h3, h4⟩ := hV 0 hlp
      have h5 := h4 0 hn0
      have h6 : cs'[0]? = some (cs'[0]'(by omega)) := List.getElem?_eq_getElem (by omega)
      rw [h6] at h5
      cases sp with
      | none => rfl
      | some s =>
        have : w.cell? ⟨b, o, some s⟩ = none := by
          unfold World.cell?
          split <;> simp
        rw [Nat.zero_mul] at h5
        have e0 : (⟨b, o, some s⟩ : Addr).add 0 = ⟨b, o, some s⟩ := rfl
        rw [e0, e0, this] at h5
        cases h5
    subst hsp
    refine ⟨b, o, rfl, fun j v hj => ?_⟩
    obtain ⟨i, y, r, h1, h2, h3, h4⟩ := flat_back f n hn0 _ j v hfl hj
    have hi : i < len := by have := (List.getElem?_eq_some_iff.1 h1).1; simpa using this
    have hy : y = V i := by
      rw [List.getElem?_map, List.getElem?_range hi] at h1
      simpa using h1.symm
    subst hy
    obtain ⟨_, cs', e2, h5, h6⟩ := hV i hi
    have h7 := h6 r h3
    rw [Addr.add_mid, Addr.add_mid, e2, h4, Nat.add_assoc, ← h2] at h7
    exact h7
theorem cells9 : Tryz.prog.cellsOf 9 = 1 := by kernel_rfl
theorem cells5 : Tryz.prog.cellsOf 5 = 1 := by kernel_rfl
theorem cells41 : Tryz.prog.cellsOf 41 = 32 := by kernel_rfl
theorem cells60 : Tryz.prog.cellsOf 60 = 65 := by kernel_rfl
theorem cells26 : Tryz.prog.cellsOf 26 = 11 := by kernel_rfl
theorem cells22 : Tryz.prog.cellsOf 22 = 1 := by kernel_rfl
theorem cells23 : Tryz.prog.cellsOf 23 = 1 := by kernel_rfl
theorem cells24 : Tryz.prog.cellsOf 24 = 1 := by kernel_rfl
theorem cells3 : Tryz.prog.cellsOf 3 = 1 := by kernel_rfl
theorem und3 : Tryz.prog.underlying 3 = some (.int .i64) := by kernel_rfl
theorem open_str {fuel : Nat} {cs : List Value} {y : DataW H × List MemPlace} (h : DataW.trod enc Tryz.prog w base spare held fuel 9 cs = some y) : ∃ s : List UInt8, s.length ≤ 9223372036854775807 ∧ cs = [.string (bs s)] := by
  obtain ⟨s, rfl, -, hs⟩ := DataW.trod_string und9 h
  exact ⟨s.data.toList, by unfold maxLen at hs; exact hs, rfl⟩
theorem open_id {fuel : Nat} {cs : List Value} {y : DataW H × List MemPlace} (h : DataW.trod enc Tryz.prog w base spare held fuel 41 cs = some y) : ∃ l : List UInt8, l.length = 32 ∧ cs = idc l := by
  obtain ⟨xs, m, -, -, hlen, hxl, hel⟩ := DataW.trod_array und41 h
  rw [cells41] at hlen
  have each : ∀ i, i < 32 → ∃ c : UInt8, cs[i]? = some (cell c) := fun i hi => by
    have h1 := hel i hi
    rw [cells5, Nat.mul_one] at h1
    have h2 : (cs.drop i).take 1 = [cs[i]'(by omega)] := by rw [List.drop_eq_getElem_cons (by omega)]; rfl
    rw [h2, List.getElem?_eq_getElem (by omega)] at h1
    obtain ⟨n, e1, -, hw⟩ := DataW.trod_int und5 h1
    have hn : 0 ≤ n ∧ n < 256 := by
      have hw2 := hw
      have e1 : IntKind.u8.min = 0 := by decide
      have e2 : IntKind.u8.max = 255 := by decide
      simp [Lit.wf] at hw2
      omega
    refine ⟨UInt8.ofNat n.toNat, ?_⟩
    rw [List.getElem?_eq_getElem (by omega)]
    have e2 : cs[i]'(by omega) = .int .u8 n := by injection e1
    rw [e2, ofNat_cell, UInt8.toNat_ofNat', Nat.mod_eq_of_lt (by omega), Int.toNat_of_nonneg hn.1]
  have hch : ∃ V : Nat → UInt8, ∀ i, i < 32 → cs[i]? = some (cell (V i)) := ⟨fun i => if h : i < 32 then Classical.choose (each i h) else 0, fun i hi => by
    simp only [dif_pos hi]; exact Classical.choose_spec (each i hi)⟩
  obtain ⟨V, hV⟩ := hch
  refine ⟨(List.range 32).map V, by simp, List.ext_getElem? fun i => ?_⟩
  by_cases hi : i < 32
  · rw [hV i hi, idc, List.getElem?_map, List.getElem?_map, List.getElem?_range hi]; rfl
  · rw [List.getElem?_eq_none (by omega), List.getElem?_eq_none (by simp [idc]; omega)]
theorem fields60a : ((Tryz.prog.fieldsOf 60)[0]?).map (fun f => (f.type, f.offset)) = some (9, 0) ∧ ((Tryz.prog.fieldsOf 60)[1]?).map (fun f => (f.type, f.offset)) = some (41, 1) ∧ ((Tryz.prog.fieldsOf 60)[2]?).map (fun f => (f.type, f.offset)) = some (41, 33) ∧ (Tryz.prog.fieldsOf 60).size = 3 := ⟨by kernel_rfl, by kernel_rfl, by kernel_rfl, by kernel_rfl⟩
/-- A field of a struct that is read. -/
theorem open_field {fs : Array Field} {cs : List Value} {xs : List (DataW H × List MemPlace)} {n : Nat} (hl : xs.length = fs.size) (hg : ∀ (i : Nat) (f : Field), fs[i]? = some f → DataW.trod enc Tryz.prog w base spare held n f.type ((cs.drop f.offset).take (Tryz.prog.cellsOf f.type)) = xs[i]?)
    (i : Nat) (T o : Nat) (hf : (fs[i]?).map (fun f => (f.type, f.offset)) = some (T, o)) : ∃ y, DataW.trod enc Tryz.prog w base spare held n T ((cs.drop o).take (Tryz.prog.cellsOf T)) = some y := by
  obtain ⟨f, h1, h2⟩ := Option.map_eq_some_iff.1 hf
  simp only [Prod.mk.injEq] at h2
  have h3 := hg i f h1
  have hi := (Array.getElem?_eq_some_iff.1 h1).1
  rw [h2.1, h2.2, List.getElem?_eq_getElem (by omega)] at h3
  exact ⟨_, h3⟩
theorem open_upd {fuel : Nat} {cs : List Value} {y : DataW H × List MemPlace} (h : DataW.trod enc Tryz.prog w base spare held fuel 60 cs = some y) : ∃ u : Upd, u.ok ∧ cs = updc u := by
  obtain ⟨xs, n, -, -, hlen, hxl, hg⟩ := DataW.trod_struct und60 h
  rw [cells60] at hlen
  obtain ⟨f0, f1, f2, fz⟩ := fields60a
  obtain ⟨y0, h0⟩ := open_field hxl hg 0 9 0 f0
  obtain ⟨y1, h1⟩ := open_field hxl hg 1 41 1 f1
  obtain ⟨y2, h2⟩ := open_field hxl hg 2 41 33 f2
  rw [cells9] at h0
  rw [cells41] at h1 h2
  obtain ⟨s, hs, e0⟩ := open_str h0
  obtain ⟨o, ho, e1⟩ := open_id h1
  obtain ⟨p, hp, e2⟩ := open_id h2
  refine ⟨⟨s, o, p⟩, ⟨ho, hp, hs⟩, ?_⟩
  have ha : cs = (cs.drop 0).take 1 ++ ((cs.drop 1).take 32 ++ (cs.drop 33).take 32) := by
    have h33 : (cs.drop 33).take 32 = cs.drop 33 := List.take_of_length_le (by rw [List.length_drop]; omega)
    have h1b : (cs.drop 1).take 32 ++ cs.drop 33 = cs.drop 1 := by
      have := List.take_append_drop 32 (cs.drop 1)
      rwa [List.drop_drop] at this
    rw [h33, h1b, List.drop_zero, List.take_append_drop]
  rw [ha, e0, e1, e2]; rfl
instance : Inhabited Upd := ⟨⟨[], [], []⟩⟩
theorem open_strs {fuel : Nat} {v : Value} {y : DataW H × List MemPlace} (h : DataW.trod enc Tryz.prog w base spare held fuel 22 [v] = some y) :
    ∃ (A : Option Addr) (l : List (List UInt8)) (c : Nat), v = .slice A l.length c ∧ (∀ s ∈ l, s.length ≤ 9223372036854775807) ∧ Rd w A (strc l) ∧ l.length ≤ c ∧ c ≤ 9223372036854775807 := by
  obtain ⟨A, l, c, e, hQ, hR, hlc, hcm⟩ := open_rd und22 cells9 (by omega) (fun s : List UInt8 => [.string (bs s)]) (fun s => s.length ≤ 9223372036854775807) (fun _ _ _ h => open_str h) h
  injection e with e
  refine ⟨A, l, c, e, hQ, ?_, hlc, by unfold maxLen at hcm; exact hcm⟩
  rwa [strc_flat] at hR
theorem open_ids {fuel : Nat} {v : Value} {y : DataW H × List MemPlace} (h : DataW.trod enc Tryz.prog w base spare held fuel 23 [v] = some y) :
    ∃ (A : Option Addr) (l : List (List UInt8)) (c : Nat), v = .slice A l.length c ∧ Ids l ∧ Rd w A (idsc l) := by
  obtain ⟨A, l, c, e, hQ, hR, hlc, hcm⟩ := open_rd und23 cells41 (by omega) idc (fun s => s.length = 32) (fun _ _ _ h => open_id h) h
  injection e with e
  exact ⟨A, l, c, e, ⟨by unfold maxLen at hcm; omega, hQ⟩, hR⟩
theorem open_upds {fuel : Nat} {v : Value} {y : DataW H × List MemPlace} (h : DataW.trod enc Tryz.prog w base spare held fuel 24 [v] = some y) :
    ∃ (A : Option Addr) (l : List Upd) (c : Nat), v = .slice A l.length c ∧ l.length ≤ 9223372036854775807 ∧ (∀ u ∈ l, u.ok) ∧ Rd w A (updsc l) := by
  obtain ⟨A, l, c, e, hQ, hR, hlc, hcm⟩ := open_rd und24 cells60 (by omega) updc Upd.ok (fun _ _ _ h => open_upd h) h
  injection e with e
  exact ⟨A, l, c, e, by unfold maxLen at hcm; omega, hQ, hR⟩
theorem one_field {cs : List Value} {o : Nat} (h : o < cs.length) : (cs.drop o).take 1 = [cs[o]] := by rw [List.drop_eq_getElem_cons h]; rfl
theorem fields26 : (Tryz.prog.fieldsOf 26).toList.map (fun f => (f.type, f.offset)) = [(3, 0), (3, 1), (22, 2), (23, 3), (23, 4), (23, 5), (23, 6), (3, 7), (3, 8), (24, 9), (9, 10)] := by kernel_rfl
theorem field_at {fs : Array Field} {l : List (Nat × Nat)} (h : fs.toList.map (fun f => (f.type, f.offset)) = l) (i : Nat) (p : Nat × Nat) (hp : l[i]? = some p) : (fs[i]?).map (fun f => (f.type, f.offset)) = some p := by
  rw [← h, List.getElem?_map, Array.getElem?_toList] at hp; exact hp
theorem open_int3 {fuel : Nat} {v : Value} {y : DataW H × List MemPlace} (h : DataW.trod enc Tryz.prog w base spare held fuel 3 [v] = some y) : ∃ n : Int, v = .int .i64 n := by
  obtain ⟨n, e, -, -⟩ := DataW.trod_int und3 h
  injection e with e
  exact ⟨n, e⟩
/-- A request that is handed in. -/
theorem open_req {r : Reach} {b0 : Nat} {v : Value} {d : DataW H} {p : List MemPlace} (hv : Value.okWide Tryz.prog w r b0 26 v) (h : DataW.Trod enc Tryz.prog w base spare held 26 v d p) :
    ∃ (q : Req) (a : ReqA), v = .agg (reqc q a).toArray ∧ IsReq w q a ∧ q.caps.length ≤ a.c2 := by
  obtain ⟨cs, rfl, hsz⟩ := okWide_struct und26 hv
  rw [cells26] at hsz
  obtain ⟨l⟩ := cs
  have hll : l.length = 11 := hsz
  obtain ⟨fuel, hf⟩ := h
  obtain ⟨xs, n, -, -, -, hxl, hg⟩ := DataW.trod_struct und26 hf
  have hc : (Value.agg (⟨l⟩ : Array Value)).cells.toList = l := rfl
  rw [hc] at hg
  have F := fun i p hp => field_at fields26 i p hp
  obtain ⟨y0, h0⟩ := open_field hxl hg 0 3 0 (F 0 _ rfl)
  obtain ⟨y1, h1⟩ := open_field hxl hg 1 3 1 (F 1 _ rfl)
  obtain ⟨y2, h2⟩ := open_field hxl hg 2 22 2 (F 2 _ rfl)
  obtain ⟨y3, h3⟩ := open_field hxl hg 3 23 3 (F 3 _ rfl)
  obtain ⟨y4, h4⟩ := open_field hxl hg 4 23 4 (F 4 _ rfl)
  obtain ⟨y5, h5⟩ := open_field hxl hg 5 23 5 (F 5 _ rfl)
  obtain ⟨y6, h6⟩ := open_field hxl hg 6 23 6 (F 6 _ rfl)
  obtain ⟨y7, h7⟩ := open_field hxl hg 7 3 7 (F 7 _ rfl)
  obtain ⟨y8, h8⟩ := open_field hxl hg 8 3 8 (F 8 _ rfl)
  obtain ⟨y9, h9⟩ := open_field hxl hg 9 24 9 (F 9 _ rfl)
  obtain ⟨y10, h10⟩ := open_field hxl hg 10 9 10 (F 10 _ rfl)
  rw [cells3] at h0 h1 h7 h8
  rw [cells22] at h2
  rw [cells23] at h3 h4 h5 h6
  rw [cells24] at h9
  rw [cells9] at h10
  match l, hll with
  | [c0, c1, c2, c3, c4, c5, c6, c7, c8, c9, c10], _ =>
    obtain ⟨n0, rfl⟩ := open_int3 (show DataW.trod enc Tryz.prog w base spare held n 3 [c0] = some y0 from h0)
    obtain ⟨n1, rfl⟩ := open_int3 (show DataW.trod enc Tryz.prog w base spare held n 3 [c1] = some y1 from h1)
    obtain ⟨A2, l2, k2, rfl, q2, r2, m2, m2b⟩ := open_strs (show DataW.trod enc Tryz.prog w base spare held n 22 [c2] = some y2 from h2)
    obtain ⟨A3, l3, k3, rfl, q3, r3⟩ := open_ids (show DataW.trod enc Tryz.prog w base spare held n 23 [c3] = some y3 from h3)
    obtain ⟨A4, l4, k4, rfl, q4, r4⟩ := open_ids (show DataW.trod enc Tryz.prog w base spare held n 23 [c4] = some y4 from h4)
    obtain ⟨A5, l5, k5, rfl, q5, r5⟩ := open_ids (show DataW.trod enc Tryz.prog w base spare held n 23 [c5] = some y5 from h5)
    obtain ⟨A6, l6, k6, rfl, q6, r6⟩ := open_ids (show DataW.trod enc Tryz.prog w base spare held n 23 [c6] = some y6 from h6)
    obtain ⟨n7, rfl⟩ := open_int3 (show DataW.trod enc Tryz.prog w base spare held n 3 [c7] = some y7 from h7)
    obtain ⟨n8, rfl⟩ := open_int3 (show DataW.trod enc Tryz.prog w base spare held n 3 [c8] = some y8 from h8)
    obtain ⟨A9, l9, k9, rfl, m9, q9, r9⟩ := open_upds (show DataW.trod enc Tryz.prog w base spare held n 24 [c9] = some y9 from h9)
    obtain ⟨s10, m10, e10⟩ := open_str (show DataW.trod enc Tryz.prog w base spare held n 9 [c10] = some y10 from h10)
    injection e10 with e10
    subst e10
    exact ⟨⟨n0, n1, l2, l3, l4, l5, l6, n7, n8, l9, s10⟩, ⟨A2, A3, A4, A5, A6, A9, k2, k3, k4, k5, k6, k9⟩, rfl, ⟨r2, r3, r4, r5, r6, r9, by simp only; omega, q2, q3, q4, q5, q6, m9, q9, m10⟩, m2⟩
end
end Go.Proofs.YtmfpmedkhlhnpaaGreatDoor
