import Derived.Test.YtmfpmedkhlhnpaaGreatDoorB5
import Derived.Test.YtmfpmedkhlhnpaaGreatDoorB6
import Derived.Test.YtmfpmedkhlhnpaaGreatDoorA4
/- knapsackref20.Ask: function 11. -/
namespace Go.Proofs.YtmfpmedkhlhnpaaGreatDoor
open Go.RowKit Go.Extern.Stop Go.Proofs.YtmfpmedkhlhnpaaGreatDoorW.PrintLast
set_option maxRecDepth 100000
set_option linter.unusedSimpArgs false
set_option linter.unusedVariables false
def opLine (a b : Nat) : List UInt8 := pk ([111, 112, 32] ++ Lib.decDigits a ++ [32] ++ Lib.decDigits b)
theorem oneOp_any (a b : Nat) (ha : a ≤ 9999999) (hb : b ≤ 9999999) (w : World) :
    Calls Tryz.prog 36 #[.string (bs ([111, 112, 32] ++ Lib.decDigits a ++ [32] ++ Lib.decDigits b))] w fun e w' => e = .returned (.string (bs (opLine a b))) ∧ Below w.heap.size w w' :=
  one20_any _ (by have := dec_len7 ha; have := dec_len7 hb; simp; omega) w
def updLine (u : Upd) : List UInt8 := pk ([117, 112, 100, 97, 116, 101, 32] ++ hexs u.old ++ [32] ++ hexs u.new ++ [32] ++ u.name)
theorem oneUpd_any (u : Upd) (hu : u.ok) (hn : u.name.length ≤ 40) (w : World) :
    Calls Tryz.prog 36 #[.string (bs ([117, 112, 100, 97, 116, 101, 32] ++ hexs u.old ++ [32] ++ hexs u.new ++ [32] ++ u.name))] w fun e w' => e = .returned (.string (bs (updLine u))) ∧ Below w.heap.size w w' :=
  one20_any _ (by simp [hexs_length, hu.1, hu.2.1]; omega) w
theorem updLine_len (u : Upd) (hu : u.ok) (hn : u.name.length ≤ 40) : (updLine u).length ≤ 200 := by
  simp [updLine, pk, figs, hexs_length, hu.1, hu.2.1]; omega
theorem upd_old (u : Upd) (hu : u.ok) : ∀ j v, (idc u.old)[j]? = some v → (updc u)[1 + j]? = some v := by
  intro j v hj
  have hl := (List.getElem?_eq_some_iff.1 hj).1
  rw [updc, show 1 + j = j + 1 by omega, List.getElem?_cons_succ, List.getElem?_append_left hl]
  exact hj
theorem upd_new (u : Upd) (hu : u.ok) : ∀ j v, (idc u.new)[j]? = some v → (updc u)[33 + j]? = some v := by
  intro j v hj
  rw [updc, show 33 + j = (32 + j) + 1 by omega, List.getElem?_cons_succ, List.getElem?_append_right (by rw [idc_length, hu.1]; omega), idc_length, hu.1, show 32 + j - 32 = j by omega]
  exact hj
def updLines (l : List Upd) : List UInt8 := l.flatMap updLine
theorem updLines_next (l : List Upd) (k : Nat) (s : Upd) (h : l[k]? = some s) : updLines (l.take (k + 1)) = updLines (l.take k) ++ updLine s := by
  obtain ⟨hk, hs⟩ := List.getElem?_eq_some_iff.1 h
  rw [List.take_succ_eq_append_getElem hk, hs]
  simp only [updLines, List.flatMap_append, List.flatMap_cons, List.flatMap_nil, List.append_nil]
theorem updLines_len (l : List Upd) (h : ∀ u ∈ l, u.ok) (hn : ∀ u ∈ l, u.name.length ≤ 40) : (updLines l).length ≤ 200 * l.length := by
  induction l with
  | nil => simp [updLines]
  | cons u l ih =>
    have := ih (fun x hx => h x (List.mem_cons_of_mem _ hx)) (fun x hx => hn x (List.mem_cons_of_mem _ hx))
    have := updLine_len u (h u (List.mem_cons_self ..)) (hn u (List.mem_cons_self ..))
    simp only [updLines, List.flatMap_cons, List.length_append, List.length_cons] at *
    omega
theorem capsLine_len (ss : List (List UInt8)) (hn : ss.length ≤ 20) (hm : ∀ s ∈ ss, s.length ≤ 20) : (capsLine ss).length ≤ 500 := by
  have := joinTo_length ss 20 hm ss.length (Nat.le_refl _)
  unfold capsLine joinS
  split
  · simp
  · simp [pk, figs, capsB]; omega
theorem numLine_len (word : List UInt8) (hw : word.length ≤ 20) (n : Nat) (h : n ≤ 9999999) : (numLine word n).length ≤ 50 := by
  have := dec_len7 h
  unfold numLine
  split
  · simp
  · simp [pk, figs]; omega
theorem opLine_len (a b : Nat) (ha : a ≤ 9999999) (hb : b ≤ 9999999) : (opLine a b).length ≤ 50 := by
  have := dec_len7 ha
  have := dec_len7 hb
  simp [opLine, pk, figs]; omega
/-- A request that may be, its numbers as naturals. -/
structure AskOk (r : Req) (op ses dep pla : Nat) : Prop where
  eop : r.op = (op : Int)
  eses : r.session = (ses : Int)
  edep : r.depth = (dep : Int)
  epla : r.place = (pla : Int)
  hop : op ≤ 6
  hses : ses ≤ 999999
  hdep : dep ≤ 1048576
  hpla : pla ≤ 262144
  nCaps : r.caps.length ≤ 20
  lCaps : ∀ s ∈ r.caps, s.length ≤ 20
  nWants : r.wants.length ≤ 400
  nHaves : r.haves.length ≤ 400
  nCommon : r.common.length ≤ 400
  nShallow : r.shallow.length ≤ 400
  nUpd : r.updates.length ≤ 64
  lUpd : ∀ u ∈ r.updates, u.name.length ≤ 40
  nData : r.data.length ≤ 2000
def askHead (r : Req) (op ses dep pla : Nat) : List UInt8 :=
  ((((((opLine op ses ++ capsLine r.caps) ++ idLines [119, 97, 110, 116] r.wants) ++ idLines [104, 97, 118, 101] r.haves) ++ idLines [99, 111, 109, 109, 111, 110] r.common) ++ idLines [115, 104, 97, 108, 108, 111, 119] r.shallow) ++ numLine [100, 101, 112, 116, 104] dep) ++ numLine [97, 116] pla
def delim (l : List UInt8) : List UInt8 := if l = [] then [] else [48, 48, 48, 49]
def askText (r : Req) (op ses dep pla : Nat) : List UInt8 := (askHead r op ses dep pla ++ updLines r.updates ++ delim r.data) ++ piecesB r.data ++ [48, 48, 48, 48]
set_option maxHeartbeats 4000000 in
theorem ask11_any (r : Req) (a : ReqA) (op ses dep pla : Nat) (w : World) (hq : IsReq w r a) (hok : AskOk r op ses dep pla) :
    Calls Tryz.prog 11 #[.agg (reqc r a).toArray] w fun e w' => e = .returned (.string (bs (askText r op ses dep pla))) ∧ Below w.heap.size w w' := by
  have HQ := Lib.hid hq
  have HK := Lib.hid hok
  have ho := Lib.hid hok.eop
  have hs := Lib.hid hok.eses
  have hd := Lib.hid hok.edep
  have hp := Lib.hid hok.epla
  have HC : Hid (∀ s ∈ r.caps, s.length ≤ 1000) := Lib.hid fun s hs => by have := hok.lCaps s hs; omega
  have n1 := hok.hop
  have n2 := hok.hses
  have n3 := hok.hdep
  have n4 := hok.hpla
  have n5 := hok.nCaps
  have n6 := hok.nWants
  have n7 := hok.nHaves
  have n8 := hok.nCommon
  have n9 := hok.nShallow
  have n10 := hok.nUpd
  have n11 := hok.nData
  have d1 := dec_len7 (n := op) (by omega)
  have d2 := dec_len7 (n := ses) (by omega)
  have l1 := capsLine_len r.caps n5 hok.lCaps
  have l2 := idLines_len [119, 97, 110, 116] (by decide) r.wants hq.iWants.2
  have l3 := idLines_len [104, 97, 118, 101] (by decide) r.haves hq.iHaves.2
  have l4 := idLines_len [99, 111, 109, 109, 111, 110] (by decide) r.common hq.iCommon.2
  have l5 := idLines_len [115, 104, 97, 108, 108, 111, 119] (by decide) r.shallow hq.iShallow.2
  have l6 := opLine_len op ses (by omega) (by omega)
  have l7 := numLine_len [100, 101, 112, 116, 104] (by decide) dep (by omega)
  have l8 := numLine_len [97, 116] (by decide) pla (by omega)
  have l9 := pieces_len r.data
  clear hq hok
  have h0b := Boxed.start w (reqc r a) 33
  go_enter Tryz.func11, Tryz.ntmps11
  go_wp2
  refine start_ (n := 11) (S := Boxed w (reqc r a) 33) (ds := []) #[false, false, false, false, false, false, false, false, false, false, false] (by kernel_rfl) rfl rfl (h0b.drew) (fun hHeld => ?_)
  refine pure_ (i := 0) (N := (some 6)) (v := ?_) (a' := ?_) #[true, false, false, false, false, false, false, false, false, false, false] rfl rfl (by kernel_rfl) (fun _ _ _ h => h) (Or.inl ⟨by rfl, ?_⟩) ?_ ?_
  rotate_left
  · intro w'
    go_simp
    with_reducible rfl
  rotate_left
  · simp only [Act.put, List.setIfInBounds_toArray, List.set_cons_zero, List.set_cons_succ]
    rfl
  refine take_ (i := 1) (N := (some 7)) (v := ?_) (a' := ?_) #[true, true, false, false, false, false, false, false, false, false, false] rfl rfl (by kernel_rfl) (fun _ _ _ h => h) (Or.inl ⟨by rfl, ?_⟩) hHeld ?_ ?_
  rotate_left
  · intro w' hS'
    have h1 := hS'.cell 0 (.int .i64 r.op) rfl
    rw [ho.out] at h1
    go_simp
    with_reducible rfl
  rotate_left
  · simp only [Act.put, List.setIfInBounds_toArray, List.set_cons_zero, List.set_cons_succ]
    rfl
  refine pure_ (i := 5) (N := (some 11)) (v := ?_) (a' := ?_) #[true, true, false, false, false, true, false, false, false, false, false] rfl rfl (by kernel_rfl) (fun _ _ _ h => h) (Or.inl ⟨by rfl, ?_⟩) ?_ ?_
  rotate_left
  · intro w'
    go_simp
    with_reducible rfl
  rotate_left
  · simp only [Act.put, List.setIfInBounds_toArray, List.set_cons_zero, List.set_cons_succ]
    rfl
  refine take_ (i := 6) (N := (some 12)) (v := ?_) (a' := ?_) #[true, true, false, false, false, true, true, false, false, false, false] rfl rfl (by kernel_rfl) (fun _ _ _ h => h) (Or.inl ⟨by rfl, ?_⟩) hHeld ?_ ?_
  rotate_left
  · intro w' hS'
    have h1 := hS'.cell 1 (.int .i64 r.session) rfl
    rw [hs.out] at h1
    go_simp
    with_reducible rfl
  rotate_left
  · simp only [Act.put, List.setIfInBounds_toArray, List.set_cons_zero, List.set_cons_succ]
    rfl
  refine one_ (i := 2) (N := (some 8)) #[true, true, true, false, false, true, true, false, false, false, false] rfl rfl (by kernel_rfl) (by simp) (fun K hK => ?_)
  refine goes_ Tryz.func37 (by kernel_rfl) rfl #[.int .i64 (op : Int)] (by rfl) rfl rfl (by first | rfl | simp [Act.eval]) ?_
  refine (fig20_any op (by omega) _).mono ?_
  rintro e w1 ⟨rfl, hb⟩
  refine ⟨_, rfl, hK _ _ (hHeld.call hb) (fun hHeld => ?_)⟩
  simp only [Act.put, List.setIfInBounds_toArray, List.set_cons_zero, List.set_cons_succ]
  refine pure_ (i := 3) (N := (some 9)) (v := ?_) (a' := ?_) #[true, true, true, true, false, true, true, false, false, false, false] rfl rfl (by kernel_rfl) (fun _ _ _ h => h) (Or.inl ⟨by rfl, ?_⟩) ?_ ?_
  rotate_left
  · intro w'
    refine op_concat _ _ _ _ _ _ _ _ _ _ ([111, 112, 32]) (Lib.decDigits op) ?_ ?_ ?_
    rfl
    rfl
    simp; omega
  rotate_left
  · simp only [Act.put, List.setIfInBounds_toArray, List.set_cons_zero, List.set_cons_succ]
    rfl
  refine pure_ (i := 4) (N := (some 10)) (v := ?_) (a' := ?_) #[true, true, true, true, true, true, true, false, false, false, false] rfl rfl (by kernel_rfl) (fun _ _ _ h => h) (Or.inl ⟨by rfl, ?_⟩) ?_ ?_
  rotate_left
  · intro w'
    refine op_concat _ _ _ _ _ _ _ _ _ _ ([111, 112, 32] ++ Lib.decDigits op) ([32]) ?_ ?_ ?_
    rfl
    rfl
    simp; omega
  rotate_left
  · simp only [Act.put, List.setIfInBounds_toArray, List.set_cons_zero, List.set_cons_succ]
    rfl
  refine one_ (i := 7) (N := (some 13)) #[true, true, true, true, true, true, true, true, false, false, false] rfl rfl (by kernel_rfl) (by simp) (fun K hK => ?_)
  refine goes_ Tryz.func37 (by kernel_rfl) rfl #[.int .i64 (ses : Int)] (by rfl) rfl rfl (by first | rfl | simp [Act.eval]) ?_
  refine (fig20_any ses (by omega) _).mono ?_
  rintro e w1 ⟨rfl, hb⟩
  refine ⟨_, rfl, hK _ _ (hHeld.call hb) (fun hHeld => ?_)⟩
  simp only [Act.put, List.setIfInBounds_toArray, List.set_cons_zero, List.set_cons_succ]
  refine pure_ (i := 8) (N := (some 14)) (v := ?_) (a' := ?_) #[true, true, true, true, true, true, true, true, true, false, false] rfl rfl (by kernel_rfl) (fun _ _ _ h => h) (Or.inl ⟨by rfl, ?_⟩) ?_ ?_
  rotate_left
  · intro w'
    refine op_concat _ _ _ _ _ _ _ _ _ _ ([111, 112, 32] ++ Lib.decDigits op ++ [32]) (Lib.decDigits ses) ?_ ?_ ?_
    rfl
    rfl
    simp; omega
  rotate_left
  · simp only [Act.put, List.setIfInBounds_toArray, List.set_cons_zero, List.set_cons_succ]
    rfl
  refine one_ (i := 9) (N := (some 15)) #[true, true, true, true, true, true, true, true, true, true, false] rfl rfl (by kernel_rfl) (by simp) (fun K hK => ?_)
  refine goes_ Tryz.func36 (by kernel_rfl) rfl #[.string (bs ([111, 112, 32] ++ Lib.decDigits op ++ [32] ++ Lib.decDigits ses))] (by rfl) rfl rfl (by first | rfl | simp [Act.eval]) ?_
  refine (oneOp_any op ses (by omega) (by omega) _).mono ?_
  rintro e w1 ⟨rfl, hb⟩
  refine ⟨_, rfl, hK _ _ (hHeld.call hb) (fun hHeld => ?_)⟩
  simp only [Act.put, List.setIfInBounds_toArray, List.set_cons_zero, List.set_cons_succ]
  refine pure_ (i := 10) (N := (some 3)) (v := ?_) (a' := ?_) #[true, true, true, true, true, true, true, true, true, true, true] rfl rfl (by kernel_rfl) (fun _ _ _ h => h) (Or.inl ⟨by rfl, ?_⟩) ?_ ?_
  rotate_left
  · intro w'
    go_simp
    with_reducible rfl
  rotate_left
  · simp only [Act.put, List.setIfInBounds_toArray, List.set_cons_zero, List.set_cons_succ]
    rfl
  refine done_ (by kernel_rfl) ?_
  have l10 : (opLine op ses).length ≤ 50 := l6
  generalize hj1 : opLine op ses = j1 at l10 ⊢
  go_wp2
  refine start_ (n := 22) (S := Boxed w (reqc r a) 33) (ds := []) #[false, false, false, false, false, false, false, false, false, false, false, false, false, false, false, false, false, false, false, false, false, false] (by kernel_rfl) rfl rfl (hHeld.drew) (fun hHeld => ?_)
  refine pure_ (i := 0) (N := (some 16)) (v := ?_) (a' := ?_) #[true, false, false, false, false, false, false, false, false, false, false, false, false, false, false, false, false, false, false, false, false, false] rfl rfl (by kernel_rfl) (fun _ _ _ h => h) (Or.inl ⟨by rfl, ?_⟩) ?_ ?_
  rotate_left
  · intro w'
    go_simp
    with_reducible rfl
  rotate_left
  · simp only [Act.put, List.setIfInBounds_toArray, List.set_cons_zero, List.set_cons_succ]
    rfl
  refine pure_ (i := 1) (N := (some 17)) (v := ?_) (a' := ?_) #[true, true, false, false, false, false, false, false, false, false, false, false, false, false, false, false, false, false, false, false, false, false] rfl rfl (by kernel_rfl) (fun _ _ _ h => h) (Or.inl ⟨by rfl, ?_⟩) ?_ ?_
  rotate_left
  · intro w'
    go_simp
    with_reducible rfl
  rotate_left
  · simp only [Act.put, List.setIfInBounds_toArray, List.set_cons_zero, List.set_cons_succ]
    rfl
  refine take_ (i := 2) (N := (some 18)) (v := ?_) (a' := ?_) #[true, true, true, false, false, false, false, false, false, false, false, false, false, false, false, false, false, false, false, false, false, false] rfl rfl (by kernel_rfl) (fun _ _ _ h => h) (Or.inl ⟨by rfl, ?_⟩) hHeld ?_ ?_
  rotate_left
  · intro w' hS'
    have h1 := hS'.cell 2 (.slice a.a2 r.caps.length a.c2) rfl
    go_simp
    with_reducible rfl
  rotate_left
  · simp only [Act.put, List.setIfInBounds_toArray, List.set_cons_zero, List.set_cons_succ]
    rfl
  refine pure_ (i := 5) (N := (some 21)) (v := ?_) (a' := ?_) #[true, true, true, false, false, true, false, false, false, false, false, false, false, false, false, false, false, false, false, false, false, false] rfl rfl (by kernel_rfl) (fun _ _ _ h => h) (Or.inl ⟨by rfl, ?_⟩) ?_ ?_
  rotate_left
  · intro w'
    go_simp
    with_reducible rfl
  rotate_left
  · simp only [Act.put, List.setIfInBounds_toArray, List.set_cons_zero, List.set_cons_succ]
    rfl
  refine take_ (i := 6) (N := (some 22)) (v := ?_) (a' := ?_) #[true, true, true, false, false, true, true, false, false, false, false, false, false, false, false, false, false, false, false, false, false, false] rfl rfl (by kernel_rfl) (fun _ _ _ h => h) (Or.inl ⟨by rfl, ?_⟩) hHeld ?_ ?_
  rotate_left
  · intro w' hS'
    have h1 := hS'.cell 3 (.slice a.a3 r.wants.length a.c3) rfl
    go_simp
    with_reducible rfl
  rotate_left
  · simp only [Act.put, List.setIfInBounds_toArray, List.set_cons_zero, List.set_cons_succ]
    rfl
  refine pure_ (i := 9) (N := (some 25)) (v := ?_) (a' := ?_) #[true, true, true, false, false, true, true, false, false, true, false, false, false, false, false, false, false, false, false, false, false, false] rfl rfl (by kernel_rfl) (fun _ _ _ h => h) (Or.inl ⟨by rfl, ?_⟩) ?_ ?_
  rotate_left
  · intro w'
    go_simp
    with_reducible rfl
  rotate_left
  · simp only [Act.put, List.setIfInBounds_toArray, List.set_cons_zero, List.set_cons_succ]
    rfl
  refine take_ (i := 10) (N := (some 26)) (v := ?_) (a' := ?_) #[true, true, true, false, false, true, true, false, false, true, true, false, false, false, false, false, false, false, false, false, false, false] rfl rfl (by kernel_rfl) (fun _ _ _ h => h) (Or.inl ⟨by rfl, ?_⟩) hHeld ?_ ?_
  rotate_left
  · intro w' hS'
    have h1 := hS'.cell 4 (.slice a.a4 r.haves.length a.c4) rfl
    go_simp
    with_reducible rfl
  rotate_left
  · simp only [Act.put, List.setIfInBounds_toArray, List.set_cons_zero, List.set_cons_succ]
    rfl
  refine pure_ (i := 13) (N := (some 29)) (v := ?_) (a' := ?_) #[true, true, true, false, false, true, true, false, false, true, true, false, false, true, false, false, false, false, false, false, false, false] rfl rfl (by kernel_rfl) (fun _ _ _ h => h) (Or.inl ⟨by rfl, ?_⟩) ?_ ?_
  rotate_left
  · intro w'
    go_simp
    with_reducible rfl
  rotate_left
  · simp only [Act.put, List.setIfInBounds_toArray, List.set_cons_zero, List.set_cons_succ]
    rfl
  refine take_ (i := 14) (N := (some 30)) (v := ?_) (a' := ?_) #[true, true, true, false, false, true, true, false, false, true, true, false, false, true, true, false, false, false, false, false, false, false] rfl rfl (by kernel_rfl) (fun _ _ _ h => h) (Or.inl ⟨by rfl, ?_⟩) hHeld ?_ ?_
  rotate_left
  · intro w' hS'
    have h1 := hS'.cell 5 (.slice a.a5 r.common.length a.c5) rfl
    go_simp
    with_reducible rfl
  rotate_left
  · simp only [Act.put, List.setIfInBounds_toArray, List.set_cons_zero, List.set_cons_succ]
    rfl
  refine pure_ (i := 17) (N := (some 33)) (v := ?_) (a' := ?_) #[true, true, true, false, false, true, true, false, false, true, true, false, false, true, true, false, false, true, false, false, false, false] rfl rfl (by kernel_rfl) (fun _ _ _ h => h) (Or.inl ⟨by rfl, ?_⟩) ?_ ?_
  rotate_left
  · intro w'
    go_simp
    with_reducible rfl
  rotate_left
  · simp only [Act.put, List.setIfInBounds_toArray, List.set_cons_zero, List.set_cons_succ]
    rfl
  refine take_ (i := 18) (N := (some 34)) (v := ?_) (a' := ?_) #[true, true, true, false, false, true, true, false, false, true, true, false, false, true, true, false, false, true, true, false, false, false] rfl rfl (by kernel_rfl) (fun _ _ _ h => h) (Or.inl ⟨by rfl, ?_⟩) hHeld ?_ ?_
  rotate_left
  · intro w' hS'
    have h1 := hS'.cell 6 (.slice a.a6 r.shallow.length a.c6) rfl
    go_simp
    with_reducible rfl
  rotate_left
  · simp only [Act.put, List.setIfInBounds_toArray, List.set_cons_zero, List.set_cons_succ]
    rfl
  refine one_ (i := 3) (N := (some 19)) #[true, true, true, true, false, true, true, false, false, true, true, false, false, true, true, false, false, true, true, false, false, false] rfl rfl (by kernel_rfl) (by simp) (fun K hK => ?_)
  refine goes_ Tryz.func38 (by kernel_rfl) rfl #[.slice a.a2 r.caps.length a.c2] (by rfl) rfl rfl (by first | rfl | simp [Act.eval]) ?_
  refine (caps38_any r.caps a.a2 a.c2 (by omega) HC.out _ (HQ.out.below hHeld.below).caps).mono ?_
  rintro e w1 ⟨rfl, hb⟩
  refine ⟨_, rfl, hK _ _ (hHeld.call hb) (fun hHeld => ?_)⟩
  simp only [Act.put, List.setIfInBounds_toArray, List.set_cons_zero, List.set_cons_succ]
  refine pure_ (i := 4) (N := (some 20)) (v := ?_) (a' := ?_) #[true, true, true, true, true, true, true, false, false, true, true, false, false, true, true, false, false, true, true, false, false, false] rfl rfl (by kernel_rfl) (fun _ _ _ h => h) (Or.inl ⟨by rfl, ?_⟩) ?_ ?_
  rotate_left
  · intro w'
    refine op_concat _ _ _ _ _ _ _ _ _ _ (j1) (capsLine r.caps) ?_ ?_ ?_
    rfl
    rfl
    omega
  rotate_left
  · simp only [Act.put, List.setIfInBounds_toArray, List.set_cons_zero, List.set_cons_succ]
    rfl
  refine one_ (i := 7) (N := (some 23)) #[true, true, true, true, true, true, true, true, false, true, true, false, false, true, true, false, false, true, true, false, false, false] rfl rfl (by kernel_rfl) (by simp) (fun K hK => ?_)
  refine goes_ Tryz.func39 (by kernel_rfl) rfl #[.string (bs [119, 97, 110, 116]), .slice a.a3 r.wants.length a.c3] (by rfl) rfl rfl (by first | rfl | simp [Act.eval]) ?_
  refine (ids39_any [119, 97, 110, 116] (by decide) r.wants a.a3 a.c3 (by omega) HQ.out.iWants.2 _ (HQ.out.below hHeld.below).wants).mono ?_
  rintro e w1 ⟨rfl, hb⟩
  refine ⟨_, rfl, hK _ _ (hHeld.call hb) (fun hHeld => ?_)⟩
  simp only [Act.put, List.setIfInBounds_toArray, List.set_cons_zero, List.set_cons_succ]
  refine pure_ (i := 8) (N := (some 24)) (v := ?_) (a' := ?_) #[true, true, true, true, true, true, true, true, true, true, true, false, false, true, true, false, false, true, true, false, false, false] rfl rfl (by kernel_rfl) (fun _ _ _ h => h) (Or.inl ⟨by rfl, ?_⟩) ?_ ?_
  rotate_left
  · intro w'
    refine op_concat _ _ _ _ _ _ _ _ _ _ (j1 ++ capsLine r.caps) (idLines [119, 97, 110, 116] r.wants) ?_ ?_ ?_
    rfl
    rfl
    simp; omega
  rotate_left
  · simp only [Act.put, List.setIfInBounds_toArray, List.set_cons_zero, List.set_cons_succ]
    rfl
  refine one_ (i := 11) (N := (some 27)) #[true, true, true, true, true, true, true, true, true, true, true, true, false, true, true, false, false, true, true, false, false, false] rfl rfl (by kernel_rfl) (by simp) (fun K hK => ?_)
  refine goes_ Tryz.func39 (by kernel_rfl) rfl #[.string (bs [104, 97, 118, 101]), .slice a.a4 r.haves.length a.c4] (by rfl) rfl rfl (by first | rfl | simp [Act.eval]) ?_
  refine (ids39_any [104, 97, 118, 101] (by decide) r.haves a.a4 a.c4 (by omega) HQ.out.iHaves.2 _ (HQ.out.below hHeld.below).haves).mono ?_
  rintro e w1 ⟨rfl, hb⟩
  refine ⟨_, rfl, hK _ _ (hHeld.call hb) (fun hHeld => ?_)⟩
  simp only [Act.put, List.setIfInBounds_toArray, List.set_cons_zero, List.set_cons_succ]
  refine pure_ (i := 12) (N := (some 28)) (v := ?_) (a' := ?_) #[true, true, true, true, true, true, true, true, true, true, true, true, true, true, true, false, false, true, true, false, false, false] rfl rfl (by kernel_rfl) (fun _ _ _ h => h) (Or.inl ⟨by rfl, ?_⟩) ?_ ?_
  rotate_left
  · intro w'
    refine op_concat _ _ _ _ _ _ _ _ _ _ (j1 ++ capsLine r.caps ++ idLines [119, 97, 110, 116] r.wants) (idLines [104, 97, 118, 101] r.haves) ?_ ?_ ?_
    rfl
    rfl
    simp; omega
  rotate_left
  · simp only [Act.put, List.setIfInBounds_toArray, List.set_cons_zero, List.set_cons_succ]
    rfl
  refine one_ (i := 15) (N := (some 31)) #[true, true, true, true, true, true, true, true, true, true, true, true, true, true, true, true, false, true, true, false, false, false] rfl rfl (by kernel_rfl) (by simp) (fun K hK => ?_)
  refine goes_ Tryz.func39 (by kernel_rfl) rfl #[.string (bs [99, 111, 109, 109, 111, 110]), .slice a.a5 r.common.length a.c5] (by rfl) rfl rfl (by first | rfl | simp [Act.eval]) ?_
  refine (ids39_any [99, 111, 109, 109, 111, 110] (by decide) r.common a.a5 a.c5 (by omega) HQ.out.iCommon.2 _ (HQ.out.below hHeld.below).common).mono ?_
  rintro e w1 ⟨rfl, hb⟩
  refine ⟨_, rfl, hK _ _ (hHeld.call hb) (fun hHeld => ?_)⟩
  simp only [Act.put, List.setIfInBounds_toArray, List.set_cons_zero, List.set_cons_succ]
  refine pure_ (i := 16) (N := (some 32)) (v := ?_) (a' := ?_) #[true, true, true, true, true, true, true, true, true, true, true, true, true, true, true, true, true, true, true, false, false, false] rfl rfl (by kernel_rfl) (fun _ _ _ h => h) (Or.inl ⟨by rfl, ?_⟩) ?_ ?_
  rotate_left
  · intro w'
    refine op_concat _ _ _ _ _ _ _ _ _ _ (j1 ++ capsLine r.caps ++ idLines [119, 97, 110, 116] r.wants ++ idLines [104, 97, 118, 101] r.haves) (idLines [99, 111, 109, 109, 111, 110] r.common) ?_ ?_ ?_
    rfl
    rfl
    simp; omega
  rotate_left
  · simp only [Act.put, List.setIfInBounds_toArray, List.set_cons_zero, List.set_cons_succ]
    rfl
  refine one_ (i := 19) (N := (some 35)) #[true, true, true, true, true, true, true, true, true, true, true, true, true, true, true, true, true, true, true, true, false, false] rfl rfl (by kernel_rfl) (by simp) (fun K hK => ?_)
  refine goes_ Tryz.func39 (by kernel_rfl) rfl #[.string (bs [115, 104, 97, 108, 108, 111, 119]), .slice a.a6 r.shallow.length a.c6] (by rfl) rfl rfl (by first | rfl | simp [Act.eval]) ?_
  refine (ids39_any [115, 104, 97, 108, 108, 111, 119] (by decide) r.shallow a.a6 a.c6 (by omega) HQ.out.iShallow.2 _ (HQ.out.below hHeld.below).shallow).mono ?_
  rintro e w1 ⟨rfl, hb⟩
  refine ⟨_, rfl, hK _ _ (hHeld.call hb) (fun hHeld => ?_)⟩
  simp only [Act.put, List.setIfInBounds_toArray, List.set_cons_zero, List.set_cons_succ]
  refine pure_ (i := 20) (N := (some 36)) (v := ?_) (a' := ?_) #[true, true, true, true, true, true, true, true, true, true, true, true, true, true, true, true, true, true, true, true, true, false] rfl rfl (by kernel_rfl) (fun _ _ _ h => h) (Or.inl ⟨by rfl, ?_⟩) ?_ ?_
  rotate_left
  · intro w'
    refine op_concat _ _ _ _ _ _ _ _ _ _ (j1 ++ capsLine r.caps ++ idLines [119, 97, 110, 116] r.wants ++ idLines [104, 97, 118, 101] r.haves ++ idLines [99, 111, 109, 109, 111, 110] r.common) (idLines [115, 104, 97, 108, 108, 111, 119] r.shallow) ?_ ?_ ?_
    rfl
    rfl
    simp; omega
  rotate_left
  · simp only [Act.put, List.setIfInBounds_toArray, List.set_cons_zero, List.set_cons_succ]
    rfl
  refine pure_ (i := 21) (N := (some 3)) (v := ?_) (a' := ?_) #[true, true, true, true, true, true, true, true, true, true, true, true, true, true, true, true, true, true, true, true, true, true] rfl rfl (by kernel_rfl) (fun _ _ _ h => h) (Or.inl ⟨by rfl, ?_⟩) ?_ ?_
  rotate_left
  · intro w'
    go_simp
    with_reducible rfl
  rotate_left
  · simp only [Act.put, List.setIfInBounds_toArray, List.set_cons_zero, List.set_cons_succ]
    rfl
  refine done_ (by kernel_rfl) ?_
  have l11 : (j1 ++ (capsLine r.caps ++ (idLines [119, 97, 110, 116] r.wants ++ (idLines [104, 97, 118, 101] r.haves ++ (idLines [99, 111, 109, 109, 111, 110] r.common ++ idLines [115, 104, 97, 108, 108, 111, 119] r.shallow))))).length ≤ 161000 := by simp; omega
  generalize hj2 : j1 ++ (capsLine r.caps ++ (idLines [119, 97, 110, 116] r.wants ++ (idLines [104, 97, 118, 101] r.haves ++ (idLines [99, 111, 109, 109, 111, 110] r.common ++ idLines [115, 104, 97, 108, 108, 111, 119] r.shallow)))) = j2 at l11 ⊢
  clear l1 l2 l3 l4 l5 l6 l10
  have Hj1 := Lib.hid hj1
  have Hj2 := Lib.hid hj2
  clear hj1 hj2
  go_wp2
  refine start_ (n := 10) (S := Boxed w (reqc r a) 33) (ds := []) #[false, false, false, false, false, false, false, false, false, false] (by kernel_rfl) rfl rfl (hHeld.drew) (fun hHeld => ?_)
  refine pure_ (i := 0) (N := (some 37)) (v := ?_) (a' := ?_) #[true, false, false, false, false, false, false, false, false, false] rfl rfl (by kernel_rfl) (fun _ _ _ h => h) (Or.inl ⟨by rfl, ?_⟩) ?_ ?_
  rotate_left
  · intro w'
    go_simp
    with_reducible rfl
  rotate_left
  · simp only [Act.put, List.setIfInBounds_toArray, List.set_cons_zero, List.set_cons_succ]
    rfl
  refine pure_ (i := 1) (N := (some 38)) (v := ?_) (a' := ?_) #[true, true, false, false, false, false, false, false, false, false] rfl rfl (by kernel_rfl) (fun _ _ _ h => h) (Or.inl ⟨by rfl, ?_⟩) ?_ ?_
  rotate_left
  · intro w'
    go_simp
    with_reducible rfl
  rotate_left
  · simp only [Act.put, List.setIfInBounds_toArray, List.set_cons_zero, List.set_cons_succ]
    rfl
  refine take_ (i := 2) (N := (some 39)) (v := ?_) (a' := ?_) #[true, true, true, false, false, false, false, false, false, false] rfl rfl (by kernel_rfl) (fun _ _ _ h => h) (Or.inl ⟨by rfl, ?_⟩) hHeld ?_ ?_
  rotate_left
  · intro w' hS'
    have h1 := hS'.cell 7 (.int .i64 r.depth) rfl
    rw [hd.out] at h1
    go_simp
    with_reducible rfl
  rotate_left
  · simp only [Act.put, List.setIfInBounds_toArray, List.set_cons_zero, List.set_cons_succ]
    rfl
  refine pure_ (i := 5) (N := (some 42)) (v := ?_) (a' := ?_) #[true, true, true, false, false, true, false, false, false, false] rfl rfl (by kernel_rfl) (fun _ _ _ h => h) (Or.inl ⟨by rfl, ?_⟩) ?_ ?_
  rotate_left
  · intro w'
    go_simp
    with_reducible rfl
  rotate_left
  · simp only [Act.put, List.setIfInBounds_toArray, List.set_cons_zero, List.set_cons_succ]
    rfl
  refine take_ (i := 6) (N := (some 43)) (v := ?_) (a' := ?_) #[true, true, true, false, false, true, true, false, false, false] rfl rfl (by kernel_rfl) (fun _ _ _ h => h) (Or.inl ⟨by rfl, ?_⟩) hHeld ?_ ?_
  rotate_left
  · intro w' hS'
    have h1 := hS'.cell 8 (.int .i64 r.place) rfl
    rw [hp.out] at h1
    go_simp
    with_reducible rfl
  rotate_left
  · simp only [Act.put, List.setIfInBounds_toArray, List.set_cons_zero, List.set_cons_succ]
    rfl
  refine one_ (i := 3) (N := (some 40)) #[true, true, true, true, false, true, true, false, false, false] rfl rfl (by kernel_rfl) (by simp) (fun K hK => ?_)
  refine goes_ Tryz.func40 (by kernel_rfl) rfl #[.string (bs [100, 101, 112, 116, 104]), .int .i64 (dep : Int)] (by rfl) rfl rfl (by first | rfl | simp [Act.eval]) ?_
  refine (num40_any [100, 101, 112, 116, 104] dep (by decide) (by omega) (by have := dec_len7 (n := dep) (by omega); omega) _).mono ?_
  rintro e w1 ⟨rfl, hb⟩
  refine ⟨_, rfl, hK _ _ (hHeld.call hb) (fun hHeld => ?_)⟩
  simp only [Act.put, List.setIfInBounds_toArray, List.set_cons_zero, List.set_cons_succ]
  refine pure_ (i := 4) (N := (some 41)) (v := ?_) (a' := ?_) #[true, true, true, true, true, true, true, false, false, false] rfl rfl (by kernel_rfl) (fun _ _ _ h => h) (Or.inl ⟨by rfl, ?_⟩) ?_ ?_
  rotate_left
  · intro w'
    refine op_concat _ _ _ _ _ _ _ _ _ _ (j2) (numLine [100, 101, 112, 116, 104] dep) ?_ ?_ ?_
    rfl
    rfl
    omega
  rotate_left
  · simp only [Act.put, List.setIfInBounds_toArray, List.set_cons_zero, List.set_cons_succ]
    rfl
  refine one_ (i := 7) (N := (some 44)) #[true, true, true, true, true, true, true, true, false, false] rfl rfl (by kernel_rfl) (by simp) (fun K hK => ?_)
  refine goes_ Tryz.func40 (by kernel_rfl) rfl #[.string (bs [97, 116]), .int .i64 (pla : Int)] (by rfl) rfl rfl (by first | rfl | simp [Act.eval]) ?_
  refine (num40_any [97, 116] pla (by decide) (by omega) (by have := dec_len7 (n := pla) (by omega); omega) _).mono ?_
  rintro e w1 ⟨rfl, hb⟩
  refine ⟨_, rfl, hK _ _ (hHeld.call hb) (fun hHeld => ?_)⟩
  simp only [Act.put, List.setIfInBounds_toArray, List.set_cons_zero, List.set_cons_succ]
  refine pure_ (i := 8) (N := (some 45)) (v := ?_) (a' := ?_) #[true, true, true, true, true, true, true, true, true, false] rfl rfl (by kernel_rfl) (fun _ _ _ h => h) (Or.inl ⟨by rfl, ?_⟩) ?_ ?_
  rotate_left
  · intro w'
    refine op_concat _ _ _ _ _ _ _ _ _ _ (j2 ++ numLine [100, 101, 112, 116, 104] dep) (numLine [97, 116] pla) ?_ ?_ ?_
    rfl
    rfl
    simp; omega
  rotate_left
  · simp only [Act.put, List.setIfInBounds_toArray, List.set_cons_zero, List.set_cons_succ]
    rfl
  refine pure_ (i := 9) (N := (some 3)) (v := ?_) (a' := ?_) #[true, true, true, true, true, true, true, true, true, true] rfl rfl (by kernel_rfl) (fun _ _ _ h => h) (Or.inl ⟨by rfl, ?_⟩) ?_ ?_
  rotate_left
  · intro w'
    go_simp
    with_reducible rfl
  rotate_left
  · simp only [Act.put, List.setIfInBounds_toArray, List.set_cons_zero, List.set_cons_succ]
    rfl
  refine done_ (by kernel_rfl) ?_
  have l12 : (j2 ++ (numLine [100, 101, 112, 116, 104] dep ++ numLine [97, 116] pla)).length ≤ 162000 := by simp; omega
  generalize hj3 : j2 ++ (numLine [100, 101, 112, 116, 104] dep ++ numLine [97, 116] pla) = j3 at l12 ⊢
  have Hj3 : Hid (askHead r op ses dep pla = j3) := Lib.hid (by rw [← hj3, ← Hj2.out, ← Hj1.out]; simp only [askHead, List.append_assoc])
  clear hj3 Hj1 Hj2 l7 l8 l11 d1 d2
  go_wp2
  go_loopw [3, 4, 5] (fun s i _ wr => ∃ k : Nat, k ≤ r.updates.length ∧ i = .int .i64 k ∧ s = .string (bs (j3 ++ updLines (r.updates.take k))) ∧ Boxed w (reqc r a) 33 wr) (fun _ i _ _ => r.updates.length - (intOf i).toNat)
  case atStart => exact ⟨0, by omega, rfl, by simp [updLines], hHeld⟩
  case round =>
    obtain ⟨k, hk, rfl, rfl, hbx⟩ := hrel
    have hbel := hbx.below
    have c9 := hbx.cell 9 (.slice a.a9 r.updates.length a.c9) rfl
    have c10 := hbx.cell 10 (.string (bs r.data)) rfl
    have hlen0 := updLines_len (r.updates.take k) (fun u hu => HQ.out.iUpd u (List.mem_of_mem_take hu)) (fun u hu => HK.out.lUpd u (List.mem_of_mem_take hu))
    rw [List.length_take] at hlen0
    have hlen : (j3 ++ updLines (r.updates.take k)).length ≤ 180000 := by simp; omega
    clear hlen0
    by_cases hlt : k < r.updates.length
    · obtain ⟨b1, o1, u, e1, c1, hs1⟩ := Rd.at (n := 65) (by omega) (HQ.out.below hbel).updates (fun x hx => updc_length x (HQ.out.iUpd x hx)) k hlt
      rw [e1] at c9
      have hu := HQ.out.iUpd u (List.mem_of_getElem? hs1)
      have hun := HK.out.lUpd u (List.mem_of_getElem? hs1)
      have hnx := Lib.hid (updLines_next r.updates k u hs1)
      have hxo : (hexs u.old).length = 64 := by rw [hexs_length, hu.1]
      have hxn : (hexs u.new).length = 64 := by rw [hexs_length, hu.2.1]
      have hul := updLine_len u hu hun
      have HU := Lib.hid hu
      clear hs1
      obtain ⟨j4, Hj4⟩ : ∃ j4, Hid (j3 ++ updLines (r.updates.take k) = j4) := ⟨_, Lib.hid rfl⟩
      rw [Hj4.out] at hlen ⊢
      go_wp2_with (first
        | (refine wpList_load_mid rfl 60 _ rfl b1 (o1 + k * 65) rfl (updc u) _ c1 und60 rfl (by rw [updc_length u HU.out]; exact info60s) ?_)
        | (refine wpList_run rfl (op_allocZ _ _ _ _ _ _ _ 60 zero60) ?_)
        | (refine wpList_store_new rfl 60 _ _ rfl _ (updc u).toArray rfl rfl (by rw [List.size_toArray, updc_length u HU.out]; exact info60s) (by rw [zsize60, List.size_toArray, updc_length u HU.out]) (updv_one u) ?_))
      refine start_ (n := 17) (S := (fun W => Boxed w (reqc r a) 33 W ∧ Boxed wr (updc u) 60 W)) (ds := []) #[false, false, false, false, false, false, false, false, false, false, false, false, false, false, false, false, false] (by kernel_rfl) rfl rfl (⟨hbx.alloc _ |>.drew, (Boxed.start wr (updc u) 60).drew⟩) (fun hHeld => ?_)
      refine pure_ (i := 0) (N := (some 58)) (v := ?_) (a' := ?_) #[true, false, false, false, false, false, false, false, false, false, false, false, false, false, false, false, false] rfl rfl (by kernel_rfl) (fun _ _ _ h => h) (Or.inl ⟨by rfl, ?_⟩) ?_ ?_
      rotate_left
      · intro w'
        go_simp
        with_reducible rfl
      rotate_left
      · simp only [Act.put, List.setIfInBounds_toArray, List.set_cons_zero, List.set_cons_succ]
        rfl
      refine pure_ (i := 1) (N := (some 59)) (v := ?_) (a' := ?_) #[true, true, false, false, false, false, false, false, false, false, false, false, false, false, false, false, false] rfl rfl (by kernel_rfl) (fun _ _ _ h => h) (Or.inl ⟨by rfl, ?_⟩) ?_ ?_
      rotate_left
      · intro w'
        go_simp
        with_reducible rfl
      rotate_left
      · simp only [Act.put, List.setIfInBounds_toArray, List.set_cons_zero, List.set_cons_succ]
        rfl
      refine take_ (i := 2) (N := (some 60)) (v := ?_) (a' := ?_) #[true, true, true, false, false, false, false, false, false, false, false, false, false, false, false, false, false] rfl rfl (by kernel_rfl) (fun _ _ _ h => h) (Or.inl ⟨by rfl, ?_⟩) hHeld ?_ ?_
      rotate_left
      · intro w' hS'
        refine op_load_mid _ _ _ _ _ _ _ _ 41 wr.heap.size 1 (idc u.old) _ ?_ (hS'.2.range 1 (idc u.old) (fun j v hj => upd_old u hu j v hj)) und41 rfl (by rw [idc_length, hu.1]; exact info41)
        rfl
      rotate_left
      · simp only [Act.put, List.setIfInBounds_toArray, List.set_cons_zero, List.set_cons_succ]
        rfl
      refine pure_ (i := 6) (N := (some 64)) (v := ?_) (a' := ?_) #[true, true, true, false, false, false, true, false, false, false, false, false, false, false, false, false, false] rfl rfl (by kernel_rfl) (fun _ _ _ h => h) (Or.inl ⟨by rfl, ?_⟩) ?_ ?_
      rotate_left
      · intro w'
        go_simp
        with_reducible rfl
      rotate_left
      · simp only [Act.put, List.setIfInBounds_toArray, List.set_cons_zero, List.set_cons_succ]
        rfl
      refine take_ (i := 7) (N := (some 65)) (v := ?_) (a' := ?_) #[true, true, true, false, false, false, true, true, false, false, false, false, false, false, false, false, false] rfl rfl (by kernel_rfl) (fun _ _ _ h => h) (Or.inl ⟨by rfl, ?_⟩) hHeld ?_ ?_
      rotate_left
      · intro w' hS'
        refine op_load_mid _ _ _ _ _ _ _ _ 41 wr.heap.size 33 (idc u.new) _ ?_ (hS'.2.range 33 (idc u.new) (fun j v hj => upd_new u hu j v hj)) und41 rfl (by rw [idc_length, hu.2.1]; exact info41)
        rfl
      rotate_left
      · simp only [Act.put, List.setIfInBounds_toArray, List.set_cons_zero, List.set_cons_succ]
        rfl
      refine pure_ (i := 11) (N := (some 69)) (v := ?_) (a' := ?_) #[true, true, true, false, false, false, true, true, false, false, false, true, false, false, false, false, false] rfl rfl (by kernel_rfl) (fun _ _ _ h => h) (Or.inl ⟨by rfl, ?_⟩) ?_ ?_
      rotate_left
      · intro w'
        go_simp
        with_reducible rfl
      rotate_left
      · simp only [Act.put, List.setIfInBounds_toArray, List.set_cons_zero, List.set_cons_succ]
        rfl
      refine take_ (i := 12) (N := (some 70)) (v := ?_) (a' := ?_) #[true, true, true, false, false, false, true, true, false, false, false, true, true, false, false, false, false] rfl rfl (by kernel_rfl) (fun _ _ _ h => h) (Or.inl ⟨by rfl, ?_⟩) hHeld ?_ ?_
      rotate_left
      · intro w' hS'
        have h1 := hS'.2.cell 0 (.string (bs u.name)) rfl
        go_simp
        with_reducible rfl
      rotate_left
      · simp only [Act.put, List.setIfInBounds_toArray, List.set_cons_zero, List.set_cons_succ]
        rfl
      refine one_ (i := 3) (N := (some 61)) #[true, true, true, true, false, false, true, true, false, false, false, true, true, false, false, false, false] rfl rfl (by kernel_rfl) (by simp) (fun K hK => ?_)
      refine goes_ Tryz.func41 (by kernel_rfl) rfl #[.agg (idv u.old)] (by rfl) rfl rfl (by first | rfl | simp [Act.eval]) ?_
      refine (hex41_any u.old hu.1 _).mono ?_
      rintro e w1 ⟨rfl, hb⟩
      refine ⟨_, rfl, hK _ _ (⟨hHeld.1.call hb, hHeld.2.call hb⟩) (fun hHeld => ?_)⟩
      simp only [Act.put, List.setIfInBounds_toArray, List.set_cons_zero, List.set_cons_succ]
      refine pure_ (i := 4) (N := (some 62)) (v := ?_) (a' := ?_) #[true, true, true, true, true, false, true, true, false, false, false, true, true, false, false, false, false] rfl rfl (by kernel_rfl) (fun _ _ _ h => h) (Or.inl ⟨by rfl, ?_⟩) ?_ ?_
      rotate_left
      · intro w'
        refine op_concat _ _ _ _ _ _ _ _ _ _ ([117, 112, 100, 97, 116, 101, 32]) (hexs u.old) ?_ ?_ ?_
        rfl
        rfl
        simp [hxo]
      rotate_left
      · simp only [Act.put, List.setIfInBounds_toArray, List.set_cons_zero, List.set_cons_succ]
        rfl
      refine pure_ (i := 5) (N := (some 63)) (v := ?_) (a' := ?_) #[true, true, true, true, true, true, true, true, false, false, false, true, true, false, false, false, false] rfl rfl (by kernel_rfl) (fun _ _ _ h => h) (Or.inl ⟨by rfl, ?_⟩) ?_ ?_
      rotate_left
      · intro w'
        refine op_concat _ _ _ _ _ _ _ _ _ _ ([117, 112, 100, 97, 116, 101, 32] ++ hexs u.old) ([32]) ?_ ?_ ?_
        rfl
        rfl
        simp [hxo]
      rotate_left
      · simp only [Act.put, List.setIfInBounds_toArray, List.set_cons_zero, List.set_cons_succ]
        rfl
      refine one_ (i := 8) (N := (some 66)) #[true, true, true, true, true, true, true, true, true, false, false, true, true, false, false, false, false] rfl rfl (by kernel_rfl) (by simp) (fun K hK => ?_)
      refine goes_ Tryz.func41 (by kernel_rfl) rfl #[.agg (idv u.new)] (by rfl) rfl rfl (by first | rfl | simp [Act.eval]) ?_
      refine (hex41_any u.new hu.2.1 _).mono ?_
      rintro e w1 ⟨rfl, hb⟩
      refine ⟨_, rfl, hK _ _ (⟨hHeld.1.call hb, hHeld.2.call hb⟩) (fun hHeld => ?_)⟩
      simp only [Act.put, List.setIfInBounds_toArray, List.set_cons_zero, List.set_cons_succ]
      refine pure_ (i := 9) (N := (some 67)) (v := ?_) (a' := ?_) #[true, true, true, true, true, true, true, true, true, true, false, true, true, false, false, false, false] rfl rfl (by kernel_rfl) (fun _ _ _ h => h) (Or.inl ⟨by rfl, ?_⟩) ?_ ?_
      rotate_left
      · intro w'
        refine op_concat _ _ _ _ _ _ _ _ _ _ ([117, 112, 100, 97, 116, 101, 32] ++ hexs u.old ++ [32]) (hexs u.new) ?_ ?_ ?_
        rfl
        rfl
        simp [hxo, hxn]
      rotate_left
      · simp only [Act.put, List.setIfInBounds_toArray, List.set_cons_zero, List.set_cons_succ]
        rfl
      refine pure_ (i := 10) (N := (some 68)) (v := ?_) (a' := ?_) #[true, true, true, true, true, true, true, true, true, true, true, true, true, false, false, false, false] rfl rfl (by kernel_rfl) (fun _ _ _ h => h) (Or.inl ⟨by rfl, ?_⟩) ?_ ?_
      rotate_left
      · intro w'
        refine op_concat _ _ _ _ _ _ _ _ _ _ ([117, 112, 100, 97, 116, 101, 32] ++ hexs u.old ++ [32] ++ hexs u.new) ([32]) ?_ ?_ ?_
        rfl
        rfl
        simp [hxo, hxn]
      rotate_left
      · simp only [Act.put, List.setIfInBounds_toArray, List.set_cons_zero, List.set_cons_succ]
        rfl
      refine pure_ (i := 13) (N := (some 71)) (v := ?_) (a' := ?_) #[true, true, true, true, true, true, true, true, true, true, true, true, true, true, false, false, false] rfl rfl (by kernel_rfl) (fun _ _ _ h => h) (Or.inl ⟨by rfl, ?_⟩) ?_ ?_
      rotate_left
      · intro w'
        refine op_concat _ _ _ _ _ _ _ _ _ _ ([117, 112, 100, 97, 116, 101, 32] ++ hexs u.old ++ [32] ++ hexs u.new ++ [32]) (u.name) ?_ ?_ ?_
        rfl
        rfl
        simp [hxo, hxn]; omega
      rotate_left
      · simp only [Act.put, List.setIfInBounds_toArray, List.set_cons_zero, List.set_cons_succ]
        rfl
      refine one_ (i := 14) (N := (some 72)) #[true, true, true, true, true, true, true, true, true, true, true, true, true, true, true, false, false] rfl rfl (by kernel_rfl) (by simp) (fun K hK => ?_)
      refine goes_ Tryz.func36 (by kernel_rfl) rfl #[.string (bs ([117, 112, 100, 97, 116, 101, 32] ++ hexs u.old ++ [32] ++ hexs u.new ++ [32] ++ u.name))] (by rfl) rfl rfl (by first | rfl | simp [Act.eval]) ?_
      refine (oneUpd_any u hu hun _).mono ?_
      rintro e w1 ⟨rfl, hb⟩
      refine ⟨_, rfl, hK _ _ (⟨hHeld.1.call hb, hHeld.2.call hb⟩) (fun hHeld => ?_)⟩
      simp only [Act.put, List.setIfInBounds_toArray, List.set_cons_zero, List.set_cons_succ]
      refine pure_ (i := 15) (N := (some 73)) (v := ?_) (a' := ?_) #[true, true, true, true, true, true, true, true, true, true, true, true, true, true, true, true, false] rfl rfl (by kernel_rfl) (fun _ _ _ h => h) (Or.inl ⟨by rfl, ?_⟩) ?_ ?_
      rotate_left
      · intro w'
        refine op_concat _ _ _ _ _ _ _ _ _ _ (j4) (updLine u) ?_ ?_ ?_
        rfl
        rfl
        omega
      rotate_left
      · simp only [Act.put, List.setIfInBounds_toArray, List.set_cons_zero, List.set_cons_succ]
        rfl
      refine pure_ (i := 16) (N := (some 3)) (v := ?_) (a' := ?_) #[true, true, true, true, true, true, true, true, true, true, true, true, true, true, true, true, true] rfl rfl (by kernel_rfl) (fun _ _ _ h => h) (Or.inl ⟨by rfl, ?_⟩) ?_ ?_
      rotate_left
      · intro w'
        go_simp
        with_reducible rfl
      rotate_left
      · simp only [Act.put, List.setIfInBounds_toArray, List.set_cons_zero, List.set_cons_succ]
        rfl
      refine done_ (by kernel_rfl) ?_
      go_wp2
      go_roundw
      case rel => exact ⟨k + 1, by omega, by go_num, by rw [hnx.out, ← List.append_assoc, Hj4.out], hHeld.1⟩
      case measure => simp [intOf]; omega
    · obtain rfl : k = r.updates.length := by omega
      rw [List.take_length] at hlen ⊢
      have l13 : (j3 ++ updLines r.updates ++ [48, 48, 48, 49]).length ≤ 190000 := by simp at hlen ⊢; omega
      obtain ⟨j4, Hj4⟩ : ∃ j4, Hid (j3 ++ updLines r.updates = j4) := ⟨_, Lib.hid rfl⟩
      rw [Hj4.out] at hlen l13 ⊢
      by_cases he : r.data = []
      · have hfin : Hid (askText r op ses dep pla = j4 ++ [48, 48, 48, 48]) := Lib.hid (by simp only [askText, delim, he, if_true, List.append_nil, pieces_nil, Hj3.out, Hj4.out])
        have hb : (!(r.data == ([] : List UInt8))) = false := by simp [he]
        rw [he] at c10
        have hpn := Lib.hid pieces_nil
        go_wp2_with (refine wpList_run rfl (op_str_neqB _ _ _ _ _ _ _ _ _ _ [] [] false rfl rfl rfl) ?_)
        refine (pieces42_any [] (by simp) _).mono ?_; rintro e w1 ⟨rfl, hb1⟩
        rw [hpn.out]
        go_wp2_with (first
          | (refine wpList_run rfl (op_concat _ _ _ _ _ _ _ _ _ _ j4 [] rfl rfl (by simp; omega)) ?_)
          | (refine wpList_run rfl (op_concat _ _ _ _ _ _ _ _ _ _ (j4 ++ []) [48, 48, 48, 48] rfl rfl (by simp; omega)) ?_)
          | (refine wpList_run rfl (op_concat _ _ _ _ _ _ _ _ _ _ j4 [48, 48, 48, 48] rfl rfl (by simp; omega)) ?_))
        go_ret
        exact ⟨by rw [hfin.out]; simp, below_call hbel hb1⟩
      · have hfin : Hid (askText r op ses dep pla = j4 ++ [48, 48, 48, 49] ++ piecesB r.data ++ [48, 48, 48, 48]) := Lib.hid (by simp only [askText, delim, he, if_false, Hj3.out, Hj4.out])
        have hb : (!(r.data == ([] : List UInt8))) = true := by simp [he]
        have HE := Lib.hid he
        clear he
        go_wp2_with (first
          | (refine wpList_run rfl (op_str_neqB _ _ _ _ _ _ _ _ _ _ r.data [] true hb rfl rfl) ?_)
          | (refine wpList_run rfl (op_concat _ _ _ _ _ _ _ _ _ _ j4 [48, 48, 48, 49] rfl rfl (by simp; omega)) ?_))
        refine (pieces42_any r.data (by omega) _).mono ?_; rintro e w1 ⟨rfl, hb1⟩
        go_wp2_with (first
          | (refine wpList_run rfl (op_concat _ _ _ _ _ _ _ _ _ _ (j4 ++ [48, 48, 48, 49]) (piecesB r.data) rfl rfl (by simp; omega)) ?_)
          | (refine wpList_run rfl (op_concat _ _ _ _ _ _ _ _ _ _ _ [48, 48, 48, 48] rfl rfl (by simp; omega)) ?_))
        go_ret
        exact ⟨by rw [hfin.out]; simp, below_call hbel hb1⟩
end Go.Proofs.YtmfpmedkhlhnpaaGreatDoor
