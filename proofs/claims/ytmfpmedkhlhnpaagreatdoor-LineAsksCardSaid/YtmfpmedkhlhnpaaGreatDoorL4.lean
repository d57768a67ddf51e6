import Derived.Test.YtmfpmedkhlhnpaaGreatDoorL3
/- Plain: a reply that is written is read as it was. -/
namespace Go.Proofs.YtmfpmedkhlhnpaaGreatDoor
open Go.RowKit Go.Extern.Stop Go.Proofs.YtmfpmedkhlhnpaaGreatDoorW.PrintLast
set_option maxRecDepth 100000
set_option linter.unusedSimpArgs false
set_option linter.unusedVariables false
/-- A name, and what it stands for. -/
structure Rf where
  name : List UInt8
  id : List UInt8
structure Rep where
  op : Int
  err : Int
  caps : List (List UInt8)
  refs : List Rf
  acks : List (List UInt8)
  shallow : List (List UInt8)
  deep : List (List UInt8)
  ready : Bool
  band : Bool
  size : Int
  sum : List UInt8
  told : List Int
  data : List UInt8
  note : List UInt8
def refP (rs : List Rf) (i : Nat) : Bool := nameOk (rs.getD i ⟨[], []⟩).name && (!((rs.getD i ⟨[], []⟩).id == noId) && (i == 0 || slt (rs.getD (i - 1) ⟨[], []⟩).name (rs.getD i ⟨[], []⟩).name))
/-- May refs be? -/
def refsOk (rs : List Rf) : Bool := (List.range rs.length).all (refP rs) && decide (rs.length ≤ 64)
def tellsT (l : List Int) : Bool := l.all fun n => inR n 99
def tellsN (r : Rep) : Bool := decide (1 ≤ r.op) && (decide (r.op ≤ 6) && (inR r.err 99 && (inR r.size 262144 && (decide (0 < r.size) || r.sum == noId))))
def tellsL (r : Rep) : Bool := decide (r.acks.length ≤ 400) && (decide (r.shallow.length ≤ 400) && (decide (r.deep.length ≤ 400) && (decide (r.told.length ≤ 64) && (decide (r.data.length ≤ 2000) && (decide (r.note.length ≤ 2000) && (r.band || r.note == []))))))
/-- May a reply be? -/
def tellsB (r : Rep) : Bool := tellsT r.told && (tellsN r && ((capsOk r.caps && refsOk r.refs) && tellsL r))
abbrev wRef : List UInt8 := [114, 101, 102]
abbrev wAck : List UInt8 := [97, 99, 107]
abbrev wReady : List UInt8 := [114, 101, 97, 100, 121]
abbrev wSize : List UInt8 := [115, 105, 122, 101]
abbrev wDeep : List UInt8 := [100, 101, 101, 112]
abbrev wTold : List UInt8 := [116, 111, 108, 100]
abbrev wBand : List UInt8 := [98, 97, 110, 100]
def refPk (x : Rf) : Pk := ⟨0, Lib.join [wRef, hexs x.id, x.name] [32]⟩
def onePks (b : Bool) (word : List UInt8) : List Pk := if b then [⟨0, word⟩] else []
def sizePks (n : Nat) (sum : List UInt8) : List Pk := if n = 0 then [] else [⟨0, Lib.join [wSize, Lib.decDigits n, hexs sum] [32]⟩]
def toldPks (l : List Nat) : List Pk := l.map fun n => ⟨0, wTold ++ 32 :: Lib.decDigits n⟩
def bandPks (c : UInt8) (l : List UInt8) : List Pk := (chunks l).map fun x => ⟨0, c :: x⟩
def delimP (b : Bool) : List Pk := if b then [⟨2, []⟩] else []
def tellHead (r : Rep) : List Pk :=
  (((((((([⟨0, Lib.join [wOp, Lib.decDigits r.op.toNat, Lib.decDigits r.err.toNat] [32]⟩] ++ capsPks r.caps) ++ r.refs.map refPk) ++ idPks wAck r.acks) ++ onePks r.ready wReady) ++ sizePks r.size.toNat r.sum) ++ idPks wShallow r.shallow) ++ idPks wDeep r.deep) ++ toldPks (r.told.map Int.toNat)) ++ onePks r.band wBand
def tellBody (r : Rep) : List Pk := if r.band then bandPks 1 r.data ++ bandPks 2 r.note else chunkPks r.data
def tellPks (r : Rep) : List Pk := ((tellHead r ++ delimP (!(r.data ++ r.note == []))) ++ tellBody r) ++ [⟨1, []⟩]
/-- A reply with a line taken in. -/
def readR (q : Rep) (l : List UInt8) : Rep :=
  if bef l = wOp then { q with op := figI (bef (aft l)), err := figI (aft (aft l)) }
  else if bef l = wCaps then { q with caps := capsG (aft l) }
  else if bef l = wRef then { q with refs := q.refs ++ [⟨aft (aft l), unhexI (bef (aft l))⟩] }
  else if bef l = wAck then { q with acks := q.acks ++ [unhexI (aft l)] }
  else if bef l = wReady then { q with ready := true }
  else if bef l = wSize then { q with size := figI (bef (aft l)), sum := unhexI (aft (aft l)) }
  else if bef l = wShallow then { q with shallow := q.shallow ++ [unhexI (aft l)] }
  else if bef l = wDeep then { q with deep := q.deep ++ [unhexI (aft l)] }
  else if bef l = wTold then { q with told := q.told ++ [figI (aft l)] }
  else if bef l = wBand then { q with band := true }
  else q
theorem rd_op {q : Rep} {l : List UInt8} (h : bef l = wOp) : readR q l = { q with op := figI (bef (aft l)), err := figI (aft (aft l)) } := by
  rw [readR, if_pos h]
theorem rd_caps {q : Rep} {l : List UInt8} (h : bef l = wCaps) : readR q l = { q with caps := capsG (aft l) } := by
  rw [readR, h, if_neg (by decide), if_pos rfl]
theorem rd_ref {q : Rep} {l : List UInt8} (h : bef l = wRef) : readR q l = { q with refs := q.refs ++ [⟨aft (aft l), unhexI (bef (aft l))⟩] } := by
  rw [readR, h, if_neg (by decide), if_neg (by decide), if_pos rfl]
theorem rd_ack {q : Rep} {l : List UInt8} (h : bef l = wAck) : readR q l = { q with acks := q.acks ++ [unhexI (aft l)] } := by
  rw [readR, h, if_neg (by decide), if_neg (by decide), if_neg (by decide), if_pos rfl]
theorem rd_ready {q : Rep} {l : List UInt8} (h : bef l = wReady) : readR q l = { q with ready := true } := by
  rw [readR, h, if_neg (by decide), if_neg (by decide), if_neg (by decide), if_neg (by decide), if_pos rfl]
theorem rd_size {q : Rep} {l : List UInt8} (h : bef l = wSize) : readR q l = { q with size := figI (bef (aft l)), sum := unhexI (aft (aft l)) } := by
  rw [readR, h, if_neg (by decide), if_neg (by decide), if_neg (by decide), if_neg (by decide), if_neg (by decide), if_pos rfl]
theorem rd_shallow {q : Rep} {l : List UInt8} (h : bef l = wShallow) : readR q l = { q with shallow := q.shallow ++ [unhexI (aft l)] } := by
  rw [readR, h, if_neg (by decide), if_neg (by decide), if_neg (by decide), if_neg (by decide), if_neg (by decide), if_neg (by decide), if_pos rfl]
theorem rd_deep {q : Rep} {l : List UInt8} (h : bef l = wDeep) : readR q l = { q with deep := q.deep ++ [unhexI (aft l)] } := by
  rw [readR, h, if_neg (by decide), if_neg (by decide), if_neg (by decide), if_neg (by decide), if_neg (by decide), if_neg (by decide), if_neg (by decide), if_pos rfl]
theorem rd_told {q : Rep} {l : List UInt8} (h : bef l = wTold) : readR q l = { q with told := q.told ++ [figI (aft l)] } := by
  rw [readR, h, if_neg (by decide), if_neg (by decide), if_neg (by decide), if_neg (by decide), if_neg (by decide), if_neg (by decide), if_neg (by decide), if_neg (by decide), if_pos rfl]
theorem rd_band {q : Rep} {l : List UInt8} (h : bef l = wBand) : readR q l = { q with band := true } := by
  rw [readR, h, if_neg (by decide), if_neg (by decide), if_neg (by decide), if_neg (by decide), if_neg (by decide), if_neg (by decide), if_neg (by decide), if_neg (by decide), if_neg (by decide), if_pos rfl]
theorem rd_other {q : Rep} {l : List UInt8} (h1 : bef l ≠ wOp) (h2 : bef l ≠ wCaps) (h3 : bef l ≠ wRef) (h4 : bef l ≠ wAck) (h5 : bef l ≠ wReady) (h6 : bef l ≠ wSize) (h7 : bef l ≠ wShallow) (h8 : bef l ≠ wDeep) (h9 : bef l ≠ wTold) (h10 : bef l ≠ wBand) : readR q l = q := by
  rw [readR, if_neg h1, if_neg h2, if_neg h3, if_neg h4, if_neg h5, if_neg h6, if_neg h7, if_neg h8, if_neg h9, if_neg h10]
abbrev noRep : Rep := ⟨0, 0, [], [], [], [], [], false, false, 0, noId, [], [], []⟩
def readAllR (q : Rep) (l : List Pk) : Rep := l.foldl (fun q p => readR q p.load) q
theorem readAllR_append (q : Rep) (a b : List Pk) : readAllR q (a ++ b) = readAllR (readAllR q a) b := List.foldl_append ..
theorem readAllR_ids (w : List UInt8) (hw : (32 : UInt8) ∉ w) (f : Rep → List (List UInt8) → Rep) (h0 : ∀ q, f q [] = q) (h2 : ∀ q a b, f (f q a) b = f q (a ++ b)) (h1 : ∀ q l, bef l = w → readR q l = f q [unhexI (aft l)]) :
    ∀ (l : List (List UInt8)), (∀ x ∈ l, x.length = 32) → ∀ q, readAllR q (idPks w l) = f q l
  | [], _, q => (h0 q).symm
  | x :: l, hl, q => by
    have ih := readAllR_ids w hw f h0 h2 h1 l (fun y hy => hl y (List.mem_cons_of_mem _ hy))
    show readAllR (readR q (w ++ 32 :: hexs x)) (idPks w l) = _
    rw [ih, h1 _ _ (bef_at _ _ hw), aft_at _ _ hw, unhex_hexs x (hl x (List.mem_cons_self ..)), h2]
    rfl
theorem readAllR_refs : ∀ (l : List Rf), (∀ x ∈ l, x.id.length = 32) → ∀ q : Rep, readAllR q (l.map refPk) = { q with refs := q.refs ++ l }
  | [], _, q => by show q = _; rw [List.append_nil]
  | x :: l, hx, q => by
    have ih := readAllR_refs l (fun v hv => hx v (List.mem_cons_of_mem _ hv))
    show readAllR (readR q (refPk x).load) (l.map refPk) = _
    have e : (refPk x).load = wRef ++ 32 :: (hexs x.id ++ 32 :: x.name) := by
      rw [refPk]; simp only; rw [join_cons2, join_cons2, join_one]
    rw [ih, e, rd_ref (bef_at _ _ (by decide)), aft_at _ _ (by decide), aft_at _ _ (hexs_noblank _), bef_at _ _ (hexs_noblank _), unhex_hexs _ (hx x (List.mem_cons_self ..))]
    simp
theorem readAllR_told : ∀ (l : List Int), tellsT l = true → ∀ q : Rep, readAllR q (toldPks (l.map Int.toNat)) = { q with told := q.told ++ l }
  | [], _, q => by show q = _; rw [List.append_nil]
  | n :: l, h, q => by
    rw [tellsT, List.all_cons, Bool.and_eq_true, inR, Bool.and_eq_true, decide_eq_true_eq, decide_eq_true_eq] at h
    have ih := readAllR_told l h.2
    show readAllR (readR q (wTold ++ 32 :: Lib.decDigits n.toNat)) (toldPks (l.map Int.toNat)) = _
    rw [ih, rd_told (bef_at _ _ (by decide)), aft_at _ _ (by decide), figI_dec _ (by omega), Int.toNat_of_nonneg (by omega)]
    simp
theorem readAllR_caps (ss : List (List UInt8)) (h : capsOk ss = true) (q : Rep) (hq : q.caps = []) : readAllR q (capsPks ss) = { q with caps := ss } := by
  rw [capsPks]
  split
  · rename_i h0; subst h0; rw [← hq]; rfl
  · rename_i h0
    show readR q (wCaps ++ 32 :: Lib.join ss [32]) = _
    rw [rd_caps (bef_at _ _ (by decide)), aft_at _ _ (by decide), caps_read h h0]
theorem readAllR_op (op err : Nat) (h1 : op ≤ 9999999) (h2 : err ≤ 9999999) (q : Rep) : readAllR q [⟨0, Lib.join [wOp, Lib.decDigits op, Lib.decDigits err] [32]⟩] = { q with op := (op : Int), err := (err : Int) } := by
  show readR q (Lib.join [wOp, Lib.decDigits op, Lib.decDigits err] [32]) = _
  rw [join_cons2, join_cons2, join_one, rd_op (bef_at _ _ (by decide)), aft_at _ _ (by decide), bef_at _ _ (dec_noblank _), aft_at _ _ (dec_noblank _), figI_dec op h1, figI_dec err h2]
theorem readAllR_size (n : Nat) (sum : List UInt8) (h : n ≤ 9999999) (hs : sum.length = 32) (q : Rep) (hq : q.size = 0) (hq2 : q.sum = noId) (h0 : n = 0 → sum = noId) : readAllR q (sizePks n sum) = { q with size := (n : Int), sum := sum } := by
  rw [sizePks]
  split
  · rename_i e; subst e; rw [h0 rfl]; show q = { q with size := (0 : Int), sum := noId }; rw [← hq, ← hq2]
  · show readR q (Lib.join [wSize, Lib.decDigits n, hexs sum] [32]) = _
    rw [join_cons2, join_cons2, join_one, rd_size (bef_at _ _ (by decide)), aft_at _ _ (by decide), bef_at _ _ (dec_noblank _), aft_at _ _ (dec_noblank _), figI_dec n h, unhex_hexs _ hs]
theorem readAllR_ready (b : Bool) (q : Rep) (hq : q.ready = false) : readAllR q (onePks b wReady) = { q with ready := b } := by
  cases b with
  | false => show q = _; rw [← hq]
  | true => exact rd_ready (bef_no _ (by decide))
theorem readAllR_band (b : Bool) (q : Rep) (hq : q.band = false) : readAllR q (onePks b wBand) = { q with band := b } := by
  cases b with
  | false => show q = _; rw [← hq]
  | true => exact rd_band (bef_no _ (by decide))
structure RepFit (r : Rep) : Prop where
  refs : ∀ x ∈ r.refs, x.id.length = 32
  acks : ∀ x ∈ r.acks, x.length = 32
  shallow : ∀ x ∈ r.shallow, x.length = 32
  deep : ∀ x ∈ r.deep, x.length = 32
  sum : r.sum.length = 32
structure TellOk (r : Rep) : Prop where
  op1 : 1 ≤ r.op
  op6 : r.op ≤ 6
  err0 : 0 ≤ r.err
  err9 : r.err ≤ 99
  size0 : 0 ≤ r.size
  size9 : r.size ≤ 262144
  sum0 : r.size = 0 → r.sum = noId
  told : tellsT r.told = true
  caps : capsOk r.caps = true
  refs : refsOk r.refs = true
  nAcks : r.acks.length ≤ 400
  nShallow : r.shallow.length ≤ 400
  nDeep : r.deep.length ≤ 400
  nTold : r.told.length ≤ 64
  nData : r.data.length ≤ 2000
  nNote : r.note.length ≤ 2000
  band : r.band = false → r.note = []
theorem tellOk_of {r : Rep} (h : tellsB r = true) : TellOk r := by
  simp only [tellsB, tellsN, tellsL, inR, Bool.and_eq_true, Bool.or_eq_true, decide_eq_true_eq, beq_iff_eq] at h
  obtain ⟨ht, ⟨a1, a2, ⟨a3, a4⟩, ⟨a5, a6⟩, a7⟩, ⟨hc, hr⟩, b1, b2, b3, b4, b5, b6, b7⟩ := h
  exact ⟨a1, a2, a3, a4, a5, a6, fun e => by rcases a7 with h | h; omega; exact h, ht, hc, hr, b1, b2, b3, b4, b5, b6, fun e => by rcases b7 with h | h; (rw [e] at h; cases h); exact h⟩
theorem refs_len {rs : List Rf} (h : refsOk rs = true) : rs.length ≤ 64 ∧ ∀ x ∈ rs, nameOk x.name = true := by
  rw [refsOk, Bool.and_eq_true, decide_eq_true_eq] at h
  refine ⟨h.2, fun s hs => ?_⟩
  obtain ⟨k, hk, rfl⟩ := List.mem_iff_getElem.1 hs
  have := (List.all_eq_true.1 h.1) k (List.mem_range.2 hk)
  rw [refP, Bool.and_eq_true, List.getD_eq_getElem?_getD, List.getElem?_eq_getElem hk] at this
  exact this.1
theorem name_len {s : List UInt8} (h : nameOk s = true) : s.length ≤ 40 := by
  rw [nameOk, Bool.and_eq_true, decide_eq_true_eq] at h
  exact h.2
theorem rep_eq {r : Rep} {o e z : Int} (h1 : r.op = o) (h2 : r.err = e) (h3 : r.size = z) : (⟨o, e, r.caps, r.refs, r.acks, r.shallow, r.deep, r.ready, r.band, z, r.sum, r.told, [], []⟩ : Rep) = { r with data := [], note := [] } := by
  subst h1 h2 h3; rfl
theorem readR_head {r : Rep} (hk : TellOk r) (hf : RepFit r) : readAllR noRep (tellHead r) = { r with data := [], note := [] } := by
  have n1 := hk.op6
  have n2 := hk.err9
  have n3 := hk.size9
  have n4 := hk.op1
  have n5 := hk.err0
  have n6 := hk.size0
  simp only [tellHead, readAllR_append]
  rw [readAllR_op _ _ (by omega) (by omega), readAllR_caps _ hk.caps, readAllR_refs _ hf.refs,
    readAllR_ids wAck (by decide) (fun q l => { q with acks := q.acks ++ l }) (fun q => by simp) (fun q a b => by simp) (fun q l h => rd_ack h) _ hf.acks,
    readAllR_ready, readAllR_size _ _ (by omega) hf.sum,
    readAllR_ids wShallow (by decide) (fun q l => { q with shallow := q.shallow ++ l }) (fun q => by simp) (fun q a b => by simp) (fun q l h => rd_shallow h) _ hf.shallow,
    readAllR_ids wDeep (by decide) (fun q l => { q with deep := q.deep ++ l }) (fun q => by simp) (fun q a b => by simp) (fun q l h => rd_deep h) _ hf.deep,
    readAllR_told _ hk.told, readAllR_band]
  · exact rep_eq (Int.toNat_of_nonneg (by omega)).symm (Int.toNat_of_nonneg n5).symm (Int.toNat_of_nonneg n6).symm
  all_goals first | rfl | exact fun e => hk.sum0 (by omega)
theorem tellHead_kind (r : Rep) : ∀ p ∈ tellHead r, p.kind = 0 := by
  intro p hp
  have ids : ∀ (w : List UInt8) (l : List (List UInt8)), ∀ p ∈ idPks w l, p.kind = 0 := by
    intro w l p hp
    obtain ⟨x, hx, rfl⟩ := List.mem_map.1 hp; rfl
  have one : ∀ (b : Bool) (w : List UInt8), ∀ p ∈ onePks b w, p.kind = 0 := by
    intro b w p hp
    rw [onePks] at hp
    split at hp
    · rw [List.mem_singleton.1 hp]
    · cases hp
  simp only [tellHead, List.mem_append] at hp
  rcases hp with ((((((((h | h) | h) | h) | h) | h) | h) | h) | h) | h
  · rw [List.mem_singleton.1 h]
  · rw [capsPks] at h
    split at h
    · cases h
    · rw [List.mem_singleton.1 h]
  · obtain ⟨u, hu, rfl⟩ := List.mem_map.1 h; rfl
  · exact ids _ _ _ h
  · exact one _ _ _ h
  · rw [sizePks] at h
    split at h
    · cases h
    · rw [List.mem_singleton.1 h]
  · exact ids _ _ _ h
  · exact ids _ _ _ h
  · obtain ⟨u, hu, rfl⟩ := List.mem_map.1 h; rfl
  · exact one _ _ _ h
/-- Is a line a channel's? -/
def bandP (p : Pk) : Bool := decide (p.kind = 0) && (decide (2 ≤ p.load.length) && (decide (p.load.length ≤ 1000) && (decide (1 ≤ (p.load.headD 0).toNat) && decide ((p.load.headD 0).toNat ≤ 3))))
/-- What a channel's lines have. -/
def bandS (c : Nat) (l : List Pk) : List UInt8 := l.flatMap fun p => if (p.load.headD 0).toNat = c then p.load.tail else []
/-- The streams of lines. -/
def bandG (l : List Pk) : List UInt8 × List UInt8 := if l.all bandP && bandS 3 l == [] then (bandS 1 l, bandS 2 l) else ([], [])
theorem bandS_append (c : Nat) (a b : List Pk) : bandS c (a ++ b) = bandS c a ++ bandS c b := by simp [bandS]
theorem chunks_all {P : List UInt8 → Prop} (h : ∀ x, x ≠ [] → x.length ≤ 900 → P x) (l : List UInt8) : ∀ x ∈ chunks l, P x := by
  induction e : l.length using Nat.strongRecOn generalizing l with
  | ind n ih =>
    by_cases hn : l = []
    · subst hn; rw [chunks_nil]; intro x hx; cases hx
    · have hl := List.length_pos_iff.2 hn
      rw [chunks_cons hn]
      intro x hx
      rcases List.mem_cons.1 hx with rfl | hx
      · refine h _ (fun e => ?_) (by rw [List.length_take]; omega)
        have := congrArg List.length e
        rw [List.length_take, List.length_nil] at this; omega
      · exact ih (l.drop 900).length (by rw [List.length_drop]; omega) (l.drop 900) rfl x hx
theorem chunks_join (l : List UInt8) : (chunks l).flatMap (fun x => x) = l := by
  have := loads_chunks l
  rw [loads, chunkPks, List.flatMap_map] at this
  exact this
theorem bandS_pks (c : UInt8) (n : Nat) (l : List UInt8) : bandS n (bandPks c l) = if c.toNat = n then l else [] := by
  have h : ∀ xs : List (List UInt8), bandS n (xs.map fun x => ⟨0, c :: x⟩) = if c.toNat = n then xs.flatMap (fun x => x) else [] := by
    intro xs
    induction xs with
    | nil => simp [bandS]
    | cons x xs ih =>
      have e : bandS n ((x :: xs).map fun x => (⟨0, c :: x⟩ : Pk)) = (if c.toNat = n then x else []) ++ bandS n (xs.map fun x => ⟨0, c :: x⟩) := rfl
      rw [e, ih]
      split <;> simp
  rw [bandPks, h, chunks_join]
theorem bandP_pks (c : UInt8) (h1 : 1 ≤ c.toNat) (h3 : c.toNat ≤ 3) (l : List UInt8) : ∀ p ∈ bandPks c l, bandP p = true := by
  intro p hp
  obtain ⟨x, hx, rfl⟩ := List.mem_map.1 hp
  have := chunks_all (P := fun x => 1 ≤ x.length ∧ x.length ≤ 900) (fun x h1 h2 => ⟨List.length_pos_iff.2 h1, h2⟩) l x hx
  simp only [bandP, List.length_cons, List.headD_cons, Bool.and_eq_true, decide_eq_true_eq]
  exact ⟨trivial, by omega, by omega, decide_eq_true h1, decide_eq_true h3⟩
theorem bandG_pks (a b : List UInt8) : bandG (bandPks 1 a ++ bandPks 2 b) = (a, b) := by
  have h1 : (bandPks 1 a ++ bandPks 2 b).all bandP = true := by
    rw [List.all_append, Bool.and_eq_true, List.all_eq_true, List.all_eq_true]
    exact ⟨bandP_pks 1 (by decide) (by decide) a, bandP_pks 2 (by decide) (by decide) b⟩
  rw [bandG, h1, bandS_append, bandS_append, bandS_append, bandS_pks, bandS_pks, bandS_pks, bandS_pks, bandS_pks, bandS_pks]
  simp
def dataR (q : Rep) (t : List Pk) : Rep := if q.band && decide (0 < t.length) then { q with data := (bandG t.dropLast).1, note := (bandG t.dropLast).2 } else { q with data := loads t }
/-- What a text tells. -/
def readTell (s : List UInt8) : Rep := dataR ((cutP (allD s)).1.foldl readR noRep) (cutP (allD s)).2
def tellT (r : Rep) : List UInt8 := pksB (tellPks r)
theorem tellPks_fine {r : Rep} (hk : TellOk r) (hf : RepFit r) : ∀ p ∈ tellPks r, PkFine p := by
  have n1 := hk.op6
  have n2 := hk.err9
  have n3 := hk.size9
  have d1 := dec_len7 (n := r.op.toNat) (by omega)
  have d2 := dec_len7 (n := r.err.toNat) (by omega)
  have d3 := dec_len7 (n := r.size.toNat) (by omega)
  have ids : ∀ (w : List UInt8) (l : List (List UInt8)), w.length ≤ 20 → (∀ x ∈ l, x.length = 32) → ∀ p ∈ idPks w l, PkFine p := by
    intro w l hw hl p hp
    obtain ⟨x, hx, rfl⟩ := List.mem_map.1 hp
    refine fine0 _ ?_
    have := hl x hx
    simp [hexs_length, this]; omega
  have one : ∀ (b : Bool) (w : List UInt8), w.length ≤ 20 → ∀ p ∈ onePks b w, PkFine p := by
    intro b w hw p hp
    rw [onePks] at hp
    split at hp
    · rw [List.mem_singleton.1 hp]; exact fine0 _ (by omega)
    · cases hp
  have band : ∀ (c : UInt8) (l : List UInt8), ∀ p ∈ bandPks c l, PkFine p := by
    intro c l p hp
    obtain ⟨x, hx, rfl⟩ := List.mem_map.1 hp
    have := chunk_fine l x hx
    exact fine0 _ (by rw [List.length_cons]; omega)
  intro p hp
  simp only [tellPks, tellHead, List.mem_append] at hp
  rcases hp with (((((((((((h | h) | h) | h) | h) | h) | h) | h) | h) | h) | h) | h) | h
  · rw [List.mem_singleton.1 h]
    refine fine0 _ ?_
    rw [join_cons2, join_cons2, join_one]; simp; omega
  · rw [capsPks] at h
    split at h
    · cases h
    · rw [List.mem_singleton.1 h]
      have hc := caps_lens hk.caps
      have := join_len r.caps 20 hc.2
      have h2 := hc.1
      refine fine0 _ ?_
      simp; omega
  · obtain ⟨x, hx, rfl⟩ := List.mem_map.1 h
    have := name_len ((refs_len hk.refs).2 x hx)
    have := hf.refs x hx
    refine fine0 _ ?_
    rw [join_cons2, join_cons2, join_one]; simp [hexs_length]; omega
  · exact ids _ _ (by decide) hf.acks _ h
  · exact one _ _ (by decide) _ h
  · rw [sizePks] at h
    split at h
    · cases h
    · rw [List.mem_singleton.1 h]
      have := hf.sum
      refine fine0 _ ?_
      rw [join_cons2, join_cons2, join_one]; simp [hexs_length]; omega
  · exact ids _ _ (by decide) hf.shallow _ h
  · exact ids _ _ (by decide) hf.deep _ h
  · obtain ⟨n, hn, rfl⟩ := List.mem_map.1 h
    obtain ⟨m, hm, rfl⟩ := List.mem_map.1 hn
    have ht := (List.all_eq_true.1 hk.told) m hm
    rw [inR, Bool.and_eq_true, decide_eq_true_eq, decide_eq_true_eq] at ht
    have := dec_len7 (n := m.toNat) (by omega)
    refine fine0 _ ?_
    simp; omega
  · exact one _ _ (by decide) _ h
  · rw [delimP] at h
    split at h
    · rw [List.mem_singleton.1 h]; exact .inr (.inr ⟨rfl, rfl⟩)
    · cases h
  · rw [tellBody] at h
    split at h
    · rcases List.mem_append.1 h with h | h
      · exact band _ _ _ h
      · exact band _ _ _ h
    · obtain ⟨x, hx, rfl⟩ := List.mem_map.1 h
      have := chunk_fine r.data x hx
      exact fine0 _ (by omega)
  · rw [List.mem_singleton.1 h]; exact .inr (.inl ⟨rfl, rfl⟩)
/-- THE LAW: what is written is read as it was. -/
theorem read_tell {r : Rep} (hB : tellsB r = true) (hf : RepFit r) : readTell (tellT r) = r := by
  have hok := tellOk_of hB
  have hA : allD (tellT r) = tellPks r := by rw [allD, tellT, allP_lines _ (tellPks_fine hok hf)]; rfl
  have hh := readR_head hok hf
  have hk := tellHead_kind r
  rw [readTell, hA, tellPks, List.append_assoc, List.append_assoc, cutP_append _ _ hk]
  have hfold : ∀ (l : List Pk) (q : Rep), (l.map (·.load)).foldl readR q = readAllR q l := by
    intro l q; rw [readAllR, List.foldl_map]
  by_cases he : r.data ++ r.note = []
  · obtain ⟨e1, e2⟩ := List.append_eq_nil_iff.1 he
    have hb : tellBody r = [] := by
      rw [tellBody, e1, e2]
      have : bandPks 1 [] = [] := by rw [bandPks, chunks_nil]; rfl
      have h2 : bandPks 2 [] = [] := by rw [bandPks, chunks_nil]; rfl
      have h3 : chunkPks [] = [] := by rw [chunkPks, chunks_nil]; rfl
      rw [this, h2, h3]; split <;> rfl
    rw [he, hb]
    show dataR ((((tellHead r).map (fun p : Pk => p.load)) ++ []).foldl readR noRep) [] = r
    rw [List.append_nil, hfold, hh, dataR]
    simp only [List.length_nil, Nat.lt_irrefl, decide_false, Bool.and_false]
    cases r; simp only at e1 e2; subst e1 e2; rfl
  · have hd : (r.data ++ r.note == []) = false := by simpa using he
    rw [hd]
    show dataR ((((tellHead r).map (fun p : Pk => p.load)) ++ []).foldl readR noRep) (tellBody r ++ [(⟨1, []⟩ : Pk)]) = r
    rw [List.append_nil, hfold, hh, dataR]
    cases hb : r.band with
    | true =>
      rw [if_pos (by simp), List.dropLast_concat, tellBody, hb, if_pos rfl, bandG_pks]
      cases r; simp only at hb; subst hb; rfl
    | false =>
      have hn := hok.band hb
      rw [if_neg (by simp), tellBody, hb, if_neg (by simp), loads_append, loads_chunks]
      cases r; simp only at hb hn; subst hb hn; simp [loads]
end Go.Proofs.YtmfpmedkhlhnpaaGreatDoor
