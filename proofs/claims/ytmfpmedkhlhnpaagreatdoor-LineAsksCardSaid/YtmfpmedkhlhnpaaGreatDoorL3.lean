import Derived.Test.YtmfpmedkhlhnpaaGreatDoorL2
/- Plain: a request that is written is read as it was. -/
namespace Go.Proofs.YtmfpmedkhlhnpaaGreatDoor
open Go.RowKit Go.Extern.Stop Go.Proofs.YtmfpmedkhlhnpaaGreatDoorW.PrintLast
set_option maxRecDepth 100000
set_option linter.unusedSimpArgs false
set_option linter.unusedVariables false
abbrev wOp : List UInt8 := [111, 112]
abbrev wCaps : List UInt8 := [99, 97, 112, 115]
abbrev wWant : List UInt8 := [119, 97, 110, 116]
abbrev wHave : List UInt8 := [104, 97, 118, 101]
abbrev wCommon : List UInt8 := [99, 111, 109, 109, 111, 110]
abbrev wShallow : List UInt8 := [115, 104, 97, 108, 108, 111, 119]
abbrev wDepth : List UInt8 := [100, 101, 112, 116, 104]
abbrev wAt : List UInt8 := [97, 116]
abbrev wUpdate : List UInt8 := [117, 112, 100, 97, 116, 101]
/-- A request with a line taken in. -/
def readP (q : Req) (l : List UInt8) : Req :=
  if bef l = wOp then { q with op := figI (bef (aft l)), session := figI (aft (aft l)) }
  else if bef l = wCaps then { q with caps := capsG (aft l) }
  else if bef l = wWant then { q with wants := q.wants ++ [unhexI (aft l)] }
  else if bef l = wHave then { q with haves := q.haves ++ [unhexI (aft l)] }
  else if bef l = wCommon then { q with common := q.common ++ [unhexI (aft l)] }
  else if bef l = wShallow then { q with shallow := q.shallow ++ [unhexI (aft l)] }
  else if bef l = wDepth then { q with depth := figI (aft l) }
  else if bef l = wAt then { q with place := figI (aft l) }
  else if bef l = wUpdate then { q with updates := q.updates ++ [⟨aft (aft (aft l)), unhexI (bef (aft l)), unhexI (bef (aft (aft l)))⟩] }
  else q
theorem read_op {q : Req} {l : List UInt8} (h : bef l = wOp) : readP q l = { q with op := figI (bef (aft l)), session := figI (aft (aft l)) } := by
  rw [readP, if_pos h]
theorem read_caps {q : Req} {l : List UInt8} (h : bef l = wCaps) : readP q l = { q with caps := capsG (aft l) } := by
  rw [readP, h, if_neg (by decide), if_pos rfl]
theorem read_want {q : Req} {l : List UInt8} (h : bef l = wWant) : readP q l = { q with wants := q.wants ++ [unhexI (aft l)] } := by
  rw [readP, h, if_neg (by decide), if_neg (by decide), if_pos rfl]
theorem read_have {q : Req} {l : List UInt8} (h : bef l = wHave) : readP q l = { q with haves := q.haves ++ [unhexI (aft l)] } := by
  rw [readP, h, if_neg (by decide), if_neg (by decide), if_neg (by decide), if_pos rfl]
theorem read_common {q : Req} {l : List UInt8} (h : bef l = wCommon) : readP q l = { q with common := q.common ++ [unhexI (aft l)] } := by
  rw [readP, h, if_neg (by decide), if_neg (by decide), if_neg (by decide), if_neg (by decide), if_pos rfl]
theorem read_shallow {q : Req} {l : List UInt8} (h : bef l = wShallow) : readP q l = { q with shallow := q.shallow ++ [unhexI (aft l)] } := by
  rw [readP, h, if_neg (by decide), if_neg (by decide), if_neg (by decide), if_neg (by decide), if_neg (by decide), if_pos rfl]
theorem read_depth {q : Req} {l : List UInt8} (h : bef l = wDepth) : readP q l = { q with depth := figI (aft l) } := by
  rw [readP, h, if_neg (by decide), if_neg (by decide), if_neg (by decide), if_neg (by decide), if_neg (by decide), if_neg (by decide), if_pos rfl]
theorem read_at {q : Req} {l : List UInt8} (h : bef l = wAt) : readP q l = { q with place := figI (aft l) } := by
  rw [readP, h, if_neg (by decide), if_neg (by decide), if_neg (by decide), if_neg (by decide), if_neg (by decide), if_neg (by decide), if_neg (by decide), if_pos rfl]
theorem read_update {q : Req} {l : List UInt8} (h : bef l = wUpdate) : readP q l = { q with updates := q.updates ++ [⟨aft (aft (aft l)), unhexI (bef (aft l)), unhexI (bef (aft (aft l)))⟩] } := by
  rw [readP, h, if_neg (by decide), if_neg (by decide), if_neg (by decide), if_neg (by decide), if_neg (by decide), if_neg (by decide), if_neg (by decide), if_neg (by decide), if_pos rfl]
theorem read_other {q : Req} {l : List UInt8} (h1 : bef l ≠ wOp) (h2 : bef l ≠ wCaps) (h3 : bef l ≠ wWant) (h4 : bef l ≠ wHave) (h5 : bef l ≠ wCommon) (h6 : bef l ≠ wShallow) (h7 : bef l ≠ wDepth) (h8 : bef l ≠ wAt) (h9 : bef l ≠ wUpdate) : readP q l = q := by
  rw [readP, if_neg h1, if_neg h2, if_neg h3, if_neg h4, if_neg h5, if_neg h6, if_neg h7, if_neg h8, if_neg h9]
abbrev noReq : Req := ⟨0, 0, [], [], [], [], [], 0, 0, [], []⟩
def readAll (q : Req) (l : List Pk) : Req := l.foldl (fun q p => readP q p.load) q
theorem readAll_append (q : Req) (a b : List Pk) : readAll q (a ++ b) = readAll (readAll q a) b := List.foldl_append ..
theorem readAll_ids (w : List UInt8) (hw : (32 : UInt8) ∉ w) (f : Req → List (List UInt8) → Req) (h0 : ∀ q, f q [] = q) (h2 : ∀ q a b, f (f q a) b = f q (a ++ b)) (h1 : ∀ q l, bef l = w → readP q l = f q [unhexI (aft l)]) :
    ∀ (l : List (List UInt8)), (∀ x ∈ l, x.length = 32) → ∀ q, readAll q (idPks w l) = f q l
  | [], _, q => (h0 q).symm
  | x :: l, hl, q => by
    have ih := readAll_ids w hw f h0 h2 h1 l (fun y hy => hl y (List.mem_cons_of_mem _ hy))
    show readAll (readP q (w ++ 32 :: hexs x)) (idPks w l) = _
    rw [ih, h1 _ _ (bef_at _ _ hw), aft_at _ _ hw, unhex_hexs x (hl x (List.mem_cons_self ..)), h2]
    rfl
theorem name_noblank {s : List UInt8} (h : nameOk s = true) : (32 : UInt8) ∉ s := fun hm => by
  rw [nameOk, Bool.and_eq_true, Bool.and_eq_true] at h
  have := List.all_eq_true.1 h.1.1 32 hm
  exact absurd this (by decide)
theorem readAll_upds : ∀ (l : List Upd), (∀ u ∈ l, u.ok) → ∀ q : Req, readAll q (l.map updPk) = { q with updates := q.updates ++ l }
  | [], _, q => by show q = _; rw [List.append_nil]
  | u :: l, hu, q => by
    have ih := readAll_upds l (fun v hv => hu v (List.mem_cons_of_mem _ hv))
    have hx := hu u (List.mem_cons_self ..)
    show readAll (readP q (updPk u).load) (l.map updPk) = _
    have e : (updPk u).load = wUpdate ++ 32 :: (hexs u.old ++ 32 :: (hexs u.new ++ 32 :: u.name)) := by
      rw [updPk]; simp only; rw [join_cons2, join_cons2, join_cons2, join_one]
    rw [ih, e, read_update (bef_at _ _ (by decide)), aft_at _ _ (by decide), aft_at _ _ (hexs_noblank _), bef_at _ _ (hexs_noblank _), bef_at _ _ (hexs_noblank _), aft_at _ _ (hexs_noblank _), unhex_hexs _ hx.1, unhex_hexs _ hx.2.1]
    simp
theorem readAll_caps (ss : List (List UInt8)) (h : capsOk ss = true) (q : Req) (hq : q.caps = []) : readAll q (capsPks ss) = { q with caps := ss } := by
  rw [capsPks]
  split
  · rename_i h0; subst h0; rw [← hq]; rfl
  · rename_i h0
    show readP q (wCaps ++ 32 :: Lib.join ss [32]) = _
    rw [read_caps (bef_at _ _ (by decide)), aft_at _ _ (by decide), caps_read h h0]
theorem readAll_depth (n : Nat) (h : n ≤ 9999999) (q : Req) (hq : q.depth = 0) : readAll q (numPks wDepth n) = { q with depth := (n : Int) } := by
  rw [numPks]
  split
  · rename_i h0; subst h0; show q = { q with depth := (0 : Int) }; rw [← hq]
  · show readP q (wDepth ++ 32 :: Lib.decDigits n) = _
    rw [read_depth (bef_at _ _ (by decide)), aft_at _ _ (by decide), figI_dec n h]
theorem readAll_at (n : Nat) (h : n ≤ 9999999) (q : Req) (hq : q.place = 0) : readAll q (numPks wAt n) = { q with place := (n : Int) } := by
  rw [numPks]
  split
  · rename_i h0; subst h0; show q = { q with place := (0 : Int) }; rw [← hq]
  · show readP q (wAt ++ 32 :: Lib.decDigits n) = _
    rw [read_at (bef_at _ _ (by decide)), aft_at _ _ (by decide), figI_dec n h]
theorem readAll_op (op ses : Nat) (h1 : op ≤ 9999999) (h2 : ses ≤ 9999999) (q : Req) : readAll q [⟨0, Lib.join [[111, 112], Lib.decDigits op, Lib.decDigits ses] [32]⟩] = { q with op := (op : Int), session := (ses : Int) } := by
  show readP q (Lib.join [[111, 112], Lib.decDigits op, Lib.decDigits ses] [32]) = _
  rw [join_cons2, join_cons2, join_one, read_op (bef_at _ _ (by decide)), aft_at _ _ (by decide), bef_at _ _ (dec_noblank _), aft_at _ _ (dec_noblank _), figI_dec op h1, figI_dec ses h2]
structure ReqFit (r : Req) : Prop where
  wants : ∀ x ∈ r.wants, x.length = 32
  haves : ∀ x ∈ r.haves, x.length = 32
  common : ∀ x ∈ r.common, x.length = 32
  shallow : ∀ x ∈ r.shallow, x.length = 32
  updates : ∀ u ∈ r.updates, u.ok
theorem req_eq {r : Req} {o s d p : Int} (h1 : r.op = o) (h2 : r.session = s) (h3 : r.depth = d) (h4 : r.place = p) : (⟨o, s, r.caps, r.wants, r.haves, r.common, r.shallow, d, p, r.updates, []⟩ : Req) = { r with data := [] } := by
  subst h1 h2 h3 h4; rfl
theorem read_head {r : Req} (hB : asksB r = true) (hf : ReqFit r) : readAll noReq (askHeadPks r r.op.toNat r.session.toNat r.depth.toNat r.place.toNat) = { r with data := [] } := by
  have hok := askOk_of hB
  have n0 := hok.hop
  have n01 := hok.hses
  have n02 := hok.hdep
  have n03 := hok.hpla
  have hc : capsOk r.caps = true := by rw [asksB, Bool.and_eq_true, Bool.and_eq_true, Bool.and_eq_true] at hB; exact hB.2.1.1
  simp only [askHeadPks, readAll_append]
  rw [readAll_op _ _ (by omega) (by omega), readAll_caps _ hc,
    readAll_ids wWant (by decide) (fun q l => { q with wants := q.wants ++ l }) (fun q => by simp) (fun q a b => by simp) (fun q l h => read_want h) _ hf.wants,
    readAll_ids wHave (by decide) (fun q l => { q with haves := q.haves ++ l }) (fun q => by simp) (fun q a b => by simp) (fun q l h => read_have h) _ hf.haves,
    readAll_ids wCommon (by decide) (fun q l => { q with common := q.common ++ l }) (fun q => by simp) (fun q a b => by simp) (fun q l h => read_common h) _ hf.common,
    readAll_ids wShallow (by decide) (fun q l => { q with shallow := q.shallow ++ l }) (fun q => by simp) (fun q a b => by simp) (fun q l h => read_shallow h) _ hf.shallow,
    readAll_depth _ (by omega), readAll_at _ (by omega), readAll_upds _ hf.updates]
  have e1 := hok.eop
  have e2 := hok.eses
  have e3 := hok.edep
  have e4 := hok.epla
  · exact req_eq e1 e2 e3 e4
  all_goals rfl
theorem head_kind (r : Req) (op ses dep pla : Nat) : ∀ p ∈ askHeadPks r op ses dep pla, p.kind = 0 := by
  intro p hp
  have ids : ∀ (w : List UInt8) (l : List (List UInt8)), ∀ p ∈ idPks w l, p.kind = 0 := by
    intro w l p hp
    obtain ⟨x, hx, rfl⟩ := List.mem_map.1 hp; rfl
  have num : ∀ (w : List UInt8) (n : Nat), ∀ p ∈ numPks w n, p.kind = 0 := by
    intro w n p hp
    rw [numPks] at hp
    split at hp
    · cases hp
    · rw [List.mem_singleton.1 hp]
  simp only [askHeadPks, List.mem_append] at hp
  rcases hp with (((((((h | h) | h) | h) | h) | h) | h) | h) | h
  · rw [List.mem_singleton.1 h]
  · rw [capsPks] at h
    split at h
    · cases h
    · rw [List.mem_singleton.1 h]
  · exact ids _ _ _ h
  · exact ids _ _ _ h
  · exact ids _ _ _ h
  · exact ids _ _ _ h
  · exact num _ _ _ h
  · exact num _ _ _ h
  · obtain ⟨u, hu, rfl⟩ := List.mem_map.1 h; rfl
/-- What a text tells. -/
def readText (s : List UInt8) : Req := { ((cutP (allD s)).1.foldl readP noReq) with data := loads (cutP (allD s)).2 }
theorem loads_append (a b : List Pk) : loads (a ++ b) = loads a ++ loads b := by simp [loads]
def askT (r : Req) : List UInt8 := askText r r.op.toNat r.session.toNat r.depth.toNat r.place.toNat
/-- THE LAW: what is written is read as it was. -/
theorem read_ask {r : Req} (hB : asksB r = true) (hf : ReqFit r) : readText (askT r) = r := by
  have hfine := askPks_fine (askOk_of hB) (fun l hl => by
    simp only [List.mem_cons, List.not_mem_nil, or_false] at hl
    rcases hl with rfl | rfl | rfl | rfl
    · exact hf.wants
    · exact hf.haves
    · exact hf.common
    · exact hf.shallow) hf.updates
  have hA : allD (askT r) = askPks r r.op.toNat r.session.toNat r.depth.toNat r.place.toNat := by
    rw [allD, askT, ← askPks_text, allP_lines _ hfine]; rfl
  have hh := read_head hB hf
  have hk := head_kind r r.op.toNat r.session.toNat r.depth.toNat r.place.toNat
  rw [readText, hA, askPks, List.append_assoc, List.append_assoc, cutP_append _ _ hk]
  have hfold : ∀ (l : List Pk) (q : Req), (l.map (·.load)).foldl readP q = readAll q l := by
    intro l q; rw [readAll, List.foldl_map]
  by_cases he : r.data = []
  · rw [delimPks, if_pos he, he, chunkPks, chunks_nil]
    show ({ (((askHeadPks _ _ _ _ _).map (fun p : Pk => p.load) ++ []).foldl readP noReq) with data := [] } : Req) = r
    rw [List.append_nil, hfold, hh]
    cases r; simp only at he; subst he; rfl
  · rw [delimPks, if_neg he]
    show ({ (((askHeadPks _ _ _ _ _).map (fun p : Pk => p.load) ++ []).foldl readP noReq) with data := loads (chunkPks r.data ++ [(⟨1, []⟩ : Pk)]) } : Req) = r
    rw [List.append_nil, hfold, hh, loads_append, loads_chunks]
    show ({ r with data := r.data ++ [] } : Req) = r
    rw [List.append_nil]
end Go.Proofs.YtmfpmedkhlhnpaaGreatDoor
