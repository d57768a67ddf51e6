import Derived.Test.YtmfpmedkhlhnpaaGreatDoorP5
import Derived.Test.YtmfpmedkhlhnpaaGreatDoorB7
/- Plain laws: a request's lines. -/
namespace Go.Proofs.YtmfpmedkhlhnpaaGreatDoor
open Go.RowKit Go.Extern.Stop Go.Proofs.YtmfpmedkhlhnpaaGreatDoorW.PrintLast
set_option maxRecDepth 100000
set_option linter.unusedSimpArgs false
set_option linter.unusedVariables false
theorem join_one (a : List UInt8) : Lib.join [a] [32] = a := by simp [Lib.join, List.intercalate]
theorem join_cons2 (a b : List UInt8) (r : List (List UInt8)) : Lib.join (a :: b :: r) [32] = a ++ 32 :: Lib.join (b :: r) [32] := by simp [Lib.join, List.intercalate]
theorem join_snoc : ∀ (l : List (List UInt8)) (x : List UInt8), l ≠ [] → Lib.join (l ++ [x]) [32] = Lib.join l [32] ++ (32 :: x)
  | [], _, h => absurd rfl h
  | [a], x, _ => by rw [join_one]; show Lib.join (a :: x :: []) [32] = _; rw [join_cons2, join_one]
  | a :: b :: r, x, _ => by
    have ih := join_snoc (b :: r) x (by simp)
    show Lib.join (a :: b :: (r ++ [x])) [32] = _
    rw [join_cons2, join_cons2]
    rw [show b :: (r ++ [x]) = (b :: r) ++ [x] from rfl, ih]
    simp
theorem joinTo_eq (ss : List (List UInt8)) : ∀ k, k ≤ ss.length → joinTo ss k = Lib.join (ss.take k) [32]
  | 0, _ => rfl
  | k + 1, h => by
    have ih := joinTo_eq ss k (by omega)
    have hk : k < ss.length := by omega
    have hg : ss.getD k [] = ss[k] := by rw [List.getD_eq_getElem?_getD, List.getElem?_eq_getElem hk]; rfl
    rw [joinTo, ih, List.take_succ_eq_append_getElem hk, hg]
    by_cases h0 : k = 0
    · subst h0; simp [join_one]; rfl
    · rw [if_neg h0, join_snoc _ _ (by intro e; have := congrArg List.length e; rw [List.length_take, Nat.min_eq_left (by omega)] at this; exact h0 this)]
      simp
theorem joinS_eq (ss : List (List UInt8)) : joinS ss = Lib.join ss [32] := by rw [joinS, joinTo_eq ss _ (Nat.le_refl _), List.take_length]
theorem join_len (ss : List (List UInt8)) (m : Nat) (h : ∀ s ∈ ss, s.length ≤ m) : (Lib.join ss [32]).length ≤ (m + 1) * ss.length := by
  rw [← joinS_eq]; exact joinTo_length ss m h _ (Nat.le_refl _)
def idPks (word : List UInt8) (l : List (List UInt8)) : List Pk := l.map fun x => ⟨0, word ++ 32 :: hexs x⟩
def updPk (u : Upd) : Pk := ⟨0, Lib.join [[117, 112, 100, 97, 116, 101], hexs u.old, hexs u.new, u.name] [32]⟩
def delimPks (l : List UInt8) : List Pk := if l = [] then [] else [⟨2, []⟩]
def askHeadPks (r : Req) (op ses dep pla : Nat) : List Pk :=
  (((((((([⟨0, Lib.join [[111, 112], Lib.decDigits op, Lib.decDigits ses] [32]⟩] ++ capsPks r.caps) ++ idPks [119, 97, 110, 116] r.wants) ++ idPks [104, 97, 118, 101] r.haves) ++ idPks [99, 111, 109, 109, 111, 110] r.common) ++ idPks [115, 104, 97, 108, 108, 111, 119] r.shallow) ++ numPks [100, 101, 112, 116, 104] dep) ++ numPks [97, 116] pla)) ++ r.updates.map updPk
def askPks (r : Req) (op ses dep pla : Nat) : List Pk := ((askHeadPks r op ses dep pla ++ delimPks r.data) ++ chunkPks r.data) ++ [⟨1, []⟩]
theorem pksB_append (a b : List Pk) : pksB (a ++ b) = pksB a ++ pksB b := by simp [pksB]
theorem pksB_one (l : List UInt8) : pksB [⟨0, l⟩] = pk l := by simp [pksB, pkB]
theorem pksB_map {α : Type} (f : α → List UInt8) (l : List α) : pksB (l.map fun x => ⟨0, f x⟩) = l.flatMap fun x => pk (f x) := by
  induction l with
  | nil => rfl
  | cons a r ih =>
    rw [List.map_cons, show (⟨0, f a⟩ : Pk) :: r.map (fun x => (⟨0, f x⟩ : Pk)) = [⟨0, f a⟩] ++ r.map (fun x => (⟨0, f x⟩ : Pk)) from rfl, pksB_append, pksB_one, ih]
    simp
theorem pksB_ids (w : List UInt8) (l : List (List UInt8)) : pksB (idPks w l) = idLines w l := by
  rw [idPks, pksB_map]; rfl
theorem pksB_upds (l : List Upd) : pksB (l.map updPk) = updLines l := by
  show pksB (l.map fun u => (⟨0, Lib.join [[117, 112, 100, 97, 116, 101], hexs u.old, hexs u.new, u.name] [32]⟩ : Pk)) = _
  rw [pksB_map]
  simp only [updLines]
  congr 1
  funext u
  rw [updLine, join_cons2, join_cons2, join_cons2, join_one]
  simp
theorem pksB_caps (ss : List (List UInt8)) : pksB (capsPks ss) = capsLine ss := by
  rw [capsPks, capsLine]
  by_cases h : ss = []
  · subst h; rfl
  · rw [if_neg h, if_neg (by simpa using h), pksB_one, joinS_eq]; rfl
theorem pksB_num (w : List UInt8) (n : Nat) : pksB (numPks w n) = numLine w n := by
  rw [numPks, numLine]
  by_cases h : n = 0
  · rw [if_pos h, if_pos h]; rfl
  · rw [if_neg h, if_neg h, pksB_one]
theorem pksB_op (op ses : Nat) : pksB [⟨0, Lib.join [[111, 112], Lib.decDigits op, Lib.decDigits ses] [32]⟩] = opLine op ses := by
  rw [pksB_one, join_cons2, join_cons2, join_one, opLine]
  simp
theorem pksB_delim (l : List UInt8) : pksB (delimPks l) = delim l := by
  rw [delimPks, delim]
  by_cases h : l = []
  · rw [if_pos h, if_pos h]; rfl
  · rw [if_neg h, if_neg h]; decide
theorem pksB_chunks (l : List UInt8) : pksB (chunkPks l) = piecesB l := by
  induction h : l.length using Nat.strongRecOn generalizing l with
  | ind n ih =>
    by_cases hn : l = []
    · subst hn; rw [pieces_nil, chunkPks, chunks_nil]; rfl
    · rw [chunkPks_cons hn, show (⟨0, l.take 900⟩ : Pk) :: chunkPks (l.drop 900) = [⟨0, l.take 900⟩] ++ chunkPks (l.drop 900) from rfl, pksB_append, pksB_one]
      have hl := List.length_pos_iff.2 hn
      have := ih (l.drop 900).length (by rw [List.length_drop]; omega) (l.drop 900) rfl
      rw [this]
      by_cases h9 : l.length ≤ 900
      · rw [pieces_one h9 hn, List.take_of_length_le h9, List.drop_eq_nil_of_le h9, pieces_nil, List.append_nil]
      · rw [pieces_more h9]
theorem askPks_text (r : Req) (op ses dep pla : Nat) : pksB (askPks r op ses dep pla) = askText r op ses dep pla := by
  simp only [askPks, askHeadPks, askText, askHead, pksB_append, pksB_ids, pksB_upds, pksB_caps, pksB_num, pksB_op, pksB_delim, pksB_chunks]
  rw [show pksB [⟨1, []⟩] = [48, 48, 48, 48] by decide]
theorem caps_lens {ss : List (List UInt8)} (h : capsOk ss = true) : ss.length ≤ 20 ∧ ∀ s ∈ ss, s.length ≤ 20 := by
  rw [capsOk, Bool.and_eq_true, decide_eq_true_eq] at h
  refine ⟨h.2, fun s hs => ?_⟩
  obtain ⟨k, hk, rfl⟩ := List.mem_iff_getElem.1 hs
  have := (List.all_eq_true.1 h.1) k (List.mem_range.2 hk)
  rw [capP, Bool.and_eq_true, wordOk, Bool.and_eq_true, decide_eq_true_eq, List.getD_eq_getElem?_getD, List.getElem?_eq_getElem hk] at this
  exact this.1.2
theorem askOk_of {r : Req} (h : asksB r = true) : AskOk r r.op.toNat r.session.toNat r.depth.toNat r.place.toNat := by
  simp only [asksB, asksN, asksL, asksU, inR, Bool.and_eq_true, decide_eq_true_eq, List.all_eq_true] at h
  obtain ⟨⟨a1, a2, ⟨a3, a4⟩, ⟨a5, a6⟩, a7, a8⟩, ⟨hc, hu⟩, b1, b2, b3, b4, b5, b6⟩ := h
  have hc := caps_lens hc
  refine ⟨by omega, by omega, by omega, by omega, by omega, by omega, by omega, by omega, hc.1, hc.2, b1, b2, b3, b4, b5, fun u hm => ?_, b6⟩
  have := hu u hm
  rw [nameOk, Bool.and_eq_true, decide_eq_true_eq] at this
  exact this.2
theorem chunk_fine (l : List UInt8) : ∀ x ∈ chunks l, x.length ≤ 900 := by
  induction h : l.length using Nat.strongRecOn generalizing l with
  | ind n ih =>
    by_cases hn : l = []
    · subst hn; rw [chunks_nil]; intro x hx; cases hx
    · have hl := List.length_pos_iff.2 hn
      rw [chunks_cons hn]
      intro x hx
      rcases List.mem_cons.1 hx with rfl | hx
      · rw [List.length_take]; omega
      · exact ih (l.drop 900).length (by rw [List.length_drop]; omega) (l.drop 900) rfl x hx
theorem chunks_len (l : List UInt8) : (chunks l).length ≤ l.length := by
  induction h : l.length using Nat.strongRecOn generalizing l with
  | ind n ih =>
    by_cases hn : l = []
    · subst hn; rw [chunks_nil]; simp
    · have hl := List.length_pos_iff.2 hn
      rw [chunks_cons hn]
      have := ih (l.drop 900).length (by rw [List.length_drop]; omega) (l.drop 900) rfl
      rw [List.length_drop] at this
      simp; omega
theorem fine0 (l : List UInt8) (h : l.length ≤ 1000) : PkFine ⟨0, l⟩ := .inl ⟨rfl, h⟩
theorem askPks_fine {r : Req} {op ses dep pla : Nat} (h : AskOk r op ses dep pla) (hi : ∀ l ∈ [r.wants, r.haves, r.common, r.shallow], ∀ x ∈ l, x.length = 32) (hu : ∀ u ∈ r.updates, u.ok) : ∀ p ∈ askPks r op ses dep pla, PkFine p := by
  have d1 := dec_len7 (n := op) (by have := h.hop; omega)
  have d2 := dec_len7 (n := ses) (by have := h.hses; omega)
  have d3 := dec_len7 (n := dep) (by have := h.hdep; omega)
  have d4 := dec_len7 (n := pla) (by have := h.hpla; omega)
  have ids : ∀ (w : List UInt8) (l : List (List UInt8)), w.length ≤ 20 → (∀ x ∈ l, x.length = 32) → ∀ p ∈ idPks w l, PkFine p := by
    intro w l hw hl p hp
    obtain ⟨x, hx, rfl⟩ := List.mem_map.1 hp
    refine fine0 _ ?_
    have := hl x hx
    simp [hexs_length, this]; omega
  have num : ∀ (w : List UInt8) (n : Nat), w.length ≤ 20 → (Lib.decDigits n).length ≤ 7 → ∀ p ∈ numPks w n, PkFine p := by
    intro w n hw hd p hp
    rw [numPks] at hp
    split at hp
    · cases hp
    · simp only [List.mem_singleton] at hp; subst hp
      refine fine0 _ ?_
      simp; omega
  intro p hp
  simp only [askPks, askHeadPks, List.mem_append] at hp
  rcases hp with ((((((((((hp | hp) | hp) | hp) | hp) | hp) | hp) | hp) | hp) | hp) | hp) | hp
  · simp only [List.mem_singleton] at hp; subst hp
    refine fine0 _ ?_
    rw [join_cons2, join_cons2, join_one]; simp; omega
  · rw [capsPks] at hp
    split at hp
    · cases hp
    · simp only [List.mem_singleton] at hp; subst hp
      refine fine0 _ ?_
      have := join_len r.caps 20 h.lCaps
      have := h.nCaps
      simp; omega
  · exact ids _ _ (by decide) (hi _ (by simp)) p hp
  · exact ids _ _ (by decide) (hi _ (by simp)) p hp
  · exact ids _ _ (by decide) (hi _ (by simp)) p hp
  · exact ids _ _ (by decide) (hi _ (by simp)) p hp
  · exact num _ _ (by decide) d3 p hp
  · exact num _ _ (by decide) d4 p hp
  · obtain ⟨u, hm, rfl⟩ := List.mem_map.1 hp
    refine fine0 _ ?_
    have h1 := hu u hm
    have h2 := h.lUpd u hm
    rw [join_cons2, join_cons2, join_cons2, join_one]; simp [hexs_length, h1.1, h1.2.1]; omega
  · rw [delimPks] at hp
    split at hp
    · cases hp
    · simp only [List.mem_singleton] at hp; subst hp
      exact .inr (.inr ⟨rfl, rfl⟩)
  · obtain ⟨x, hx, rfl⟩ := List.mem_map.1 hp
    exact fine0 _ (by have := chunk_fine _ x hx; omega)
  · simp only [List.mem_singleton] at hp; subst hp
    exact .inr (.inl ⟨rfl, rfl⟩)
end Go.Proofs.YtmfpmedkhlhnpaaGreatDoor
