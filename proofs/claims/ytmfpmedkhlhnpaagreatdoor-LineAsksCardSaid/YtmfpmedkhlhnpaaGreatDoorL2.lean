import Derived.Test.YtmfpmedkhlhnpaaGreatDoorQ5
import Derived.Test.YtmfpmedkhlhnpaaGreatDoorL1
import Derived.Lib.SplitLaws
/- Plain: what is written is read back. -/
namespace Go.Proofs.YtmfpmedkhlhnpaaGreatDoor
open Go.RowKit Go.Extern.Stop Go.Proofs.YtmfpmedkhlhnpaaGreatDoorW.PrintLast
set_option maxRecDepth 100000
set_option linter.unusedSimpArgs false
set_option linter.unusedVariables false
theorem index_blank : ∀ (a t : List UInt8), (32 : UInt8) ∉ a → Lib.index (a ++ 32 :: t) [32] = (a.length : Int)
  | [], t, _ => by rw [List.nil_append, Lib.index]; simp [List.isPrefixOf]
  | b :: a, t, h => by
    have hb : b ≠ 32 := fun e => h (by rw [e]; exact List.mem_cons_self ..)
    have ih := index_blank a t (fun e => h (List.mem_cons_of_mem _ e))
    rw [List.cons_append, Lib.index, ih]
    have h1 : ([32] : List UInt8).isPrefixOf (b :: (a ++ 32 :: t)) = false := by simp [List.isPrefixOf, Ne.symm hb]
    have h2 : ((a.length : Int) == -1) = false := by rw [beq_eq_false_iff_ne]; omega
    rw [h1, h2]
    simp
theorem index_noblank : ∀ (a : List UInt8), (32 : UInt8) ∉ a → Lib.index a [32] = -1
  | [], _ => by simp [Lib.index]
  | b :: a, h => by
    have hb : b ≠ 32 := fun e => h (by rw [e]; exact List.mem_cons_self ..)
    have ih := index_noblank a (fun e => h (List.mem_cons_of_mem _ e))
    rw [Lib.index, ih]
    have h1 : ([32] : List UInt8).isPrefixOf (b :: a) = false := by simp [List.isPrefixOf, Ne.symm hb]
    rw [h1]; rfl
/-- What stands ahead of the first blank. -/
def bef (l : List UInt8) : List UInt8 := (Lib.cut l [32]).1
/-- What stands behind it. -/
def aft (l : List UInt8) : List UInt8 := (Lib.cut l [32]).2.1
theorem bef_at (a t : List UInt8) (h : (32 : UInt8) ∉ a) : bef (a ++ 32 :: t) = a := by
  rw [bef, Lib.cut, index_blank a t h, if_pos (by omega)]; simp
theorem aft_at (a t : List UInt8) (h : (32 : UInt8) ∉ a) : aft (a ++ 32 :: t) = t := by
  rw [aft, Lib.cut, index_blank a t h, if_pos (by omega)]; simp [List.drop_append]
theorem bef_no (a : List UInt8) (h : (32 : UInt8) ∉ a) : bef a = a := by
  rw [bef, Lib.cut, index_noblank a h, if_neg (by omega)]
theorem aft_no (a : List UInt8) (h : (32 : UInt8) ∉ a) : aft a = [] := by
  rw [aft, Lib.cut, index_noblank a h, if_neg (by omega)]
theorem bef_len (l : List UInt8) : (bef l).length ≤ l.length := by
  rw [bef, Lib.cut]; split
  · rw [List.length_take]; omega
  · exact Nat.le_refl _
theorem aft_len (l : List UInt8) : (aft l).length ≤ l.length := by
  rw [aft, Lib.cut]; split
  · rw [List.length_drop]; omega
  · exact Nat.zero_le _
-- numbers
theorem decFrom_append : ∀ (a b : List UInt8) (acc : Nat), Lib.decFrom acc (a ++ b) = (Lib.decFrom acc a).bind fun m => Lib.decFrom m b
  | [], b, acc => rfl
  | x :: a, b, acc => by
    rw [List.cons_append, Lib.decFrom, Lib.decFrom]
    cases Lib.digitVal x with
    | none => rfl
    | some d => exact decFrom_append a b _
theorem digitVal_ofNat {d : Nat} (h : d < 10) : Lib.digitVal (UInt8.ofNat (48 + d)) = some d := by
  have : ∀ d : Nat, d < 10 → Lib.digitVal (UInt8.ofNat (48 + d)) = some d := by decide
  exact this d h
theorem dec_read (n : Nat) : Lib.decFrom 0 (Lib.decDigits n) = some n := by
  induction n using Nat.strongRecOn with
  | ind n ih =>
    by_cases h : n < 10
    · rw [Lib.decDigits_one h, Lib.decFrom, digitVal_ofNat h]; simp [Lib.decFrom]
    · rw [dec_ge h, decFrom_append, ih (n / 10) (by omega), Option.bind_some, Lib.decFrom, ddig, digitVal_ofNat (Nat.mod_lt _ (by omega))]
      simp only [Lib.decFrom]
      congr 1; omega
theorem dec_ne (n : Nat) : Lib.decDigits n ≠ [] := by
  by_cases h : n < 10
  · rw [Lib.decDigits_one h]; simp
  · rw [dec_ge h]; simp
theorem dec_digits (n : Nat) : ∀ c ∈ Lib.decDigits n, 48 ≤ c.toNat ∧ c.toNat ≤ 57 := by
  intro c hc
  obtain ⟨k, hk, e⟩ := List.getElem_of_mem hc
  obtain ⟨d, hd⟩ := Lib.digit_of_decFrom (Lib.decDigits n) 0 n (dec_read n) k c (by rw [List.getElem?_eq_getElem hk, e])
  have := Lib.digitVal_eq hd
  omega
theorem dec_noblank (n : Nat) : (32 : UInt8) ∉ Lib.decDigits n := fun h => by
  have := dec_digits n 32 h
  have e : (32 : UInt8).toNat = 32 := rfl
  omega
theorem figI_dec (n : Nat) (h : n ≤ 9999999) : figI (Lib.decDigits n) = (n : Int) := by
  have hl := dec_len7 h
  rw [figI, Lib.atoiAll_short _ (by omega)]
  have hr := dec_read n
  have hd := dec_digits n
  have hn := dec_ne n
  generalize Lib.decDigits n = l at *
  cases l with
  | nil => exact absurd rfl hn
  | cons c t =>
    have hc := hd c (List.mem_cons_self ..)
    have h1 : (c == 45) = false := by rw [beq_eq_false_iff_ne]; intro e; rw [e] at hc; exact absurd hc.1 (by decide)
    have h2 : (c == 43) = false := by rw [beq_eq_false_iff_ne]; intro e; rw [e] at hc; exact absurd hc.1 (by decide)
    rw [Lib.atoi, h1, h2, if_neg (by decide), if_neg (by decide), Lib.decNat, hr]
    rfl
-- ids
theorem hexI_dig : ∀ n : Nat, n < 16 → hexI (digs.getD n 0) = (n : Int) := by decide
theorem hexs_noblank (l : List UInt8) : (32 : UInt8) ∉ hexs l := fun h => by
  obtain ⟨c, -, hc⟩ := List.mem_flatMap.1 h
  have hk : ∀ n : Nat, n < 16 → digs.getD n 0 ≠ 32 := by decide
  have hlt := UInt8.toNat_lt c
  simp only [hexc, List.mem_cons, List.not_mem_nil, or_false] at hc
  rcases hc with e | e
  · exact hk _ (by omega) e.symm
  · exact hk _ (Nat.mod_lt _ (by omega)) e.symm
theorem hexs_get : ∀ (l : List UInt8) (j : Nat), j < l.length → (hexs l).getD (2 * j) 0 = digs.getD ((l.getD j 0).toNat / 16) 0 ∧ (hexs l).getD (2 * j + 1) 0 = digs.getD ((l.getD j 0).toNat % 16) 0
  | [], j, h => by simp at h
  | c :: l, 0, _ => ⟨rfl, rfl⟩
  | c :: l, j + 1, h => by
    have ih := hexs_get l j (by simpa using h)
    have e : hexs (c :: l) = digs.getD (c.toNat / 16) 0 :: digs.getD (c.toNat % 16) 0 :: hexs l := rfl
    rw [e, show 2 * (j + 1) = 2 * j + 1 + 1 by omega, show 2 * j + 1 + 1 + 1 = (2 * j + 1) + 1 + 1 by omega]
    simp only [List.getD_cons_succ]
    exact ih
theorem hexs_all (l : List UInt8) : ∀ c ∈ hexs l, 0 ≤ hexI c := by
  intro c hc
  obtain ⟨b, -, hb⟩ := List.mem_flatMap.1 hc
  have hlt := UInt8.toNat_lt b
  simp only [hexc, List.mem_cons, List.not_mem_nil, or_false] at hb
  rcases hb with e | e
  · rw [e, hexI_dig _ (by omega)]; omega
  · rw [e, hexI_dig _ (Nat.mod_lt _ (by omega))]; omega
theorem unhex_hexs (l : List UInt8) (h : l.length = 32) : unhexI (hexs l) = l := by
  rw [unhexI, if_pos ⟨by rw [hexs_length, h], hexs_all l⟩]
  refine List.ext_getElem (by simp [h]) fun j h1 h2 => ?_
  rw [List.getElem_map, List.getElem_range]
  have hlt := UInt8.toNat_lt (l.getD j 0)
  obtain ⟨e1, e2⟩ := hexs_get l j h2
  rw [twoF, e1, e2, hexI_dig _ (by omega), hexI_dig _ (Nat.mod_lt _ (by omega)), Int.toNat_natCast, Int.toNat_natCast, Nat.div_add_mod']
  rw [UInt8.ofNat_toNat, List.getD_eq_getElem?_getD, List.getElem?_eq_getElem h2]; rfl
-- caps
theorem splitS_eq (l : List UInt8) : splitS l = Lib.splitK [32] 0 (Lib.count l [32]) l := by
  rw [splitS, Lib.splitB_data]
theorem split_join : ∀ (ss : List (List UInt8)), ss ≠ [] → (∀ s ∈ ss, (32 : UInt8) ∉ s) → Lib.splitK [32] 0 (Lib.count (Lib.join ss [32]) [32]) (Lib.join ss [32]) = ss
  | [], h, _ => absurd rfl h
  | [a], _, hb => by
    rw [join_one, Lib.count_miss (index_noblank a (hb a (List.mem_singleton.2 rfl)))]; rfl
  | a :: b :: r, _, hb => by
    have ih := split_join (b :: r) (by simp) (fun s hs => hb s (List.mem_cons_of_mem _ hs))
    have hix := index_blank a (Lib.join (b :: r) [32]) (hb a (List.mem_cons_self ..))
    rw [join_cons2, Lib.count_hit (by simp) hix]
    have hd : (a ++ 32 :: Lib.join (b :: r) [32]).drop (a.length + 1) = Lib.join (b :: r) [32] := by simp [List.drop_append]
    have hn : ((a.length : Int) == -1) = false := by rw [beq_eq_false_iff_ne]; omega
    rw [show ([32] : List UInt8).length = 1 from rfl, hd, Nat.add_comm, Lib.splitK, hix, hn, Int.toNat_natCast, show ([32] : List UInt8).length = 1 from rfl, hd, ih]
    simp
theorem okc_noblank {s : List UInt8} (h : s.all okc = true) : (32 : UInt8) ∉ s := fun hm => by
  have := List.all_eq_true.1 h 32 hm
  exact absurd this (by decide)
theorem caps_words {ss : List (List UInt8)} (h : capsOk ss = true) : ∀ s ∈ ss, wordOk s = true := by
  intro s hs
  obtain ⟨k, hk, e⟩ := List.getElem_of_mem hs
  rw [capsOk, Bool.and_eq_true, List.all_eq_true] at h
  have := h.1 k (List.mem_range.2 hk)
  rw [capP, Bool.and_eq_true, List.getD_eq_getElem?_getD, List.getElem?_eq_getElem hk, e] at this
  exact this.1
theorem caps_noblank {ss : List (List UInt8)} (h : capsOk ss = true) : ∀ s ∈ ss, (32 : UInt8) ∉ s := fun s hs => by
  have := caps_words h s hs
  rw [wordOk, Bool.and_eq_true, Bool.and_eq_true] at this
  exact okc_noblank this.1.1
theorem caps_read {ss : List (List UInt8)} (h : capsOk ss = true) (hn : ss ≠ []) : capsG (Lib.join ss [32]) = ss := by
  have hj : Lib.join ss [32] ≠ [] := by
    cases ss with
    | nil => exact absurd rfl hn
    | cons a r =>
      have ha := caps_words h a (List.mem_cons_self ..)
      rw [wordOk, Bool.and_eq_true, Bool.and_eq_true, decide_eq_true_eq] at ha
      have ha : a ≠ [] := by intro e; rw [e] at ha; simp at ha
      cases r with
      | nil => rw [join_one]; exact ha
      | cons b r => rw [join_cons2]; simp
  rw [capsG, if_neg hj, splitS_eq, split_join ss hn (caps_noblank h), if_pos h]
-- lines
theorem figs_read (n : Nat) (h : n < 65536) (t : List UInt8) : numP (figs n ++ t) = (n : Int) := by
  have e : figs n ++ t = digs.getD (n / 4096) 0 :: digs.getD (n / 256 % 16) 0 :: digs.getD (n / 16 % 16) 0 :: digs.getD (n % 16) 0 :: t := rfl
  have h0 := hexI_dig (n / 4096) (by omega)
  have h1 := hexI_dig (n / 256 % 16) (by omega)
  have h2 := hexI_dig (n / 16 % 16) (by omega)
  have h3 := hexI_dig (n % 16) (by omega)
  have step : ∀ (l : List UInt8) (k m d : Nat), numTo l k = some m → hexI (l.getD k 0) = (d : Int) → numTo l (k + 1) = some (m * 16 + d) := fun l k m d hm hd => (numTo_good (Lib.hid hm) (Lib.hid hd.symm)).out
  rw [e, numP, if_neg (by simp)]
  rw [step _ 3 _ _ (step _ 2 _ _ (step _ 1 _ _ (step _ 0 0 _ rfl h0) h1) h2) h3]
  show (((_ : Nat)) : Int) = _
  congr 1; omega
theorem figs_len (n : Nat) : (figs n).length = 4 := rfl
theorem getP_line (p : Pk) (h : PkFine p) (t : List UInt8) : getP (pkB p ++ t) = (p, t, 0) := by
  obtain ⟨kind, load⟩ := p
  rcases h with ⟨h1, h2⟩ | ⟨h1, h2⟩ | ⟨h1, h2⟩
  · simp only at h1 h2
    subst h1
    have hn : numP (pkB ⟨0, load⟩ ++ t) = ((4 + load.length : Nat) : Int) := by
      rw [pkB, if_pos rfl, pk, List.append_assoc]; exact figs_read _ (by simp only; omega) _
    have hl : (pkB ⟨0, load⟩ ++ t).length = 4 + load.length + t.length := by rw [pkB, if_pos rfl, pk, List.length_append, List.length_append, figs_len]
    have hpk : pkB ⟨0, load⟩ ++ t = figs (4 + load.length) ++ (load ++ t) := by rw [pkB, if_pos rfl, pk, List.append_assoc]
    rw [getP, hn, if_neg (by omega), if_neg (by omega), if_neg (by rw [hl]; omega), Int.toNat_natCast, hpk]
    have e1 : ((figs (4 + load.length) ++ (load ++ t)).take (4 + load.length)).drop 4 = load := by
      rw [List.drop_take, show 4 + load.length - 4 = load.length by omega, List.drop_append_of_le_length (by rw [figs_len]; omega), List.drop_of_length_le (by rw [figs_len]; omega)]
      simp
    have e2 : (figs (4 + load.length) ++ (load ++ t)).drop (4 + load.length) = t := by
      rw [List.drop_append, List.drop_of_length_le (by rw [figs_len]; omega), figs_len, show 4 + load.length - 4 = load.length by omega]
      simp
    rw [e1, e2]
  · simp only at h1 h2; subst h1 h2
    have hpk : pkB ⟨1, []⟩ = figs 0 := by rw [pkB, if_neg (by decide), if_pos rfl]
    rw [hpk, getP, figs_read 0 (by omega), if_pos (by rfl)]
    rfl
  · simp only at h1 h2; subst h1 h2
    have hpk : pkB ⟨2, []⟩ = figs 1 := by rw [pkB, if_neg (by decide), if_neg (by decide)]
    rw [hpk, getP, figs_read 1 (by omega), if_neg (by decide), if_pos (by rfl)]
    rfl
theorem pkB_ne (p : Pk) : pkB p ≠ [] := by
  rw [pkB]; split
  · rw [pk]; simp [figs]
  · split <;> simp [figs]
theorem allP_lines : ∀ (l : List Pk), (∀ p ∈ l, PkFine p) → allP (pksB l) = some l
  | [], _ => allP_nil
  | p :: l, h => by
    have ih := allP_lines l (fun q hq => h q (List.mem_cons_of_mem _ hq))
    have hg := getP_line p (h p (List.mem_cons_self ..)) (pksB l)
    have e : pksB (p :: l) = pkB p ++ pksB l := rfl
    rw [e, allP_more (by simp [pkB_ne]) (by rw [hg]), hg, ih]; rfl
theorem cutP_append : ∀ (a b : List Pk), (∀ q ∈ a, q.kind = 0) → cutP (a ++ b) = (a.map (·.load) ++ (cutP b).1, (cutP b).2)
  | [], b, _ => rfl
  | p :: a, b, h => by
    rw [List.cons_append, cutP, if_pos (h p (List.mem_cons_self ..)), cutP_append a b (fun q hq => h q (List.mem_cons_of_mem _ hq))]; rfl
theorem loads_chunks (l : List UInt8) : loads (chunkPks l) = l := by
  induction h : l.length using Nat.strongRecOn generalizing l with
  | ind n ih =>
    by_cases hn : l = []
    · subst hn; rw [chunkPks, chunks_nil]; rfl
    · have hlp := List.length_pos_iff.2 hn
      rw [chunkPks_cons hn]
      have := ih (l.drop 900).length (by rw [List.length_drop]; omega) (l.drop 900) rfl
      show l.take 900 ++ loads (chunkPks (l.drop 900)) = l
      rw [this, List.take_append_drop]
end Go.Proofs.YtmfpmedkhlhnpaaGreatDoor
