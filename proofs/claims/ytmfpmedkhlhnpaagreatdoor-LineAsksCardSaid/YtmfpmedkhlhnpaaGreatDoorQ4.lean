import Derived.Test.YtmfpmedkhlhnpaaGreatDoorQ3
/- functions 73, 97, 75, 74. -/
namespace Go.Proofs.YtmfpmedkhlhnpaaGreatDoor
open Go.RowKit Go.Extern.Stop Go.Proofs.YtmfpmedkhlhnpaaGreatDoorW.PrintLast
set_option maxRecDepth 100000
set_option linter.unusedSimpArgs false
set_option linter.unusedVariables false
/-- A number; below 0: none. -/
def figI (l : List UInt8) : Int := match Lib.atoiAll l with | .ok v => v | _ => -1

set_option maxHeartbeats 1000000 in
theorem figure73_any (l : List UInt8) (hl : l.length ≤ 1000000) (w : World) (hE : Env w) : Calls Tryz.prog 73 #[.string (bs l)] w fun e w' => e = .returned (.int .i64 (figI l)) ∧ Below w.heap.size w w' := by
  have hsz : (bs l).size ≤ 281474976710656 := by show l.length ≤ _; omega
  cases hA : Lib.atoiAll l with
  | ok v =>
    have hf : Hid (figI l = v) := Lib.hid (by rw [figI, hA])
    have hc := Tryz.strconv_Atoi_ok (bs l) (by show l.length ≤ _; omega) v hA w
    have HC := Lib.hid hc
    clear hc
    go_enter Tryz.func73, Tryz.ntmps73
    go_wp2_with (first | (go_at_call 95; refine HC.out.mono ?_; rintro e w1 ⟨rfl, hw1⟩))
    go_ret
    refine ⟨by rw [hf.out]; rfl, ?_⟩
    rcases hw1 with rfl | ⟨t, rfl⟩
    · exact Below.refl _ _
    · exact Lib.bytesWorld_below w 5 t
  | «syntax» =>
    have hf : Hid (figI l = -1) := Lib.hid (by rw [figI, hA])
    obtain ⟨tp, p, hv⟩ := hE.syn
    have HC := Lib.hid (Tryz.strconv_Atoi_syntax_var (bs l) hsz hA tp p w hv)
    go_enter Tryz.func73, Tryz.ntmps73
    go_wp2_with (first | (go_at_call 95; refine HC.out.mono ?_; rintro e w1 ⟨N, rfl, _, _, hb1⟩))
    go_ret
    exact ⟨by rw [hf.out]; rfl, hb1⟩
  | range =>
    have hf : Hid (figI l = -1) := Lib.hid (by rw [figI, hA])
    obtain ⟨tp, p, hv⟩ := hE.rng
    have HC := Lib.hid (Tryz.strconv_Atoi_range_var (bs l) hsz hA tp p w hv)
    go_enter Tryz.func73, Tryz.ntmps73
    go_wp2_with (first | (go_at_call 95; refine HC.out.mono ?_; rintro e w1 ⟨N, rfl, _, _, hb1⟩))
    go_ret
    exact ⟨by rw [hf.out]; rfl, hb1⟩
/-- The words of a text. -/
def splitS (l : List UInt8) : List (List UInt8) := (Lib.splitB (bs [32]) 0 (Lib.countB (bs l) (bs [32])) (bs l)).map (·.data.toList)
theorem bs_data (b : ByteArray) : bs b.data.toList = b := rfl
theorem splitB_short (sep : ByteArray) (save : Nat) : ∀ (k : Nat) (s : ByteArray), ∀ x ∈ Lib.splitB sep save k s, x.size ≤ s.size
  | 0, s, x, hx => by
    simp only [Lib.splitB, List.mem_singleton] at hx; subst hx; exact Nat.le_refl _
  | k + 1, s, x, hx => by
    rw [Lib.splitB] at hx
    split at hx
    · simp only [List.mem_singleton] at hx; subst hx; exact Nat.le_refl _
    · rcases List.mem_cons.1 hx with rfl | hx
      · simp [ByteArray.size_extract]; omega
      · have := splitB_short sep save k _ x hx
        simp [ByteArray.size_extract] at this; omega
theorem splitS_short (l : List UInt8) : ∀ s ∈ splitS l, s.length ≤ l.length := by
  intro s hs
  obtain ⟨x, hx, rfl⟩ := List.mem_map.1 hs
  exact splitB_short _ _ _ _ x hx
theorem splitS_cells (l : List UInt8) : (Lib.splitB (bs [32]) 0 (Lib.countB (bs l) (bs [32])) (bs l)).map Value.string = strc (splitS l) := by
  simp only [strc, splitS, List.map_map]
  rfl
theorem splitS_len (l : List UInt8) : (splitS l).length = Lib.countB (bs l) (bs [32]) + 1 := by
  rw [splitS, List.length_map]
  exact Lib.splitB_all _ (by show 1 ≤ [32].length; decide) _ _ _ rfl
/-- The words that a text tells; none, if they may not be. -/
def capsG (l : List UInt8) : List (List UInt8) := if l = [] then [] else if capsOk (splitS l) then splitS l else []
def CapsRes (l : List UInt8) (w w' : World) (e : Ending) : Prop := ∃ A ca er, e = .returned (.tuple #[.slice A (capsG l).length ca, .int .i64 er]) ∧ w'.ownsRow w.heap.size 9 1 (.slice A (capsG l).length ca) (capsG l).length (strc (capsG l))
set_option maxHeartbeats 1000000 in
theorem caps74_any (l : List UInt8) (hl : l.length ≤ 1000000) (w : World) (hE : Env w) : Calls Tryz.prog 74 #[.string (bs l)] w fun e w' => CapsRes l w w' e ∧ Below w.heap.size w w' := by
  by_cases h0 : l = []
  · have hc : Hid (capsG l = []) := Lib.hid (by rw [capsG, if_pos h0])
    subst h0
    go_enter Tryz.func74, Tryz.ntmps74
    go_wp2
    go_ret2
    exact ⟨⟨none, 0, 0, by rw [hc.out]; rfl, by rw [hc.out]; exact own_nil _ _ _ _⟩, Below.refl _ _⟩
  · have hb : (l == []) = false := by simpa using h0
    obtain ⟨m, hm⟩ := hE.maxlen
    have HC := Lib.hid (Tryz.strings_Split (bs l) (bs [32]) m w (by show l.length < _; omega) hm (by show 1 ≤ [32].length; decide))
    have hsl := splitS_len l
    have HR : Hid (Rd (w.alloc (.cells (strc (splitS l)).toArray 9)) (some ⟨w.heap.size, 0, none⟩) (strc (splitS l))) := Lib.hid fun _ => ⟨_, _, rfl, rangeAt_new w (strc (splitS l)) 9⟩
    have HS := Lib.hid (splitS_short l)
    rw [splitS_cells, ← hsl] at HC
    obtain ⟨ss, hss⟩ : ∃ ss, Hid (splitS l = ss) := ⟨_, Lib.hid rfl⟩
    rw [hss.out] at HC HR HS hsl
    have hn : ss.length ≤ 9223372036854775807 := by rw [hsl]; have := Lib.countB_le (bs [32]) (by show 1 ≤ [32].length; decide) (bs l).size (bs l) (Nat.le_refl _); have h2 : (bs l).size = l.length := rfl; omega
    have HO : Hid ((w.alloc (.cells (strc ss).toArray 9)).ownsRow w.heap.size 9 1 (.slice (some ⟨w.heap.size, 0, none⟩) ss.length ss.length) ss.length (strc ss)) := Lib.hid (own_new w 9 1 ss.length (strc ss) (by simp [strc]) (by unfold maxLen; omega))
    have HF := Lib.hid (fine61_any ss (some ⟨w.heap.size, 0, none⟩) ss.length hn (fun s hs => Nat.le_trans (HS.out s hs) (by omega)) (w.alloc (.cells (strc ss).toArray 9)) HR.out)
    clear hsl
    by_cases hok : capsOk ss = true
    · have hc : Hid (capsG l = ss) := Lib.hid (by rw [capsG, if_neg h0, hss.out, if_pos hok])
      clear h0
      go_enter Tryz.func74, Tryz.ntmps74
      go_wp2_with (first
        | (refine wpList_runG (by rfl) (op_str_eqlB _ _ _ _ _ _ _ _ _ _ l [] false hb rfl rfl) ?_)
        | (go_at_call 96; refine HC.out.mono ?_; rintro e w1 ⟨rfl, rfl⟩)
        | (go_at_call 61; refine HF.out.mono ?_; rintro e w2 ⟨rfl, hb2⟩; simp only [hok]))
      go_ret2
      exact ⟨⟨some ⟨w.heap.size, 0, none⟩, ss.length, 0, by rw [hc.out]; rfl, by rw [hc.out]; exact own_below HO.out hb2⟩, below_call (below_alloc (Below.refl _ _) _) hb2⟩
    · have hok : capsOk ss = false := by simpa using hok
      have hc : Hid (capsG l = []) := Lib.hid (by rw [capsG, if_neg h0, hss.out, hok]; rfl)
      clear h0
      go_enter Tryz.func74, Tryz.ntmps74
      go_wp2_with (first
        | (refine wpList_runG (by rfl) (op_str_eqlB _ _ _ _ _ _ _ _ _ _ l [] false hb rfl rfl) ?_)
        | (go_at_call 96; refine HC.out.mono ?_; rintro e w1 ⟨rfl, rfl⟩)
        | (go_at_call 61; refine HF.out.mono ?_; rintro e w2 ⟨rfl, hb2⟩; simp only [hok]))
      go_ret2
      exact ⟨⟨none, 0, 2, by rw [hc.out]; rfl, by rw [hc.out]; exact own_nil _ _ _ _⟩, below_call (below_alloc (Below.refl _ _) _) hb2⟩
end Go.Proofs.YtmfpmedkhlhnpaaGreatDoor
