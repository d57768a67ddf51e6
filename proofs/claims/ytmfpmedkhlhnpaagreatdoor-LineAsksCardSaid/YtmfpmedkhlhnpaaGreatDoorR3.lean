import Derived.Test.YtmfpmedkhlhnpaaGreatDoorR2
/- functions 8 (of a request that may not be), 12: line.Asked. -/
namespace Go.Proofs.YtmfpmedkhlhnpaaGreatDoor
open Go.RowKit Go.Extern.Stop Go.Proofs.YtmfpmedkhlhnpaaGreatDoorW.PrintLast
set_option maxRecDepth 100000
set_option linter.unusedSimpArgs false
set_option linter.unusedVariables false
set_option maxHeartbeats 2000000 in
theorem ask8_no (r : Req) (a : ReqA) (w : World) (hq : IsReq w r a) (hB : asksB r = false) :
    Calls Tryz.prog 8 #[.agg (reqc r a).toArray] w fun e w' => e = .returned (.tuple #[.string (bs []), .int .i64 1]) ∧ Below w.heap.size w w' := by
  have HQ := Lib.hid hq
  have HB := Lib.hid hB
  clear hq hB
  go_enter Tryz.func8, Tryz.ntmps8
  go_wp2_with (first
    | (refine wpList_load_mid rfl 26 _ rfl w.heap.size 0 rfl (reqc r a) _ (rangeAt_new w (reqc r a) 26) und26 rfl info26 ?_)
    | (go_at_call 24; refine (asks24_any r a _ (HQ.out.below (below_alloc (Below.refl _ _) _))).mono ?_; rintro e W0 ⟨rfl, hb1⟩; simp only [HB.out]))
  go_ret2
  exact ⟨rfl, ((Boxed.start w (reqc r a) 26).call hb1).below⟩
theorem getP_sum {l : List UInt8} (h : (getP l).2.2 = 0) : (getP l).1.load.length + (getP l).2.1.length ≤ l.length := by
  rw [getP] at h ⊢
  split
  · simp
  · split
    · simp
    · split
      · simp
      · simp only [List.length_drop, List.length_take]; omega
theorem allP_loads (l : List UInt8) : ∀ ps, allP l = some ps → (loads ps).length ≤ l.length := by
  induction h : l.length using Nat.strongRecOn generalizing l with
  | ind n ih =>
    intro ps hps
    by_cases hn : l = []
    · subst hn; rw [allP_nil] at hps; injection hps with hps; subst hps; simp [loads]
    · by_cases he : (getP l).2.2 = 0
      · rw [allP_more hn he] at hps
        obtain ⟨r, hr, rfl⟩ := Option.map_eq_some_iff.1 hps
        have hlt := getP_rest hn he
        have hs := getP_sum he
        have := ih _ (by omega) (getP l).2.1 rfl r hr
        show ((getP l).1.load ++ loads r).length ≤ n
        rw [List.length_append]; omega
      · rw [allP_bad hn he] at hps; cases hps
theorem allD_loads (l : List UInt8) : (loads (allD l)).length ≤ l.length := by
  rw [allD]
  cases h : allP l with
  | none => simp [loads]
  | some ps => exact allP_loads l ps h
theorem cutP_len : ∀ ps : List Pk, (cutP ps).1.length ≤ ps.length ∧ (cutP ps).2.length ≤ ps.length ∧ (loads (cutP ps).2).length ≤ (loads ps).length ∧ ∀ s ∈ (cutP ps).1, s.length ≤ (loads ps).length
  | [] => ⟨by simp [cutP], by simp [cutP], by simp [cutP, loads], by simp [cutP]⟩
  | p :: r => by
    obtain ⟨h1, h2, h3, h4⟩ := cutP_len r
    have e : loads (p :: r) = p.load ++ loads r := rfl
    rw [cutP, e, List.length_append]
    split
    · refine ⟨by simpa using h1, Nat.le_trans h2 (by simp), Nat.le_trans h3 (by omega), fun s hs => ?_⟩
      rcases List.mem_cons.1 hs with rfl | hs
      · omega
      · have := h4 s hs; omega
    · exact ⟨by simp, by simp, by simp, by simp⟩
abbrev noA : ReqA := ⟨none, none, none, none, none, none, 0, 0, 0, 0, 0, 0⟩
theorem zero26 : ((Tryz.prog.info? 26).bind (·.zero)).isSome = true := by kernel_rfl
theorem zero26_eq : zeroCells 26 = (reqc noReq noA).toArray := by kernel_rfl
theorem op_build26 (ρ : Operand → Value) (dst : Option Tmp) (ty : TypeId) (pos : String) (after : Array Edge) (g : Option (Nat × Bool)) (w : World) : (execOp ρ ⟨dst, .build 26 #[], ty, pos, after, g⟩).run Tryz.prog w = .ok (.value (.agg (reqc noReq noA).toArray)) w := by kernel_rfl
theorem reqv_one (q : Req) (a : ReqA) : (reqc q a).toArray.all (·.oneCell') = true := by
  rw [Array.all_eq_true']
  intro v hv
  simp only [reqc, List.mem_toArray, List.mem_cons, List.not_mem_nil, or_false] at hv
  rcases hv with rfl | rfl | rfl | rfl | rfl | rfl | rfl | rfl | rfl | rfl | rfl <;> rfl
theorem start_req (W : World) (base : Nat) (h : base ≤ W.heap.size) : ReqAt 0 base W.heap.size (W.alloc (.cells (zeroCells 26) 26)) noReq noA :=
  ⟨h, by rw [zero26_eq]; exact heap_alloc_new W _, own_nil _ _ _ _, own_nil _ _ _ _, own_nil _ _ _ _, own_nil _ _ _ _, own_nil _ _ _ _, own_nil _ _ _ _, Apart.nil _, Apart.nil _, Apart.nil _, Apart.nil _, Apart.nil _, Apart.nil _,
    ⟨by simp, by simp, by simp, by simp, by simp⟩, by simp, by simp, by simp, by simp, by simp, by simp, by simp⟩
/-- What a request of a text is; the error beside it. -/
def askedQ (s : List UInt8) : Req := if asksB (readText s) = true ∧ askT (readText s) = s then readText s else noReq
def askedE (s : List UInt8) : Int := if asksB (readText s) = true ∧ askT (readText s) = s then 0 else 2
def AskedRes (s : List UInt8) (w' : World) (e : Ending) : Prop := ∃ a, e = .returned (.tuple #[.agg (reqc (askedQ s) a).toArray, .int .i64 (askedE s)]) ∧ IsReq w' (askedQ s) a ∧ (askedQ s).caps.length ≤ a.c2 ∧ ReqFit (askedQ s)
theorem isReq_no (w : World) : IsReq w noReq noA := ⟨fun h => absurd rfl h, fun h => absurd rfl h, fun h => absurd rfl h, fun h => absurd rfl h, fun h => absurd rfl h, fun h => absurd rfl h, by simp, by simp, ⟨by simp, by simp⟩, ⟨by simp, by simp⟩, ⟨by simp, by simp⟩, ⟨by simp, by simp⟩, by simp, by simp, by simp⟩
theorem asked_no {s : List UInt8} (h : ¬ (asksB (readText s) = true ∧ askT (readText s) = s)) {w' : World} : AskedRes s w' (.returned (.tuple #[.agg (reqc noReq noA).toArray, .int .i64 2])) := by
  have hq : askedQ s = noReq := by rw [askedQ, if_neg h]
  have he : askedE s = 2 := by rw [askedE, if_neg h]
  exact ⟨noA, by rw [hq, he], by rw [hq]; exact isReq_no _, by rw [hq]; exact Nat.le_refl _, by rw [hq]; exact ⟨by simp, by simp, by simp, by simp, by simp⟩⟩
theorem own_row {W : World} {base g0 : Nat} (h0 : g0 < base) (cs : Array Value) {e : TypeId} {size n c k : Nat} {xs : List Value} {A : Option Addr} (ho : W.ownsRow base e size (.slice A k c) n xs) : (W.setRow g0 cs).ownsRow base e size (.slice A k c) n xs :=
  own_kept ho fun x hx => setRow_other W g0 _ cs (by have := (own_addr ho hx).1; omega)
theorem ReqAt.setRow {m base g g0 : Nat} {W : World} {q : Req} {a : ReqA} (h : ReqAt m base g W q a) (h0 : g0 < base) (cs : Array Value) : ReqAt m base g (W.setRow g0 cs) q a :=
  ⟨h.hbg, (setRow_other W g0 g cs (by have := h.hbg; omega)).trans h.hg, own_row h0 cs h.caps, own_row h0 cs h.wants, own_row h0 cs h.haves, own_row h0 cs h.common, own_row h0 cs h.shallow, own_row h0 cs h.updates, h.p34, h.p35, h.p36, h.p45, h.p46, h.p56, h.fit, h.lCaps, h.n3, h.n4, h.n5, h.n6, h.n9, h.nData⟩
theorem asked_yes {s : List UInt8} {q : Req} {a : ReqA} {w' : World} (h : asksB (readText s) = true ∧ askT (readText s) = s) (ht : readText s = q) (h1 : IsReq w' q a) (h2 : q.caps.length ≤ a.c2) (h3 : ReqFit q) : AskedRes s w' (.returned (.tuple #[.agg (reqc q a).toArray, .int .i64 0])) := by
  have hq : askedQ s = q := by rw [askedQ, if_pos h, ht]
  have he : askedE s = 0 := by rw [askedE, if_pos h]
  exact ⟨a, by rw [hq, he], by rw [hq]; exact h1, by rw [hq]; exact h2, by rw [hq]; exact h3⟩
theorem foldl_take {α β : Type} (f : β → α → β) (q : β) (l : List α) (k : Nat) (x : α) (h : l[k]? = some x) : (l.take (k + 1)).foldl f q = f ((l.take k).foldl f q) x := by
  obtain ⟨hk, hs⟩ := List.getElem?_eq_some_iff.1 h
  rw [List.take_succ_eq_append_getElem hk, hs, List.foldl_append]; rfl
set_option maxHeartbeats 8000000 in
theorem asked12_any (s : List UInt8) (hs : s.length ≤ 100000) (w : World) (hE : Env w) : Calls Tryz.prog 12 #[.string (bs s)] w fun e w' => AskedRes s w' e ∧ Below w.heap.size w w' := by
  have hmf : ∀ (fn : Fn) (first cap : Array Value) (w : World), (Instr.makeFunc fn first cap).run Tryz.prog w = .ok (.func fn first cap) w := fun _ _ _ _ => rfl
  have HE := Lib.hid hE
  clear hE
  obtain ⟨c1, c2, c3, c4⟩ := cutP_len (allD s)
  have n1 := allD_len s
  have n2 := allD_loads s
  have HT : Hid (readText s = { ((cutP (allD s)).1.foldl readP noReq) with data := loads (cutP (allD s)).2 }) := Lib.hid rfl
  have HC4 := Lib.hid c4
  clear c4
  obtain ⟨hd, Hhd⟩ : ∃ x, Hid ((cutP (allD s)).1 = x) := ⟨_, Lib.hid rfl⟩
  obtain ⟨tl, Htl⟩ : ∃ x, Hid ((cutP (allD s)).2 = x) := ⟨_, Lib.hid rfl⟩
  rw [Hhd.out] at c1 HC4 HT
  rw [Htl.out] at c2 c3 HT
  have hg0 := heap_alloc_new w (.cells (zeroCells 26) 26)
  have HG0 := Lib.hid hg0
  clear hg0
  go_enter Tryz.func12, Tryz.ntmps12
  go_wp2_with (first | (refine wpList_run rfl (op_allocZ _ _ _ _ _ _ _ 26 zero26) ?_))
  refine (parts43_any s (by omega) _).mono ?_
  rintro e W1 ⟨⟨A, ca, B, cb, rfl, hA, hB⟩, hb1⟩
  rw [Hhd.out, Htl.out]
  rw [Hhd.out] at hA
  rw [Htl.out] at hB
  have hlt1 : w.heap.size < W1.heap.size := by have := hb1.size; rw [World.size_alloc] at this; omega
  have HG1 : Hid (W1.heap[w.heap.size]? = some (.cells (zeroCells 26) 26 (0, 0))) := Lib.hid ((hb1.block _ (by rw [World.size_alloc]; omega)).trans HG0.out)
  have HB1 : Hid (Below w.heap.size w W1) := Lib.hid (below_call (below_alloc (Below.refl _ _) _) hb1)
  have HE1 := Lib.hid (HE.out.below HB1.out)
  have HS := Lib.hid (start_req W1 W1.heap.size (Nat.le_refl _))
  have HA := Lib.hid hA
  have HBt := Lib.hid hB
  clear hb1 hA hB
  go_wp2_with (first | (refine wpList_run rfl (op_allocZ _ _ _ _ _ _ _ 26 zero26) ?_))
  go_loopw [9, 20] (fun _ i wr => ∃ k : Nat, ∃ a, k ≤ hd.length ∧ i = .int .i64 k ∧ ReqAt k W1.heap.size W1.heap.size wr ((hd.take k).foldl readP noReq) a ∧ Below W1.heap.size W1 wr) (fun _ i _ => hd.length - (intOf i).toNat)
  case atStart => exact ⟨0, noA, by omega, rfl, HS.out, below_alloc (Below.refl _ _) _⟩
  case round =>
    obtain ⟨k, a, hk, rfl, hR, hbel⟩ := hrel
    have HR := Lib.hid hR
    have HB := Lib.hid hbel
    clear hR hbel
    by_cases hlt : k < hd.length
    · obtain ⟨b1, o1, x1, rfl, hcell, Hx1⟩ := Rd.strN (HA.out.below HB.out) k hlt
      have hk? : hd[k]? = some x1 := by rw [Hx1.out, List.getD_eq_getElem?_getD, List.getElem?_eq_getElem hlt]; rfl
      have hx1l := HC4.out x1 (List.mem_of_getElem? hk?)
      have Hfold := Lib.hid (foldl_take readP noReq hd k x1 hk?)
      clear hk?
      obtain ⟨q, Hq⟩ : ∃ q, Hid ((hd.take k).foldl readP noReq = q) := ⟨_, Lib.hid rfl⟩
      rw [Hq.out] at HR Hfold
      go_wp2_with (first
        | (go_at_call 44; refine (read44_any x1 (by omega) k _ _ q a _ (HE1.out.below HB.out) HR.out (by omega)).mono ?_; rintro e W3 ⟨rfl, ⟨a3, hR3⟩, hb3⟩; have HR3 := Lib.hid hR3; have HB3 := Lib.hid hb3; clear hR3 hb3))
      go_roundw
      case rel => exact ⟨k + 1, a3, by omega, by go_num, by rw [Hfold.out]; exact HR3.out, HB.out.trans HB3.out⟩
      case measure => simp [intOf]; omega
    · obtain rfl : k = hd.length := by omega
      rw [List.take_length] at HR
      obtain ⟨q, Hq⟩ : ∃ q, Hid (hd.foldl readP noReq = q) := ⟨_, Lib.hid rfl⟩
      rw [Hq.out] at HR HT
      by_cases hB : asksB { q with data := loads tl } = true
      · obtain ⟨tx, Htx⟩ : ∃ t, Hid (askT { q with data := loads tl } = t) := ⟨_, Lib.hid rfl⟩
        by_cases heq : tx = s
        · have hyes : asksB (readText s) = true ∧ askT (readText s) = s := by rw [HT.out, Htx.out]; exact ⟨hB, heq⟩
          have hne : Hid ((!(tx == s)) = false) := Lib.hid (by rw [heq]; simp)
          clear heq
          go_wp2_with fail
          refine (joined45_any tl B cb (by omega) (by omega) _ (HBt.out.below HB.out)).mono ?_
          rintro e W4 ⟨rfl, hb4⟩
          have HR4 := Lib.hid (HR.out.below hb4)
          have HR5 := Lib.hid (HR4.out.set_data (loads tl) (by omega))
          have HG4 := Lib.hid HR4.out.hg
          have HG5 := Lib.hid HR5.out.hg
          have HB4 : Hid (Below W1.heap.size W1 W4) := Lib.hid (below_base HB.out HB.out.size hb4)
          have HB5 : Hid (Below W1.heap.size W1 (W4.setCell ⟨W1.heap.size, 10, none⟩ (.string (bs (loads tl))))) := Lib.hid (HB4.out.setCell (Nat.le_refl _) _)
          clear hb4
          go_wp2_with (first
            | (refine wpList_storeMid rfl 9 _ _ rfl W1.heap.size 10 (reqc q a).toArray (.string (bs q.data)) (.string (bs (loads tl))) 26 rfl rfl rfl rfl HG4.out rfl (by kernel_rfl) ?_)
            | (refine wpList_load_row rfl 26 _ rfl W1.heap.size rfl 26 (reqc { q with data := loads tl } a).toArray (0, 0) _ HG5.out und26 rfl info26 ?_))
          refine (ask8_any _ a _ _ _ _ _ (HE1.out.below HB5.out) HR5.out.isReq hB (askOk_of hB) (own_le HR5.out.caps).2).mono ?_
          rintro e W6 ⟨rfl, hb6⟩
          have hT : Hid (askText { q with data := loads tl } ({ q with data := loads tl } : Req).op.toNat ({ q with data := loads tl } : Req).session.toNat ({ q with data := loads tl } : Req).depth.toNat ({ q with data := loads tl } : Req).place.toNat = tx) := Htx
          rw [hT.out]
          have HG6 : Hid (W6.heap[w.heap.size]? = some (.cells (zeroCells 26) 26 (0, 0))) := Lib.hid ((hb6.block _ (by have := HB5.out.size; omega)).trans ((HB5.out.block _ hlt1).trans HG1.out))
          have HB6 : Hid (Below w.heap.size w W6) := Lib.hid (HB1.out.trans ((below_base HB5.out HB5.out.size hb6).mono (by omega)))
          have hR6 := HR5.out.below hb6
          have HRW := Lib.hid (setRow_heap W6 w.heap.size (zeroCells 26) (reqc { q with data := loads tl } a).toArray 26 (0, 0) HG6.out)
          have HL6 := Lib.hid hR6.hg
          have HB7 : Hid (Below w.heap.size w (W6.setRow w.heap.size (reqc { q with data := loads tl } a).toArray)) := Lib.hid (below_setRow HB6.out (Nat.le_refl _) _)
          have HIQ : Hid (IsReq (W6.setRow w.heap.size (reqc { q with data := loads tl } a).toArray) { q with data := loads tl } a) := Lib.hid (hR6.setRow hlt1 _).isReq
          have HIC : Hid (q.caps.length ≤ a.c2) := Lib.hid (own_le hR6.caps).2
          have HFit := Lib.hid hR6.fit
          clear hb6 hR6
          go_wp2_with (first
            | (refine wpList_runG (by rfl) (op_str_neqB _ _ _ _ _ _ _ _ _ _ tx s false hne.out rfl rfl) ?_)
            | (refine wpList_load_row rfl 26 _ rfl W1.heap.size rfl 26 (reqc { q with data := loads tl } a).toArray (0, 0) _ HL6.out und26 rfl info26 ?_)
            | (refine wpList_storeRow rfl 26 _ _ rfl w.heap.size 26 (zeroCells 26) (reqc { q with data := loads tl } a).toArray rfl rfl HG6.out info26 (by rw [zero26_eq]; rfl) (reqv_one _ _) ?_))
          refine bodyPost_ret (v := .tuple #[.agg (reqc { q with data := loads tl } a).toArray, .int .i64 0]) ((results_cellT rfl _ _ w.heap.size 26 (reqc { q with data := loads tl } a).toArray (0, 0) _ rfl HRW.out und26 rfl info26).trans rfl) rfl ⟨asked_yes hyes HT.out HIQ.out HIC.out HFit.out, HB7.out⟩
        · have hno : ¬ (asksB (readText s) = true ∧ askT (readText s) = s) := by rw [HT.out, Htx.out]; exact fun h => heq h.2
          have hne : Hid ((!(tx == s)) = true) := Lib.hid (by simpa using heq)
          clear heq
          go_wp2_with fail
          refine (joined45_any tl B cb (by omega) (by omega) _ (HBt.out.below HB.out)).mono ?_
          rintro e W4 ⟨rfl, hb4⟩
          have HR4 := Lib.hid (HR.out.below hb4)
          have HR5 := Lib.hid (HR4.out.set_data (loads tl) (by omega))
          have HG4 := Lib.hid HR4.out.hg
          have HG5 := Lib.hid HR5.out.hg
          have HB4 : Hid (Below W1.heap.size W1 W4) := Lib.hid (below_base HB.out HB.out.size hb4)
          have HB5 : Hid (Below W1.heap.size W1 (W4.setCell ⟨W1.heap.size, 10, none⟩ (.string (bs (loads tl))))) := Lib.hid (HB4.out.setCell (Nat.le_refl _) _)
          clear hb4
          go_wp2_with (first
            | (refine wpList_storeMid rfl 9 _ _ rfl W1.heap.size 10 (reqc q a).toArray (.string (bs q.data)) (.string (bs (loads tl))) 26 rfl rfl rfl rfl HG4.out rfl (by kernel_rfl) ?_)
            | (refine wpList_load_row rfl 26 _ rfl W1.heap.size rfl 26 (reqc { q with data := loads tl } a).toArray (0, 0) _ HG5.out und26 rfl info26 ?_))
          refine (ask8_any _ a _ _ _ _ _ (HE1.out.below HB5.out) HR5.out.isReq hB (askOk_of hB) (own_le HR5.out.caps).2).mono ?_
          rintro e W6 ⟨rfl, hb6⟩
          have hT : Hid (askText { q with data := loads tl } ({ q with data := loads tl } : Req).op.toNat ({ q with data := loads tl } : Req).session.toNat ({ q with data := loads tl } : Req).depth.toNat ({ q with data := loads tl } : Req).place.toNat = tx) := Htx
          rw [hT.out]
          have HG6 : Hid (W6.heap[w.heap.size]? = some (.cells (zeroCells 26) 26 (0, 0))) := Lib.hid ((hb6.block _ (by have := HB5.out.size; omega)).trans ((HB5.out.block _ hlt1).trans HG1.out))
          have HB6 : Hid (Below w.heap.size w W6) := Lib.hid (HB1.out.trans ((below_base HB5.out HB5.out.size hb6).mono (by omega)))
          have HR6 := Lib.hid (setRow_heap W6 w.heap.size (zeroCells 26) (reqc noReq noA).toArray 26 (0, 0) HG6.out)
          have HB7 : Hid (Below w.heap.size w (W6.setRow w.heap.size (reqc noReq noA).toArray)) := Lib.hid (below_setRow HB6.out (Nat.le_refl _) _)
          clear hb6
          go_wp2_with (first
            | (refine wpList_run rfl (op_build26 _ _ _ _ _ _ _) ?_)
            | (refine wpList_runG (by rfl) (op_str_neqB _ _ _ _ _ _ _ _ _ _ tx s true hne.out rfl rfl) ?_)
            | (refine wpList_storeRow rfl 26 _ _ rfl w.heap.size 26 (zeroCells 26) (reqc noReq noA).toArray rfl rfl HG6.out info26 (by rw [zero26_eq]) (reqv_one _ _) ?_))
          refine bodyPost_ret (v := .tuple #[.agg (reqc noReq noA).toArray, .int .i64 2]) ((results_cellT rfl _ _ w.heap.size 26 (reqc noReq noA).toArray (0, 0) _ rfl HR6.out und26 rfl info26).trans rfl) rfl ⟨asked_no hno, HB7.out⟩
      · have hB : asksB { q with data := loads tl } = false := by simpa using hB
        have hno : ¬ (asksB (readText s) = true ∧ askT (readText s) = s) := by rw [HT.out, hB]; exact fun h => absurd h.1 (by decide)
        go_wp2_with fail
        refine (joined45_any tl B cb (by omega) (by omega) _ (HBt.out.below HB.out)).mono ?_
        rintro e W4 ⟨rfl, hb4⟩
        have HR4 := Lib.hid (HR.out.below hb4)
        have HR5 := Lib.hid (HR4.out.set_data (loads tl) (by omega))
        have HG4 := Lib.hid HR4.out.hg
        have HG5 := Lib.hid HR5.out.hg
        have HB4 : Hid (Below W1.heap.size W1 W4) := Lib.hid (below_base HB.out HB.out.size hb4)
        have HB5 : Hid (Below W1.heap.size W1 (W4.setCell ⟨W1.heap.size, 10, none⟩ (.string (bs (loads tl))))) := Lib.hid (HB4.out.setCell (Nat.le_refl _) _)
        clear hb4
        go_wp2_with (first
          | (refine wpList_storeMid rfl 9 _ _ rfl W1.heap.size 10 (reqc q a).toArray (.string (bs q.data)) (.string (bs (loads tl))) 26 rfl rfl rfl rfl HG4.out rfl (by kernel_rfl) ?_)
          | (refine wpList_load_row rfl 26 _ rfl W1.heap.size rfl 26 (reqc { q with data := loads tl } a).toArray (0, 0) _ HG5.out und26 rfl info26 ?_))
        refine (ask8_no _ a _ HR5.out.isReq hB).mono ?_
        rintro e W6 ⟨rfl, hb6⟩
        have HG6 : Hid (W6.heap[w.heap.size]? = some (.cells (zeroCells 26) 26 (0, 0))) := Lib.hid ((hb6.block _ (by have := HB5.out.size; omega)).trans ((HB5.out.block _ hlt1).trans HG1.out))
        have HB6 : Hid (Below w.heap.size w W6) := Lib.hid (HB1.out.trans ((below_base HB5.out HB5.out.size hb6).mono (by omega)))
        have HR6 := Lib.hid (setRow_heap W6 w.heap.size (zeroCells 26) (reqc noReq noA).toArray 26 (0, 0) HG6.out)
        have HB7 : Hid (Below w.heap.size w (W6.setRow w.heap.size (reqc noReq noA).toArray)) := Lib.hid (below_setRow HB6.out (Nat.le_refl _) _)
        clear hb6
        go_wp2_with (first
          | (refine wpList_run rfl (op_build26 _ _ _ _ _ _ _) ?_)
          | (refine wpList_storeRow rfl 26 _ _ rfl w.heap.size 26 (zeroCells 26) (reqc noReq noA).toArray rfl rfl HG6.out info26 (by rw [zero26_eq]) (reqv_one _ _) ?_))
        refine bodyPost_ret (v := .tuple #[.agg (reqc noReq noA).toArray, .int .i64 2]) ((results_cellT rfl _ _ w.heap.size 26 (reqc noReq noA).toArray (0, 0) _ rfl HR6.out und26 rfl info26).trans rfl) rfl ⟨asked_no hno, HB7.out⟩
end Go.Proofs.YtmfpmedkhlhnpaaGreatDoor
