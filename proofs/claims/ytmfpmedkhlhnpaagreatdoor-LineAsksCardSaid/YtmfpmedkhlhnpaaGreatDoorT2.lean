import Derived.Test.YtmfpmedkhlhnpaaGreatDoorS7
import Derived.Test.YtmfpmedkhlhnpaaGreatDoorT1
/- function 7: knows. -/
namespace Go.Proofs.YtmfpmedkhlhnpaaGreatDoor
open Go.RowKit Go.Extern.Stop Go.Proofs.YtmfpmedkhlhnpaaGreatDoorW.PrintLast
set_option maxRecDepth 100000
set_option linter.unusedSimpArgs false
set_option linter.unusedVariables false
abbrev kReq : Req := ⟨1, 7, [], [], [], [], [], 0, 0, [], []⟩
abbrev kRep : Rep := ⟨1, 0, [], [], [], [], [], false, false, 0, noId, [], [], []⟩
theorem kReq_ok : asksB kReq = true := by decide
theorem kReq_text : askT kReq = [48, 48, 48, 97, 111, 112, 32, 49, 32, 55, 48, 48, 48, 48] := by
  have h1 : Lib.decDigits 1 = [49] := Lib.decDigits_one (by omega)
  have h7 : Lib.decDigits 7 = [55] := Lib.decDigits_one (by omega)
  have e : askT kReq = (((((((((pk ([111, 112, 32] ++ Lib.decDigits 1 ++ [32] ++ Lib.decDigits 7) ++ capsLine []) ++ idLines [119, 97, 110, 116] []) ++ idLines [104, 97, 118, 101] []) ++ idLines [99, 111, 109, 109, 111, 110] []) ++ idLines [115, 104, 97, 108, 108, 111, 119] []) ++ numLine [100, 101, 112, 116, 104] 0) ++ numLine [97, 116] 0) ++ updLines [] ++ delim []) ++ piecesB []) ++ [48, 48, 48, 48] := rfl
  rw [e, h1, h7, pieces_nil]
  decide
theorem kRep_ok : tellsB kRep = true := by decide
theorem kRep_text : tellT kRep = [48, 48, 48, 97, 111, 112, 32, 49, 32, 48, 48, 48, 48, 48] := by
  have h1 : Lib.decDigits 1 = [49] := Lib.decDigits_one (by omega)
  have h0 : Lib.decDigits 0 = [48] := Lib.decDigits_one (by omega)
  have e : tellT kRep = pksB ([⟨0, Lib.join [wOp, Lib.decDigits 1, Lib.decDigits 0] [32]⟩] ++ chunkPks [] ++ [⟨1, []⟩]) := rfl
  rw [e, h1, h0, chunkPks, chunks_nil]
  decide
theorem kRep_told : toldQ [48, 48, 48, 97, 111, 112, 32, 49, 32, 48, 48, 48, 48, 48] = kRep ∧ toldE [48, 48, 48, 97, 111, 112, 32, 49, 32, 48, 48, 48, 48, 48] = 0 := by
  rw [← kRep_text]
  have hr : readTell (tellT kRep) = kRep := read_tell kRep_ok ⟨by simp, by simp, by simp, by simp, noId_length⟩
  have hc : tellsB (readTell (tellT kRep)) = true ∧ tellT (readTell (tellT kRep)) = tellT kRep := by rw [hr]; exact ⟨kRep_ok, rfl⟩
  exact ⟨by rw [toldQ, if_pos hc, hr], by rw [toldE, if_pos hc]⟩
theorem kNone : askedQ [48, 48, 48, 48] = noReq ∧ askedE [48, 48, 48, 48] = 2 := by
  have hA : allD [48, 48, 48, 48] = [⟨1, []⟩] := by
    have : pksB [⟨1, []⟩] = [48, 48, 48, 48] := by decide
    rw [allD, ← this, allP_lines _ (fun p hp => by rw [List.mem_singleton.1 hp]; exact .inr (.inl ⟨rfl, rfl⟩))]; rfl
  have hr : readText [48, 48, 48, 48] = noReq := by
    rw [readText, hA]; rfl
  have hc : ¬ (asksB (readText [48, 48, 48, 48]) = true ∧ askT (readText [48, 48, 48, 48]) = [48, 48, 48, 48]) := by
    rw [hr]; rintro ⟨h, -⟩; exact absurd h (by decide)
  exact ⟨by rw [askedQ, if_neg hc], by rw [askedE, if_neg hc]⟩
theorem isReq_k (w : World) : IsReq w kReq noA := ⟨fun h => absurd rfl h, fun h => absurd rfl h, fun h => absurd rfl h, fun h => absurd rfl h, fun h => absurd rfl h, fun h => absurd rfl h, by simp, by simp, ⟨by simp, by simp⟩, ⟨by simp, by simp⟩, ⟨by simp, by simp⟩, ⟨by simp, by simp⟩, by simp, by simp, by simp⟩
theorem builtk : Tryz.prog.built 26 [(0, .int .i64 1), (1, .int .i64 7)] = some (reqc kReq noA).toArray := by kernel_rfl
theorem op_buildk (ρ : Operand → Value) (dst : Option Tmp) (ty : TypeId) (pos : String) (after : Array Edge) (g : Option (Nat × Bool)) (w : World) (hx : ρ (.const (.int .i64 1)) = .int .i64 1) (hy : ρ (.const (.int .i64 7)) = .int .i64 7) : (execOp ρ ⟨dst, .build 26 #[(0, .const (.int .i64 1)), (1, .const (.int .i64 7))], ty, pos, after, g⟩).run Tryz.prog w = .ok (.value (.agg (reqc kReq noA).toArray)) w := by
  unfold execOp
  simp only [List.map_toArray, List.map_cons, List.map_nil, hx, hy, Sem.run_bind, run_build w 26 #[(0, .int .i64 1), (1, .int .i64 7)] _ builtk, Result.andThen_ok]
  rfl
theorem zsize26 (q : Req) (a : ReqA) : (zeroCells 26).size = (reqc q a).toArray.size := by rw [zero26_eq]; rfl
set_option maxHeartbeats 4000000 in
theorem knows7_any (w : World) (hE : Env w) : Calls Tryz.prog 7 #[] w fun e w' => e = .returned (.bool true) ∧ Below w.heap.size w w' := by
  have HE := Lib.hid hE
  clear hE
  go_enter Tryz.func7, Tryz.ntmps7
  go_wp2_with (first | (refine wpList_run rfl (op_buildk _ _ _ _ _ _ _ rfl rfl) ?_))
  refine (ask8_any kReq noA _ _ _ _ w HE.out (isReq_k w) kReq_ok (askOk_of kReq_ok) (Nat.le_refl _)).mono ?_
  rintro e w1 ⟨rfl, hb1⟩
  have HT : Hid (askText kReq kReq.op.toNat kReq.session.toNat kReq.depth.toNat kReq.place.toNat = [48, 48, 48, 97, 111, 112, 32, 49, 32, 55, 48, 48, 48, 48]) := Lib.hid kReq_text
  rw [HT.out]
  have HE1 := Lib.hid (HE.out.below hb1)
  go_wp2_with fail
  refine (asked12_any [48, 48, 48, 48] (by decide) w1 HE1.out).mono ?_
  rintro e w2 ⟨⟨a2, rfl, -, -, -⟩, hb2⟩
  rw [kNone.1, kNone.2]
  have hB2 := below_call hb1 hb2
  have HE2 := Lib.hid (HE.out.below hB2)
  go_wp2_with (first
    | (refine wpList_run rfl (op_allocZ _ _ _ _ _ _ _ 26 zero26) ?_)
    | (refine wpList_store_new rfl 26 _ _ rfl _ (reqc noReq a2).toArray rfl rfl info26 (zsize26 _ _) (reqv_one _ _) ?_))
  refine (told19_any [48, 48, 48, 97, 111, 112, 32, 49, 32, 48, 48, 48, 48, 48] (by decide) _ (HE2.out.below (below_alloc (Below.refl _ _) _))).mono ?_
  rintro e w3 ⟨⟨a3, rfl, -, -⟩, hb3⟩
  rw [kRep_told.1, kRep_told.2]
  have hB3 : Below w.heap.size w w3 := below_call (below_alloc hB2 _) hb3
  have hn := heap_alloc_new w3 (.cells (repc kRep a3).toArray 44)
  obtain ⟨cs0, Hcs⟩ : ∃ cs, Hid ((repc kRep a3).toArray = cs) := ⟨_, Lib.hid rfl⟩
  have k0 : cs0[0]? = some (.int .i64 1) := by rw [← Hcs.out]; exact rep_h _ _ 0 _ rfl
  have k1 : cs0[1]? = some (.int .i64 0) := by rw [← Hcs.out]; exact rep_h _ _ 1 _ rfl
  have HI : Hid ((Tryz.prog.info? 44).map (·.size) = some cs0.size) := Lib.hid (by rw [← Hcs.out]; exact info44q _ _ noId_length)
  have HZ : Hid ((zeroCells 44).size = cs0.size) := Lib.hid (by rw [← Hcs.out]; exact zsize44 _ _ noId_length)
  have HO : Hid (cs0.all (·.oneCell') = true) := Lib.hid (by rw [← Hcs.out]; exact repv_one _ _)
  rw [Hcs.out]
  clear hb1 hb2 hb3 hn
  go_wp2_with (first
    | (refine wpList_run rfl (op_allocZ _ _ _ _ _ _ _ 44 zero44) ?_)
    | (refine wpList_store_new rfl 44 _ _ rfl _ cs0 rfl rfl HI.out HZ.out HO.out ?_))
  go_ret
  exact ⟨rfl, below_alloc hB3 _⟩
end Go.Proofs.YtmfpmedkhlhnpaaGreatDoor
