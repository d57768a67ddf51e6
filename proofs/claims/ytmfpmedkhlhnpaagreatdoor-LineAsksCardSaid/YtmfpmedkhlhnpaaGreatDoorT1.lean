import Derived.Test.YtmfpmedkhlhnpaaGreatDoorR3
import Derived.Test.YtmfpmedkhlhnpaaGreatDoorB7
/- functions 6 (few), 7 (knows). -/
namespace Go.Proofs.YtmfpmedkhlhnpaaGreatDoor
open Go.RowKit Go.Extern.Stop Go.Proofs.YtmfpmedkhlhnpaaGreatDoorW.PrintLast
set_option maxRecDepth 100000
set_option linter.unusedSimpArgs false
set_option linter.unusedVariables false
structure FewOk (r : Req) : Prop where
  wants : r.wants.length ≤ 20
  haves : r.haves.length ≤ 20
  common : r.common.length ≤ 20
  shallow : r.shallow.length ≤ 20
  data : r.data.length ≤ 2100
set_option maxHeartbeats 4000000 in
theorem few6_any (r : Req) (a : ReqA) (w : World) (hq : IsReq w r a) : Calls Tryz.prog 6 #[.agg (reqc r a).toArray] w fun e w' => Tells (FewOk r) e ∧ Below w.heap.size w w' := by
  have HQ := Lib.hid hq
  have n1 := hq.nCaps
  have n2 := hq.iWants.1
  have n3 := hq.iHaves.1
  have n4 := hq.iCommon.1
  have n5 := hq.iShallow.1
  have n6 := hq.nUpd
  have n7 := hq.nData
  clear hq
  go_enter Tryz.func6, Tryz.ntmps6
  go_wp2
  have hbx0 := Boxed.start w (reqc r a) 26
  go_loopw [3] (fun i wr => ∃ k : Nat, k ≤ r.updates.length ∧ k ≤ 70 ∧ i = .int .i64 k ∧ Boxed w (reqc r a) 26 wr) (fun i _ => r.updates.length - (intOf i).toNat)
  case atStart => exact ⟨0, by omega, by omega, rfl, hbx0⟩
  case round =>
    obtain ⟨k, hk, hk7, rfl, hbx⟩ := hrel
    have hbel := hbx.below
    have hltb := hbx.lt
    have c2 := hbx.cell 2 (.slice a.a2 r.caps.length a.c2) rfl
    have c3 := hbx.cell 3 (.slice a.a3 r.wants.length a.c3) rfl
    have c4 := hbx.cell 4 (.slice a.a4 r.haves.length a.c4) rfl
    have c5 := hbx.cell 5 (.slice a.a5 r.common.length a.c5) rfl
    have c6 := hbx.cell 6 (.slice a.a6 r.shallow.length a.c6) rfl
    have c9 := hbx.cell 9 (.slice a.a9 r.updates.length a.c9) rfl
    have c10 := hbx.cell 10 (.string (bs r.data)) rfl
    by_cases hlt : k < r.updates.length ∧ k < 70
    · obtain ⟨hlt, hl70⟩ := hlt
      obtain ⟨b1, o1, u, e1, cu, hs1⟩ := Rd.at (n := 65) (by omega) (HQ.out.below hbel).updates (fun x hx => updc_length x (HQ.out.iUpd x hx)) k hlt
      have c0 := cu 0 (.string (bs u.name)) rfl
      have hun := (HQ.out.iUpd u (List.mem_of_getElem? hs1)).2.2
      rw [Nat.add_zero] at c0
      rw [e1] at c9
      clear hs1 e1
      have h70 : (k : Int) < 70 := by omega
      cases hF : decide ((100 : Int) < (u.name.length : Int)) with
      | true =>
        go_wp2
        go_ret
        exact ⟨Tells.no, hbel⟩
      | false =>
        go_wp2
        go_roundw
        case rel => exact ⟨k + 1, by omega, by omega, by go_num, hbx⟩
        case measure => simp [intOf]; omega
    · by_cases hle : k < r.updates.length
      · obtain rfl : k = 70 := by omega
        clear hlt
        go_wp2_with fail
        refine (words23_any r.caps a.a2 a.c2 n1 _ (HQ.out.below hbel).caps).mono ?_
        rintro e w2 ⟨⟨bb, rfl, hbb⟩, rfl⟩
        cases bb with
        | false =>
          go_wp2
          go_ret
          exact ⟨Tells.no, hbel⟩
        | true =>
          cases h3 : decide ((r.wants.length : Int) ≤ 20) with
          | false =>
            go_wp2
            go_ret
            exact ⟨Tells.no, hbel⟩
          | true =>
            cases h4 : decide ((r.haves.length : Int) ≤ 20) with
            | false =>
              go_wp2
              go_ret
              exact ⟨Tells.no, hbel⟩
            | true =>
              cases h5 : decide ((r.common.length : Int) ≤ 20) with
              | false =>
                go_wp2
                go_ret
                exact ⟨Tells.no, hbel⟩
              | true =>
                cases h6 : decide ((r.shallow.length : Int) ≤ 20) with
                | false =>
                  go_wp2
                  go_ret
                  exact ⟨Tells.no, hbel⟩
                | true =>
                  cases h9 : decide ((r.updates.length : Int) ≤ 70) with
                  | false =>
                    go_wp2
                    go_ret
                    exact ⟨Tells.no, hbel⟩
                  | true =>
                    cases h10 : decide ((r.data.length : Int) ≤ 2100) with
                    | false =>
                      go_wp2
                      go_ret
                      exact ⟨Tells.no, hbel⟩
                    | true =>
                      have hfo : Hid (FewOk r) := Lib.hid ⟨by have := of_decide_eq_true h3; omega, by have := of_decide_eq_true h4; omega, by have := of_decide_eq_true h5; omega, by have := of_decide_eq_true h6; omega, by have := of_decide_eq_true h10; omega⟩
                      go_wp2
                      go_ret
                      exact ⟨Tells.of fun _ => hfo.out, hbel⟩
      · obtain rfl : k = r.updates.length := by omega
        clear hlt hle
        go_wp2_with fail
        refine (words23_any r.caps a.a2 a.c2 n1 _ (HQ.out.below hbel).caps).mono ?_
        rintro e w2 ⟨⟨bb, rfl, hbb⟩, rfl⟩
        cases bb with
        | false =>
          go_wp2
          go_ret
          exact ⟨Tells.no, hbel⟩
        | true =>
          cases h3 : decide ((r.wants.length : Int) ≤ 20) with
          | false =>
            go_wp2
            go_ret
            exact ⟨Tells.no, hbel⟩
          | true =>
            cases h4 : decide ((r.haves.length : Int) ≤ 20) with
            | false =>
              go_wp2
              go_ret
              exact ⟨Tells.no, hbel⟩
            | true =>
              cases h5 : decide ((r.common.length : Int) ≤ 20) with
              | false =>
                go_wp2
                go_ret
                exact ⟨Tells.no, hbel⟩
              | true =>
                cases h6 : decide ((r.shallow.length : Int) ≤ 20) with
                | false =>
                  go_wp2
                  go_ret
                  exact ⟨Tells.no, hbel⟩
                | true =>
                  cases h9 : decide ((r.updates.length : Int) ≤ 70) with
                  | false =>
                    go_wp2
                    go_ret
                    exact ⟨Tells.no, hbel⟩
                  | true =>
                    cases h10 : decide ((r.data.length : Int) ≤ 2100) with
                    | false =>
                      go_wp2
                      go_ret
                      exact ⟨Tells.no, hbel⟩
                    | true =>
                      have hfo : Hid (FewOk r) := Lib.hid ⟨by have := of_decide_eq_true h3; omega, by have := of_decide_eq_true h4; omega, by have := of_decide_eq_true h5; omega, by have := of_decide_eq_true h6; omega, by have := of_decide_eq_true h10; omega⟩
                      go_wp2
                      go_ret
                      exact ⟨Tells.of fun _ => hfo.out, hbel⟩
end Go.Proofs.YtmfpmedkhlhnpaaGreatDoor
