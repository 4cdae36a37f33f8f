-- WRITTEN by a turned copy of the kit's print program (wip/bin/mkprint.py of this work): Lean checks it.
import Derived.Test.YtnbcpiaajckoaaaPx0
import Derived.Test.YtnbcpiaajckoaaaPx2
namespace Go.Proofs.Ytnbcpiaajckoaaa.P
open Go.RowKit Go.Proofs.YtnbcpiaajckoaaaW.PrintWords Go.Proofs.YtnbcpiaajckoaaaW.PrintLast Go.Proofs.YtnbcpiaajckoaaaW.PrintMore
attribute [local go_sem] max2_int min2_int max_two min_two max_three min_three max_four min_four   -- for this text's walks alone
set_option linter.unusedVariables false
set_option linter.unusedSimpArgs false

/-! ### spec_l1entryOk: function 36 -/
def spec_l1entryOk.f (k : Nat) (a0_0 : Int) (a0_1 : Int) (a0_2 : Int) (a0_3 : Int) (a0_4 : ByteArray) (a0_5 : ByteArray) (a0_6 : ByteArray) : Option (Bool) := if a0_0 ≥ 1 then (if a0_0 ≤ 1073741824 then ((spec_CmdFault.f k a0_1 a0_2 a0_3 a0_4 a0_5 a0_6).bind fun t110 => (some (t110 == 0))) else (some false)) else (some false)
theorem spec_l1entryOk.mono : ∀ a0 a1 a2 a3 a4 a5 a6 k, LeO (spec_l1entryOk.f k a0 a1 a2 a3 a4 a5 a6) (spec_l1entryOk.f (k + 1) a0 a1 a2 a3 a4 a5 a6) := by
  intro a0 a1 a2 a3 a4 a5 a6 k
  unfold spec_l1entryOk.f
  repeat' first
      | (with_reducible exact spec_CmdFault.mono _ _ _ _ _ _ _)
      | (with_reducible exact LeO.refl _)
      | (with_reducible exact LeO.none _)
      | (with_reducible refine LeO.ite ?_ ?_)
      | (with_reducible refine LeO.bind ?_ (fun _ => ?_))
      | exact spec_CmdFault.mono _ _ _ _ _ _ _
      | exact LeO.none _
      | refine LeO.ite ?_ ?_
      | refine LeO.bind ?_ (fun _ => ?_)
set_option maxHeartbeats 8000000 in
set_option maxRecDepth 100000 in
theorem spec_l1entryOk.calls (k : Nat) (a0_0 : Int) (a0_1 : Int) (a0_2 : Int) (a0_3 : Int) (a0_4 : ByteArray) (a0_5 : ByteArray) (a0_6 : ByteArray) (r : Bool) (w : World) (h : spec_l1entryOk.f k a0_0 a0_1 a0_2 a0_3 a0_4 a0_5 a0_6 = some r) :
    Calls Try.prog 36 #[.agg #[.int .i64 a0_0, .int .i64 a0_1, .int .i64 a0_2, .int .i64 a0_3, .string a0_4, .string a0_5, .string a0_6]] w fun e w' => e = .returned (.bool r) ∧ Below w.heap.size w w' := by
  have hu58 := Try.underlying58
  have hu56 := Try.underlying56
  have HB := Aside0.mk (Below.refl w.heap.size w)
  have H : (if a0_0 ≥ 1 then (if a0_0 ≤ 1073741824 then ((spec_CmdFault.f k a0_1 a0_2 a0_3 a0_4 a0_5 a0_6).bind fun t110 => (some (t110 == 0))) else (some false)) else (some false)) = some r := h
  clear h
  by_cases c2 : a0_0 ≥ 1
  · rw [if_pos c2] at H
    have c2b0 : decide (1 ≤ a0_0) = true := decide_eq_true c2
    clear c2
    by_cases c3 : a0_0 ≤ 1073741824
    · rw [if_pos c3] at H
      have c3b0 : decide (a0_0 ≤ 1073741824) = true := decide_eq_true c3
      clear c3
      replace H := Option.bind_eq_some_iff.mp H
      obtain ⟨t110, A40, H⟩ := H
      replace H : (some (t110 == 0)) = some r := H
      have A4 := Aside0.mk A40
      clear A40
      obtain rfl := Option.some.inj H
      go_enter Try.func36, Try.ntmps36
      go_wp2_with (first | ((with_reducible refine gate_dst (N := 1) rfl ?_); refine bE 58 #[.int .i64 a0_0, .int .i64 a0_1, .int .i64 a0_2, .int .i64 a0_3, .string a0_4, .string a0_5, .string a0_6] rfl ?_; intro gb109 hg w5 hbox hb; have n0_ := Aside0.mk (below_step (bl HB) hb); have n1_ := Aside0.mk (hbox); have n2_ := Aside0.mk (gS hg (bl HB)); have n3_ := Aside0.mk (gS hg (bl HB)); clear HB; have HB := n0_; have BK109 := n1_; have GW109 := n2_; have GE109 := n3_; clear n0_ n1_ n2_ n3_; clear hb hbox hg; obtain ⟨hcz6_0, hcz6_1, hcz6_2, hcz6_3, hcz6_4, hcz6_5, hcz6_6⟩ := ce7 BK109.out; obtain ⟨hfz6_0, hfz6_1, hfz6_2, hfz6_3, hfz6_4, hfz6_5, hfz6_6⟩ := fr7 BK109.out) | (go_at_call 44; (with_reducible refine (spec_CmdFault.calls k a0_1 a0_2 a0_3 a0_4 a0_5 a0_6 t110 _ A4.out).mono ?_); rintro e w7 ⟨rfl, hb⟩; have n0_ := Aside0.mk (blk_below (bk BK109) hb); have n1_ := Aside0.mk (below_step (bl HB) hb); clear BK109; clear HB; have BK109 := n0_; have HB := n1_; clear n0_ n1_; (try clear hb); (try clear hb2); (try clear hk); (try clear hi)))
      go_ret
      exact ⟨by first | rfl | (simp [errW_none, errW_some] <;> rfl) | (simp [*, errW_none, errW_some] <;> rfl), bl HB⟩
    · rw [if_neg c3] at H
      have c3b0 : decide (a0_0 ≤ 1073741824) = false := decide_eq_false c3
      clear c3
      obtain rfl := Option.some.inj H
      go_enter Try.func36, Try.ntmps36
      go_wp2_with (first | ((with_reducible refine gate_dst (N := 1) rfl ?_); refine bE 58 #[.int .i64 a0_0, .int .i64 a0_1, .int .i64 a0_2, .int .i64 a0_3, .string a0_4, .string a0_5, .string a0_6] rfl ?_; intro gb109 hg w8 hbox hb; have n0_ := Aside0.mk (below_step (bl HB) hb); have n1_ := Aside0.mk (hbox); have n2_ := Aside0.mk (gS hg (bl HB)); have n3_ := Aside0.mk (gS hg (bl HB)); clear HB; have HB := n0_; have BK109 := n1_; have GW109 := n2_; have GE109 := n3_; clear n0_ n1_ n2_ n3_; clear hb hbox hg; obtain ⟨hcz9_0, hcz9_1, hcz9_2, hcz9_3, hcz9_4, hcz9_5, hcz9_6⟩ := ce7 BK109.out; obtain ⟨hfz9_0, hfz9_1, hfz9_2, hfz9_3, hfz9_4, hfz9_5, hfz9_6⟩ := fr7 BK109.out))
      go_ret
      exact ⟨by first | rfl | (simp [errW_none, errW_some] <;> rfl) | (simp [*, errW_none, errW_some] <;> rfl), bl HB⟩
  · rw [if_neg c2] at H
    have c2b0 : decide (1 ≤ a0_0) = false := decide_eq_false c2
    clear c2
    obtain rfl := Option.some.inj H
    go_enter Try.func36, Try.ntmps36
    go_wp2_with (first | ((with_reducible refine gate_dst (N := 1) rfl ?_); refine bE 58 #[.int .i64 a0_0, .int .i64 a0_1, .int .i64 a0_2, .int .i64 a0_3, .string a0_4, .string a0_5, .string a0_6] rfl ?_; intro gb109 hg w10 hbox hb; have n0_ := Aside0.mk (below_step (bl HB) hb); have n1_ := Aside0.mk (hbox); have n2_ := Aside0.mk (gS hg (bl HB)); have n3_ := Aside0.mk (gS hg (bl HB)); clear HB; have HB := n0_; have BK109 := n1_; have GW109 := n2_; have GE109 := n3_; clear n0_ n1_ n2_ n3_; clear hb hbox hg; obtain ⟨hcz11_0, hcz11_1, hcz11_2, hcz11_3, hcz11_4, hcz11_5, hcz11_6⟩ := ce7 BK109.out; obtain ⟨hfz11_0, hfz11_1, hfz11_2, hfz11_3, hfz11_4, hfz11_5, hfz11_6⟩ := fr7 BK109.out))
    go_ret
    exact ⟨by first | rfl | (simp [errW_none, errW_some] <;> rfl) | (simp [*, errW_none, errW_some] <;> rfl), bl HB⟩

end Go.Proofs.Ytnbcpiaajckoaaa.P
