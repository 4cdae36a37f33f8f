/- What is kept of a node: terms, votes, logs; rows cloned. -/
import Derived.Test.YtaolgdpkcbfocaaFMark2
import Derived.WalkSpells
import Derived.Laws.Cover3
namespace Go.Proofs.YtaolgdpkcbfocaaA
open Go.Proofs
set_option autoImplicit false
set_option linter.unusedVariables false
set_option linter.unusedSimpArgs false
set_option maxRecDepth 4000
section
variable {P : Program} {C : Ctx} {Q : Exit → St → Prop} {st : St} {Γ : Nat → Option Row} {K : St → Prop} {o : Oper}
/-- A row of the call's own, compared with nil: an empty one may be nil. -/
theorem amOp_eqNil (hΓ : TabOk P Γ) {t yt e : TypeId} {q : Row} {x y : Operand} {id lo len : Nat} (ho : o.op = .binOp .eql t x y yt) (ht : elemT Γ t = some (e, q)) (hx : st.eval x = .c (.own id lo len)) (hy : st.eval y = lit (.slice none 0 0))
    (hd : dstOk C.n o = true) (hK : ∀ b, (b = true → len = 0) → K (st.put o.dst (lit (.bool b)))) : amOp P C o Q K st := by
  intro a w ⟨E, hr⟩ next hn
  obtain ⟨hu, _⟩ := elemT_ok hΓ ht
  have hxx := hr.eval x
  rw [hx] at hxx
  have hye : a.eval y = .slice none 0 0 := hr.lit hy
  have key : ∃ b, (b = true → len = 0) ∧ (execOp a.eval o).run P w = .ok (.value (.bool b)) w := by
    rcases rtC hxx with ⟨h5, h6, h7, h8⟩ | ⟨g, sz', cap, o', h5, h6, h7, h8⟩
    · refine ⟨true, fun _ => h8, ?_⟩
      unfold execOp
      simp only [ho, h6, hye]
      simp [eqGuard, binOp, Op.equal, Op.maxDepth, run_equalIn_slice_nil w 9999 t e none 0 0 hu]
    · refine ⟨false, (fun h => by cases h), ?_⟩
      unfold execOp
      simp only [ho, h6, hye]
      simp [eqGuard, binOp, Op.equal, Op.maxDepth, run_equalIn_slice_nil w 9999 t e _ _ _ hu]
  obtain ⟨b, hb, hrun⟩ := key
  unfold Oper.wp
  rw [hrun]
  exact hn _ _ ⟨_, hK b hb, E, hr.put (x := lit (.bool b)) (.v _ rfl) (dstOk_lt hd)⟩
end
set_option maxHeartbeats 8000000 in
theorem cloneEs_tc (l : List Ent) (hl : l.length ≤ 1048576) : TC Try.prog 55 [.c (.own 1 0 l.length)] [(1, .arr 87 7 (l.map Ent.tr))] 2 (.c (.own 2 0 l.length)) [(1, .arr 87 7 (l.map Ent.tr)), (2, .arr 87 7 (l.map Ent.tr))] 3 := by
  refine tc_intro Try.func55 rfl 8 rfl (Nat.le_of_ble_eq_true rfl) (by decide) [2] rfl dom1 ?_
  intro w0 E0
  have kOk := k13
  refine wk ?_
  refine am_rs tabOk kOk rfl fun K Q1 hK => ?_
  refine go ?_
  refine amOp_eqNil tabOk rfl rfl rfl rfl rfl fun b hb => ?_
  refine hK _ ?_
  clear hK K Q1
  cases b with
  | true =>
    have := hb rfl
    obtain rfl : l = [] := List.eq_nil_of_length_eq_zero this
    refine go ?_
    refine wk ?_
    refine am_ownNil 2 87 7 rfl ?_
    refine go ?_
    refine am_retB [(1, 1), (2, 2)] rfl ?_ ?_ rfl <;> first | refine go ?_ | rfl
  | false =>
    refine go ?_
    refine wk ?_
    refine am_rs tabOk kOk rfl fun K Q1 hK => ?_
    refine go ?_
    have hll : (l.map Ent.tr).length = l.length := by simp
    refine ⟨by simp; omega, by unfold maxLen; simp; omega, ?_⟩
    refine hK _ ?_
    clear hK K Q1
    refine am_retB [(1, 1), (3, 2)] rfl ?_ ?_ rfl <;> first | refine go ?_ | rfl
    · simp
end Go.Proofs.YtaolgdpkcbfocaaA
