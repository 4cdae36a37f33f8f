/- Disks: well-formed, copied, written to. -/
import Derived.Test.YtaolgdpkcbfocaaDoorGErr2
import Derived.Test.YtaolgdpkcbfocaaDoorGRecL
import Derived.WalkSpells
import Derived.Laws.Cover3
namespace Go.Proofs.YtaolgdpkcbfocaaDoorA
open Go.Proofs
set_option autoImplicit false
set_option linter.unusedVariables false
set_option linter.unusedSimpArgs false
set_option maxRecDepth 4000
def kn109_0_1 (l : List Rec) : Option TV := if l.length ≤ 1048576 then some (bool (rsF l)) else none
def kn109_0_0 (r0 : List (List Tree)) : Option TV := (unRecs r0).bind (kn109_0_1)
def kn109_0 : List TV → Option TV
  | [.c (.t (.sl 11 r0))] => kn109_0_0 r0
  | _ => none
def kn109_1_1 (l : List Rec) : Option TV := if l.length ≤ 1048576 then some (bool (rsF l)) else none
def kn109_1_0 (r0 : List (List Tree)) : Option TV := (unRecs r0).bind (kn109_1_1)
def kn109_1 : List TV → Option TV
  | [.c (.t (.sl 11 r0))] => kn109_1_0 r0
  | _ => none
def kn109_call (f : FuncId) (args : List TV) : Option TV := if f = 57 then orO (kn109_0 args) (kn108.call f args) else if f = 54 then orO (kn109_1 args) (kn108.call f args) else kn108.call f args
def kn109 : Kn := { call := kn109_call, eqs := eqTys, callB := kn108.callB }
attribute [go_sem] kn109_0_0 kn109_0_1 kn109_0 kn109_1_0 kn109_1_1 kn109_1 kn109_call kn109
theorem kn109_ok : ∀ f args res, kn109_call f args = some res → TC Tryd.prog f args [] 1 res [] 1 := by
  intro f args res h
  unfold kn109_call at h
  split at h
  · rename_i e; subst e
    have hh := orO_elim h
    clear h
    rcases hh with h | h
    rotate_left
    · exact k108.call _ _ _ h
    unfold kn109_0 at h
    split at h
    · rename_i r0; unfold kn109_0_0 at h
      obtain ⟨l, e0, h⟩ := Option.bind_eq_some_iff.1 h
      unfold kn109_0_1 at h
      split at h
      · rename_i hc; cases h; rw [unRecs_ok e0]; exact rsI_tc l hc
      · cases h
    · cases h
  split at h
  · rename_i e; subst e
    have hh := orO_elim h
    clear h
    rcases hh with h | h
    rotate_left
    · exact k108.call _ _ _ h
    unfold kn109_1 at h
    split at h
    · rename_i r0; unfold kn109_1_0 at h
      obtain ⟨l, e0, h⟩ := Option.bind_eq_some_iff.1 h
      unfold kn109_1_1 at h
      split at h
      · rename_i hc; cases h; rw [unRecs_ok e0]; exact rsS_tc l hc
      · cases h
    · cases h
  · exact k108.call f args res h
theorem k109 : KnOk Tryd.prog kn109 := ⟨kn109_ok, eqTysOk, k108.callB⟩
structure Dk where
  cap : Int
  syn : Int
  data : List Int
deriving instance DecidableEq for Dk
def Dk.cv (d : Dk) : List CV := [ci d.cap, ci d.syn, .t (.sl 1 (d.data.map bTr))]
def unDk : List CV → Option Dk
  | [.t (.v (.int .i64 a)), .t (.v (.int .i64 b)), .t (.sl 1 xs)] => (unBys xs).map (Dk.mk a b)
  | _ => none
theorem unDk_ok {xs : List CV} {c : Dk} (h : unDk xs = some c) : xs = c.cv := by
  unfold unDk at h
  split at h
  · rename_i ys
    cases hy : unBys ys with
    | none => rw [hy] at h; cases h
    | some l => rw [hy] at h; cases h; rw [unBys_ok hy]; rfl
  · cases h
attribute [go_sem] unDk Dk.cv
def dkF (d : Dk) : Bool := decide ((0 ≤ d.cap ∧ d.cap ≤ 1048576) ∧ (d.data.length : Int) ≤ d.cap ∧ 0 ≤ d.syn ∧ d.syn ≤ (d.data.length : Int))
theorem dkI_tc (d : Dk) : TC Tryd.prog 70 [.agg d.cv] [] 1 (bool (dkF d)) [] 1 := by
  refine tc_intro Tryd.func70 rfl 22 rfl (Nat.le_of_ble_eq_true rfl) (by decide) [2] rfl (by intro id x h; cases h) ?_
  intro w0 E0
  have kOk := k109
  obtain ⟨c, s, l⟩ := d
  simp only [Dk.cv]
  repeat' (fail_if_success (with_reducible apply amR_id)); first
    | (refine guardP_mk (fun h => ?_) (fun h => ?_) <;> (refine go ?_; try simp only [decide_eq_true_eq, decide_eq_false_iff_not, Bool.not_true, Bool.not_false, Bool.not_eq_true', Bool.not_eq_false', beq_iff_eq, bne_iff_ne, beq_eq_false_iff_ne, bne_eq_false_iff_eq, ne_eq, Bool.false_eq_true, reduceCtorEq] at h))
    | (refine hK _ ?_; clear hK K Q1)
    | (refine ⟨by first | omega | (simp only [List.length_map, List.length_append, List.length_cons, List.length_nil, List.length_replicate, List.length_drop, List.length_take]; omega), by unfold maxLen; first | omega | (simp only [List.length_map, List.length_append, List.length_cons, List.length_nil, List.length_replicate, List.length_drop, List.length_take]; omega), ?_⟩)
    | (refine hK _ _ rfl ?_; clear hK K; try refine go ?_)
    | (refine am_retP rfl ?_ rfl; first | refine go ?_ | rfl)
    | (refine am_retC [] rfl ?_ rfl rfl; first | refine go ?_ | rfl)
    | (refine wkp ?_)
    | (refine am_rs tabOk kOk rfl fun K Q1 hK => ?_; refine go ?_)
    | (refine am_reg tabOk kOk rfl fun K Q1 hK => ?_; refine go ?_)
    | (refine am_ds mixed tabOk kOk rfl rfl fun K hK => ?_; refine go ?_)
    | (refine am_dreg mixed tabOk kOk rfl rfl fun K hK => ?_; refine go ?_)
  all_goals (simp only [TV.c.injEq, CV.t.injEq, Tree.v.injEq, Value.bool.injEq]; rw [Bool.eq_iff_iff]; simp only [dkF, inB, decide_eq_true_eq, decide_eq_false_iff_not, Bool.and_eq_true, Bool.false_eq_true, false_iff, true_iff] at * <;> first | omega | grind)
theorem dkS_tc (d : Dk) : TC Tryd.prog 67 [.agg d.cv] [] 1 (bool (dkF d)) [] 1 := by
  refine tc_intro Tryd.func67 rfl 22 rfl (Nat.le_of_ble_eq_true rfl) (by decide) [2] rfl (by intro id x h; cases h) ?_
  intro w0 E0
  have kOk := k109
  obtain ⟨c, s, l⟩ := d
  simp only [Dk.cv]
  repeat' (fail_if_success (with_reducible apply amR_id)); first
    | (refine guardP_mk (fun h => ?_) (fun h => ?_) <;> (refine go ?_; try simp only [decide_eq_true_eq, decide_eq_false_iff_not, Bool.not_true, Bool.not_false, Bool.not_eq_true', Bool.not_eq_false', beq_iff_eq, bne_iff_ne, beq_eq_false_iff_ne, bne_eq_false_iff_eq, ne_eq, Bool.false_eq_true, reduceCtorEq] at h))
    | (refine hK _ ?_; clear hK K Q1)
    | (refine ⟨by first | omega | (simp only [List.length_map, List.length_append, List.length_cons, List.length_nil, List.length_replicate, List.length_drop, List.length_take]; omega), by unfold maxLen; first | omega | (simp only [List.length_map, List.length_append, List.length_cons, List.length_nil, List.length_replicate, List.length_drop, List.length_take]; omega), ?_⟩)
    | (refine hK _ _ rfl ?_; clear hK K; try refine go ?_)
    | (refine am_retP rfl ?_ rfl; first | refine go ?_ | rfl)
    | (refine am_retC [] rfl ?_ rfl rfl; first | refine go ?_ | rfl)
    | (refine wkp ?_)
    | (refine am_rs tabOk kOk rfl fun K Q1 hK => ?_; refine go ?_)
    | (refine am_reg tabOk kOk rfl fun K Q1 hK => ?_; refine go ?_)
    | (refine am_ds mixed tabOk kOk rfl rfl fun K hK => ?_; refine go ?_)
    | (refine am_dreg mixed tabOk kOk rfl rfl fun K hK => ?_; refine go ?_)
  all_goals (simp only [TV.c.injEq, CV.t.injEq, Tree.v.injEq, Value.bool.injEq]; rw [Bool.eq_iff_iff]; simp only [dkF, inB, decide_eq_true_eq, decide_eq_false_iff_not, Bool.and_eq_true, Bool.false_eq_true, false_iff, true_iff] at * <;> first | omega | grind)
section
variable {P : Program} {C : Ctx} {Q : Exit → St → Prop} {st : St} {Γ : Nat → Option Row} {K : St → Prop} {o : Oper}
/-- A row that came in, compared with nil: an empty one may be nil. -/
theorem amOp_eqNilR (hΓ : TabOk P Γ) {t yt e : TypeId} {q : Row} {x y : Operand} {sz : Nat} {xs : List (List Tree)} (ho : o.op = .binOp .eql t x y yt) (ht : elemT Γ t = some (e, q)) (hx : st.eval x = .c (.t (.sl sz xs))) (hy : st.eval y = lit (.slice none 0 0))
    (hd : dstOk C.n o = true) (hK : ∀ b, (b = true → xs = []) → K (st.put o.dst (lit (.bool b)))) : amOp P C o Q K st := by
  intro a w ⟨E, hr⟩ next hn
  obtain ⟨hu, _⟩ := elemT_ok hΓ ht
  have hxx := hr.eval x
  rw [hx] at hxx
  have hye : a.eval y = .slice none 0 0 := hr.lit hy
  have key : ∃ b, (b = true → xs = []) ∧ (execOp a.eval o).run P w = .ok (.value (.bool b)) w := by
    have h5 : RO w (fun b o => E.own b o = none) (a.eval x) (.sl sz xs) := rtC hxx
    generalize hvx : a.eval x = vx at h5
    cases h5 with
    | sl ad cap sz xs g off f hcap hmax hsz ha hc ht =>
      cases ad with
      | none =>
        refine ⟨true, fun _ => ?_, ?_⟩
        · by_cases hne : xs = []
          · exact hne
          · cases ha hne
        · unfold execOp
          simp only [ho, hvx, hye]
          simp [eqGuard, binOp, Op.equal, Op.maxDepth, run_equalIn_slice_nil w 9999 t e none xs.length cap hu]
      | some ad =>
        refine ⟨false, (fun h => by cases h), ?_⟩
        unfold execOp
        simp only [ho, hvx, hye]
        simp [eqGuard, binOp, Op.equal, Op.maxDepth, run_equalIn_slice_nil w 9999 t e _ _ _ hu]
  obtain ⟨b, hb, hrun⟩ := key
  unfold Oper.wp
  rw [hrun]
  exact hn _ _ ⟨_, hK b hb, E, hr.put (x := lit (.bool b)) (.v _ rfl) (dstOk_lt hd)⟩
end
set_option maxHeartbeats 8000000 in
theorem cloneBs_tc (l : List Int) (hl : l.length ≤ 1073741824) : TC Tryd.prog 93 [ro 1 (l.map bTr)] [] 1 (.c (.own 1 0 l.length)) [(1, .arr 5 1 (l.map bTr))] 2 := by
  refine tc_intro Tryd.func93 rfl 8 rfl (Nat.le_of_ble_eq_true rfl) (by decide) [2] rfl (by intro id x h; cases h) ?_
  intro w0 E0
  have kOk := k109
  refine wk ?_
  refine am_rs tabOk kOk rfl fun K Q1 hK => ?_
  refine go ?_
  refine amOp_eqNilR tabOk rfl rfl rfl rfl rfl fun b hb => ?_
  refine hK _ ?_
  clear hK K Q1
  cases b with
  | true =>
    have hb2 := hb rfl
    obtain rfl : l = [] := by simpa using hb2
    refine go ?_
    refine wk ?_
    refine am_ownNil 2 5 1 rfl ?_
    refine go ?_
    refine am_retB [(1, 1)] rfl ?_ ?_ rfl <;> first | refine go ?_ | rfl
  | false =>
    refine go ?_
    have hp := (show (l.length ≤ maxLen) = True ∧ (l.length * 1 ≤ 140737488355328) = True from ⟨eq_true (by unfold maxLen; omega), eq_true (by omega)⟩)
    refine wk1 ?_
    refine am_retB [(2, 1)] rfl ?_ ?_ rfl <;> first | refine go ?_ | rfl
def kn110_0_1 (l : List Int) : CB := if l.length ≤ 1073741824 then some (.c (.own 1 0 l.length), [(1, .arr 5 1 (l.map bTr))], 2) else none
def kn110_0_0 (r0 : List (List Tree)) : CB := (unBys r0).bind (kn110_0_1)
def kn110_0 : List TV → List (Nat × AObj) → CB
  | [.c (.t (.sl 1 r0))], [] => kn110_0_0 r0
  | _, _ => none
def kn110_call (f : FuncId) (args : List TV) (o : List (Nat × AObj)) : CB := if f = 93 then orO (kn110_0 args o) (kn109.callB f args o) else kn109.callB f args o
def kn110 : Kn := { call := kn109.call, eqs := eqTys, callB := kn110_call }
attribute [go_sem] kn110_0_0 kn110_0_1 kn110_0 kn110_call kn110
theorem kn110_ok : ∀ f args o res o1 n1, kn110_call f args o = some (res, o1, n1) → TC Tryd.prog f args o (o.length + 1) res o1 n1 := by
  intro f args o res o1 n1 h
  unfold kn110_call at h
  split at h
  · rename_i e; subst e
    have hh := orO_elim h
    clear h
    rcases hh with h | h
    rotate_left
    · exact k109.callB _ _ _ _ _ _ h
    unfold kn110_0 at h
    split at h
    · rename_i r0; unfold kn110_0_0 at h
      have hb0 := Option.bind_eq_some_iff.1 h
      clear h
      obtain ⟨l, e0, h⟩ := hb0
      unfold kn110_0_1 at h
      split at h
      · rename_i hc; cases h; rw [unBys_ok e0]; exact cloneBs_tc l hc
      · cases h
    · cases h
  · exact k109.callB f args o res o1 n1 h
theorem k110 : KnOk Tryd.prog kn110 := ⟨k109.call, eqTysOk, kn110_ok⟩
theorem copI_tc (d : Dk) (hl : d.data.length ≤ 1073741824) : TC Tryd.prog 71 [.agg d.cv] [] 1 (.agg [ci d.cap, ci d.syn, .own 1 0 d.data.length]) [(1, .arr 5 1 (d.data.map bTr))] 2 := by
  refine tc_cell tabOk Tryd.func71 rfl 8 rfl (Nat.le_of_ble_eq_true rfl) (by decide) [(2, some 62)] rfl (by intro id x h; cases h) ?_
  intro w0 E0
  have kOk := k110
  obtain ⟨c, s, l⟩ := d
  simp only at hl
  simp only [Dk.cv]
  have hp := eq_true hl
  refine wk1 ?_
  refine am_retC [(3, 1)] rfl ?_ rfl rfl
  first | refine go ?_ | rfl
set_option maxHeartbeats 8000000 in
theorem copyS_tc (l : List Int) (hl : l.length ≤ 1073741824) : TC Tryd.prog 91 [ro 1 (l.map bTr)] [] 1 (.c (.own 1 0 l.length)) [(1, .arr 5 1 (l.map bTr))] 2 := by
  refine tc_intro Tryd.func91 rfl 20 rfl (Nat.le_of_ble_eq_true rfl) (by decide) [2] rfl (by intro id x h; cases h) ?_
  intro w0 E0
  have kOk := k110
  refine wk ?_
  refine am_tidy [(1, 1)] [0, 3, 4] 2 rfl ?_
  refine go ?_
  refine am_loop (l.length + 1) ?_
  suffices key : ∀ (d k : Nat) (X : List Int), k + d = l.length → X ++ l.drop k = l → X.length = k → amR Tryd.prog _ _ _ (d + 1) ⟨[(0, ro 1 (l.map bTr)), (3, .c (.own 1 0 X.length)), (4, int (k : Nat))], [(1, .arr 5 1 (X.map bTr))], 2⟩ from key l.length 0 [] (by simp) (by simp) (by simp)
  intro d
  induction d with
  | zero =>
    intro k X hk hX hXl
    rw [List.drop_eq_nil_of_le (by omega), List.append_nil] at hX
    subst hX
    have hp := (show ((k : Int) < (X.length : Int)) = False from eq_false (by omega))
    refine amR_succ ?_
    refine wk1 ?_
    refine am_retB [(1, 1)] rfl ?_ ?_ rfl <;> first | refine go ?_ | rfl
  | succ d ih =>
    intro k X hk hX hXl
    obtain ⟨e, he⟩ : ∃ e, l[k]? = some e := ⟨l[k]'(by omega), List.getElem?_eq_getElem (by omega)⟩
    have hX2 : (X ++ [e]) ++ l.drop (k + 1) = l := by
      have hi := (List.getElem?_eq_some_iff.1 he).1
      have e2 : l[k] = e := by rw [List.getElem?_eq_getElem hi] at he; exact Option.some.inj he
      rw [List.drop_eq_getElem_cons hi, e2] at hX
      rw [List.append_assoc]
      exact hX
    have ihk := ih (k + 1) (X ++ [e]) (by omega) hX2 (by simp [hXl])
    have hp := (show ((k : Int) < (l.length : Int)) = True ∧ (k < l.length) = True ∧ (l.map bTr)[k]? = some [.v (.int .u8 e)] ∧ IntKind.i64.wrap ((k : Int) + 1) = ((k + 1 : Nat) : Int) ∧ (X.length + 1 ≤ maxLen) = True ∧ ((X.length + 1) * 1 ≤ 140737488355328) = True from
      ⟨eq_true (by omega), eq_true (by omega), by rw [List.getElem?_map, he]; rfl, by rw [wrapN (by omega) (by omega)]; rfl, eq_true (by unfold maxLen; omega), eq_true (by omega)⟩)
    clear ih
    refine amR_succ ?_
    refine wk1 ?_
    refine amR_tidy [(3, 1)] [0, 3, 4] 2 rfl ?_
    refine go1 ?_
    refine amR_st ?_ ihk
    simp [bTr]
def kn111_0_1 (l : List Int) : CB := if l.length ≤ 1073741824 then some (.c (.own 1 0 l.length), [(1, .arr 5 1 (l.map bTr))], 2) else none
def kn111_0_0 (r0 : List (List Tree)) : CB := (unBys r0).bind (kn111_0_1)
def kn111_0 : List TV → List (Nat × AObj) → CB
  | [.c (.t (.sl 1 r0))], [] => kn111_0_0 r0
  | _, _ => none
def kn111_1_1 (d : Dk) : CB := if d.data.length ≤ 1073741824 then some (.agg [ci d.cap, ci d.syn, .own 1 0 d.data.length], [(1, .arr 5 1 (d.data.map bTr))], 2) else none
def kn111_1_0 (q0 : List CV) : CB := (unDk q0).bind (kn111_1_1)
def kn111_1 : List TV → List (Nat × AObj) → CB
  | [.agg q0], [] => kn111_1_0 q0
  | _, _ => none
def kn111_2_0 (a : Nat) (b : Nat) : CB := if 0 = a ∧ a = b then some (bool true, [], 1) else none
def kn111_2 : List TV → List (Nat × AObj) → CB
  | [.c (.gv a 0), .c (.gv b 0)], [] => kn111_2_0 a b
  | _, _ => none
def kn111_call (f : FuncId) (args : List TV) (o : List (Nat × AObj)) : CB := if f = 91 then orO (kn111_0 args o) (kn110.callB f args o) else if f = 71 then orO (kn111_1 args o) (kn110.callB f args o) else if f = 73 then orO (kn111_2 args o) (kn110.callB f args o) else kn110.callB f args o
def kn111 : Kn := { call := kn110.call, eqs := eqTys, callB := kn111_call }
attribute [go_sem] kn111_0_0 kn111_0_1 kn111_0 kn111_1_0 kn111_1_1 kn111_1 kn111_2_0 kn111_2 kn111_call kn111
theorem kn111_ok : ∀ f args o res o1 n1, kn111_call f args o = some (res, o1, n1) → TC Tryd.prog f args o (o.length + 1) res o1 n1 := by
  intro f args o res o1 n1 h
  unfold kn111_call at h
  split at h
  · rename_i e; subst e
    have hh := orO_elim h
    clear h
    rcases hh with h | h
    rotate_left
    · exact k110.callB _ _ _ _ _ _ h
    unfold kn111_0 at h
    split at h
    · rename_i r0; unfold kn111_0_0 at h
      have hb0 := Option.bind_eq_some_iff.1 h
      clear h
      obtain ⟨l, e0, h⟩ := hb0
      unfold kn111_0_1 at h
      split at h
      · rename_i hc; cases h; rw [unBys_ok e0]; exact copyS_tc l hc
      · cases h
    · cases h
  split at h
  · rename_i e; subst e
    have hh := orO_elim h
    clear h
    rcases hh with h | h
    rotate_left
    · exact k110.callB _ _ _ _ _ _ h
    unfold kn111_1 at h
    split at h
    · rename_i q0; unfold kn111_1_0 at h
      have hb0 := Option.bind_eq_some_iff.1 h
      clear h
      obtain ⟨d, e0, h⟩ := hb0
      unfold kn111_1_1 at h
      split at h
      · rename_i hc; cases h; rw [unDk_ok e0]; exact copI_tc d hc
      · cases h
    · cases h
  split at h
  · rename_i e; subst e
    have hh := orO_elim h
    clear h
    rcases hh with h | h
    rotate_left
    · exact k110.callB _ _ _ _ _ _ h
    unfold kn111_2 at h
    split at h
    · rename_i a b; unfold kn111_2_0 at h
      split at h
      · rename_i hc; cases h; obtain ⟨rfl, rfl⟩ := hc; exact isT_tc
      · cases h
    · cases h
  · exact k110.callB f args o res o1 n1 h
theorem k111 : KnOk Tryd.prog kn111 := ⟨k110.call, eqTysOk, kn111_ok⟩
def kn112_0_0 (b : Nat) : CB := if 0 = b then some (bool false, [], 1) else none
def kn112_0 : List TV → List (Nat × AObj) → CB
  | [.c (.t (.v .nilIface)), .c (.gv b 0)], [] => kn112_0_0 b
  | _, _ => none
def kn112_call (f : FuncId) (args : List TV) (o : List (Nat × AObj)) : CB := if f = 73 then orO (kn112_0 args o) (kn111.callB f args o) else kn111.callB f args o
def kn112 : Kn := { call := kn111.call, eqs := eqTys, callB := kn112_call }
attribute [go_sem] kn112_0_0 kn112_0 kn112_call kn112
theorem kn112_ok : ∀ f args o res o1 n1, kn112_call f args o = some (res, o1, n1) → TC Tryd.prog f args o (o.length + 1) res o1 n1 := by
  intro f args o res o1 n1 h
  unfold kn112_call at h
  split at h
  · rename_i e; subst e
    have hh := orO_elim h
    clear h
    rcases hh with h | h
    rotate_left
    · exact k111.callB _ _ _ _ _ _ h
    unfold kn112_0 at h
    split at h
    · rename_i b; unfold kn112_0_0 at h
      split at h
      · rename_i hc; cases h; obtain rfl := hc; exact isF_tc
      · cases h
    · cases h
  · exact k111.callB f args o res o1 n1 h
theorem k112 : KnOk Tryd.prog kn112 := ⟨k111.call, eqTysOk, kn112_ok⟩
theorem copS_tc (d : Dk) (hl : d.data.length ≤ 1073741824) : TC Tryd.prog 68 [.agg d.cv] [] 1 (.agg [ci d.cap, ci d.syn, .own 1 0 d.data.length]) [(1, .arr 5 1 (d.data.map bTr))] 2 := by
  refine tc_cell tabOk Tryd.func68 rfl 11 rfl (Nat.le_of_ble_eq_true rfl) (by decide) [(2, some 62)] rfl (by intro id x h; cases h) ?_
  intro w0 E0
  have kOk := k112
  obtain ⟨c, s, l⟩ := d
  simp only at hl
  simp only [Dk.cv]
  have hp := eq_true hl
  refine wk1 ?_
  refine am_retC [(3, 1)] rfl ?_ rfl rfl
  first | refine go ?_ | rfl
end Go.Proofs.YtaolgdpkcbfocaaDoorA
