/- Replies: their faults; rows of texts. -/
import Derived.Test.YtaolgdpkcbfocaaDoorFWr2
namespace Go.Proofs.YtaolgdpkcbfocaaDoorA
open Go.Proofs
set_option autoImplicit false
set_option linter.unusedVariables false
set_option linter.unusedSimpArgs false
set_option maxRecDepth 4000
@[go_sem] theorem txtsL_nil : txtsL [] = [] := rfl
@[go_sem] theorem txtsL_cons (v : ByteArray) (l : List ByteArray) : txtsL (v :: l) = txtL v ++ txtsL l := rfl
def smallS : List ByteArray → Prop
  | [] => True
  | v :: l => v.size ≤ 1024 ∧ smallS l
instance smallSD : (l : List ByteArray) → Decidable (smallS l)
  | [] => isTrue trivial
  | v :: l => match inferInstanceAs (Decidable (v.size ≤ 1024)), smallSD l with
    | isTrue h, isTrue k => isTrue ⟨h, k⟩
    | isFalse h, _ => isFalse fun p => h p.1
    | _, isFalse k => isFalse fun p => k p.2
theorem smallS_ok : ∀ {l : List ByteArray}, smallS l → ∀ v, v ∈ l → v.size ≤ 1024
  | v :: l, h, x, hx => (List.mem_cons.1 hx).elim (fun e => e ▸ h.1) (smallS_ok h.2 x)
@[go_sem] theorem smallS_nil : smallS [] = True := rfl
@[go_sem] theorem smallS_cons (v : ByteArray) (l : List ByteArray) : smallS (v :: l) = (v.size ≤ 1024 ∧ smallS l) := rfl
def unS : List Tree → Option ByteArray
  | [.v (.string n)] => some n
  | _ => none
def unStrs : List (List Tree) → Option (List ByteArray)
  | [] => some []
  | x :: l => match unS x, unStrs l with
    | some n, some es => some (n :: es)
    | _, _ => none
theorem unStrs_ok : ∀ {xs : List (List Tree)} {l : List ByteArray}, unStrs xs = some l → xs = l.map sTr
  | [], l, h => by cases h; rfl
  | x :: xs, l, h => by
    unfold unStrs at h
    split at h
    · rename_i n es hn he
      cases h
      rw [unStrs_ok he]
      unfold unS at hn
      split at hn
      · cases hn; rfl
      · cases hn
    · cases h
attribute [go_sem] unS unStrs unBy unBys
def kn52_0_2 (m : Nat) (n : Nat) (bs : List Int) (ts : List ByteArray) : CB := if m = ts.length ∧ n = bs.length ∧ smallS ts ∧ bs.length ≤ 1000000 ∧ ts.length ≤ 16 then some (.tup [], [(1, .cells [.own 4 0 (bs ++ txtsL ts).length]), (3, .arr 9 1 (ts.map sTr)), (4, .arr 5 1 ((bs ++ txtsL ts).map bTr))], 5) else none
def kn52_0_1 (m : Nat) (n : Nat) (r1 : List (List Tree)) (bs : List Int) : CB := (unStrs r1).bind (kn52_0_2 m n bs)
def kn52_0_0 (m : Nat) (n : Nat) (r0 : List (List Tree)) (r1 : List (List Tree)) : CB := (unBys r0).bind (kn52_0_1 m n r1)
def kn52_0 : List TV → List (Nat × AObj) → CB
  | [.c (.ptr 1 0), .c (.own 3 0 m)], [(1, .cells [.own 2 0 n]), (2, .arr 5 1 r0), (3, .arr 9 1 r1)] => kn52_0_0 m n r0 r1
  | _, _ => none
def kn52_call (f : FuncId) (args : List TV) (o : List (Nat × AObj)) : CB := if f = 132 then orO (kn52_0 args o) (kn51.callB f args o) else kn51.callB f args o
def kn52 : Kn := { call := kn51.call, eqs := eqTys, callB := kn52_call }
attribute [go_sem] kn52_0_0 kn52_0_1 kn52_0_2 kn52_0 kn52_call kn52
theorem kn52_ok : ∀ f args o res o1 n1, kn52_call f args o = some (res, o1, n1) → TC Tryd.prog f args o (o.length + 1) res o1 n1 := by
  intro f args o res o1 n1 h
  unfold kn52_call at h
  split at h
  · rename_i e; subst e
    have hh := orO_elim h
    clear h
    rcases hh with h | h
    rotate_left
    · exact k51.callB _ _ _ _ _ _ h
    unfold kn52_0 at h
    split at h
    · rename_i m n r0 r1; unfold kn52_0_0 at h
      have hb0 := Option.bind_eq_some_iff.1 h
      clear h
      obtain ⟨bs, e0, h⟩ := hb0
      unfold kn52_0_1 at h
      have hb1 := Option.bind_eq_some_iff.1 h
      clear h
      obtain ⟨ts, e1, h⟩ := hb1
      unfold kn52_0_2 at h
      split at h
      · rename_i hc; cases h; rw [unBys_ok e0, unStrs_ok e1]; obtain ⟨rfl, rfl, h1, h2, h3⟩ := hc; exact texts_tc bs ts (smallS_ok h1) h2 h3
      · cases h
    · cases h
  · exact k51.callB f args o res o1 n1 h
theorem k52 : KnOk Tryd.prog kn52 := ⟨k51.call, eqTysOk, kn52_ok⟩
/-! ### Replies -/
structure Rp where
  cl : Int
  sq : Int
  kd : Int
  rs : Int
  v : ByteArray
  hint : Int
def Rp.cv (r : Rp) : List CV := [ci r.cl, ci r.sq, ci r.kd, ci r.rs, cs r.v, ci r.hint]
def rpF (r : Rp) : Int :=
  if ¬ (1 ≤ r.cl ∧ r.cl ≤ 8) then 1 else if ¬ (1 ≤ r.sq ∧ r.sq ≤ 1073741824) then 2 else if ¬ (1 ≤ r.kd ∧ r.kd ≤ 2) then 3
  else if (r.kd = 1 ∧ ¬ (1 ≤ r.rs ∧ r.rs ≤ 4)) ∨ (r.kd ≠ 1 ∧ r.rs ≠ 0) then 4
  else if 64 < r.v.size ∨ (r.kd ≠ 1 ∧ 0 < r.v.size) then 5
  else if (r.kd = 1 ∧ r.hint ≠ 0) ∨ ¬ (0 ≤ r.hint ∧ r.hint ≤ 7) then 6 else 0
set_option maxHeartbeats 8000000 in
theorem rpS_tc (r : Rp) : TC Tryd.prog 46 [.agg r.cv] [] 1 (int (rpF r)) [] 1 := by
  refine tc_intro Tryd.func46 rfl 61 rfl (Nat.le_of_ble_eq_true rfl) (by decide) [2] rfl (by intro id x h; cases h) ?_
  intro w0 E0
  have kOk := k51
  obtain ⟨c, q, k, s, v, g⟩ := r
  simp only [Rp.cv]
  repeat' (fail_if_success (with_reducible apply amR_id)); first
    | (refine guardP_mk (fun h => ?_) (fun h => ?_) <;> (refine go ?_; try simp only [decide_eq_true_eq, decide_eq_false_iff_not, Bool.not_true, Bool.not_false, Bool.not_eq_true', Bool.not_eq_false', beq_iff_eq, bne_iff_ne, beq_eq_false_iff_ne, bne_eq_false_iff_eq, ne_eq, Bool.false_eq_true, reduceCtorEq] at h))
    | (refine hK _ ?_; clear hK K Q1)
    | (refine ⟨by first | omega | (simp only [List.length_map, List.length_append, List.length_cons, List.length_nil, List.length_replicate, List.length_drop, List.length_take]; omega), by unfold maxLen; first | omega | (simp only [List.length_map, List.length_append, List.length_cons, List.length_nil, List.length_replicate, List.length_drop, List.length_take]; omega), ?_⟩)
    | (refine hK _ _ rfl ?_; clear hK K; try refine go ?_)
    | (refine am_retP rfl ?_ rfl; first | refine go ?_ | rfl)
    | (refine am_retC [] rfl ?_ rfl rfl; first | refine go ?_ | rfl)
    | (refine wkp ?_)
    | (refine am_rs tabOk kOk rfl fun K Q1 hK => ?_; refine go ?_)
    | (refine am_reg tabOk kOk rfl fun K Q1 hK => ?_; refine go ?_)
    | (refine am_ds mixed tabOk kOk rfl rfl fun K hK => ?_; refine go ?_)
    | (refine am_dreg mixed tabOk kOk rfl rfl fun K hK => ?_; refine go ?_)
  all_goals simp only [inB, decide_eq_true_eq, decide_eq_false_iff_not] at *
  all_goals first | (exfalso; omega) | simp (disch := omega) only [rpF, if_pos, if_neg]
def unRp : List CV → Option Rp
  | [.t (.v (.int .i64 a)), .t (.v (.int .i64 q)), .t (.v (.int .i64 o)), .t (.v (.int .i64 s)), .t (.v (.string v)), .t (.v (.int .i64 g))] => some ⟨a, q, o, s, v, g⟩
  | _ => none
theorem unRp_ok {xs : List CV} {c : Rp} (h : unRp xs = some c) : xs = c.cv := by
  unfold unRp at h
  split at h
  · cases h; rfl
  · cases h
attribute [go_sem] unRp Rp.cv
set_option maxHeartbeats 8000000 in
theorem rpI_tc (r : Rp) : TC Tryd.prog 129 [.c (.ptr 1 0)] [(1, .cells r.cv)] 2 (int (rpF r)) [(1, .cells r.cv)] 2 := by
  refine tc_intro Tryd.func129 rfl 70 rfl (Nat.le_of_ble_eq_true rfl) (by decide) [2] rfl dom1 ?_
  intro w0 E0
  have kOk := k51
  obtain ⟨c, q, k, s, v, g⟩ := r
  simp only [Rp.cv]
  repeat' (fail_if_success (with_reducible apply amR_id)); first
    | (refine guardP_mk (fun h => ?_) (fun h => ?_) <;> (refine go ?_; try simp only [decide_eq_true_eq, decide_eq_false_iff_not, Bool.not_true, Bool.not_false, Bool.not_eq_true', Bool.not_eq_false', beq_iff_eq, bne_iff_ne, beq_eq_false_iff_ne, bne_eq_false_iff_eq, ne_eq, Bool.false_eq_true, reduceCtorEq] at h))
    | (refine hK _ ?_; clear hK K Q1)
    | (refine ⟨by first | omega | (simp only [List.length_map, List.length_append, List.length_cons, List.length_nil, List.length_replicate, List.length_drop, List.length_take]; omega), by unfold maxLen; first | omega | (simp only [List.length_map, List.length_append, List.length_cons, List.length_nil, List.length_replicate, List.length_drop, List.length_take]; omega), ?_⟩)
    | (refine hK _ _ rfl ?_; clear hK K; try refine go ?_)
    | (refine am_retB [(1, 1)] rfl ?_ ?_ rfl <;> first | refine go ?_ | rfl)
    | (refine ret_norm [(1, 1)] rfl ?_ ?_ <;> first | refine go ?_ | rfl)
    | (refine wkp ?_)
    | (refine am_rs tabOk kOk rfl fun K Q1 hK => ?_; refine go ?_)
    | (refine am_reg tabOk kOk rfl fun K Q1 hK => ?_; refine go ?_)
    | (refine am_ds mixed tabOk kOk rfl rfl fun K hK => ?_; refine go ?_)
    | (refine am_dreg mixed tabOk kOk rfl rfl fun K hK => ?_; refine go ?_)
  all_goals (simp only [fb, inB, rpF, decide_eq_true_eq, decide_eq_false_iff_not, beq_iff_eq, bempty, TV.c.injEq, CV.t.injEq, Tree.v.injEq, Value.int.injEq, true_and, if_true, Bool.false_eq_true, if_false] at *; (repeat' split) <;> omega)
end Go.Proofs.YtaolgdpkcbfocaaDoorA
