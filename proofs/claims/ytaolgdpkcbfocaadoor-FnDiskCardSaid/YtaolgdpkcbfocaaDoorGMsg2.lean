/- Messages as frames: the pieces. -/
import Derived.Test.YtaolgdpkcbfocaaDoorGMsg
namespace Go.Proofs.YtaolgdpkcbfocaaDoorA
open Go.Proofs
set_option autoImplicit false
set_option linter.unusedVariables false
set_option linter.unusedSimpArgs false
set_option maxRecDepth 4000
/-- An entry's bytes. -/
def entL (e : Ent) : List Int := numL e.term ++ cmdB e.m
def entsL : List Ent → List Int
  | [] => []
  | e :: l => entL e ++ entsL l
theorem entsL_drop {l : List Ent} {i : Nat} {v : Ent} (h : l[i]? = some v) : entsL (l.drop i) = entL v ++ entsL (l.drop (i + 1)) := by
  have hi := (List.getElem?_eq_some_iff.1 h).1
  have e : l[i] = v := by rw [List.getElem?_eq_getElem hi] at h; exact Option.some.inj h
  rw [List.drop_eq_getElem_cons hi, entsL, e]
theorem entOk_iff {e : Ent} : entOk e = true ↔ (1 ≤ e.term ∧ e.term ≤ 1073741824) ∧ cmF e.m = 0 := by simp [entOk]
theorem entL_len {e : Ent} (h : entOk e = true) : (entL e).length ≤ 262 := by
  have a1 := numL_len e.term
  have a2 := cmdB_len (entOk_iff.1 h).2
  unfold entL
  rw [List.length_append]
  omega
theorem entL_ok (e : Ent) : okB (entL e) := okB_app (numL_ok _) (cmdB_ok _)
theorem entsL_ok : ∀ l : List Ent, okB (entsL l)
  | [] => fun n h => by cases h
  | e :: l => okB_app (entL_ok e) (entsL_ok l)
theorem entsL_len : ∀ {l : List Ent}, (∀ e, e ∈ l → entOk e = true) → (entsL l).length ≤ 262 * l.length
  | [], _ => by simp [entsL]
  | e :: l, h => by
    have h1 := entL_len (h e List.mem_cons_self)
    have h2 := entsL_len (l := l) fun x hx => h x (List.mem_cons_of_mem _ hx)
    rw [entsL, List.length_append, List.length_cons]
    omega
theorem risF_all : ∀ {l : List Ent} {lo hi : Int}, risF l lo hi = true → ∀ e, e ∈ l → entOk e = true
  | e :: l, lo, hi, h, x, hx => by
    simp only [risF, Bool.and_eq_true] at h
    rcases List.mem_cons.1 hx with rfl | hx
    · exact h.1.1
    · exact risF_all h.2 x hx
theorem ms_small {m : Ms} (h : msF m = 0) : (1 ≤ m.kd ∧ m.kd ≤ 6) ∧ m.fr ≤ 7 ∧ m.to ≤ 7 ∧ m.te ≤ 1073741824 ∧ m.li ≤ 4096 ∧ m.lt ≤ 1073741824 ∧ m.co ≤ 4096 ∧ m.ok ≤ 1 ∧ m.hi ≤ 4096 ∧ m.es.length ≤ 32 ∧ ∀ e, e ∈ m.es → entOk e = true := by
  obtain ⟨kd, fr, to, te, li, lt, co, ok, hi, es⟩ := m
  simp only [msF, fb] at h
  split at h; rotate_left; · cases h
  split at h; rotate_left; · cases h
  split at h; rotate_left; · cases h
  split at h; rotate_left; · cases h
  split at h; rotate_left; · cases h
  split at h; rotate_left; · cases h
  rename_i h1 h2 h3 h4 h5 h6
  simp only [inB, srvB, posB, mrkB, entB, decide_eq_true_eq] at h1 h2 h3 h4 h5 h6
  dsimp only
  refine ⟨by omega, by omega, by omega, by omega, by omega, by omega, by omega, by omega, by omega, by omega, fun e he => ?_⟩
  rcases h6 with h6 | h6
  · exact risF_all h6.2.2.2 e he
  · have : es = [] := List.eq_nil_of_length_eq_zero (by omega)
    subst this
    cases he
set_option maxHeartbeats 16000000 in
theorem entW_tc (e : Ent) (bs : List Int) (h : entOk e = true) (hb : bs.length ≤ 90000) : TC Tryd.prog 137 [.c (.ptr 1 0), .agg e.cv] [(1, .cells [.own 2 0 bs.length]), (2, .arr 5 1 (bs.map bTr))] 3
    (.tup []) [(1, .cells [.own 3 0 (bs ++ entL e).length]), (3, .arr 5 1 ((bs ++ entL e).map bTr))] 4 := by
  obtain ⟨h1, h2⟩ := entOk_iff.1 h
  obtain ⟨t, c⟩ := e
  simp only at h1 h2
  have a1 := numL_len t
  have e : bs ++ entL ⟨t, c⟩ = calW (bs ++ numL t) c := by simp [entL, calW]
  rw [e]
  obtain ⟨cl, sq, op, x, y, z⟩ := c
  simp only [Ent.cv, Cm.cv]
  refine tc_intro Tryd.func137 rfl 13 rfl (Nat.le_of_ble_eq_true rfl) (by decide) [] rfl dom2 ?_
  intro w0 E0
  have kOk := k76
  have hp := (show (t ≤ 9223372036854775807) = True ∧ (bs.length ≤ 1048576) = True ∧ (cmF ⟨cl, sq, op, x, y, z⟩ = 0) = True ∧ ((bs ++ numL t).length ≤ 100000) = True from
    ⟨eq_true (by omega), eq_true (by omega), eq_true h2, eq_true (by simp only [List.length_append]; omega)⟩)
  refine wk1 ?_
  refine ret_norm [(1, 1), (2, 2), (6, 3)] rfl ?_ ?_
  · rfl
  · rfl
theorem entS2_tc (e : Ent) (h : entOk e = true) : TC Tryd.prog 62 [.agg e.cv] [] 1 (.c (.own 1 0 (entL e).length)) [(1, .arr 5 1 ((entL e).map bTr))] 2 := by
  have hL := entL_len h
  obtain ⟨h1, h2⟩ := entOk_iff.1 h
  obtain ⟨t, c⟩ := e
  simp only at h1 h2
  have e : entL ⟨t, c⟩ = numL t ++ cmdB c := rfl
  rw [e] at hL ⊢
  obtain ⟨cl, sq, op, x, y, z⟩ := c
  simp only [Ent.cv, Cm.cv]
  refine tc_intro Tryd.func62 rfl 12 rfl (Nat.le_of_ble_eq_true rfl) (by decide) [2] rfl (by intro id x h; cases h) ?_
  intro w0 E0
  have kOk := k76
  have hp := (show (t ≤ 9223372036854775807) = True ∧ (cmF ⟨cl, sq, op, x, y, z⟩ = 0) = True ∧ ((numL t ++ cmdB ⟨cl, sq, op, x, y, z⟩).length ≤ maxLen) = True ∧ ((numL t ++ cmdB ⟨cl, sq, op, x, y, z⟩).length * 1 ≤ 140737488355328) = True from
    ⟨eq_true (by omega), eq_true h2, eq_true (by unfold maxLen; omega), eq_true (by omega)⟩)
  refine wk1 ?_
  refine am_retB [(4, 1)] rfl ?_ ?_ rfl <;> first | refine go ?_ | rfl
set_option maxHeartbeats 8000000 in
theorem msgFI_tc (m : Ms) (hl : m.es.length ≤ 1048576) : TC Tryd.prog 140 [.agg m.cv] [] 1 (int (msF m)) [] 1 := msgI_tc m hl
def kn77_0_1 (m : Ms) : Option TV := if m.es.length ≤ 1048576 then some (int (msF m)) else none
def kn77_0_0 (r0 : List CV) : Option TV := (unMs r0).bind (kn77_0_1)
def kn77_0 : List TV → Option TV
  | [.agg r0] => kn77_0_0 r0
  | _ => none
def kn77_1_1 (m : Ms) : Option TV := if m.es.length ≤ 1048576 then some (int (msF m)) else none
def kn77_1_0 (r0 : List CV) : Option TV := (unMs r0).bind (kn77_1_1)
def kn77_1 : List TV → Option TV
  | [.agg r0] => kn77_1_0 r0
  | _ => none
def kn77_call (f : FuncId) (args : List TV) : Option TV := if f = 140 then orO (kn77_0 args) (kn76.call f args) else if f = 61 then orO (kn77_1 args) (kn76.call f args) else kn76.call f args
def kn77 : Kn := { call := kn77_call, eqs := eqTys, callB := kn76.callB }
attribute [go_sem] kn77_0_0 kn77_0_1 kn77_0 kn77_1_0 kn77_1_1 kn77_1 kn77_call kn77
theorem kn77_ok : ∀ f args res, kn77_call f args = some res → TC Tryd.prog f args [] 1 res [] 1 := by
  intro f args res h
  unfold kn77_call at h
  split at h
  · rename_i e; subst e
    have hh := orO_elim h
    clear h
    rcases hh with h | h
    rotate_left
    · exact k76.call _ _ _ h
    unfold kn77_0 at h
    split at h
    · rename_i r0; unfold kn77_0_0 at h
      obtain ⟨m, e0, h⟩ := Option.bind_eq_some_iff.1 h
      unfold kn77_0_1 at h
      split at h
      · rename_i hc; cases h; rw [unMs_ok e0]; exact msgI_tc m hc
      · cases h
    · cases h
  split at h
  · rename_i e; subst e
    have hh := orO_elim h
    clear h
    rcases hh with h | h
    rotate_left
    · exact k76.call _ _ _ h
    unfold kn77_1 at h
    split at h
    · rename_i r0; unfold kn77_1_0 at h
      obtain ⟨m, e0, h⟩ := Option.bind_eq_some_iff.1 h
      unfold kn77_1_1 at h
      split at h
      · rename_i hc; cases h; rw [unMs_ok e0]; exact msgS_tc m hc
      · cases h
    · cases h
  · exact k76.call f args res h
theorem k77 : KnOk Tryd.prog kn77 := ⟨kn77_ok, eqTysOk, k76.callB⟩
theorem mfI_tc (m : Ms) (hl : m.es.length ≤ 1048576) : TC Tryd.prog 138 [.c (.ptr 1 0)] [(1, .cells m.cv)] 2 (int (msF m)) [(1, .cells m.cv)] 2 := by
  have hl' := hl
  obtain ⟨kd, fr, to, te, li, lt, co, ok, hi, es⟩ := m
  simp only at hl'
  simp only [Ms.cv]
  refine tc_intro Tryd.func138 rfl 8 rfl (Nat.le_of_ble_eq_true rfl) (by decide) [2] rfl dom1 ?_
  intro w0 E0
  have kOk := k77
  have hp := eq_true hl'
  refine wk1 ?_
  refine am_retB [(1, 1)] rfl ?_ ?_ rfl <;> first | refine go ?_ | rfl
theorem firstM_tc (m : Ms) : TC Tryd.prog 82 [.c (.ifp 110 1 0)] [(1, .cells m.cv)] 2 (lit (.int .u8 (IntKind.u8.wrap m.kd))) [(1, .cells m.cv)] 2 := by
  obtain ⟨kd, fr, to, te, li, lt, co, ok, hi, es⟩ := m
  simp only [Ms.cv]
  refine tc_intro Tryd.func82 rfl 32 rfl (Nat.le_of_ble_eq_true rfl) (by decide) [2] rfl dom1 ?_
  intro w0 E0
  have kOk := k77
  refine wk ?_
  refine am_retB [(1, 1)] rfl ?_ ?_ rfl <;> first | refine go ?_ | rfl
def msgN (m : Ms) : List Int := [m.fr, m.to, m.te, m.li, m.lt, m.co, m.ok, m.hi, (m.es.length : Nat)]
def msgL (m : Ms) : List Int := numsL (msgN m) ++ entsL m.es
def msgW (bs : List Int) (m : Ms) : List Int := bs ++ msgL m
theorem numsL_ok : ∀ l : List Int, okB (numsL l)
  | [] => fun n h => by cases h
  | v :: l => okB_app (numL_ok v) (numsL_ok l)
theorem msgL_len {m : Ms} (h : msF m = 0) : (msgL m).length ≤ 8474 := by
  obtain ⟨h1, h2, h3, h4, h5, h6, h7, h8, h9, h10, h11⟩ := ms_small h
  have a1 := numsL_len (msgN m)
  have a2 := entsL_len h11
  have a3 : (msgN m).length = 9 := rfl
  unfold msgL
  rw [List.length_append]
  omega
theorem msgL_ok (m : Ms) : okB (msgL m) := okB_app (numsL_ok _) (entsL_ok _)
def kn78_0_2 (n : Nat) (c : Ent) (bs : List Int) : CB := if n = bs.length ∧ entOk c = true ∧ bs.length ≤ 90000 then some (.tup [], [(1, .cells [.own 3 0 (bs ++ entL c).length]), (3, .arr 5 1 ((bs ++ entL c).map bTr))], 4) else none
def kn78_0_1 (n : Nat) (r0 : List (List Tree)) (c : Ent) : CB := (unBys r0).bind (kn78_0_2 n c)
def kn78_0_0 (n : Nat) (q0 : List CV) (r0 : List (List Tree)) : CB := (unEnt q0).bind (kn78_0_1 n r0)
def kn78_0 : List TV → List (Nat × AObj) → CB
  | [.c (.ptr 1 0), .agg q0], [(1, .cells [.own 2 0 n]), (2, .arr 5 1 r0)] => kn78_0_0 n q0 r0
  | _, _ => none
def kn78_1_1 (c : Ent) : CB := if entOk c = true then some (.c (.own 1 0 (entL c).length), [(1, .arr 5 1 ((entL c).map bTr))], 2) else none
def kn78_1_0 (q0 : List CV) : CB := (unEnt q0).bind (kn78_1_1)
def kn78_1 : List TV → List (Nat × AObj) → CB
  | [.agg q0], [] => kn78_1_0 q0
  | _, _ => none
def kn78_call (f : FuncId) (args : List TV) (o : List (Nat × AObj)) : CB := if f = 137 then orO (kn78_0 args o) (kn77.callB f args o) else if f = 62 then orO (kn78_1 args o) (kn77.callB f args o) else kn77.callB f args o
def kn78 : Kn := { call := kn77.call, eqs := eqTys, callB := kn78_call }
attribute [go_sem] kn78_0_0 kn78_0_1 kn78_0_2 kn78_0 kn78_1_0 kn78_1_1 kn78_1 kn78_call kn78
theorem kn78_ok : ∀ f args o res o1 n1, kn78_call f args o = some (res, o1, n1) → TC Tryd.prog f args o (o.length + 1) res o1 n1 := by
  intro f args o res o1 n1 h
  unfold kn78_call at h
  split at h
  · rename_i e; subst e
    have hh := orO_elim h
    clear h
    rcases hh with h | h
    rotate_left
    · exact k77.callB _ _ _ _ _ _ h
    unfold kn78_0 at h
    split at h
    · rename_i q0 n r0; unfold kn78_0_0 at h
      have hb0 := Option.bind_eq_some_iff.1 h
      clear h
      obtain ⟨c, e0, h⟩ := hb0
      unfold kn78_0_1 at h
      have hb1 := Option.bind_eq_some_iff.1 h
      clear h
      obtain ⟨bs, e1, h⟩ := hb1
      unfold kn78_0_2 at h
      split at h
      · rename_i hc; cases h; rw [unEnt_ok e0, unBys_ok e1]; obtain ⟨rfl, h1, h2⟩ := hc; exact entW_tc c bs h1 h2
      · cases h
    · cases h
  split at h
  · rename_i e; subst e
    have hh := orO_elim h
    clear h
    rcases hh with h | h
    rotate_left
    · exact k77.callB _ _ _ _ _ _ h
    unfold kn78_1 at h
    split at h
    · rename_i q0; unfold kn78_1_0 at h
      have hb0 := Option.bind_eq_some_iff.1 h
      clear h
      obtain ⟨c, e0, h⟩ := hb0
      unfold kn78_1_1 at h
      split at h
      · rename_i hc; cases h; rw [unEnt_ok e0]; exact entS2_tc c hc
      · cases h
    · cases h
  · exact k77.callB f args o res o1 n1 h
theorem k78 : KnOk Tryd.prog kn78 := ⟨k77.call, eqTysOk, kn78_ok⟩
set_option maxHeartbeats 16000000 in
theorem msgW_tc (m : Ms) (bs : List Int) (h : msF m = 0) (hb : bs.length ≤ 10000) : TC Tryd.prog 139 [.c (.ptr 1 0), .c (.ptr 2 0)] [(1, .cells m.cv), (2, .cells [.own 3 0 bs.length]), (3, .arr 5 1 (bs.map bTr))] 4
    (.tup []) [(1, .cells m.cv), (2, .cells [.own 4 0 (msgW bs m).length]), (4, .arr 5 1 ((msgW bs m).map bTr))] 5 := by
  obtain ⟨h1, h2, h3, h4, h5, h6, h7, h8, h9, h10, h11⟩ := ms_small h
  clear h
  obtain ⟨kd, fr, to, te, li, lt, co, ok, hi, es⟩ := m
  simp only at h1 h2 h3 h4 h5 h6 h7 h8 h9 h10 h11
  have a1 := numsL_len (msgN ⟨kd, fr, to, te, li, lt, co, ok, hi, es⟩)
  have a3 : (msgN ⟨kd, fr, to, te, li, lt, co, ok, hi, es⟩).length = 9 := rfl
  simp only [Ms.cv]
  refine tc_intro Tryd.func139 rfl 69 rfl (Nat.le_of_ble_eq_true rfl) (by decide) [] rfl dom3 ?_
  intro w0 E0
  have kOk := k78
  have hp := (show (fr ≤ 9223372036854775807) = True ∧ (to ≤ 9223372036854775807) = True ∧ (te ≤ 9223372036854775807) = True ∧ (li ≤ 9223372036854775807) = True ∧ (lt ≤ 9223372036854775807) = True ∧ (co ≤ 9223372036854775807) = True ∧ (ok ≤ 9223372036854775807) = True ∧ (hi ≤ 9223372036854775807) = True ∧ ((es.length : Int) ≤ 9223372036854775807) = True ∧ (bs.length ≤ 1048576) = True from
    ⟨eq_true (by omega), eq_true (by omega), eq_true (by omega), eq_true (by omega), eq_true (by omega), eq_true (by omega), eq_true (by omega), eq_true (by omega), eq_true (by omega), eq_true (by omega)⟩)
  refine wk1 ?_
  refine am_tidy [(1, 1), (2, 2), (3, 3), (5, 4)] [1, 59, 60, 61] 5 rfl ?_
  refine go1 ?_
  clear hp
  have hE : msgW bs ⟨kd, fr, to, te, li, lt, co, ok, hi, es⟩ = (bs ++ (numL fr ++ (numL to ++ (numL te ++ (numL li ++ (numL lt ++ (numL co ++ (numL ok ++ (numL hi ++ numL es.length))))))))) ++ entsL es := by simp [msgW, msgL, msgN, numsL]
  rw [hE]
  have hB : (bs ++ (numL fr ++ (numL to ++ (numL te ++ (numL li ++ (numL lt ++ (numL co ++ (numL ok ++ (numL hi ++ numL es.length))))))))).length ≤ 10090 := by
    have b1 := numL_len fr
    have b2 := numL_len to
    have b3 := numL_len te
    have b4 := numL_len li
    have b5 := numL_len lt
    have b6 := numL_len co
    have b7 := numL_len ok
    have b8 := numL_len hi
    have b9 := numL_len es.length
    simp only [List.length_append]
    omega
  clear hE a1 a3
  generalize (bs ++ (numL fr ++ (numL to ++ (numL te ++ (numL li ++ (numL lt ++ (numL co ++ (numL ok ++ (numL hi ++ numL es.length))))))))) = B at hB ⊢
  refine am_loop (es.length + 1) ?_
  suffices key : ∀ (d i : Nat) (X : List Int), i + d = es.length → X ++ entsL (es.drop i) = B ++ entsL es → X.length ≤ B.length + 262 * i → amR Tryd.prog _ _ _ (d + 1) ⟨[(1, .c (.ptr 2 0)), (59, ro 7 (es.map Ent.tr)), (60, int (es.length : Nat)), (61, int (i : Nat))], [(1, .cells [ci kd, ci fr, ci to, ci te, ci li, ci lt, ci co, ci ok, ci hi, .t (.sl 7 (es.map Ent.tr))]), (2, .cells [.own 4 0 X.length]), (4, .arr 5 1 (X.map bTr))], 5⟩ from key es.length 0 B (by simp) (by simp) (by simp)
  intro d
  induction d with
  | zero =>
    intro i X hi hX hl
    rw [List.drop_eq_nil_of_le (by omega), entsL, List.append_nil] at hX
    subst hX
    have hp := (show ((i : Int) < (es.length : Int)) = False from eq_false (by omega))
    refine amR_succ ?_
    refine wk1 ?_
    refine ret_norm [(1, 1), (2, 2), (3, 3), (4, 4)] rfl ?_ ?_
    · rfl
    · rfl
  | succ d ih =>
    intro i X hi hX hl
    obtain ⟨e, he0⟩ : ∃ e, es[i]? = some e := ⟨es[i]'(by omega), List.getElem?_eq_getElem (by omega)⟩
    rw [entsL_drop he0, ← List.append_assoc] at hX
    have hok := h11 e (List.mem_of_getElem? he0)
    have ihk := ih (i + 1) (X ++ entL e) (by omega) hX (by rw [List.length_append]; have := entL_len hok; omega)
    have hp := (show ((i : Int) < (es.length : Int)) = True ∧ (i < es.length) = True ∧ (es.map Ent.tr)[i]? = some e.tr ∧ IntKind.i64.wrap ((i : Int) + 1) = ((i + 1 : Nat) : Int) ∧ entOk e = true ∧ (X.length ≤ 90000) = True from
      ⟨eq_true (by omega), eq_true (by omega), by rw [List.getElem?_map, he0]; rfl, by rw [wrapN (by omega) (by omega)]; rfl, hok, eq_true (by omega)⟩)
    clear ih
    obtain ⟨t, ⟨cl, sq, op, x, y, z⟩⟩ := e
    simp only [Ent.tr] at hp
    refine amR_succ ?_
    refine wk1 ?_
    refine amR_tidy [(1, 1), (2, 2), (3, 3), (6, 4)] [1, 59, 60, 61] 5 rfl ?_
    refine go1 ?_
    exact ihk
end Go.Proofs.YtaolgdpkcbfocaaDoorA
