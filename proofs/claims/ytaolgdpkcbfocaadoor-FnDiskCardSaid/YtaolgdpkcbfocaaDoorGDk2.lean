/- Disks written to: both programs do the same. -/
import Derived.Test.YtaolgdpkcbfocaaDoorGDk
namespace Go.Proofs.YtaolgdpkcbfocaaDoorA
open Go.Proofs
set_option autoImplicit false
set_option linter.unusedVariables false
set_option linter.unusedSimpArgs false
set_option maxRecDepth 4000
/-- Where the frames do not fit. -/
theorem add0_tc (c cap syn : Int) (l f : List Int) (hl : l.length ≤ 1073741824) (hf : f.length ≤ 1073741824) (h : cap < (l.length : Int) + (f.length : Int)) : TC Tryd.prog 72 [.c (.ptr 1 1), .c (.own 3 0 f.length)] [(1, .cells [ci c, ci cap, ci syn, .own 2 0 l.length]), (2, .arr 5 1 (l.map bTr)), (3, .arr 5 1 (f.map bTr))] 4
    (.c (.gv 0 0)) [(1, .cells [ci c, ci cap, ci syn, .own 2 0 l.length]), (2, .arr 5 1 (l.map bTr)), (3, .arr 5 1 (f.map bTr))] 4 := by
  refine tc_intro Tryd.func72 rfl 28 rfl (Nat.le_of_ble_eq_true rfl) (by decide) [4] rfl dom3 ?_
  intro w0 E0
  have kOk := k112
  have hp := (show IntKind.i64.wrap ((l.length : Int) + (f.length : Int)) = (l.length : Int) + (f.length : Int) ∧ ((l.length : Int) + (f.length : Int) > cap) = True from ⟨wrapN (by omega) (by omega), eq_true h⟩)
  refine wk1 ?_
  refine am_rs tabOk kOk rfl fun K Q1 hK => ?_
  refine go1 ?_
  refine amOp_gload tabOk rfl rfl rfl rfl rfl ?_
  refine go1 ?_
  refine hK _ ?_
  clear hK K Q1
  refine wk1 ?_
  refine am_retB [(1, 1), (2, 2), (3, 3)] rfl ?_ ?_ rfl <;> first | refine go ?_ | rfl
/-- Where they fit. -/
theorem add1_tc (c cap syn : Int) (l f : List Int) (hl : l.length ≤ 1073741824) (hf : f.length ≤ 1073741824) (h : ¬ cap < (l.length : Int) + (f.length : Int)) : TC Tryd.prog 72 [.c (.ptr 1 1), .c (.own 3 0 f.length)] [(1, .cells [ci c, ci cap, ci syn, .own 2 0 l.length]), (2, .arr 5 1 (l.map bTr)), (3, .arr 5 1 (f.map bTr))] 4
    (lit .nilIface) [(1, .cells [ci c, ci cap, ci syn, .own 4 0 (l ++ f).length]), (3, .arr 5 1 (f.map bTr)), (4, .arr 5 1 ((l ++ f).map bTr))] 5 := by
  refine tc_intro Tryd.func72 rfl 28 rfl (Nat.le_of_ble_eq_true rfl) (by decide) [4] rfl dom3 ?_
  intro w0 E0
  have kOk := k112
  have hp := (show IntKind.i64.wrap ((l.length : Int) + (f.length : Int)) = (l.length : Int) + (f.length : Int) ∧ ((l.length : Int) + (f.length : Int) > cap) = False ∧ ((l ++ f).length ≤ maxLen) = True ∧ ((l ++ f).length * 1 ≤ 140737488355328) = True from ⟨wrapN (by omega) (by omega), eq_false (by omega), eq_true (by unfold maxLen; rw [List.length_append]; omega), eq_true (by rw [List.length_append]; omega)⟩)
  refine wk1 ?_
  refine am_retB [(1, 1), (2, 2), (3, 3), (4, 4)] rfl ?_ ?_ rfl <;> first | refine go ?_ | rfl
def kn113_0_1 (d : Dk) : CB := if d.data.length ≤ 1073741824 then some (.agg [ci d.cap, ci d.syn, .own 1 0 d.data.length], [(1, .arr 5 1 (d.data.map bTr))], 2) else none
def kn113_0_0 (q0 : List CV) : CB := (unDk q0).bind (kn113_0_1)
def kn113_0 : List TV → List (Nat × AObj) → CB
  | [.agg q0], [] => kn113_0_0 q0
  | _, _ => none
def kn113_1_2 (c : Int) (cap : Int) (syn : Int) (n : Nat) (m : Nat) (l : List Int) (f : List Int) : CB := if n = l.length ∧ m = f.length ∧ l.length ≤ 1073741824 ∧ f.length ≤ 1073741824 ∧ cap < (l.length : Int) + (f.length : Int) then some (.c (.gv 0 0), [(1, .cells [ci c, ci cap, ci syn, .own 2 0 l.length]), (2, .arr 5 1 (l.map bTr)), (3, .arr 5 1 (f.map bTr))], 4) else none
def kn113_1_1 (c : Int) (cap : Int) (syn : Int) (n : Nat) (m : Nat) (r1 : List (List Tree)) (l : List Int) : CB := (unBys r1).bind (kn113_1_2 c cap syn n m l)
def kn113_1_0 (c : Int) (cap : Int) (syn : Int) (n : Nat) (m : Nat) (r0 : List (List Tree)) (r1 : List (List Tree)) : CB := (unBys r0).bind (kn113_1_1 c cap syn n m r1)
def kn113_1 : List TV → List (Nat × AObj) → CB
  | [.c (.ptr 1 1), .c (.own 3 0 m)], [(1, .cells [.t (.v (.int .i64 c)), .t (.v (.int .i64 cap)), .t (.v (.int .i64 syn)), .own 2 0 n]), (2, .arr 5 1 r0), (3, .arr 5 1 r1)] => kn113_1_0 c cap syn n m r0 r1
  | _, _ => none
def kn113_call (f : FuncId) (args : List TV) (o : List (Nat × AObj)) : CB := if f = 68 then orO (kn113_0 args o) (kn112.callB f args o) else if f = 72 then orO (kn113_1 args o) (kn112.callB f args o) else kn112.callB f args o
def kn113 : Kn := { call := kn112.call, eqs := eqTys, callB := kn113_call }
attribute [go_sem] kn113_0_0 kn113_0_1 kn113_0 kn113_1_0 kn113_1_1 kn113_1_2 kn113_1 kn113_call kn113
theorem kn113_ok : ∀ f args o res o1 n1, kn113_call f args o = some (res, o1, n1) → TC Tryd.prog f args o (o.length + 1) res o1 n1 := by
  intro f args o res o1 n1 h
  unfold kn113_call at h
  split at h
  · rename_i e; subst e
    have hh := orO_elim h
    clear h
    rcases hh with h | h
    rotate_left
    · exact k112.callB _ _ _ _ _ _ h
    unfold kn113_0 at h
    split at h
    · rename_i q0; unfold kn113_0_0 at h
      have hb0 := Option.bind_eq_some_iff.1 h
      clear h
      obtain ⟨d, e0, h⟩ := hb0
      unfold kn113_0_1 at h
      split at h
      · rename_i hc; cases h; rw [unDk_ok e0]; exact copS_tc d hc
      · cases h
    · cases h
  split at h
  · rename_i e; subst e
    have hh := orO_elim h
    clear h
    rcases hh with h | h
    rotate_left
    · exact k112.callB _ _ _ _ _ _ h
    unfold kn113_1 at h
    split at h
    · rename_i m c cap syn n r0 r1; unfold kn113_1_0 at h
      have hb0 := Option.bind_eq_some_iff.1 h
      clear h
      obtain ⟨l, e0, h⟩ := hb0
      unfold kn113_1_1 at h
      have hb1 := Option.bind_eq_some_iff.1 h
      clear h
      obtain ⟨f, e1, h⟩ := hb1
      unfold kn113_1_2 at h
      split at h
      · rename_i hc; cases h; rw [unBys_ok e0, unBys_ok e1]; obtain ⟨rfl, rfl, h1, h2, h3⟩ := hc; exact add0_tc c cap syn l f h1 h2 h3
      · cases h
    · cases h
  · exact k112.callB f args o res o1 n1 h
theorem k113 : KnOk Tryd.prog kn113 := ⟨k112.call, eqTysOk, kn113_ok⟩
def kn114_0_2 (c : Int) (cap : Int) (syn : Int) (n : Nat) (m : Nat) (l : List Int) (f : List Int) : CB := if n = l.length ∧ m = f.length ∧ l.length ≤ 1073741824 ∧ f.length ≤ 1073741824 ∧ (l.length : Int) + (f.length : Int) ≤ cap then some (lit .nilIface, [(1, .cells [ci c, ci cap, ci syn, .own 4 0 (l ++ f).length]), (3, .arr 5 1 (f.map bTr)), (4, .arr 5 1 ((l ++ f).map bTr))], 5) else none
def kn114_0_1 (c : Int) (cap : Int) (syn : Int) (n : Nat) (m : Nat) (r1 : List (List Tree)) (l : List Int) : CB := (unBys r1).bind (kn114_0_2 c cap syn n m l)
def kn114_0_0 (c : Int) (cap : Int) (syn : Int) (n : Nat) (m : Nat) (r0 : List (List Tree)) (r1 : List (List Tree)) : CB := (unBys r0).bind (kn114_0_1 c cap syn n m r1)
def kn114_0 : List TV → List (Nat × AObj) → CB
  | [.c (.ptr 1 1), .c (.own 3 0 m)], [(1, .cells [.t (.v (.int .i64 c)), .t (.v (.int .i64 cap)), .t (.v (.int .i64 syn)), .own 2 0 n]), (2, .arr 5 1 r0), (3, .arr 5 1 r1)] => kn114_0_0 c cap syn n m r0 r1
  | _, _ => none
def kn114_call (f : FuncId) (args : List TV) (o : List (Nat × AObj)) : CB := if f = 72 then orO (kn114_0 args o) (kn113.callB f args o) else kn113.callB f args o
def kn114 : Kn := { call := kn113.call, eqs := eqTys, callB := kn114_call }
attribute [go_sem] kn114_0_0 kn114_0_1 kn114_0_2 kn114_0 kn114_call kn114
theorem kn114_ok : ∀ f args o res o1 n1, kn114_call f args o = some (res, o1, n1) → TC Tryd.prog f args o (o.length + 1) res o1 n1 := by
  intro f args o res o1 n1 h
  unfold kn114_call at h
  split at h
  · rename_i e; subst e
    have hh := orO_elim h
    clear h
    rcases hh with h | h
    rotate_left
    · exact k113.callB _ _ _ _ _ _ h
    unfold kn114_0 at h
    split at h
    · rename_i m c cap syn n r0 r1; unfold kn114_0_0 at h
      have hb0 := Option.bind_eq_some_iff.1 h
      clear h
      obtain ⟨l, e0, h⟩ := hb0
      unfold kn114_0_1 at h
      have hb1 := Option.bind_eq_some_iff.1 h
      clear h
      obtain ⟨f, e1, h⟩ := hb1
      unfold kn114_0_2 at h
      split at h
      · rename_i hc; cases h; rw [unBys_ok e0, unBys_ok e1]; obtain ⟨rfl, rfl, h1, h2, h3⟩ := hc; exact add1_tc c cap syn l f h1 h2 (Int.not_lt.2 h3)
      · cases h
    · cases h
  · exact k113.callB f args o res o1 n1 h
theorem k114 : KnOk Tryd.prog kn114 := ⟨k113.call, eqTysOk, kn114_ok⟩
def kn115_0_1 (d : Dk) : Option TV := some (bool (dkF d))
def kn115_0_0 (r0 : List CV) : Option TV := (unDk r0).bind (kn115_0_1)
def kn115_0 : List TV → Option TV
  | [.agg r0] => kn115_0_0 r0
  | _ => none
def kn115_1_1 (d : Dk) : Option TV := some (bool (dkF d))
def kn115_1_0 (r0 : List CV) : Option TV := (unDk r0).bind (kn115_1_1)
def kn115_1 : List TV → Option TV
  | [.agg r0] => kn115_1_0 r0
  | _ => none
def kn115_call (f : FuncId) (args : List TV) : Option TV := if f = 70 then orO (kn115_0 args) (kn114.call f args) else if f = 67 then orO (kn115_1 args) (kn114.call f args) else kn114.call f args
def kn115 : Kn := { call := kn115_call, eqs := eqTys, callB := kn114.callB }
attribute [go_sem] kn115_0_0 kn115_0_1 kn115_0 kn115_1_0 kn115_1_1 kn115_1 kn115_call kn115
theorem kn115_ok : ∀ f args res, kn115_call f args = some res → TC Tryd.prog f args [] 1 res [] 1 := by
  intro f args res h
  unfold kn115_call at h
  split at h
  · rename_i e; subst e
    have hh := orO_elim h
    clear h
    rcases hh with h | h
    rotate_left
    · exact k114.call _ _ _ h
    unfold kn115_0 at h
    split at h
    · rename_i r0; unfold kn115_0_0 at h
      obtain ⟨d, e0, h⟩ := Option.bind_eq_some_iff.1 h
      unfold kn115_0_1 at h
      cases h; rw [unDk_ok e0]; exact dkI_tc d
    · cases h
  split at h
  · rename_i e; subst e
    have hh := orO_elim h
    clear h
    rcases hh with h | h
    rotate_left
    · exact k114.call _ _ _ h
    unfold kn115_1 at h
    split at h
    · rename_i r0; unfold kn115_1_0 at h
      obtain ⟨d, e0, h⟩ := Option.bind_eq_some_iff.1 h
      unfold kn115_1_1 at h
      cases h; rw [unDk_ok e0]; exact dkS_tc d
    · cases h
  · exact k114.call f args res h
theorem k115 : KnOk Tryd.prog kn115 := ⟨kn115_ok, eqTysOk, k114.callB⟩
/-- What a write makes of a disk's bytes, and its code. -/
def dwC (d : Dk) (rs : List Rec) : Int := if rsF rs = true then (if d.cap < (d.data.length : Int) + ((recO rs).length : Int) then 3 else 0) else 2
def dwD (d : Dk) (rs : List Rec) : List Int := if rsF rs = true then (if d.cap < (d.data.length : Int) + ((recO rs).length : Int) then d.data else d.data ++ recO rs) else d.data
theorem dwI0_tc (d : Dk) (rs : List Rec) (h : dkF d = false) : TC Tryd.prog 35 [.agg d.cv, ro 11 (rs.map Rec.tr)] [] 1 (.agg [ci 1, ci 0, ci 0, .t (.v (.slice none 0 0))]) [] 1 := by
  refine tc_cell tabOk Tryd.func35 rfl 27 rfl (Nat.le_of_ble_eq_true rfl) (by decide) [(4, some 64)] rfl (by intro id x h; cases h) ?_
  intro w0 E0
  have kOk := k115
  obtain ⟨c, s, l⟩ := d
  simp only [Dk.cv]
  have hp := h
  refine wk1 ?_
  refine am_retC [] rfl ?_ rfl rfl
  first | refine go ?_ | rfl
theorem dwS0_tc (d : Dk) (rs : List Rec) (h : dkF d = false) : TC Tryd.prog 33 [.agg d.cv, ro 11 (rs.map Rec.tr)] [] 1 (.agg [ci 1, ci 0, ci 0, .t (.v (.slice none 0 0))]) [] 1 := by
  refine tc_cell tabOk Tryd.func33 rfl 38 rfl (Nat.le_of_ble_eq_true rfl) (by decide) [(4, some 64)] rfl (by intro id x h; cases h) ?_
  intro w0 E0
  have kOk := k115
  obtain ⟨c, s, l⟩ := d
  simp only [Dk.cv]
  have hp := h
  refine wk1 ?_
  refine am_retC [] rfl ?_ rfl rfl
  first | refine go ?_ | rfl
set_option maxHeartbeats 16000000 in
theorem dwI_tc (d : Dk) (rs : List Rec) (h : dkF d = true) (hr : rs.length ≤ 1048576) : TC Tryd.prog 35 [.agg d.cv, ro 11 (rs.map Rec.tr)] [] 1 (.agg [ci (dwC d rs), ci d.cap, ci d.syn, .own 1 0 (dwD d rs).length]) [(1, .arr 5 1 ((dwD d rs).map bTr))] 2 := by
  have hok := h
  simp only [dkF, decide_eq_true_eq] at hok
  obtain ⟨c, s, l⟩ := d
  simp only at hok
  simp only [Dk.cv]
  have hL := recO_len rs
  by_cases hf : rsF rs = true
  rotate_left
  · have hf' : rsF rs = false := by simpa using hf
    have e1 : dwC ⟨c, s, l⟩ rs = 2 := by simp [dwC, hf']
    have e2 : dwD ⟨c, s, l⟩ rs = l := by simp [dwD, hf']
    rw [e1, e2]
    refine tc_cell tabOk Tryd.func35 rfl 27 rfl (Nat.le_of_ble_eq_true rfl) (by decide) [(4, some 64)] rfl (by intro id x h; cases h) ?_
    intro w0 E0
    have kOk := k115
    have hp := (show dkF ⟨c, s, l⟩ = true ∧ (l.length ≤ 1073741824) = True ∧ (rs.length ≤ 1048576) = True ∧ rsF rs = false from ⟨h, eq_true (by omega), eq_true hr, hf'⟩)
    refine wk1 ?_
    refine am_retC [(3, 1)] rfl ?_ rfl rfl
    first | refine go ?_ | rfl
  by_cases hc : c < (l.length : Int) + ((recO rs).length : Int)
  · have e1 : dwC ⟨c, s, l⟩ rs = 3 := by simp [dwC, hf, hc]
    have e2 : dwD ⟨c, s, l⟩ rs = l := by simp [dwD, hf, hc]
    rw [e1, e2]
    refine tc_cell tabOk Tryd.func35 rfl 27 rfl (Nat.le_of_ble_eq_true rfl) (by decide) [(4, some 64)] rfl (by intro id x h; cases h) ?_
    intro w0 E0
    have kOk := k115
    have hp := (show dkF ⟨c, s, l⟩ = true ∧ (l.length ≤ 1073741824) = True ∧ (rs.length ≤ 1048576) = True ∧ rsF rs = true ∧ ((recO rs).length ≤ 1073741824) = True ∧ (c < (l.length : Int) + ((recO rs).length : Int)) = True ∧ ((l.length : Int) + ((recO rs).length : Int) ≤ c) = False from ⟨h, eq_true (by omega), eq_true hr, hf, eq_true (by omega), eq_true (by omega), eq_false (by omega)⟩)
    refine wk1 ?_
    refine am_rs tabOk kOk rfl fun K Q1 hK => ?_
    refine go1 ?_
    refine amOp_gload tabOk rfl rfl rfl rfl rfl ?_
    refine go1 ?_
    refine hK _ ?_
    clear hK K Q1
    refine wk1 ?_
    refine am_retC [(3, 1)] rfl ?_ rfl rfl
    first | refine go ?_ | rfl
  · have e1 : dwC ⟨c, s, l⟩ rs = 0 := by simp [dwC, hf, hc]
    have e2 : dwD ⟨c, s, l⟩ rs = l ++ recO rs := by simp [dwD, hf, hc]
    rw [e1, e2]
    refine tc_cell tabOk Tryd.func35 rfl 27 rfl (Nat.le_of_ble_eq_true rfl) (by decide) [(4, some 64)] rfl (by intro id x h; cases h) ?_
    intro w0 E0
    have kOk := k115
    have hp := (show dkF ⟨c, s, l⟩ = true ∧ (l.length ≤ 1073741824) = True ∧ (rs.length ≤ 1048576) = True ∧ rsF rs = true ∧ ((recO rs).length ≤ 1073741824) = True ∧ (c < (l.length : Int) + ((recO rs).length : Int)) = False ∧ ((l.length : Int) + ((recO rs).length : Int) ≤ c) = True from ⟨h, eq_true (by omega), eq_true hr, hf, eq_true (by omega), eq_false (by omega), eq_true (by omega)⟩)
    refine wk1 ?_
    refine am_rs tabOk kOk rfl fun K Q1 hK => ?_
    refine go1 ?_
    refine amOp_gload tabOk rfl rfl rfl rfl rfl ?_
    refine go1 ?_
    refine hK _ ?_
    clear hK K Q1
    refine wk1 ?_
    refine am_retC [(6, 1)] rfl ?_ rfl rfl
    first | refine go ?_ | rfl
set_option maxHeartbeats 16000000 in
theorem dwS_tc (d : Dk) (rs : List Rec) (h : dkF d = true) (hr : rs.length ≤ 1048576) : TC Tryd.prog 33 [.agg d.cv, ro 11 (rs.map Rec.tr)] [] 1 (.agg [ci (dwC d rs), ci d.cap, ci d.syn, .own 1 0 (dwD d rs).length]) [(1, .arr 5 1 ((dwD d rs).map bTr))] 2 := by
  have hok := h
  simp only [dkF, decide_eq_true_eq] at hok
  obtain ⟨c, s, l⟩ := d
  simp only at hok
  simp only [Dk.cv]
  have hL := recO_len rs
  by_cases hf : rsF rs = true
  rotate_left
  · have hf' : rsF rs = false := by simpa using hf
    have e1 : dwC ⟨c, s, l⟩ rs = 2 := by simp [dwC, hf']
    have e2 : dwD ⟨c, s, l⟩ rs = l := by simp [dwD, hf']
    rw [e1, e2]
    refine tc_cell tabOk Tryd.func33 rfl 38 rfl (Nat.le_of_ble_eq_true rfl) (by decide) [(4, some 64)] rfl (by intro id x h; cases h) ?_
    intro w0 E0
    have kOk := k115
    have hp := (show dkF ⟨c, s, l⟩ = true ∧ (l.length ≤ 1073741824) = True ∧ (rs.length ≤ 1048576) = True ∧ rsF rs = false from ⟨h, eq_true (by omega), eq_true hr, hf'⟩)
    refine wk1 ?_
    refine am_retC [(3, 1)] rfl ?_ rfl rfl
    first | refine go ?_ | rfl
  by_cases hc : c < (l.length : Int) + ((recO rs).length : Int)
  · have e1 : dwC ⟨c, s, l⟩ rs = 3 := by simp [dwC, hf, hc]
    have e2 : dwD ⟨c, s, l⟩ rs = l := by simp [dwD, hf, hc]
    rw [e1, e2]
    refine tc_cell tabOk Tryd.func33 rfl 38 rfl (Nat.le_of_ble_eq_true rfl) (by decide) [(4, some 64)] rfl (by intro id x h; cases h) ?_
    intro w0 E0
    have kOk := k115
    have hp := (show dkF ⟨c, s, l⟩ = true ∧ (l.length ≤ 1073741824) = True ∧ (rs.length ≤ 1048576) = True ∧ rsF rs = true ∧ ((recO rs).length ≤ 1073741824) = True ∧ ((l.length : Int) + ((recO rs).length : Int) > c) = True ∧ ((l.length : Int) + ((recO rs).length : Int) ≤ c) = False ∧ IntKind.i64.wrap ((l.length : Int) + ((recO rs).length : Int)) = (l.length : Int) + ((recO rs).length : Int) ∧ ((l ++ recO rs).length ≤ maxLen) = True ∧ ((l ++ recO rs).length * 1 ≤ 140737488355328) = True from ⟨h, eq_true (by omega), eq_true hr, hf, eq_true (by omega), eq_true (by omega), eq_false (by omega), wrapN (by omega) (by omega), eq_true (by rw [List.length_append]; unfold maxLen; omega), eq_true (by rw [List.length_append]; omega)⟩)
    refine wk1 ?_
    refine am_retC [(3, 1)] rfl ?_ rfl rfl
    first | refine go ?_ | rfl
  · have e1 : dwC ⟨c, s, l⟩ rs = 0 := by simp [dwC, hf, hc]
    have e2 : dwD ⟨c, s, l⟩ rs = l ++ recO rs := by simp [dwD, hf, hc]
    rw [e1, e2]
    refine tc_cell tabOk Tryd.func33 rfl 38 rfl (Nat.le_of_ble_eq_true rfl) (by decide) [(4, some 64)] rfl (by intro id x h; cases h) ?_
    intro w0 E0
    have kOk := k115
    have hp := (show dkF ⟨c, s, l⟩ = true ∧ (l.length ≤ 1073741824) = True ∧ (rs.length ≤ 1048576) = True ∧ rsF rs = true ∧ ((recO rs).length ≤ 1073741824) = True ∧ ((l.length : Int) + ((recO rs).length : Int) > c) = False ∧ ((l.length : Int) + ((recO rs).length : Int) ≤ c) = True ∧ IntKind.i64.wrap ((l.length : Int) + ((recO rs).length : Int)) = (l.length : Int) + ((recO rs).length : Int) ∧ ((l ++ recO rs).length ≤ maxLen) = True ∧ ((l ++ recO rs).length * 1 ≤ 140737488355328) = True from ⟨h, eq_true (by omega), eq_true hr, hf, eq_true (by omega), eq_false (by omega), eq_true (by omega), wrapN (by omega) (by omega), eq_true (by rw [List.length_append]; unfold maxLen; omega), eq_true (by rw [List.length_append]; omega)⟩)
    refine wk1 ?_
    refine am_retC [(6, 1)] rfl ?_ rfl rfl
    first | refine go ?_ | rfl
end Go.Proofs.YtaolgdpkcbfocaaDoorA
