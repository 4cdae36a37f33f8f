/- Rows of packets: what the laws do with them. -/
import Derived.Test.YthnpbfljoghbmaaDPk
import Derived.Test.YthnpbfljoghbmaaAmFrz2
namespace Go.Proofs.YthnpbfljoghbmaaA
open Go.Proofs
set_option autoImplicit false
set_option linter.unusedVariables false
set_option linter.unusedSimpArgs false
set_option maxRecDepth 4000
set_option maxHeartbeats 8000000 in
theorem toPks1_tc (l : List Pk) (hl : l.length ≤ 1048576) (hb : ∀ p, p ∈ l → p.bytes.length ≤ 1048576) : TC Try.prog 68 [ro 4 (l.map Pk.tr)] [] 1 (.c (.own 1 0 l.length)) [(1, .arr 44 4 (l.map Pk.tr))] 2 := by
  refine tc_intro Try.func68 rfl 23 rfl (Nat.le_of_ble_eq_true rfl) (by decide) [2] rfl (by intro id x h; cases h) ?_
  intro w0 E0
  have kOk := kD3
  have hp : (l.map Pk.tr).length = l.length := by simp
  refine wk1 ?_
  refine am_rs tabOk kOk rfl fun K Q1 hK => ?_
  refine go1 ?_
  refine ⟨⟨by omega, by unfold maxLen; omega⟩, ?_⟩
  refine hK _ ?_
  clear hK K Q1
  refine wk1 ?_
  refine am_tidy [(1, 1)] [0, 3, 4] 2 rfl ?_
  refine go1 ?_
  clear hp
  refine am_loop (l.length + 1) ?_
  suffices key : ∀ (d k : Nat), k + d = l.length → amR Try.prog _ _ _ (d + 1) ⟨[(0, ro 4 (l.map Pk.tr)), (3, .c (.own 1 0 l.length)), (4, int (k : Nat))], [(1, .arr 44 4 (half Pk.tr [Tree.v (Value.int IntKind.i64 0), Tree.v (Value.int IntKind.i64 0), Tree.v (Value.int IntKind.i64 0), Tree.v (Value.slice none 0 0)] l k))], 2⟩ from by
    have := key l.length 0 (by simp)
    rw [half_zero] at this
    exact this
  intro d
  induction d with
  | zero =>
    intro k hk
    have hp : (l.map Pk.tr).length = l.length := by simp
    refine amR_succ ?_
    refine wk1 ?_
    refine guardP_mk (fun h => ?_) (fun h => ?_)
    · simp at h; omega
    · refine go1 ?_
      refine wk1 ?_
      have hk' : k = l.length := hk
      subst hk'
      rw [half_all]
      refine am_retB [(1, 1)] rfl ?_ ?_ rfl <;> first | refine go ?_ | rfl
  | succ d ih =>
    intro k hk
    obtain ⟨e, he⟩ : ∃ e, l[k]? = some e := ⟨l[k]'(by omega), List.getElem?_eq_getElem (by omega)⟩
    have hp := (show (l.map Pk.tr).length = l.length ∧ (l.map Pk.tr)[k]? = some (Pk.tr e) ∧ (half Pk.tr [Tree.v (Value.int IntKind.i64 0), Tree.v (Value.int IntKind.i64 0), Tree.v (Value.int IntKind.i64 0), Tree.v (Value.slice none 0 0)] l k)[k]? = some [Tree.v (Value.int IntKind.i64 0), Tree.v (Value.int IntKind.i64 0), Tree.v (Value.int IntKind.i64 0), Tree.v (Value.slice none 0 0)] ∧ IntKind.i64.wrap ((k : Int) + 1) = ((k + 1 : Nat) : Int) ∧ (k < l.length) = True ∧ (half Pk.tr [Tree.v (Value.int IntKind.i64 0), Tree.v (Value.int IntKind.i64 0), Tree.v (Value.int IntKind.i64 0), Tree.v (Value.slice none 0 0)] l k).set k (Pk.tr e) = half Pk.tr [Tree.v (Value.int IntKind.i64 0), Tree.v (Value.int IntKind.i64 0), Tree.v (Value.int IntKind.i64 0), Tree.v (Value.slice none 0 0)] l (k + 1) ∧ (e.bytes.length ≤ 1048576) = True from
      ⟨by simp, by rw [List.getElem?_map, he]; rfl, half_at (by omega), by rw [wrapN (by omega) (by omega)]; rfl, eq_true (by omega), half_set he, eq_true (hb e (List.mem_of_getElem? he))⟩)
    obtain ⟨a, b, c, v⟩ := e
    simp only [Pk.tr] at hp
    refine amR_succ ?_
    refine wk1 ?_
    refine guardP_mk (fun h => ?_) (fun h => ?_)
    · refine go1 ?_
      refine wk1 ?_
      refine amR_tidy [(1, 1)] [0, 3, 4] 2 rfl ?_
      refine go1 ?_
      exact ih (k + 1) (by omega)
    · simp at h; omega
set_option maxHeartbeats 8000000 in
theorem eqPks_tc (l r : List Pk) (hl : l.length ≤ 1048576) (hb : ∀ p, p ∈ l → p.bytes.length ≤ 1048576) : TC Try.prog 75 [ro 4 (l.map Pk.tr), ro 4 (r.map Pk.tr)] [] 1 (bool (decide (l = r))) [] 1 := by
  refine tc_intro Try.func75 rfl 27 rfl (Nat.le_of_ble_eq_true rfl) (by decide) [4] rfl (by intro id x h; cases h) ?_
  intro w0 E0
  have kOk := kD3
  have hp : (l.map Pk.tr).length = l.length ∧ (r.map Pk.tr).length = r.length := by simp
  refine wk1 ?_
  refine guardP_mk (fun h => ?_) (fun h => ?_)
  · refine go1 ?_
    refine wk1 ?_
    refine am_retP rfl ?_ rfl
    refine go ?_
    have : ¬ l = r := fun e => by subst e; simp at h
    simp [this]
  have hlr : l.length = r.length := by simp at h; omega
  refine go1 ?_
  refine wk1 ?_
  refine am_tidy [] [0, 1, 5] 1 rfl ?_
  refine go1 ?_
  clear hp
  refine am_loop (l.length + 1) ?_
  suffices key : ∀ (d k : Nat), k + d = l.length → l.take k = r.take k → amR Try.prog _ _ _ (d + 1) ⟨[(0, ro 4 (l.map Pk.tr)), (1, ro 4 (r.map Pk.tr)), (5, int (k : Nat))], [], 1⟩ from key l.length 0 (by simp) rfl
  intro d
  induction d with
  | zero =>
    intro k hk ht
    have hp : (l.map Pk.tr).length = l.length := by simp
    refine amR_succ ?_
    refine wk1 ?_
    refine guardP_mk (fun h => ?_) (fun h => ?_)
    · simp at h; omega
    · refine go1 ?_
      refine wk1 ?_
      refine am_retP rfl ?_ rfl
      refine go ?_
      have : l = r := by rwa [List.take_of_length_le (by omega), List.take_of_length_le (by omega)] at ht
      simp [this]
  | succ d ih =>
    intro k hk ht
    obtain ⟨e, he⟩ : ∃ e, l[k]? = some e := ⟨l[k]'(by omega), List.getElem?_eq_getElem (by omega)⟩
    obtain ⟨e', he'⟩ : ∃ e', r[k]? = some e' := ⟨r[k]'(by omega), List.getElem?_eq_getElem (by omega)⟩
    have hp := (show (l.map Pk.tr).length = l.length ∧ (l.map Pk.tr)[k]? = some (Pk.tr e) ∧ (r.map Pk.tr)[k]? = some (Pk.tr e') ∧ IntKind.i64.wrap ((k : Int) + 1) = ((k + 1 : Nat) : Int) ∧ (e.bytes.length ≤ 1048576) = True from
      ⟨by simp, by rw [List.getElem?_map, he]; rfl, by rw [List.getElem?_map, he']; rfl, by rw [wrapN (by omega) (by omega)]; rfl, eq_true (hb e (List.mem_of_getElem? he))⟩)
    have hee : e = e' → l.take (k + 1) = r.take (k + 1) := fun h => by rw [List.take_add_one, List.take_add_one, ht, he, he', h]
    have hne : e ≠ e' → l ≠ r := fun hx h2 => by subst h2; rw [he] at he'; exact hx (Option.some.inj he')
    obtain ⟨a, b, c, v⟩ := e
    obtain ⟨a', b', c', v'⟩ := e'
    simp only [Pk.tr] at hp
    refine amR_succ ?_
    refine wk1 ?_
    refine guardP_mk (fun h => ?_) (fun h => ?_)
    · refine go1 ?_
      refine wk1 ?_
      refine guardP_mk (fun h => ?_) (fun h => ?_)
      · refine go1 ?_
        refine wk1 ?_
        refine am_retP rfl ?_ rfl
        refine go ?_
        have := hne (by intro hx; simp at h; simp_all)
        simp [this]
      · refine go1 ?_
        refine wk1 ?_
        refine amR_tidy [] [0, 1, 5] 1 rfl ?_
        refine go1 ?_
        exact ih (k + 1) (by omega) (hee (by simp at h; simp_all))
    · simp at h; omega
/-- New rows told as only read. -/
theorem tc_frzR {P : Program} {f : FuncId} {args : List TV} {ty sz : Nat} {rows : List (List Tree)} {res : TV} (h : TC P f args [] 1 res [(1, .arr ty sz rows)] 2) : TC P f args [] 1 (res.frz 1 sz rows) [] 1 := by
  refine ⟨h.1, fun E w vs hvs hobjs hnext hzero hfresh hown hpre => ?_⟩
  refine (h.2 E w vs hvs hobjs hnext hzero hfresh hown hpre).mono ?_
  rintro e w' ⟨v, E', rfl, hv, hfc, hob, hnx, hz⟩
  have hr := hob 1 _ rfl
  have h0 : ∀ id, E.at_ id = none := fun id => by
    by_cases e : id = 0
    · rw [e]; exact hzero
    · exact hnext id (by omega)
  have hE : ∀ b o id, E.own b o = some id → id = 0 := fun b o id he => by
    rcases hown b o id he with h | h
    · exact h
    · cases h
  refine ⟨v, E'.frz 1, rfl, RT.frz hr hv, ⟨hfc.pre, hfc.os, hfc.tape, hfc.output, hfc.size, (fun id B hB => by rw [h0 id] at hB; cases hB), hfc.blk, fun b o hb hf => ?_, fun b o hb => Env.frz_none (hfc.fresh b o hb), fun b o he => ?_⟩, (fun id x hx => by cases hx), fun id hid => ?_, ?_⟩
  · have h1 := hfc.keep b o hb hf
    rcases hf with h2 | h2
    · rw [h2] at h1 ⊢
      exact Env.frz_none h1
    · rw [h2] at h1 ⊢
      exact Env.frz_own (by omega) h1
  · have he' : (if E'.own b o = some 1 then none else E'.own b o) = some 0 := he
    split at he'
    · cases he'
    · exact hfc.pos b o he'
  · show (if id = 1 then none else E'.at_ id) = none
    split
    · rfl
    · exact hnx id (by omega)
  · show (if 0 = 1 then none else E'.at_ 0) = none
    exact hz
theorem toPksF_tc (l : List Pk) (hl : l.length ≤ 1048576) (hb : ∀ p, p ∈ l → p.bytes.length ≤ 1048576) : TC Try.prog 68 [ro 4 (l.map Pk.tr)] [] 1 (ro 4 (l.map Pk.tr)) [] 1 := by
  have := tc_frzR (toPks1_tc l hl hb)
  simpa [TV.frz, TV.frz1, CV.frz] using this
/-! as rows of their own -/
theorem mid_get {α : Type} (X R : List α) {i : Nat} (h : X.length = i) (y : α) : (X ++ y :: R)[i]? = some y := by
  rw [List.getElem?_append_right (by omega)]
  simp [h]
theorem mid_set {α : Type} (X R : List α) {i : Nat} (h : X.length = i) (y z : α) : (X ++ y :: R).set i z = X ++ z :: R := by
  rw [List.set_append_right _ _ (by omega)]
  simp [h]
def kd4_0_1 (l : List Int) : CB := if l.length ≤ 1048576 then some (.c (.own 1 0 l.length), [(1, .arr 5 1 (l.map bTr))], 2) else none
def kd4_0_0 (r0 : List (List Tree)) : CB := (unBys r0).bind (kd4_0_1)
def kd4_0 : List TV → List (Nat × AObj) → CB
  | [.c (.t (.sl 1 r0))], [] => kd4_0_0 r0
  | _, _ => none
def kd4_1_1 (l : List Int) : CB := if l.length ≤ 1048576 then some (.c (.own 1 0 l.length), [(1, .arr 3 1 (l.map iTr))], 2) else none
def kd4_1_0 (r0 : List (List Tree)) : CB := (unInts r0).bind (kd4_1_1)
def kd4_1 : List TV → List (Nat × AObj) → CB
  | [.c (.t (.sl 1 r0))], [] => kd4_1_0 r0
  | _, _ => none
def kd4_2_1 (n : Nat) (k : Int) (l : List Int) : CB := if n = l.length ∧ 0 ≤ k ∧ k + (l.length : Nat) ≤ 1099511627776 then some (int (k + (l.length : Nat)), [(1, .arr 5 1 ((mkBs l.length k).map bTr))], 2) else none
def kd4_2_0 (n : Nat) (k : Int) (r0 : List (List Tree)) : CB := (unBys r0).bind (kd4_2_1 n k)
def kd4_2 : List TV → List (Nat × AObj) → CB
  | [.c (.own 1 0 n), .c (.t (.v (.int .i64 k)))], [(1, .arr 5 1 r0)] => kd4_2_0 n k r0
  | _, _ => none
def kd4_3_1 (n : Nat) (k : Int) (l : List Int) : CB := if n = l.length ∧ 0 ≤ k ∧ k + (l.length : Nat) ≤ 1099511627776 then some (int (k + (l.length : Nat)), [(1, .arr 3 1 ((mkIs l.length k).map iTr))], 2) else none
def kd4_3_0 (n : Nat) (k : Int) (r0 : List (List Tree)) : CB := (unInts r0).bind (kd4_3_1 n k)
def kd4_3 : List TV → List (Nat × AObj) → CB
  | [.c (.own 1 0 n), .c (.t (.v (.int .i64 k)))], [(1, .arr 3 1 r0)] => kd4_3_0 n k r0
  | _, _ => none
def kd4_4_1 (l : List Int) : CB := if l.length ≤ 1073741824 then some (.c (.own 1 0 l.length), [(1, .arr 5 1 (l.map bTr))], 2) else none
def kd4_4_0 (r0 : List (List Tree)) : CB := (unBys r0).bind (kd4_4_1)
def kd4_4 : List TV → List (Nat × AObj) → CB
  | [.c (.t (.sl 1 r0))], [] => kd4_4_0 r0
  | _, _ => none
def kd4_5_1 (l : List Int) : CB := if l.length ≤ 1073741824 then some (.c (.own 1 0 l.length), [(1, .arr 3 1 (l.map iTr))], 2) else none
def kd4_5_0 (r0 : List (List Tree)) : CB := (unInts r0).bind (kd4_5_1)
def kd4_5 : List TV → List (Nat × AObj) → CB
  | [.c (.t (.sl 1 r0))], [] => kd4_5_0 r0
  | _, _ => none
def kd4_call (f : FuncId) (args : List TV) (o : List (Nat × AObj)) : CB := if f = 13 then orO (kd4_0 args o) (kd3.callB f args o) else if f = 69 then orO (kd4_1 args o) (kd3.callB f args o) else if f = 19 then orO (kd4_2 args o) (kd3.callB f args o) else if f = 78 then orO (kd4_3 args o) (kd3.callB f args o) else if f = 74 then orO (kd4_4 args o) (kd3.callB f args o) else if f = 135 then orO (kd4_5 args o) (kd3.callB f args o) else kd3.callB f args o
def kd4 : Kn := { call := kd3.call, eqs := eqTys, callB := kd4_call }
attribute [go_sem] kd4_0_0 kd4_0_1 kd4_0 kd4_1_0 kd4_1_1 kd4_1 kd4_2_0 kd4_2_1 kd4_2 kd4_3_0 kd4_3_1 kd4_3 kd4_4_0 kd4_4_1 kd4_4 kd4_5_0 kd4_5_1 kd4_5 kd4_call kd4
theorem kd4_ok : ∀ f args o res o1 n1, kd4_call f args o = some (res, o1, n1) → TC Try.prog f args o (o.length + 1) res o1 n1 := by
  intro f args o res o1 n1 h
  unfold kd4_call at h
  split at h
  · rename_i e; subst e
    have hh := orO_elim h
    clear h
    rcases hh with h | h
    rotate_left
    · exact kD3.callB _ _ _ _ _ _ h
    unfold kd4_0 at h
    split at h
    · rename_i r0; unfold kd4_0_0 at h
      have hb0 := Option.bind_eq_some_iff.1 h
      clear h
      obtain ⟨l, e0, h⟩ := hb0
      unfold kd4_0_1 at h
      split at h
      · rename_i hc; cases h; rw [unBys_ok e0]; exact toBys_tc l hc
      · cases h
    · cases h
  split at h
  · rename_i e; subst e
    have hh := orO_elim h
    clear h
    rcases hh with h | h
    rotate_left
    · exact kD3.callB _ _ _ _ _ _ h
    unfold kd4_1 at h
    split at h
    · rename_i r0; unfold kd4_1_0 at h
      have hb0 := Option.bind_eq_some_iff.1 h
      clear h
      obtain ⟨l, e0, h⟩ := hb0
      unfold kd4_1_1 at h
      split at h
      · rename_i hc; cases h; rw [unInts_ok e0]; exact toInts_tc l hc
      · cases h
    · cases h
  split at h
  · rename_i e; subst e
    have hh := orO_elim h
    clear h
    rcases hh with h | h
    rotate_left
    · exact kD3.callB _ _ _ _ _ _ h
    unfold kd4_2 at h
    split at h
    · rename_i n k r0; unfold kd4_2_0 at h
      have hb0 := Option.bind_eq_some_iff.1 h
      clear h
      obtain ⟨l, e0, h⟩ := hb0
      unfold kd4_2_1 at h
      split at h
      · rename_i hc; cases h; rw [unBys_ok e0]; obtain ⟨rfl, h1, h2⟩ := hc; exact markBs_tc l k h1 h2
      · cases h
    · cases h
  split at h
  · rename_i e; subst e
    have hh := orO_elim h
    clear h
    rcases hh with h | h
    rotate_left
    · exact kD3.callB _ _ _ _ _ _ h
    unfold kd4_3 at h
    split at h
    · rename_i n k r0; unfold kd4_3_0 at h
      have hb0 := Option.bind_eq_some_iff.1 h
      clear h
      obtain ⟨l, e0, h⟩ := hb0
      unfold kd4_3_1 at h
      split at h
      · rename_i hc; cases h; rw [unInts_ok e0]; obtain ⟨rfl, h1, h2⟩ := hc; exact markIs_tc l k h1 h2
      · cases h
    · cases h
  split at h
  · rename_i e; subst e
    have hh := orO_elim h
    clear h
    rcases hh with h | h
    rotate_left
    · exact kD3.callB _ _ _ _ _ _ h
    unfold kd4_4 at h
    split at h
    · rename_i r0; unfold kd4_4_0 at h
      have hb0 := Option.bind_eq_some_iff.1 h
      clear h
      obtain ⟨l, e0, h⟩ := hb0
      unfold kd4_4_1 at h
      split at h
      · rename_i hc; cases h; rw [unBys_ok e0]; exact cloneBs_tc l hc
      · cases h
    · cases h
  split at h
  · rename_i e; subst e
    have hh := orO_elim h
    clear h
    rcases hh with h | h
    rotate_left
    · exact kD3.callB _ _ _ _ _ _ h
    unfold kd4_5 at h
    split at h
    · rename_i r0; unfold kd4_5_0 at h
      have hb0 := Option.bind_eq_some_iff.1 h
      clear h
      obtain ⟨l, e0, h⟩ := hb0
      unfold kd4_5_1 at h
      split at h
      · rename_i hc; cases h; rw [unInts_ok e0]; exact cloneIs_tc l hc
      · cases h
    · cases h
  · exact kD3.callB f args o res o1 n1 h
theorem kD4 : KnOk Try.prog kd4 := ⟨kD3.call, eqTysOk, kd4_ok⟩
def kd5_0_1 (p : Pk) : CB := if p.bytes.length ≤ 1048576 then some (.agg [ci p.id, ci p.fr, ci p.to, .own 1 0 p.bytes.length], [(1, .arr 5 1 (p.bytes.map bTr))], 2) else none
def kd5_0_0 (q0 : List CV) : CB := (unPk q0).bind (kd5_0_1)
def kd5_0 : List TV → List (Nat × AObj) → CB
  | [.agg q0], [] => kd5_0_0 q0
  | _, _ => none
def kd5_call (f : FuncId) (args : List TV) (o : List (Nat × AObj)) : CB := if f = 133 then orO (kd5_0 args o) (kd2.callB f args o) else kd2.callB f args o
def kd5 : Kn := { call := kd2.call, eqs := eqTys, callB := kd5_call }
attribute [go_sem] kd5_0_0 kd5_0_1 kd5_0 kd5_call kd5
theorem kd5_ok : ∀ f args o res o1 n1, kd5_call f args o = some (res, o1, n1) → TC Try.prog f args o (o.length + 1) res o1 n1 := by
  intro f args o res o1 n1 h
  unfold kd5_call at h
  split at h
  · rename_i e; subst e
    have hh := orO_elim h
    clear h
    rcases hh with h | h
    rotate_left
    · exact kD2.callB _ _ _ _ _ _ h
    unfold kd5_0 at h
    split at h
    · rename_i q0; unfold kd5_0_0 at h
      have hb0 := Option.bind_eq_some_iff.1 h
      clear h
      obtain ⟨p, e0, h⟩ := hb0
      unfold kd5_0_1 at h
      split at h
      · rename_i hc; cases h; rw [unPk_ok e0]; exact toPk_tc p hc
      · cases h
    · cases h
  · exact kD2.callB f args o res o1 n1 h
theorem kD5 : KnOk Try.prog kd5 := ⟨kD2.call, eqTysOk, kd5_ok⟩
def z4 : List NC := [.t (.v (.int .i64 0)), .t (.v (.int .i64 0)), .t (.v (.int .i64 0)), .t (.v (.slice none 0 0))]
attribute [go_sem] NC.rn
@[go_sem] theorem rn_pk (f : CV → CV) (l : List Pk) : (l.map Pk.nc).map (fun x => x.map (NC.rn f)) = l.map Pk.nc := by
  rw [List.map_map]
  exact List.map_congr_left fun p _ => rfl
theorem allSome_all {α β : Type} {f : α → Option β} {g : α → β} : ∀ {l : List α}, (∀ x, x ∈ l → f x = some (g x)) → allSome (l.map f) = some (l.map g)
  | [], _ => rfl
  | x :: l, h => by
    have := allSome_all (f := f) (g := g) (l := l) fun y hy => h y (List.mem_cons_of_mem _ hy)
    simp only [List.map_cons, h x List.mem_cons_self, allSome, this, Option.map_some]
@[go_sem] theorem conv_pk (m : Bool) (st : St) (ρ : List Nat) (l : List Pk) : allSome ((l.map Pk.nc).map fun x => allSome (x.map (convNC m st ρ))) = some (l.map Pk.nc) := by
  rw [List.map_map]
  exact allSome_all fun p _ => rfl
@[go_sem] theorem flat_pk (l : List Pk) : ((l.map Pk.nc).all fun x => x.all flatNB) = true := by
  rw [List.all_map, List.all_eq_true]
  intro p _
  simp [Pk.nc, flatNB, flat_bTr]
@[go_sem] theorem rn_z4 (f : CV → CV) (n : Nat) : (List.replicate n z4).map (fun x => x.map (NC.rn f)) = List.replicate n z4 := by
  rw [List.map_replicate]
  rfl
@[go_sem] theorem rn_app (f : CV → CV) (a b : List (List NC)) : (a ++ b).map (fun x => x.map (NC.rn f)) = a.map (fun x => x.map (NC.rn f)) ++ b.map (fun x => x.map (NC.rn f)) := List.map_append
set_option maxHeartbeats 8000000 in
theorem toPks_tc (l : List Pk) (hl : l.length ≤ 1048576) (hb : ∀ p, p ∈ l → p.bytes.length ≤ 1048576) : TC Try.prog 68 [ro 4 (l.map Pk.tr)] [] 1 (.c (.own 1 0 l.length)) [(1, .nest 44 4 (l.map Pk.nc))] 2 := by
  refine tc_intro Try.func68 rfl 23 rfl (Nat.le_of_ble_eq_true rfl) (by decide) [2] rfl (by intro id x h; cases h) ?_
  intro w0 E0
  have kOk := kD5
  have hp : (l.map Pk.tr).length = l.length := by simp
  refine wk1 ?_
  refine am_rs tabOk kOk rfl fun K Q1 hK => ?_
  refine go1 ?_
  refine ⟨⟨by omega, by unfold maxLen; omega⟩, ?_⟩
  refine hK _ ?_
  clear hK K Q1
  refine wk1 ?_
  refine am_tidy [(1, 1)] [0, 3, 4] 2 rfl ?_
  refine go1 ?_
  clear hp
  refine am_nest 1 rfl ?_
  refine go ?_
  have e0 : (List.replicate l.length ([.v (.int .i64 0), .v (.int .i64 0), .v (.int .i64 0), .v (.slice none 0 0)] : List Tree)).map (fun x => x.map NC.t) = List.replicate l.length z4 := by simp [z4]
  first | rw [e0] | skip
  refine am_loop (l.length + 1) ?_
  suffices key : ∀ (r : List Pk) (k : Nat) (L : List Pk), L.length = k → k + r.length = l.length → l.drop k = r → L ++ r = l → amR Try.prog _ _ _ (r.length + 1) ⟨[(0, ro 4 (l.map Pk.tr)), (3, .c (.own 1 0 l.length)), (4, int (k : Nat))], [(1, .nest 44 4 (L.map Pk.nc ++ List.replicate r.length z4))], 2⟩ from key l 0 [] rfl (by simp) rfl rfl
  intro r
  induction r with
  | nil =>
    intro k L hX hk hd hR
    have hp := (show (l.map Pk.tr).length = l.length ∧ ((k : Int) < (l.length : Int)) = False ∧ L.map Pk.nc ++ List.replicate 0 z4 = l.map Pk.nc from ⟨by simp, eq_false (by simp at hk; omega), by rw [List.append_nil] at hR; rw [hR]; exact List.append_nil _⟩)
    refine amR_succ ?_
    refine wk1 ?_
    refine am_retB [(1, 1)] rfl ?_ ?_ rfl <;> first | refine go ?_ | rfl | (simp only [go_sem, ↓reduceIte, List.map_cons, List.map_nil]; done) | (simp [go_sem]; done)
  | cons e r ih =>
    intro k L hX hk hd hR
    have he : l[k]? = some e := by
      have := congrArg List.head? hd
      simpa [List.head?_drop] using this
    have hk1 : k < l.length := (List.getElem?_eq_some_iff.1 he).1
    have hd2 : l.drop (k + 1) = r := by
      rw [← List.tail_drop, hd]; rfl
    have hX' : (L.map Pk.nc).length = k := by simpa using hX
    have ihk := ih (k + 1) (L ++ [e]) (by simp [hX]) (by simp at hk; omega) hd2 (by rw [List.append_assoc]; exact hR)
    have hp := (show (l.map Pk.tr).length = l.length ∧ ((k : Int) < (l.length : Int)) = True ∧ (k < l.length) = True ∧ (l.map Pk.tr)[k]? = some e.tr ∧ IntKind.i64.wrap ((k : Int) + 1) = ((k + 1 : Nat) : Int) ∧ (e.bytes.length ≤ 1048576) = True ∧
        L.map Pk.nc ++ List.replicate (r.length + 1) z4 = L.map Pk.nc ++ [.t (.v (.int .i64 0)), .t (.v (.int .i64 0)), .t (.v (.int .i64 0)), .t (.v (.slice none 0 0))] :: List.replicate r.length z4 ∧ (∀ y : List NC, (L.map Pk.nc ++ y :: List.replicate r.length z4)[k]? = some y) ∧ (∀ y z : List NC, (L.map Pk.nc ++ y :: List.replicate r.length z4).set k z = L.map Pk.nc ++ z :: List.replicate r.length z4) from
      ⟨by simp, eq_true (by omega), eq_true hk1, by rw [List.getElem?_map, he]; rfl, by rw [wrapN (by omega) (by omega)]; rfl, eq_true (hb e (List.mem_of_getElem? he)), by rw [List.replicate_succ]; rfl, fun y => mid_get _ _ hX' y, fun y z => mid_set _ _ hX' y z⟩)
    clear ih
    obtain ⟨a, b, c, v⟩ := e
    simp only [Pk.tr] at hp
    refine amR_succ ?_
    refine wk1 ?_
    refine amR_abs 1 k 3 2 rfl (mid_get _ _ hX' _) rfl rfl (by simp) ?_
    refine go1 ?_
    refine amR_tidy [(1, 1)] [0, 3, 4] 2 rfl ?_
    refine go1 ?_
    refine amR_st ?_ ihk
    simp [Pk.nc]
end Go.Proofs.YthnpbfljoghbmaaA
