/- The laws' functions for tables and answers. -/
import Derived.Test.YthnpbfljoghbmaaCLawS
namespace Go.Proofs.YthnpbfljoghbmaaA
open Go.Proofs
set_option autoImplicit false
set_option linter.unusedVariables false
set_option linter.unusedSimpArgs false
set_option maxRecDepth 4000

theorem dom2 {o p : AObj} (id : Nat) (x : AObj) (h : look id [(1, o), (2, p)] = some x) : id < 3 := by
  simp only [look] at h
  split at h
  · omega
  split at h
  · omega
  · cases h
attribute [go_sem] nl
/-- New rows told as only read. -/
theorem tc_frz1 {P : Program} {f : FuncId} {args : List TV} {ty sz : Nat} {rows : List (List Tree)} {res : TV} (h : TC P f args [] 1 res [(1, .arr ty sz rows)] 2) : TC P f args [] 1 (res.frz 1 sz rows) [] 1 := by
  refine ⟨h.1, fun E w vs hvs hobjs hnext hzero hfresh hown hpre => ?_⟩
  refine (h.2 E w vs hvs hobjs hnext hzero hfresh hown hpre).mono ?_
  rintro e w' ⟨v, E', rfl, hv, hfc, hob, hnx, hz⟩
  have hr := hob 1 _ rfl
  have h0 : ∀ id, E.at_ id = none := fun id => by
    by_cases e : id = 0
    · rw [e]; exact hzero
    · exact hnext id (by omega)
  have hE : ∀ b o id, E.own b o = some id → id = 0 := fun b o id he => by
    rcases hown b o id he with h | h
    · exact h
    · cases h
  refine ⟨v, E'.frz 1, rfl, RT.frz hr hv, ⟨hfc.pre, hfc.os, hfc.tape, hfc.output, hfc.size, (fun id B hB => by rw [h0 id] at hB; cases hB), hfc.blk, fun b o hb hf => ?_, fun b o hb => Env.frz_none (hfc.fresh b o hb), fun b o he => ?_⟩, (fun id x hx => by cases hx), fun id hid => ?_, ?_⟩
  · have h1 := hfc.keep b o hb hf
    rcases hf with h2 | h2
    · rw [h2] at h1 ⊢
      exact Env.frz_none h1
    · rw [h2] at h1 ⊢
      exact Env.frz_own (by omega) h1
  · have he' : (if E'.own b o = some 1 then none else E'.own b o) = some 0 := he
    split at he'
    · cases he'
    · exact hfc.pos b o he'
  · show (if id = 1 then none else E'.at_ id) = none
    split
    · rfl
    · exact hnx id (by omega)
  · show (if 0 = 1 then none else E'.at_ 0) = none
    exact hz
theorem toPrsF_tc (l : List Pr) (h : l.length ≤ 1048576) : TC Try.prog 128 [ro 2 (l.map Pr.tr)] [] 1 (ro 2 (l.map Pr.tr)) [] 1 := by
  have := tc_frz1 (toPrs_tc l h)
  simpa [TV.frz, TV.frz1, CV.frz] using this
theorem toSssF_tc (l : List Ss) (h : l.length ≤ 1048576) : TC Try.prog 129 [ro 4 (l.map Ss.tr)] [] 1 (ro 4 (l.map Ss.tr)) [] 1 := by
  have := tc_frz1 (toSss_tc l h)
  simpa [TV.frz, TV.frz1, CV.frz] using this
theorem toEntsF_tc (l : List Ent) (h : l.length ≤ 1048576) : TC Try.prog 44 [ro 7 (l.map Ent.tr)] [] 1 (ro 7 (l.map Ent.tr)) [] 1 := by
  have := tc_frz1 (toEnts_tc l h)
  simpa [TV.frz, TV.frz1, CV.frz] using this
def kwF_0_1 (l : List Pr) : Option TV := if l.length ≤ 1048576 then some (ro 2 (l.map Pr.tr)) else none
def kwF_0_0 (r0 : List (List Tree)) : Option TV := (unPrR r0).bind (kwF_0_1)
def kwF_0 : List TV → Option TV
  | [.c (.t (.sl 2 r0))] => kwF_0_0 r0
  | _ => none
def kwF_1_1 (l : List Ss) : Option TV := if l.length ≤ 1048576 then some (ro 4 (l.map Ss.tr)) else none
def kwF_1_0 (r0 : List (List Tree)) : Option TV := (unSsR r0).bind (kwF_1_1)
def kwF_1 : List TV → Option TV
  | [.c (.t (.sl 4 r0))] => kwF_1_0 r0
  | _ => none
def kwF_2_1 (l : List Ent) : Option TV := if l.length ≤ 1048576 then some (ro 7 (l.map Ent.tr)) else none
def kwF_2_0 (r0 : List (List Tree)) : Option TV := (unEnts r0).bind (kwF_2_1)
def kwF_2 : List TV → Option TV
  | [.c (.t (.sl 7 r0))] => kwF_2_0 r0
  | _ => none
def kwF_call (f : FuncId) (args : List TV) : Option TV := if f = 128 then orO (kwF_0 args) (kwSs.call f args) else if f = 129 then orO (kwF_1 args) (kwSs.call f args) else if f = 44 then orO (kwF_2 args) (kwSs.call f args) else kwSs.call f args
def kwF : Kn := { call := kwF_call, eqs := eqTys, callB := kwSs.callB }
attribute [go_sem] kwF_0_0 kwF_0_1 kwF_0 kwF_1_0 kwF_1_1 kwF_1 kwF_2_0 kwF_2_1 kwF_2 kwF_call kwF
theorem kwF_ok : ∀ f args res, kwF_call f args = some res → TC Try.prog f args [] 1 res [] 1 := by
  intro f args res h
  unfold kwF_call at h
  split at h
  · rename_i e; subst e
    have hh := orO_elim h
    clear h
    rcases hh with h | h
    rotate_left
    · exact kWSs.call _ _ _ h
    unfold kwF_0 at h
    split at h
    · rename_i r0; unfold kwF_0_0 at h
      obtain ⟨l, e0, h⟩ := Option.bind_eq_some_iff.1 h
      unfold kwF_0_1 at h
      split at h
      · rename_i hc; cases h; rw [unPrR_ok e0]; exact toPrsF_tc l hc
      · cases h
    · cases h
  split at h
  · rename_i e; subst e
    have hh := orO_elim h
    clear h
    rcases hh with h | h
    rotate_left
    · exact kWSs.call _ _ _ h
    unfold kwF_1 at h
    split at h
    · rename_i r0; unfold kwF_1_0 at h
      obtain ⟨l, e0, h⟩ := Option.bind_eq_some_iff.1 h
      unfold kwF_1_1 at h
      split at h
      · rename_i hc; cases h; rw [unSsR_ok e0]; exact toSssF_tc l hc
      · cases h
    · cases h
  split at h
  · rename_i e; subst e
    have hh := orO_elim h
    clear h
    rcases hh with h | h
    rotate_left
    · exact kWSs.call _ _ _ h
    unfold kwF_2 at h
    split at h
    · rename_i r0; unfold kwF_2_0 at h
      obtain ⟨l, e0, h⟩ := Option.bind_eq_some_iff.1 h
      unfold kwF_2_1 at h
      split at h
      · rename_i hc; cases h; rw [unEnts_ok e0]; exact toEntsF_tc l hc
      · cases h
    · cases h
  · exact kWSs.call f args res h
theorem kWF : KnOk Try.prog kwF := ⟨kwF_ok, eqTysOk, kWSs.callB⟩
theorem toTbF_tc (t : Tb) (h : tbOk t = true) : TC Try.prog 54 [.agg t.cv] [] 1 (.agg t.cv) [] 1 := by
  refine tc_cell tabOk Try.func54 rfl 13 rfl (Nat.le_of_ble_eq_true rfl) (by decide) [(2, some 76)] rfl (by intro id x h; cases h) ?_
  intro w0 E0
  have kOk := kWF
  have hk := tbOk_ok h
  obtain ⟨s, u⟩ := t
  simp only [Tb.cv]
  have hp := (show (s.length ≤ 1048576) = True ∧ (u.length ≤ 1048576) = True from ⟨eq_true hk.1, eq_true hk.2⟩)
  refine wk1 ?_
  refine am_retC [] rfl ?_ rfl rfl
  first | rfl | (refine go ?_; rfl)
def kwG_0_1 (t : Tb) : Option TV := if tbOk t = true then some (.agg t.cv) else none
def kwG_0_0 (r0 : List CV) : Option TV := (unTb r0).bind (kwG_0_1)
def kwG_0 : List TV → Option TV
  | [.agg r0] => kwG_0_0 r0
  | _ => none
def kwG_call (f : FuncId) (args : List TV) : Option TV := if f = 54 then orO (kwG_0 args) (kwF.call f args) else kwF.call f args
def kwG : Kn := { call := kwG_call, eqs := eqTys, callB := kwF.callB }
attribute [go_sem] kwG_0_0 kwG_0_1 kwG_0 kwG_call kwG
theorem kwG_ok : ∀ f args res, kwG_call f args = some res → TC Try.prog f args [] 1 res [] 1 := by
  intro f args res h
  unfold kwG_call at h
  split at h
  · rename_i e; subst e
    have hh := orO_elim h
    clear h
    rcases hh with h | h
    rotate_left
    · exact kWF.call _ _ _ h
    unfold kwG_0 at h
    split at h
    · rename_i r0; unfold kwG_0_0 at h
      obtain ⟨t, e0, h⟩ := Option.bind_eq_some_iff.1 h
      unfold kwG_0_1 at h
      split at h
      · rename_i hc; cases h; rw [unTb_ok e0]; exact toTbF_tc t hc
      · cases h
    · cases h
  · exact kWF.call f args res h
theorem kWG : KnOk Try.prog kwG := ⟨kwG_ok, eqTysOk, kWF.callB⟩
/-! own rows -/
def kw1_0_1 (l : List Pr) : CB := if l.length ≤ 1048576 then some (.c (.own 1 0 l.length), [(1, .arr 206 2 (l.map Pr.tr))], 2) else none
def kw1_0_0 (r0 : List (List Tree)) : CB := (unPrR r0).bind (kw1_0_1)
def kw1_0 : List TV → List (Nat × AObj) → CB
  | [.c (.t (.sl 2 r0))], [] => kw1_0_0 r0
  | _, _ => none
def kw1_1_1 (l : List Ss) : CB := if l.length ≤ 1048576 then some (.c (.own 1 0 l.length), [(1, .arr 192 4 (l.map Ss.tr))], 2) else none
def kw1_1_0 (r0 : List (List Tree)) : CB := (unSsR r0).bind (kw1_1_1)
def kw1_1 : List TV → List (Nat × AObj) → CB
  | [.c (.t (.sl 4 r0))], [] => kw1_1_0 r0
  | _, _ => none
def kw1_2_1 (l : List Ent) : CB := if l.length ≤ 1048576 then some (.c (.own 1 0 l.length), [(1, .arr 166 7 (l.map Ent.tr))], 2) else none
def kw1_2_0 (r0 : List (List Tree)) : CB := (unEnts r0).bind (kw1_2_1)
def kw1_2 : List TV → List (Nat × AObj) → CB
  | [.c (.t (.sl 7 r0))], [] => kw1_2_0 r0
  | _, _ => none
def kw1_3_1 (n : Nat) (k : Int) (l : List Pr) : CB := if n = l.length ∧ 0 ≤ k ∧ k + 2 * (l.length : Nat) ≤ 1099511627776 then some (int (k + 2 * (l.length : Nat)), [(1, .arr 206 2 ((mkPrs l.length k).map Pr.tr))], 2) else none
def kw1_3_0 (n : Nat) (k : Int) (r0 : List (List Tree)) : CB := (unPrR r0).bind (kw1_3_1 n k)
def kw1_3 : List TV → List (Nat × AObj) → CB
  | [.c (.own 1 0 n), .c (.t (.v (.int .i64 k)))], [(1, .arr 206 2 r0)] => kw1_3_0 n k r0
  | _, _ => none
def kw1_4_1 (n : Nat) (k : Int) (l : List Ss) : CB := if n = l.length ∧ 0 ≤ k ∧ k + 4 * (l.length : Nat) ≤ 1099511627776 then some (int (k + 4 * (l.length : Nat)), [(1, .arr 192 4 ((mkSss l.length k).map Ss.tr))], 2) else none
def kw1_4_0 (n : Nat) (k : Int) (r0 : List (List Tree)) : CB := (unSsR r0).bind (kw1_4_1 n k)
def kw1_4 : List TV → List (Nat × AObj) → CB
  | [.c (.own 1 0 n), .c (.t (.v (.int .i64 k)))], [(1, .arr 192 4 r0)] => kw1_4_0 n k r0
  | _, _ => none
def kw1_5_1 (n : Nat) (k : Int) (l : List Ent) : CB := if n = l.length ∧ 0 ≤ k ∧ k + 7 * (l.length : Nat) ≤ 1099511627776 then some (int (k + 7 * (l.length : Nat)), [(1, .arr 166 7 ((mkEs l.length k).map Ent.tr))], 2) else none
def kw1_5_0 (n : Nat) (k : Int) (r0 : List (List Tree)) : CB := (unEnts r0).bind (kw1_5_1 n k)
def kw1_5 : List TV → List (Nat × AObj) → CB
  | [.c (.own 1 0 n), .c (.t (.v (.int .i64 k)))], [(1, .arr 166 7 r0)] => kw1_5_0 n k r0
  | _, _ => none
def kw1_call (f : FuncId) (args : List TV) (o : List (Nat × AObj)) : CB := if f = 128 then orO (kw1_0 args o) (kwSs.callB f args o) else if f = 129 then orO (kw1_1 args o) (kwSs.callB f args o) else if f = 44 then orO (kw1_2 args o) (kwSs.callB f args o) else if f = 119 then orO (kw1_3 args o) (kwSs.callB f args o) else if f = 120 then orO (kw1_4 args o) (kwSs.callB f args o) else if f = 48 then orO (kw1_5 args o) (kwSs.callB f args o) else kwSs.callB f args o
def kw1 : Kn := { call := kwSs.call, eqs := eqTys, callB := kw1_call }
attribute [go_sem] kw1_0_0 kw1_0_1 kw1_0 kw1_1_0 kw1_1_1 kw1_1 kw1_2_0 kw1_2_1 kw1_2 kw1_3_0 kw1_3_1 kw1_3 kw1_4_0 kw1_4_1 kw1_4 kw1_5_0 kw1_5_1 kw1_5 kw1_call kw1
theorem kw1_ok : ∀ f args o res o1 n1, kw1_call f args o = some (res, o1, n1) → TC Try.prog f args o (o.length + 1) res o1 n1 := by
  intro f args o res o1 n1 h
  unfold kw1_call at h
  split at h
  · rename_i e; subst e
    have hh := orO_elim h
    clear h
    rcases hh with h | h
    rotate_left
    · exact kWSs.callB _ _ _ _ _ _ h
    unfold kw1_0 at h
    split at h
    · rename_i r0; unfold kw1_0_0 at h
      have hb0 := Option.bind_eq_some_iff.1 h
      clear h
      obtain ⟨l, e0, h⟩ := hb0
      unfold kw1_0_1 at h
      split at h
      · rename_i hc; cases h; rw [unPrR_ok e0]; exact toPrs_tc l hc
      · cases h
    · cases h
  split at h
  · rename_i e; subst e
    have hh := orO_elim h
    clear h
    rcases hh with h | h
    rotate_left
    · exact kWSs.callB _ _ _ _ _ _ h
    unfold kw1_1 at h
    split at h
    · rename_i r0; unfold kw1_1_0 at h
      have hb0 := Option.bind_eq_some_iff.1 h
      clear h
      obtain ⟨l, e0, h⟩ := hb0
      unfold kw1_1_1 at h
      split at h
      · rename_i hc; cases h; rw [unSsR_ok e0]; exact toSss_tc l hc
      · cases h
    · cases h
  split at h
  · rename_i e; subst e
    have hh := orO_elim h
    clear h
    rcases hh with h | h
    rotate_left
    · exact kWSs.callB _ _ _ _ _ _ h
    unfold kw1_2 at h
    split at h
    · rename_i r0; unfold kw1_2_0 at h
      have hb0 := Option.bind_eq_some_iff.1 h
      clear h
      obtain ⟨l, e0, h⟩ := hb0
      unfold kw1_2_1 at h
      split at h
      · rename_i hc; cases h; rw [unEnts_ok e0]; exact toEnts_tc l hc
      · cases h
    · cases h
  split at h
  · rename_i e; subst e
    have hh := orO_elim h
    clear h
    rcases hh with h | h
    rotate_left
    · exact kWSs.callB _ _ _ _ _ _ h
    unfold kw1_3 at h
    split at h
    · rename_i n k r0; unfold kw1_3_0 at h
      have hb0 := Option.bind_eq_some_iff.1 h
      clear h
      obtain ⟨l, e0, h⟩ := hb0
      unfold kw1_3_1 at h
      split at h
      · rename_i hc; cases h; rw [unPrR_ok e0]; obtain ⟨rfl, h1, h2⟩ := hc; exact markPrs_tc l k h1 h2
      · cases h
    · cases h
  split at h
  · rename_i e; subst e
    have hh := orO_elim h
    clear h
    rcases hh with h | h
    rotate_left
    · exact kWSs.callB _ _ _ _ _ _ h
    unfold kw1_4 at h
    split at h
    · rename_i n k r0; unfold kw1_4_0 at h
      have hb0 := Option.bind_eq_some_iff.1 h
      clear h
      obtain ⟨l, e0, h⟩ := hb0
      unfold kw1_4_1 at h
      split at h
      · rename_i hc; cases h; rw [unSsR_ok e0]; obtain ⟨rfl, h1, h2⟩ := hc; exact markSss_tc l k h1 h2
      · cases h
    · cases h
  split at h
  · rename_i e; subst e
    have hh := orO_elim h
    clear h
    rcases hh with h | h
    rotate_left
    · exact kWSs.callB _ _ _ _ _ _ h
    unfold kw1_5 at h
    split at h
    · rename_i n k r0; unfold kw1_5_0 at h
      have hb0 := Option.bind_eq_some_iff.1 h
      clear h
      obtain ⟨l, e0, h⟩ := hb0
      unfold kw1_5_1 at h
      split at h
      · rename_i hc; cases h; rw [unEnts_ok e0]; obtain ⟨rfl, h1, h2⟩ := hc; exact markEs_tc l k h1 h2
      · cases h
    · cases h
  · exact kWSs.callB f args o res o1 n1 h
theorem kW1 : KnOk Try.prog kw1 := ⟨kWSs.call, eqTysOk, kw1_ok⟩
theorem heldPrs_tc' (l : List Pr) (k : Int) (hm : l = mkPrs l.length k) (h0 : 0 ≤ k) (hk : k + 2 * (l.length : Nat) ≤ 1099511627776) : TC Try.prog 121 [ro 2 (l.map Pr.tr), int k] [] 1 (int (k + 2 * (l.length : Nat))) [] 1 := by
  have := heldPrs_tc l.length k h0 hk
  rw [← hm] at this
  exact this
theorem heldSss_tc' (l : List Ss) (k : Int) (hm : l = mkSss l.length k) (h0 : 0 ≤ k) (hk : k + 4 * (l.length : Nat) ≤ 1099511627776) : TC Try.prog 122 [ro 4 (l.map Ss.tr), int k] [] 1 (int (k + 4 * (l.length : Nat))) [] 1 := by
  have := heldSss_tc l.length k h0 hk
  rw [← hm] at this
  exact this
def kw1n_0_0  : Option TV := some (bool true)
def kw1n_0 : List TV → Option TV
  | [.c (.t (.v (.slice none 0 0))), .c (.t (.v (.slice none 0 0)))] => kw1n_0_0
  | _ => none
def kw1n_1_0  : Option TV := some (bool true)
def kw1n_1 : List TV → Option TV
  | [.c (.t (.v (.slice none 0 0))), .c (.t (.v (.slice none 0 0)))] => kw1n_1_0
  | _ => none
def kw1n_2_0 (k : Int) : Option TV := some (int k)
def kw1n_2 : List TV → Option TV
  | [.c (.t (.v (.slice none 0 0))), .c (.t (.v (.int .i64 k)))] => kw1n_2_0 k
  | _ => none
def kw1n_3_0 (k : Int) : Option TV := some (int k)
def kw1n_3 : List TV → Option TV
  | [.c (.t (.v (.slice none 0 0))), .c (.t (.v (.int .i64 k)))] => kw1n_3_0 k
  | _ => none
def kw1n_4_0 (k : Int) : Option TV := some (int k)
def kw1n_4 : List TV → Option TV
  | [.c (.t (.v (.slice none 0 0))), .c (.t (.v (.int .i64 k)))] => kw1n_4_0 k
  | _ => none
def kw1n_5_0 (k : Int) : Option TV := some (int k)
def kw1n_5 : List TV → Option TV
  | [.c (.t (.v (.slice none 0 0))), .c (.t (.v (.int .i64 k)))] => kw1n_5_0 k
  | _ => none
def kw1n_call (f : FuncId) (args : List TV) : Option TV := if f = 115 then orO (kw1n_0 args) (kw1.call f args) else if f = 116 then orO (kw1n_1 args) (kw1.call f args) else if f = 119 then orO (kw1n_2 args) (kw1.call f args) else if f = 120 then orO (kw1n_3 args) (kw1.call f args) else if f = 121 then orO (kw1n_4 args) (kw1.call f args) else if f = 122 then orO (kw1n_5 args) (kw1.call f args) else kw1.call f args
def kw1n : Kn := { call := kw1n_call, eqs := eqTys, callB := kw1.callB }
attribute [go_sem] kw1n_0_0 kw1n_0 kw1n_1_0 kw1n_1 kw1n_2_0 kw1n_2 kw1n_3_0 kw1n_3 kw1n_4_0 kw1n_4 kw1n_5_0 kw1n_5 kw1n_call kw1n
theorem kw1n_ok : ∀ f args res, kw1n_call f args = some res → TC Try.prog f args [] 1 res [] 1 := by
  intro f args res h
  unfold kw1n_call at h
  split at h
  · rename_i e; subst e
    have hh := orO_elim h
    clear h
    rcases hh with h | h
    rotate_left
    · exact kW1.call _ _ _ h
    unfold kw1n_0 at h
    split at h
    · unfold kw1n_0_0 at h
      cases h; exact eqPr0_tc
    · cases h
  split at h
  · rename_i e; subst e
    have hh := orO_elim h
    clear h
    rcases hh with h | h
    rotate_left
    · exact kW1.call _ _ _ h
    unfold kw1n_1 at h
    split at h
    · unfold kw1n_1_0 at h
      cases h; exact eqSs0_tc
    · cases h
  split at h
  · rename_i e; subst e
    have hh := orO_elim h
    clear h
    rcases hh with h | h
    rotate_left
    · exact kW1.call _ _ _ h
    unfold kw1n_2 at h
    split at h
    · rename_i k; unfold kw1n_2_0 at h
      cases h; exact markPr0_tc k
    · cases h
  split at h
  · rename_i e; subst e
    have hh := orO_elim h
    clear h
    rcases hh with h | h
    rotate_left
    · exact kW1.call _ _ _ h
    unfold kw1n_3 at h
    split at h
    · rename_i k; unfold kw1n_3_0 at h
      cases h; exact markSs0_tc k
    · cases h
  split at h
  · rename_i e; subst e
    have hh := orO_elim h
    clear h
    rcases hh with h | h
    rotate_left
    · exact kW1.call _ _ _ h
    unfold kw1n_4 at h
    split at h
    · rename_i k; unfold kw1n_4_0 at h
      cases h; exact heldPr0_tc k
    · cases h
  split at h
  · rename_i e; subst e
    have hh := orO_elim h
    clear h
    rcases hh with h | h
    rotate_left
    · exact kW1.call _ _ _ h
    unfold kw1n_5 at h
    split at h
    · rename_i k; unfold kw1n_5_0 at h
      cases h; exact heldSs0_tc k
    · cases h
  · exact kW1.call f args res h
theorem kW1n : KnOk Try.prog kw1n := ⟨kw1n_ok, eqTysOk, kW1.callB⟩
def kw2_0_1 (n : Int) (l : List Pr) : Option TV := if l.length ≤ maxLen then some (int (szPrsF l n)) else none
def kw2_0_0 (n : Int) (r0 : List (List Tree)) : Option TV := (unPrR r0).bind (kw2_0_1 n)
def kw2_0 : List TV → Option TV
  | [.c (.t (.sl 2 r0)), .c (.t (.v (.int .i64 n)))] => kw2_0_0 n r0
  | _ => none
def kw2_1_1 (n : Int) (l : List Ss) : Option TV := if l.length ≤ maxLen then some (int (szSssF l n)) else none
def kw2_1_0 (n : Int) (r0 : List (List Tree)) : Option TV := (unSsR r0).bind (kw2_1_1 n)
def kw2_1 : List TV → Option TV
  | [.c (.t (.sl 4 r0)), .c (.t (.v (.int .i64 n)))] => kw2_1_0 n r0
  | _ => none
def kw2_2_2 (l : List Pr) (r : List Pr) : Option TV := if l.length ≤ 1048576 then some (bool (decide (l = r))) else none
def kw2_2_1 (r1 : List (List Tree)) (l : List Pr) : Option TV := (unPrR r1).bind (kw2_2_2 l)
def kw2_2_0 (r0 : List (List Tree)) (r1 : List (List Tree)) : Option TV := (unPrR r0).bind (kw2_2_1 r1)
def kw2_2 : List TV → Option TV
  | [.c (.t (.sl 2 r0)), .c (.t (.sl 2 r1))] => kw2_2_0 r0 r1
  | _ => none
def kw2_3_2 (l : List Ss) (r : List Ss) : Option TV := if l.length ≤ 1048576 then some (bool (decide (l = r))) else none
def kw2_3_1 (r1 : List (List Tree)) (l : List Ss) : Option TV := (unSsR r1).bind (kw2_3_2 l)
def kw2_3_0 (r0 : List (List Tree)) (r1 : List (List Tree)) : Option TV := (unSsR r0).bind (kw2_3_1 r1)
def kw2_3 : List TV → Option TV
  | [.c (.t (.sl 4 r0)), .c (.t (.sl 4 r1))] => kw2_3_0 r0 r1
  | _ => none
def kw2_4_2 (l : List Ent) (r : List Ent) : Option TV := if l.length ≤ 1048576 then some (bool (decide (l = r))) else none
def kw2_4_1 (r1 : List (List Tree)) (l : List Ent) : Option TV := (unEnts r1).bind (kw2_4_2 l)
def kw2_4_0 (r0 : List (List Tree)) (r1 : List (List Tree)) : Option TV := (unEnts r0).bind (kw2_4_1 r1)
def kw2_4 : List TV → Option TV
  | [.c (.t (.sl 7 r0)), .c (.t (.sl 7 r1))] => kw2_4_0 r0 r1
  | _ => none
def kw2_5_1 (k : Int) (l : List Pr) : Option TV := if l = mkPrs l.length k ∧ 0 ≤ k ∧ k + 2 * (l.length : Nat) ≤ 1099511627776 then some (int (k + 2 * (l.length : Nat))) else none
def kw2_5_0 (k : Int) (r0 : List (List Tree)) : Option TV := (unPrR r0).bind (kw2_5_1 k)
def kw2_5 : List TV → Option TV
  | [.c (.t (.sl 2 r0)), .c (.t (.v (.int .i64 k)))] => kw2_5_0 k r0
  | _ => none
def kw2_6_1 (k : Int) (l : List Ss) : Option TV := if l = mkSss l.length k ∧ 0 ≤ k ∧ k + 4 * (l.length : Nat) ≤ 1099511627776 then some (int (k + 4 * (l.length : Nat))) else none
def kw2_6_0 (k : Int) (r0 : List (List Tree)) : Option TV := (unSsR r0).bind (kw2_6_1 k)
def kw2_6 : List TV → Option TV
  | [.c (.t (.sl 4 r0)), .c (.t (.v (.int .i64 k)))] => kw2_6_0 k r0
  | _ => none
def kw2_call (f : FuncId) (args : List TV) : Option TV := if f = 123 then orO (kw2_0 args) (kw1n.call f args) else if f = 124 then orO (kw2_1 args) (kw1n.call f args) else if f = 115 then orO (kw2_2 args) (kw1n.call f args) else if f = 116 then orO (kw2_3 args) (kw1n.call f args) else if f = 47 then orO (kw2_4 args) (kw1n.call f args) else if f = 121 then orO (kw2_5 args) (kw1n.call f args) else if f = 122 then orO (kw2_6 args) (kw1n.call f args) else kw1n.call f args
def kw2 : Kn := { call := kw2_call, eqs := eqTys, callB := kw1n.callB }
attribute [go_sem] kw2_0_0 kw2_0_1 kw2_0 kw2_1_0 kw2_1_1 kw2_1 kw2_2_0 kw2_2_1 kw2_2_2 kw2_2 kw2_3_0 kw2_3_1 kw2_3_2 kw2_3 kw2_4_0 kw2_4_1 kw2_4_2 kw2_4 kw2_5_0 kw2_5_1 kw2_5 kw2_6_0 kw2_6_1 kw2_6 kw2_call kw2
theorem kw2_ok : ∀ f args res, kw2_call f args = some res → TC Try.prog f args [] 1 res [] 1 := by
  intro f args res h
  unfold kw2_call at h
  split at h
  · rename_i e; subst e
    have hh := orO_elim h
    clear h
    rcases hh with h | h
    rotate_left
    · exact kW1n.call _ _ _ h
    unfold kw2_0 at h
    split at h
    · rename_i r0 n; unfold kw2_0_0 at h
      obtain ⟨l, e0, h⟩ := Option.bind_eq_some_iff.1 h
      unfold kw2_0_1 at h
      split at h
      · rename_i hc; cases h; rw [unPrR_ok e0]; exact szPrs_tc l n hc
      · cases h
    · cases h
  split at h
  · rename_i e; subst e
    have hh := orO_elim h
    clear h
    rcases hh with h | h
    rotate_left
    · exact kW1n.call _ _ _ h
    unfold kw2_1 at h
    split at h
    · rename_i r0 n; unfold kw2_1_0 at h
      obtain ⟨l, e0, h⟩ := Option.bind_eq_some_iff.1 h
      unfold kw2_1_1 at h
      split at h
      · rename_i hc; cases h; rw [unSsR_ok e0]; exact szSss_tc l n hc
      · cases h
    · cases h
  split at h
  · rename_i e; subst e
    have hh := orO_elim h
    clear h
    rcases hh with h | h
    rotate_left
    · exact kW1n.call _ _ _ h
    unfold kw2_2 at h
    split at h
    · rename_i r0 r1; unfold kw2_2_0 at h
      obtain ⟨l, e0, h⟩ := Option.bind_eq_some_iff.1 h
      unfold kw2_2_1 at h
      obtain ⟨r, e1, h⟩ := Option.bind_eq_some_iff.1 h
      unfold kw2_2_2 at h
      split at h
      · rename_i hc; cases h; rw [unPrR_ok e0, unPrR_ok e1]; exact eqPrs_tc l r hc
      · cases h
    · cases h
  split at h
  · rename_i e; subst e
    have hh := orO_elim h
    clear h
    rcases hh with h | h
    rotate_left
    · exact kW1n.call _ _ _ h
    unfold kw2_3 at h
    split at h
    · rename_i r0 r1; unfold kw2_3_0 at h
      obtain ⟨l, e0, h⟩ := Option.bind_eq_some_iff.1 h
      unfold kw2_3_1 at h
      obtain ⟨r, e1, h⟩ := Option.bind_eq_some_iff.1 h
      unfold kw2_3_2 at h
      split at h
      · rename_i hc; cases h; rw [unSsR_ok e0, unSsR_ok e1]; exact eqSss_tc l r hc
      · cases h
    · cases h
  split at h
  · rename_i e; subst e
    have hh := orO_elim h
    clear h
    rcases hh with h | h
    rotate_left
    · exact kW1n.call _ _ _ h
    unfold kw2_4 at h
    split at h
    · rename_i r0 r1; unfold kw2_4_0 at h
      obtain ⟨l, e0, h⟩ := Option.bind_eq_some_iff.1 h
      unfold kw2_4_1 at h
      obtain ⟨r, e1, h⟩ := Option.bind_eq_some_iff.1 h
      unfold kw2_4_2 at h
      split at h
      · rename_i hc; cases h; rw [unEnts_ok e0, unEnts_ok e1]; exact eqEnts_tc l r hc
      · cases h
    · cases h
  split at h
  · rename_i e; subst e
    have hh := orO_elim h
    clear h
    rcases hh with h | h
    rotate_left
    · exact kW1n.call _ _ _ h
    unfold kw2_5 at h
    split at h
    · rename_i r0 k; unfold kw2_5_0 at h
      obtain ⟨l, e0, h⟩ := Option.bind_eq_some_iff.1 h
      unfold kw2_5_1 at h
      split at h
      · rename_i hc; cases h; rw [unPrR_ok e0]; exact heldPrs_tc' l k hc.1 hc.2.1 hc.2.2
      · cases h
    · cases h
  split at h
  · rename_i e; subst e
    have hh := orO_elim h
    clear h
    rcases hh with h | h
    rotate_left
    · exact kW1n.call _ _ _ h
    unfold kw2_6 at h
    split at h
    · rename_i r0 k; unfold kw2_6_0 at h
      obtain ⟨l, e0, h⟩ := Option.bind_eq_some_iff.1 h
      unfold kw2_6_1 at h
      split at h
      · rename_i hc; cases h; rw [unSsR_ok e0]; exact heldSss_tc' l k hc.1 hc.2.1 hc.2.2
      · cases h
    · cases h
  · exact kW1n.call f args res h
theorem kW2 : KnOk Try.prog kw2 := ⟨kw2_ok, eqTysOk, kW1n.callB⟩
def tbBig (t : Tb) : Bool := decide (t.ps.length ≤ maxLen ∧ t.ss.length ≤ maxLen)
theorem tbBig_ok {t : Tb} (h : tbBig t = true) : t.ps.length ≤ maxLen ∧ t.ss.length ≤ maxLen := by simpa [tbBig] using h
def szTbF (t : Tb) (left : Int) : Int := if szPrsF t.ps left < 0 then -1 else if szSssF t.ss (szPrsF t.ps left) < 0 then -1 else szSssF t.ss (szPrsF t.ps left)
theorem szTb_tc (t : Tb) (left : Int) (h : tbBig t = true) : TC Try.prog 51 [.agg t.cv, int left] [] 1 (int (szTbF t left)) [] 1 := by
  refine tc_intro Try.func51 rfl 18 rfl (Nat.le_of_ble_eq_true rfl) (by decide) [4] rfl (by intro id x h; cases h) ?_
  intro w0 E0
  have kOk := kW2
  have hk := tbBig_ok h
  obtain ⟨s, u⟩ := t
  simp only [Tb.cv]
  have hp := (show (s.length ≤ maxLen) = True ∧ (u.length ≤ maxLen) = True from ⟨eq_true hk.1, eq_true hk.2⟩)
  repeat' (fail_if_success (with_reducible apply amR_id)); first
    | (refine guardP_mk (fun h => ?_) (fun h => ?_) <;> (refine go1 ?_; try simp only [decide_eq_true_eq, decide_eq_false_iff_not, Bool.not_true, Bool.not_false, Bool.not_eq_true', Bool.not_eq_false', beq_iff_eq, bne_iff_ne, beq_eq_false_iff_ne, bne_eq_false_iff_eq, ne_eq, Bool.false_eq_true, reduceCtorEq] at h))
    | (refine hK _ ?_; clear hK K Q1)
    | (refine ⟨by first | omega | (simp only [List.length_map, List.length_append, List.length_cons, List.length_nil, List.length_replicate, List.length_drop, List.length_take]; omega), by unfold maxLen; first | omega | (simp only [List.length_map, List.length_append, List.length_cons, List.length_nil, List.length_replicate, List.length_drop, List.length_take]; omega), ?_⟩)
    | (refine hK _ _ rfl ?_; clear hK K; try refine go1 ?_)
    | (refine am_retP rfl ?_ rfl; first | refine go ?_ | rfl)
    | (refine am_retC [] rfl ?_ rfl rfl; first | refine go ?_ | rfl)
    | (refine wkq ?_)
    | (refine am_rs tabOk kOk rfl fun K Q1 hK => ?_; refine go1 ?_)
    | (refine am_reg tabOk kOk rfl fun K Q1 hK => ?_; refine go1 ?_)
    | (refine am_ds mixed tabOk kOk rfl rfl fun K hK => ?_; refine go1 ?_)
    | (refine am_dreg mixed tabOk kOk rfl rfl fun K hK => ?_; refine go1 ?_)
  all_goals (simp only [szTbF]; simp (disch := omega) only [if_pos, if_neg]; try rfl)
theorem toTb_tc (t : Tb) (h : tbOk t = true) : TC Try.prog 54 [.agg t.cv] [] 1 (.agg [.own 1 0 t.ps.length, .own 2 0 t.ss.length]) t.rows 3 := by
  simp only [Tb.rows]
  refine tc_cell tabOk Try.func54 rfl 13 rfl (Nat.le_of_ble_eq_true rfl) (by decide) [(2, some 76)] rfl (by intro id x h; cases h) ?_
  intro w0 E0
  have kOk := kW2
  have hk := tbOk_ok h
  obtain ⟨s, u⟩ := t
  simp only [Tb.cv]
  have hp := (show (s.length ≤ 1048576) = True ∧ (u.length ≤ 1048576) = True from ⟨eq_true hk.1, eq_true hk.2⟩)
  refine wk1 ?_
  refine am_retC [(4, 1), (5, 2)] rfl ?_ rfl rfl
  first | rfl | (refine go ?_; rfl)
theorem eqTb_tc (t u : Tb) (h : tbOk t = true) : TC Try.prog 46 [.agg t.cv, .agg u.cv] [] 1 (bool (decide (t = u))) [] 1 := by
  refine tc_intro Try.func46 rfl 17 rfl (Nat.le_of_ble_eq_true rfl) (by decide) [4] rfl (by intro id x h; cases h) ?_
  intro w0 E0
  have kOk := kW2
  have hk := tbOk_ok h
  obtain ⟨s, x⟩ := t
  obtain ⟨s', x'⟩ := u
  simp only [Tb.cv]
  have hp := (show (s.length ≤ 1048576) = True ∧ (x.length ≤ 1048576) = True from ⟨eq_true hk.1, eq_true hk.2⟩)
  repeat' (fail_if_success (with_reducible apply amR_id)); first
    | (refine guardP_mk (fun h => ?_) (fun h => ?_) <;> (refine go1 ?_; try simp only [decide_eq_true_eq, decide_eq_false_iff_not, Bool.not_true, Bool.not_false, Bool.not_eq_true', Bool.not_eq_false', beq_iff_eq, bne_iff_ne, beq_eq_false_iff_ne, bne_eq_false_iff_eq, ne_eq, Bool.false_eq_true, reduceCtorEq] at h))
    | (refine hK _ ?_; clear hK K Q1)
    | (refine ⟨by first | omega | (simp only [List.length_map, List.length_append, List.length_cons, List.length_nil, List.length_replicate, List.length_drop, List.length_take]; omega), by unfold maxLen; first | omega | (simp only [List.length_map, List.length_append, List.length_cons, List.length_nil, List.length_replicate, List.length_drop, List.length_take]; omega), ?_⟩)
    | (refine hK _ _ rfl ?_; clear hK K; try refine go1 ?_)
    | (refine am_retP rfl ?_ rfl; first | refine go ?_ | rfl)
    | (refine am_retC [] rfl ?_ rfl rfl; first | refine go ?_ | rfl)
    | (refine wkq ?_)
    | (refine am_rs tabOk kOk rfl fun K Q1 hK => ?_; refine go1 ?_)
    | (refine am_reg tabOk kOk rfl fun K Q1 hK => ?_; refine go1 ?_)
    | (refine am_ds mixed tabOk kOk rfl rfl fun K hK => ?_; refine go1 ?_)
    | (refine am_dreg mixed tabOk kOk rfl rfl fun K hK => ?_; refine go1 ?_)
  all_goals simp_all
theorem eqTb0_tc : TC Try.prog 46 [.agg [nl, nl], .agg [nl, nl]] [] 1 (bool true) [] 1 := by
  refine tc_intro Try.func46 rfl 17 rfl (Nat.le_of_ble_eq_true rfl) (by decide) [4] rfl (by intro id x h; cases h) ?_
  intro w0 E0
  have kOk := kW2
  have hp := True.intro
  refine wk1 ?_
  refine am_retP rfl ?_ rfl
  first | rfl | (refine go ?_; rfl)
/-- A table marked. -/
def mkTb (n m : Nat) (k : Int) : Tb := ⟨mkPrs n k, mkSss m (k + 2 * (n : Nat))⟩
def tbK (t : Tb) (k : Int) : Int := k + 2 * (t.ps.length : Nat) + 4 * (t.ss.length : Nat)
theorem markTb_tc (t : Tb) (k : Int) (h0 : 0 ≤ k) (hk : tbK t k ≤ 1099511627776) : TC Try.prog 49 [.agg [.own 1 0 t.ps.length, .own 2 0 t.ss.length], int k] t.rows 3 (int (tbK t k)) (mkTb t.ps.length t.ss.length k).rows 3 := by
  unfold tbK at hk
  simp only [Tb.rows, mkTb, tbK]
  refine tc_intro Try.func49 rfl 14 rfl (Nat.le_of_ble_eq_true rfl) (by decide) [4] rfl dom2 ?_
  intro w0 E0
  have kOk := kW2
  obtain ⟨s, x⟩ := t
  have hp := (show (0 ≤ k) = True ∧ (0 ≤ k + 2 * (s.length : Int)) = True ∧ (k + 2 * (s.length : Int) ≤ 1099511627776) = True ∧ (k + 2 * (s.length : Int) + 4 * (x.length : Int) ≤ 1099511627776) = True from
    ⟨eq_true h0, eq_true (by omega), eq_true (by simp only at hk; omega), eq_true (by simpa using hk)⟩)
  refine wk1 ?_
  refine am_retB [(1, 1), (2, 2)] rfl ?_ ?_ rfl <;> first | rfl | (refine go ?_; rfl)
theorem markTb0_tc (k : Int) : TC Try.prog 49 [.agg [nl, nl], int k] [] 1 (int k) [] 1 := by
  refine tc_intro Try.func49 rfl 14 rfl (Nat.le_of_ble_eq_true rfl) (by decide) [4] rfl (by intro id x h; cases h) ?_
  intro w0 E0
  have kOk := kW2
  have hp := True.intro
  refine wk1 ?_
  refine am_retP rfl ?_ rfl
  first | rfl | (refine go ?_; rfl)
theorem heldTb_tc (t : Tb) (k : Int) (hm : t = mkTb t.ps.length t.ss.length k) (h0 : 0 ≤ k) (hk : tbK t k ≤ 1099511627776) : TC Try.prog 50 [.agg t.cv, int k] [] 1 (int (tbK t k)) [] 1 := by
  unfold tbK at hk
  simp only [tbK]
  refine tc_intro Try.func50 rfl 18 rfl (Nat.le_of_ble_eq_true rfl) (by decide) [4] rfl (by intro id x h; cases h) ?_
  intro w0 E0
  have kOk := kW2
  obtain ⟨s, x⟩ := t
  simp only [Tb.cv]
  simp only at hk hm
  have m1 : s = mkPrs s.length k := congrArg Tb.ps hm
  have m2 : x = mkSss x.length (k + 2 * (s.length : Int)) := congrArg Tb.ss hm
  have hp := (show (s = mkPrs s.length k) = True ∧ (x = mkSss x.length (k + 2 * (s.length : Int))) = True ∧ (0 ≤ k) = True ∧ (0 ≤ k + 2 * (s.length : Int)) = True ∧ (k + 2 * (s.length : Int) ≤ 1099511627776) = True ∧ (k + 2 * (s.length : Int) + 4 * (x.length : Int) ≤ 1099511627776) = True ∧ (k + 2 * (s.length : Int) < 0) = False ∧ (k + 2 * (s.length : Int) + 4 * (x.length : Int) < 0) = False from
    ⟨eq_true m1, eq_true m2, eq_true h0, eq_true (by omega), eq_true (by omega), eq_true hk, eq_false (by omega), eq_false (by omega)⟩)
  clear m1 m2 hm
  refine wk1 ?_
  refine am_retP rfl ?_ rfl
  first | rfl | (refine go ?_; rfl)
theorem heldTb0_tc (k : Int) (h0 : 0 ≤ k) : TC Try.prog 50 [.agg [nl, nl], int k] [] 1 (int k) [] 1 := by
  refine tc_intro Try.func50 rfl 18 rfl (Nat.le_of_ble_eq_true rfl) (by decide) [4] rfl (by intro id x h; cases h) ?_
  intro w0 E0
  have kOk := kW2
  have hp := (show (k < 0) = False from eq_false (by omega))
  refine wk1 ?_
  refine am_retP rfl ?_ rfl
  first | rfl | (refine go ?_; rfl)
end Go.Proofs.YthnpbfljoghbmaaA
