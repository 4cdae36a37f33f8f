/- Logs carried out: the law holds at every argument. -/
import Derived.Test.YthnpbfljoghbmaaCLawT
import Derived.Test.YthnpbfljoghbmaaCSzE
namespace Go.Proofs.YthnpbfljoghbmaaA
open Go.Proofs
set_option autoImplicit false
set_option linter.unusedVariables false
set_option linter.unusedSimpArgs false
set_option maxRecDepth 4000
attribute [go_sem] mkPrs_len mkSss_len mkEs_len mkTb tbK
@[go_sem] theorem flatPrs (l : List Pr) : flatRows (l.map Pr.tr) = true := flatRows_map (fun _ => rfl) l
@[go_sem] theorem flatSss (l : List Ss) : flatRows (l.map Ss.tr) = true := flatRows_map (fun _ => rfl) l
@[go_sem] theorem flatEnts (l : List Ent) : flatRows (l.map Ent.tr) = true := flatRows_map (fun _ => rfl) l
abbrev LR := TV × List (Nat × AObj) × Nat
def lgR (l : List Ent) (n : Int) : LR := if logOk l = true then (.agg [.own 1 0 (stL (l.take (cutN n l.length))).ps.length, .own 2 0 (stL (l.take (cutN n l.length))).ss.length], [(1, .arr 206 2 ((stL (l.take (cutN n l.length))).ps.map Pr.tr)), (2, .arr 192 4 ((stL (l.take (cutN n l.length))).ss.map Ss.tr))], 3) else (.agg [.t (.v (.slice none 0 0)), .t (.v (.slice none 0 0))], [], 1)
def lgV (l : List Ent) (n : Int) : TV := if logOk l = true then .agg [.t (.sl 2 ((stL (l.take (cutN n l.length))).ps.map Pr.tr)), .t (.sl 4 ((stL (l.take (cutN n l.length))).ss.map Ss.tr))] else .agg [.t (.v (.slice none 0 0)), .t (.v (.slice none 0 0))]
theorem lgR_tc (l : List Ent) (n : Int) : TC Try.prog 45 [ro 7 (l.map Ent.tr), int n] [] 1 (lgR l n).1 (lgR l n).2.1 (lgR l n).2.2 := by
  unfold lgR
  split
  · rename_i h; exact lgI_tc l n h
  · rename_i h; exact lgI0_tc l n (by simpa using h)
theorem lgV_tc (l : List Ent) (n : Int) : TC Try.prog 43 [ro 7 (l.map Ent.tr), int n] [] 1 (lgV l n) [] 1 := by
  unfold lgV
  split
  · rename_i h; exact lgS_tc l n h
  · rename_i h; exact lgS0_tc l n (by simpa using h)
attribute [go_sem] lgR lgV
def kwX_0_1 (n : Int) (l : List Ent) : Option TV := some (lgV l n)
def kwX_0_0 (n : Int) (r0 : List (List Tree)) : Option TV := (unEnts r0).bind (kwX_0_1 n)
def kwX_0 : List TV → Option TV
  | [.c (.t (.sl 7 r0)), .c (.t (.v (.int .i64 n)))] => kwX_0_0 n r0
  | _ => none
def kwX_call (f : FuncId) (args : List TV) : Option TV := if f = 43 then orO (kwX_0 args) (kwG.call f args) else kwG.call f args
def kwX : Kn := { call := kwX_call, eqs := eqTys, callB := kwG.callB }
attribute [go_sem] kwX_0_0 kwX_0_1 kwX_0 kwX_call kwX
theorem kwX_ok : ∀ f args res, kwX_call f args = some res → TC Try.prog f args [] 1 res [] 1 := by
  intro f args res h
  unfold kwX_call at h
  split at h
  · rename_i e; subst e
    have hh := orO_elim h
    clear h
    rcases hh with h | h
    rotate_left
    · exact kWG.call _ _ _ h
    unfold kwX_0 at h
    split at h
    · rename_i r0 n; unfold kwX_0_0 at h
      obtain ⟨l, e0, h⟩ := Option.bind_eq_some_iff.1 h
      unfold kwX_0_1 at h
      cases h; rw [unEnts_ok e0]; exact lgV_tc l n
    · cases h
  · exact kWG.call f args res h
theorem kWX : KnOk Try.prog kwX := ⟨kwX_ok, eqTysOk, kWG.callB⟩
def kw3n_0_1 (n : Int) (l : List Ent) : Option TV := if l.length ≤ maxLen then some (int (szEsF l n)) else none
def kw3n_0_0 (n : Int) (r0 : List (List Tree)) : Option TV := (unEnts r0).bind (kw3n_0_1 n)
def kw3n_0 : List TV → Option TV
  | [.c (.t (.sl 7 r0)), .c (.t (.v (.int .i64 n)))] => kw3n_0_0 n r0
  | _ => none
def kw3n_1_1 (n : Int) (t : Tb) : Option TV := if tbBig t = true then some (int (szTbF t n)) else none
def kw3n_1_0 (n : Int) (r0 : List CV) : Option TV := (unTb r0).bind (kw3n_1_1 n)
def kw3n_1 : List TV → Option TV
  | [.agg r0, .c (.t (.v (.int .i64 n)))] => kw3n_1_0 n r0
  | _ => none
def kw3n_2_2 (t : Tb) (u : Tb) : Option TV := if tbOk t = true then some (bool (decide (t = u))) else none
def kw3n_2_1 (r1 : List CV) (t : Tb) : Option TV := (unTb r1).bind (kw3n_2_2 t)
def kw3n_2_0 (r0 : List CV) (r1 : List CV) : Option TV := (unTb r0).bind (kw3n_2_1 r1)
def kw3n_2 : List TV → Option TV
  | [.agg r0, .agg r1] => kw3n_2_0 r0 r1
  | _ => none
def kw3n_3_1 (k : Int) (t : Tb) : Option TV := if t = mkTb t.ps.length t.ss.length k ∧ 0 ≤ k ∧ tbK t k ≤ 1099511627776 then some (int (tbK t k)) else none
def kw3n_3_0 (k : Int) (r0 : List CV) : Option TV := (unTb r0).bind (kw3n_3_1 k)
def kw3n_3 : List TV → Option TV
  | [.agg r0, .c (.t (.v (.int .i64 k)))] => kw3n_3_0 k r0
  | _ => none
def kw3n_call (f : FuncId) (args : List TV) : Option TV := if f = 42 then orO (kw3n_0 args) (kw2.call f args) else if f = 51 then orO (kw3n_1 args) (kw2.call f args) else if f = 46 then orO (kw3n_2 args) (kw2.call f args) else if f = 50 then orO (kw3n_3 args) (kw2.call f args) else kw2.call f args
def kw3n : Kn := { call := kw3n_call, eqs := eqTys, callB := kw2.callB }
attribute [go_sem] kw3n_0_0 kw3n_0_1 kw3n_0 kw3n_1_0 kw3n_1_1 kw3n_1 kw3n_2_0 kw3n_2_1 kw3n_2_2 kw3n_2 kw3n_3_0 kw3n_3_1 kw3n_3 kw3n_call kw3n
theorem kw3n_ok : ∀ f args res, kw3n_call f args = some res → TC Try.prog f args [] 1 res [] 1 := by
  intro f args res h
  unfold kw3n_call at h
  split at h
  · rename_i e; subst e
    have hh := orO_elim h
    clear h
    rcases hh with h | h
    rotate_left
    · exact kW2.call _ _ _ h
    unfold kw3n_0 at h
    split at h
    · rename_i r0 n; unfold kw3n_0_0 at h
      obtain ⟨l, e0, h⟩ := Option.bind_eq_some_iff.1 h
      unfold kw3n_0_1 at h
      split at h
      · rename_i hc; cases h; rw [unEnts_ok e0]; exact szEs_tc l n hc
      · cases h
    · cases h
  split at h
  · rename_i e; subst e
    have hh := orO_elim h
    clear h
    rcases hh with h | h
    rotate_left
    · exact kW2.call _ _ _ h
    unfold kw3n_1 at h
    split at h
    · rename_i r0 n; unfold kw3n_1_0 at h
      obtain ⟨t, e0, h⟩ := Option.bind_eq_some_iff.1 h
      unfold kw3n_1_1 at h
      split at h
      · rename_i hc; cases h; rw [unTb_ok e0]; exact szTb_tc t n hc
      · cases h
    · cases h
  split at h
  · rename_i e; subst e
    have hh := orO_elim h
    clear h
    rcases hh with h | h
    rotate_left
    · exact kW2.call _ _ _ h
    unfold kw3n_2 at h
    split at h
    · rename_i r0 r1; unfold kw3n_2_0 at h
      obtain ⟨t, e0, h⟩ := Option.bind_eq_some_iff.1 h
      unfold kw3n_2_1 at h
      obtain ⟨u, e1, h⟩ := Option.bind_eq_some_iff.1 h
      unfold kw3n_2_2 at h
      split at h
      · rename_i hc; cases h; rw [unTb_ok e0, unTb_ok e1]; exact eqTb_tc t u hc
      · cases h
    · cases h
  split at h
  · rename_i e; subst e
    have hh := orO_elim h
    clear h
    rcases hh with h | h
    rotate_left
    · exact kW2.call _ _ _ h
    unfold kw3n_3 at h
    split at h
    · rename_i r0 k; unfold kw3n_3_0 at h
      obtain ⟨t, e0, h⟩ := Option.bind_eq_some_iff.1 h
      unfold kw3n_3_1 at h
      split at h
      · rename_i hc; cases h; rw [unTb_ok e0]; exact heldTb_tc t k hc.1 hc.2.1 hc.2.2
      · cases h
    · cases h
  · exact kW2.call f args res h
theorem kW3n : KnOk Try.prog kw3n := ⟨kw3n_ok, eqTysOk, kW2.callB⟩
def kw3m_0_0  : CB := some (bool true, [], 1)
def kw3m_0 : List TV → List (Nat × AObj) → CB
  | [.agg [.t (.v (.slice none 0 0)), .t (.v (.slice none 0 0))], .agg [.t (.v (.slice none 0 0)), .t (.v (.slice none 0 0))]], [] => kw3m_0_0
  | _, _ => none
def kw3m_1_0 (k : Int) : CB := some (int k, [], 1)
def kw3m_1 : List TV → List (Nat × AObj) → CB
  | [.agg [.t (.v (.slice none 0 0)), .t (.v (.slice none 0 0))], .c (.t (.v (.int .i64 k)))], [] => kw3m_1_0 k
  | _, _ => none
def kw3m_2_0 (k : Int) : CB := if 0 ≤ k then some (int k, [], 1) else none
def kw3m_2 : List TV → List (Nat × AObj) → CB
  | [.agg [.t (.v (.slice none 0 0)), .t (.v (.slice none 0 0))], .c (.t (.v (.int .i64 k)))], [] => kw3m_2_0 k
  | _, _ => none
def kw3m_3_1 (n : Int) (l : List Ent) : CB := some ((lgR l n).1, (lgR l n).2.1, (lgR l n).2.2)
def kw3m_3_0 (n : Int) (r0 : List (List Tree)) : CB := (unEnts r0).bind (kw3m_3_1 n)
def kw3m_3 : List TV → List (Nat × AObj) → CB
  | [.c (.t (.sl 7 r0)), .c (.t (.v (.int .i64 n)))], [] => kw3m_3_0 n r0
  | _, _ => none
def kw3m_call (f : FuncId) (args : List TV) (o : List (Nat × AObj)) : CB := if f = 46 then orO (kw3m_0 args o) (kw3n.callB f args o) else if f = 49 then orO (kw3m_1 args o) (kw3n.callB f args o) else if f = 50 then orO (kw3m_2 args o) (kw3n.callB f args o) else if f = 45 then orO (kw3m_3 args o) (kw3n.callB f args o) else kw3n.callB f args o
def kw3m : Kn := { call := kw3n.call, eqs := eqTys, callB := kw3m_call }
attribute [go_sem] kw3m_0_0 kw3m_0 kw3m_1_0 kw3m_1 kw3m_2_0 kw3m_2 kw3m_3_0 kw3m_3_1 kw3m_3 kw3m_call kw3m
theorem kw3m_ok : ∀ f args o res o1 n1, kw3m_call f args o = some (res, o1, n1) → TC Try.prog f args o (o.length + 1) res o1 n1 := by
  intro f args o res o1 n1 h
  unfold kw3m_call at h
  split at h
  · rename_i e; subst e
    have hh := orO_elim h
    clear h
    rcases hh with h | h
    rotate_left
    · exact kW3n.callB _ _ _ _ _ _ h
    unfold kw3m_0 at h
    split at h
    · unfold kw3m_0_0 at h
      cases h; exact eqTb0_tc
    · cases h
  split at h
  · rename_i e; subst e
    have hh := orO_elim h
    clear h
    rcases hh with h | h
    rotate_left
    · exact kW3n.callB _ _ _ _ _ _ h
    unfold kw3m_1 at h
    split at h
    · rename_i k; unfold kw3m_1_0 at h
      cases h; exact markTb0_tc k
    · cases h
  split at h
  · rename_i e; subst e
    have hh := orO_elim h
    clear h
    rcases hh with h | h
    rotate_left
    · exact kW3n.callB _ _ _ _ _ _ h
    unfold kw3m_2 at h
    split at h
    · rename_i k; unfold kw3m_2_0 at h
      split at h
      · rename_i hc; cases h; exact heldTb0_tc k hc
      · cases h
    · cases h
  split at h
  · rename_i e; subst e
    have hh := orO_elim h
    clear h
    rcases hh with h | h
    rotate_left
    · exact kW3n.callB _ _ _ _ _ _ h
    unfold kw3m_3 at h
    split at h
    · rename_i r0 n; unfold kw3m_3_0 at h
      have hb0 := Option.bind_eq_some_iff.1 h
      clear h
      obtain ⟨l, e0, h⟩ := hb0
      unfold kw3m_3_1 at h
      cases h; rw [unEnts_ok e0]; exact lgR_tc l n
    · cases h
  · exact kW3n.callB f args o res o1 n1 h
theorem kW3m : KnOk Try.prog kw3m := ⟨kW3n.call, eqTysOk, kw3m_ok⟩
def kw3_0_1 (t : Tb) : CB := if tbOk t = true then some (.agg [.own 1 0 t.ps.length, .own 2 0 t.ss.length], [(1, .arr 206 2 (t.ps.map Pr.tr)), (2, .arr 192 4 (t.ss.map Ss.tr))], 3) else none
def kw3_0_0 (r0 : List CV) : CB := (unTb r0).bind (kw3_0_1)
def kw3_0 : List TV → List (Nat × AObj) → CB
  | [.agg r0], [] => kw3_0_0 r0
  | _, _ => none
def kw3_1_2 (a : Nat) (b : Nat) (k : Int) (s : List Pr) (u : List Ss) : CB := if a = s.length ∧ b = u.length ∧ 0 ≤ k ∧ tbK ⟨s, u⟩ k ≤ 1099511627776 then some (int (tbK ⟨s, u⟩ k), [(1, .arr 206 2 ((mkPrs s.length k).map Pr.tr)), (2, .arr 192 4 ((mkSss u.length (k + 2 * (s.length : Nat))).map Ss.tr))], 3) else none
def kw3_1_1 (a : Nat) (b : Nat) (k : Int) (r1 : List (List Tree)) (s : List Pr) : CB := (unSsR r1).bind (kw3_1_2 a b k s)
def kw3_1_0 (a : Nat) (b : Nat) (k : Int) (r0 : List (List Tree)) (r1 : List (List Tree)) : CB := (unPrR r0).bind (kw3_1_1 a b k r1)
def kw3_1 : List TV → List (Nat × AObj) → CB
  | [.agg [.own 1 0 a, .own 2 0 b], .c (.t (.v (.int .i64 k)))], [(1, .arr 206 2 r0), (2, .arr 192 4 r1)] => kw3_1_0 a b k r0 r1
  | _, _ => none
def kw3_call (f : FuncId) (args : List TV) (o : List (Nat × AObj)) : CB := if f = 54 then orO (kw3_0 args o) (kw3m.callB f args o) else if f = 49 then orO (kw3_1 args o) (kw3m.callB f args o) else kw3m.callB f args o
def kw3 : Kn := { call := kw3m.call, eqs := eqTys, callB := kw3_call }
attribute [go_sem] kw3_0_0 kw3_0_1 kw3_0 kw3_1_0 kw3_1_1 kw3_1_2 kw3_1 kw3_call kw3
theorem kw3_ok : ∀ f args o res o1 n1, kw3_call f args o = some (res, o1, n1) → TC Try.prog f args o (o.length + 1) res o1 n1 := by
  intro f args o res o1 n1 h
  unfold kw3_call at h
  split at h
  · rename_i e; subst e
    have hh := orO_elim h
    clear h
    rcases hh with h | h
    rotate_left
    · exact kW3m.callB _ _ _ _ _ _ h
    unfold kw3_0 at h
    split at h
    · rename_i r0; unfold kw3_0_0 at h
      have hb0 := Option.bind_eq_some_iff.1 h
      clear h
      obtain ⟨t, e0, h⟩ := hb0
      unfold kw3_0_1 at h
      split at h
      · rename_i hc; cases h; rw [unTb_ok e0]; exact toTb_tc t hc
      · cases h
    · cases h
  split at h
  · rename_i e; subst e
    have hh := orO_elim h
    clear h
    rcases hh with h | h
    rotate_left
    · exact kW3m.callB _ _ _ _ _ _ h
    unfold kw3_1 at h
    split at h
    · rename_i a b k r0 r1; unfold kw3_1_0 at h
      have hb0 := Option.bind_eq_some_iff.1 h
      clear h
      obtain ⟨s, e0, h⟩ := hb0
      unfold kw3_1_1 at h
      have hb1 := Option.bind_eq_some_iff.1 h
      clear h
      obtain ⟨u, e1, h⟩ := hb1
      unfold kw3_1_2 at h
      split at h
      · rename_i hc; cases h; rw [unPrR_ok e0, unSsR_ok e1]; obtain ⟨rfl, rfl, h1, h2⟩ := hc; exact markTb_tc ⟨s, u⟩ k h1 h2
      · cases h
    · cases h
  · exact kW3m.callB f args o res o1 n1 h
theorem kW3 : KnOk Try.prog kw3 := ⟨kW3m.call, eqTysOk, kw3_ok⟩
theorem logB {l : List Ent} (h : logOk l = true) (n : Nat) : (stL (l.take n)).ps.length ≤ 256 ∧ (stL (l.take n)).ss.length ≤ 8 := by
  simp only [logOk, Bool.and_eq_true] at h
  exact ⟨(inv_log h.2 n).np, (inv_log h.2 n).ns⟩
set_option maxHeartbeats 64000000 in
theorem lawLog_tc (l : List Ent) (n : Int) (hl : l.length ≤ maxLen) : TC Try.prog 8 [ro 7 (l.map Ent.tr), int n] [] 1 (bool true) [] 1 := by
  refine tc_intro Try.func8 rfl 74 rfl (Nat.le_of_ble_eq_true rfl) (by decide) [4] rfl (by intro id x h; cases h) ?_
  intro w0 E0
  have kOk := kW3
  by_cases hs : szEsF l 1048576 < 0
  · have hp := (show (l.length ≤ maxLen) = True ∧ (szEsF l 1048576 < 0) = True from ⟨eq_true hl, eq_true hs⟩)
    refine wk1 ?_
    refine am_retP rfl ?_ rfl
    first | rfl | (refine go ?_; rfl)
  have h20 := szEs_len hl hs
  have base := (show (l.length ≤ maxLen) = True ∧ (szEsF l 1048576 < 0) = False ∧ (l.length ≤ 1048576) = True ∧ (∀ x : Int, (x != x) = false) ∧ ((0 : Int) ≤ 1) = True ∧ (1 + 7 * (l.length : Int) ≤ 1099511627776) = True ∧ (1 + 7 * (l.length : Int) < 0) = False ∧ ((1 : Int) < 0) = False ∧ (∀ x : List Ent, decide (x = x) = true) from
    ⟨eq_true hl, eq_false hs, eq_true h20, fun x => by simp, by simp, eq_true (by omega), eq_false (by omega), by simp, fun x => by simp⟩)
  cases hk : logOk l with
  | false =>
    have hp := And.intro base hk
    refine wk1 ?_
    refine am_rs tabOk kWX rfl fun K Q1 hK => ?_
    refine go1 ?_
    refine hK _ ?_
    clear hK K Q1
    refine go1 ?_
    refine wk1 ?_
    refine am_retP rfl ?_ rfl
    first | rfl | (refine go ?_; rfl)
  | true =>
    obtain ⟨n1, n2⟩ := logB hk (cutN n l.length)
    generalize hT : stL (l.take (cutN n l.length)) = T at n1 n2
    obtain ⟨s, u⟩ := T
    simp only at n1 n2
    have hp := And.intro base (show logOk l = true ∧ stL (l.take (cutN n l.length)) = ⟨s, u⟩ ∧ (s.length ≤ 1048576) = True ∧ (u.length ≤ 1048576) = True ∧ tbOk ⟨s, u⟩ = true ∧ (∀ x : Tb, decide (x = x) = true) ∧ (1 + 2 * (s.length : Int) + 4 * (u.length : Int) ≤ 1099511627776) = True ∧ (1 + 2 * (s.length : Int) + 4 * (u.length : Int) < 0) = False from
      ⟨hk, hT, eq_true (by omega), eq_true (by omega), by simp [tbOk]; omega, fun x => by simp, eq_true (by omega), eq_false (by omega)⟩)
    clear hT
    refine wk1 ?_
    refine am_rs tabOk kWX rfl fun K Q1 hK => ?_
    refine go1 ?_
    refine hK _ ?_
    clear hK K Q1
    refine go1 ?_
    refine wk1 ?_
    refine am_retP rfl ?_ rfl
    first | rfl | (refine go ?_; rfl)
end Go.Proofs.YthnpbfljoghbmaaA
