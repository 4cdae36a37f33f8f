/- Nodes: the law of their faults holds at every argument. -/
import Derived.Test.YtgalnkilcajgcaaFNode7I
import Derived.Test.YtgalnkilcajgcaaFNode7S
namespace Go.Proofs.YtgalnkilcajgcaaA
open Go.Proofs
set_option autoImplicit false
set_option linter.unusedVariables false
set_option linter.unusedSimpArgs false
set_option maxRecDepth 20000
def kn35_0_1 (n : Int) (c : Nd) : Option TV := if c.log.length ≤ maxLen then some (int (szNdF c n)) else none
def kn35_0_0 (n : Int) (r0 : List CV) : Option TV := (unNd r0).bind (kn35_0_1 n)
def kn35_0 : List TV → Option TV
  | [.agg r0, .c (.t (.v (.int .i64 n)))] => kn35_0_0 n r0
  | _ => none
def kn35_1_2 (c : Nd) (d : Nd) : Option TV := if c.log.length ≤ 1048576 ∧ c.gr.length ≤ 1048576 ∧ c.ne.length ≤ 1048576 ∧ c.ma.length ≤ 1048576 ∧ c.se.length ≤ 1048576 ∧ c.st.length ≤ 1048576 then some (bool (decide (c = d))) else none
def kn35_1_1 (r1 : List CV) (c : Nd) : Option TV := (unNd r1).bind (kn35_1_2 c)
def kn35_1_0 (r0 : List CV) (r1 : List CV) : Option TV := (unNd r0).bind (kn35_1_1 r1)
def kn35_1 : List TV → Option TV
  | [.agg r0, .agg r1] => kn35_1_0 r0 r1
  | _ => none
def kn35_2_1 (c : Nd) : Option TV := if c.log.length ≤ 1048576 ∧ c.gr.length ≤ 1048576 ∧ c.ne.length ≤ 1048576 ∧ c.ma.length ≤ 1048576 ∧ c.se.length ≤ 1048576 ∧ c.st.length ≤ 1048576 then some (int (nfF c)) else none
def kn35_2_0 (r0 : List CV) : Option TV := (unNd r0).bind (kn35_2_1)
def kn35_2 : List TV → Option TV
  | [.agg r0] => kn35_2_0 r0
  | _ => none
def kn35_3_1 (c : Nd) : Option TV := if c.log.length ≤ 1048576 ∧ c.gr.length ≤ 1048576 ∧ c.ne.length ≤ 1048576 ∧ c.ma.length ≤ 1048576 ∧ c.se.length ≤ 1048576 ∧ c.st.length ≤ 1048576 then some (int (nfF c)) else none
def kn35_3_0 (r0 : List CV) : Option TV := (unNd r0).bind (kn35_3_1)
def kn35_3 : List TV → Option TV
  | [.agg r0] => kn35_3_0 r0
  | _ => none
def kn35_call (f : FuncId) (args : List TV) : Option TV := if f = 54 then orO (kn35_0 args) (kn34.call f args) else if f = 49 then orO (kn35_1 args) (kn34.call f args) else if f = 57 then orO (kn35_2 args) (kn34.call f args) else if f = 55 then orO (kn35_3 args) (kn34.call f args) else kn34.call f args
def kn35 : Kn := { call := kn35_call, eqs := eqTys, callB := kn34.callB }
attribute [go_sem] kn35_0_0 kn35_0_1 kn35_0 kn35_1_0 kn35_1_1 kn35_1_2 kn35_1 kn35_2_0 kn35_2_1 kn35_2 kn35_3_0 kn35_3_1 kn35_3 kn35_call kn35
theorem kn35_ok : ∀ f args res, kn35_call f args = some res → TC Try.prog f args [] 1 res [] 1 := by
  intro f args res h
  unfold kn35_call at h
  split at h
  · rename_i e; subst e
    have hh := orO_elim h
    clear h
    rcases hh with h | h
    rotate_left
    · exact k34.call _ _ _ h
    unfold kn35_0 at h
    split at h
    · rename_i r0 n; unfold kn35_0_0 at h
      obtain ⟨c, e0, h⟩ := Option.bind_eq_some_iff.1 h
      unfold kn35_0_1 at h
      split at h
      · rename_i hc; cases h; rw [unNd_ok e0]; exact szNd_tc c n hc
      · cases h
    · cases h
  split at h
  · rename_i e; subst e
    have hh := orO_elim h
    clear h
    rcases hh with h | h
    rotate_left
    · exact k34.call _ _ _ h
    unfold kn35_1 at h
    split at h
    · rename_i r0 r1; unfold kn35_1_0 at h
      obtain ⟨c, e0, h⟩ := Option.bind_eq_some_iff.1 h
      unfold kn35_1_1 at h
      obtain ⟨d, e1, h⟩ := Option.bind_eq_some_iff.1 h
      unfold kn35_1_2 at h
      split at h
      · rename_i hc; cases h; rw [unNd_ok e0, unNd_ok e1]; exact eqNd_tc c d hc.1 hc.2.1 hc.2.2.1 hc.2.2.2.1 hc.2.2.2.2.1 hc.2.2.2.2.2
      · cases h
    · cases h
  split at h
  · rename_i e; subst e
    have hh := orO_elim h
    clear h
    rcases hh with h | h
    rotate_left
    · exact k34.call _ _ _ h
    unfold kn35_2 at h
    split at h
    · rename_i r0; unfold kn35_2_0 at h
      obtain ⟨c, e0, h⟩ := Option.bind_eq_some_iff.1 h
      unfold kn35_2_1 at h
      split at h
      · rename_i hc; cases h; rw [unNd_ok e0]; exact nfI_tc c hc.1 hc.2.1 hc.2.2.1 hc.2.2.2.1 hc.2.2.2.2.1 hc.2.2.2.2.2
      · cases h
    · cases h
  split at h
  · rename_i e; subst e
    have hh := orO_elim h
    clear h
    rcases hh with h | h
    rotate_left
    · exact k34.call _ _ _ h
    unfold kn35_3 at h
    split at h
    · rename_i r0; unfold kn35_3_0 at h
      obtain ⟨c, e0, h⟩ := Option.bind_eq_some_iff.1 h
      unfold kn35_3_1 at h
      split at h
      · rename_i hc; cases h; rw [unNd_ok e0]; exact nfS_tc c hc.1 hc.2.1 hc.2.2.1 hc.2.2.2.1 hc.2.2.2.2.1 hc.2.2.2.2.2
      · cases h
    · cases h
  · exact k34.call f args res h
theorem k35 : KnOk Try.prog kn35 := ⟨kn35_ok, eqTysOk, k34.callB⟩
def kn36_0_1 (c : Nd) : CB := if c.log.length ≤ 1048576 ∧ c.gr.length ≤ 1048576 ∧ c.ne.length ≤ 1048576 ∧ c.ma.length ≤ 1048576 ∧ c.se.length ≤ 1048576 ∧ c.st.length ≤ 1048576 then some (.agg [ci c.id, ci c.sz, ci c.el, ci c.be, ci c.te, ci c.vo, ci c.ro, ci c.le, ci c.co, ci c.no, ci c.de, ci c.he, .own 1 0 c.log.length, .own 2 0 c.gr.length, .own 3 0 c.ne.length, .own 4 0 c.ma.length, .own 5 0 c.se.length, .own 6 0 c.st.length], [(1, .arr 198 7 (c.log.map Ent.tr)), (2, .arr 3 1 (c.gr.map iTr)), (3, .arr 3 1 (c.ne.map iTr)), (4, .arr 3 1 (c.ma.map iTr)), (5, .arr 3 1 (c.se.map iTr)), (6, .arr 3 1 (c.st.map iTr))], 7) else none
def kn36_0_0 (r0 : List CV) : CB := (unNd r0).bind (kn36_0_1)
def kn36_0 : List TV → List (Nat × AObj) → CB
  | [.agg r0], [] => kn36_0_0 r0
  | _, _ => none
def kn36_call (f : FuncId) (args : List TV) (o : List (Nat × AObj)) : CB := if f = 56 then orO (kn36_0 args o) (kn35.callB f args o) else kn35.callB f args o
def kn36 : Kn := { call := kn35.call, eqs := eqTys, callB := kn36_call }
attribute [go_sem] kn36_0_0 kn36_0_1 kn36_0 kn36_call kn36
theorem kn36_ok : ∀ f args o res o1 n1, kn36_call f args o = some (res, o1, n1) → TC Try.prog f args o (o.length + 1) res o1 n1 := by
  intro f args o res o1 n1 h
  unfold kn36_call at h
  split at h
  · rename_i e; subst e
    have hh := orO_elim h
    clear h
    rcases hh with h | h
    rotate_left
    · exact k35.callB _ _ _ _ _ _ h
    unfold kn36_0 at h
    split at h
    · rename_i r0; unfold kn36_0_0 at h
      have hb0 := Option.bind_eq_some_iff.1 h
      clear h
      obtain ⟨c, e0, h⟩ := hb0
      unfold kn36_0_1 at h
      split at h
      · rename_i hc; cases h; rw [unNd_ok e0]; exact toNd_tc c hc.1 hc.2.1 hc.2.2.1 hc.2.2.2.1 hc.2.2.2.2.1 hc.2.2.2.2.2
      · cases h
    · cases h
  · exact k35.callB f args o res o1 n1 h
theorem k36 : KnOk Try.prog kn36 := ⟨k35.call, eqTysOk, kn36_ok⟩
abbrev Ent.ok (e : Ent) : Prop := e.m.k.size ≤ maxLen ∧ e.m.v.size ≤ maxLen ∧ e.m.o.size ≤ maxLen
theorem lft_eq {left : Int} {n : Nat} (h0 : 0 ≤ left) (h1 : left ≤ 1048576) (hn : n ≤ maxLen) : lft left n = if (n : Int) ≤ left then left - n else -1 := by
  unfold maxLen at hn
  unfold lft
  have hw : IntKind.i64.wrap (left - n) = left - n := by rw [IntKind.wrap_i64]; omega
  rw [hw]
  split <;> split <;> omega
theorem szE_le {e : Ent} {s : Int} (h0 : 0 ≤ s) (h1 : s ≤ 1048576) (ho : e.ok) : szE e s < 0 ∨ (0 ≤ szE e s ∧ szE e s ≤ s) := by
  obtain ⟨a, b, c⟩ := ho
  have ha := lft_eq h0 h1 a
  unfold szE szCmF
  by_cases h2 : (e.m.k.size : Int) ≤ s
  · rw [if_pos h2] at ha
    rw [ha]
    have hb := lft_eq (left := s - e.m.k.size) (by omega) (by omega) b
    by_cases h3 : (e.m.v.size : Int) ≤ s - e.m.k.size
    · rw [if_pos h3] at hb
      rw [hb]
      have hc := lft_eq (left := s - e.m.k.size - e.m.v.size) (by omega) (by omega) c
      rw [hc]
      (repeat' split) <;> omega
    · rw [if_neg h3] at hb
      rw [hb]
      (repeat' split) <;> omega
  · rw [if_neg h2] at ha
    rw [ha]
    (repeat' split) <;> omega
theorem szGo_le : ∀ {l : List Ent} {s : Int}, 0 ≤ s → s ≤ 1048576 → (∀ e, e ∈ l → e.ok) → szGo l s < 0 ∨ (0 ≤ szGo l s ∧ szGo l s ≤ s)
  | [], s, h0, _, _ => .inr ⟨h0, Int.le_refl s⟩
  | e :: l, s, h0, h1, ho => by
    have h2 := szE_le h0 h1 (ho e List.mem_cons_self)
    simp only [szGo]
    split
    · exact .inl (by omega)
    · rcases h2 with h2 | ⟨h2, h3⟩
      · omega
      · have := szGo_le (l := l) h2 (by omega) fun x hx => ho x (List.mem_cons_of_mem _ hx)
        omega
theorem szEsF_le {l : List Ent} {s : Int} (h0 : 0 ≤ s) (h1 : s ≤ 1048576) (hl : l.length ≤ maxLen) (ho : ∀ e, e ∈ l → e.ok) : szEsF l s < 0 ∨ (0 ≤ szEsF l s ∧ szEsF l s ≤ s ∧ (l.length : Int) ≤ s) := by
  unfold maxLen at hl
  unfold szEsF
  have hw : IntKind.i64.wrap (s - l.length) = s - l.length := by rw [IntKind.wrap_i64]; omega
  rw [hw]
  split
  · exact .inl (by omega)
  · have := szGo_le (l := l) (s := s - l.length) (by omega) (by omega) ho
    omega
theorem szIs_le {l : List Int} {s : Int} (h0 : 0 ≤ s) (h1 : s ≤ 1048576) (hl : l.length ≤ maxLen) : szIs l s < 0 ∨ (0 ≤ szIs l s ∧ szIs l s ≤ s ∧ (l.length : Int) ≤ s) := by
  unfold maxLen at hl
  unfold szIs
  have hw : IntKind.i64.wrap (s - l.length) = s - l.length := by rw [IntKind.wrap_i64]; omega
  rw [hw]
  split <;> omega
theorem szNd_lens {c : Nd} (hl : c.log.length ≤ maxLen) (ho : ∀ e, e ∈ c.log → e.ok) (h1 : c.gr.length ≤ maxLen) (h2 : c.ne.length ≤ maxLen) (h3 : c.ma.length ≤ maxLen) (h4 : c.se.length ≤ maxLen) (h5 : c.st.length ≤ maxLen) (h : ¬ szNdF c 1048576 < 0) : c.log.length ≤ 1048576 ∧ c.gr.length ≤ 1048576 ∧ c.ne.length ≤ 1048576 ∧ c.ma.length ≤ 1048576 ∧ c.se.length ≤ 1048576 ∧ c.st.length ≤ 1048576 := by
  unfold szNdF at h
  have a0 := szEsF_le (s := 1048576) (by omega) (by omega) hl ho
  generalize szEsF c.log 1048576 = s0 at h a0
  split at h
  · omega
  have a1 := szIs_le (s := s0) (by omega) (by omega) h1
  generalize szIs c.gr s0 = s1 at h a1
  split at h
  · omega
  have a2 := szIs_le (s := s1) (by omega) (by omega) h2
  generalize szIs c.ne s1 = s2 at h a2
  split at h
  · omega
  have a3 := szIs_le (s := s2) (by omega) (by omega) h3
  generalize szIs c.ma s2 = s3 at h a3
  split at h
  · omega
  have a4 := szIs_le (s := s3) (by omega) (by omega) h4
  generalize szIs c.se s3 = s4 at h a4
  split at h
  · omega
  have a5 := szIs_le (s := s4) (by omega) (by omega) h5
  generalize szIs c.st s4 = s5 at h a5
  split at h
  · omega
  omega
set_option maxHeartbeats 32000000 in
theorem lawNf_tc (c : Nd) (hok : ∀ e, e ∈ c.log → e.ok) (hl : c.log.length ≤ maxLen) (g1 : c.gr.length ≤ maxLen) (g2 : c.ne.length ≤ maxLen) (g3 : c.ma.length ≤ maxLen) (g4 : c.se.length ≤ maxLen) (g5 : c.st.length ≤ maxLen) : TC Try.prog 10 [.agg c.cv] [] 1 (bool true) [] 1 := by
  refine tc_intro Try.func10 rfl 27 rfl (Nat.le_of_ble_eq_true rfl) (by decide) [2] rfl (by intro id x h; cases h) ?_
  intro w0 E0
  have kOk := k36
  have hlens := szNd_lens (c := c) hl hok g1 g2 g3 g4 g5
  obtain ⟨id, sz, el, be, te, vo, ro, le, co, no, de, he, log, gr, ne, ma, se, st⟩ := c
  simp only at hl hlens
  simp only [Nd.cv]
  by_cases hs : szNdF ⟨id, sz, el, be, te, vo, ro, le, co, no, de, he, log, gr, ne, ma, se, st⟩ 1048576 < 0
  · have hp := (show (log.length ≤ maxLen) = True ∧ (szNdF ⟨id, sz, el, be, te, vo, ro, le, co, no, de, he, log, gr, ne, ma, se, st⟩ 1048576 < 0) = True from ⟨eq_true hl, eq_true hs⟩)
    repeat' (fail_if_success (with_reducible apply amR_id)); first
      | (refine guardP_mk (fun h => ?_) (fun h => ?_) <;> (refine go1 ?_; try simp only [decide_eq_true_eq, decide_eq_false_iff_not, Bool.not_true, Bool.not_false, Bool.not_eq_true', Bool.not_eq_false', beq_iff_eq, bne_iff_ne, beq_eq_false_iff_ne, bne_eq_false_iff_eq, ne_eq, Bool.false_eq_true, reduceCtorEq] at h))
      | (refine hK _ ?_; clear hK K Q1)
      | (refine hK _ _ rfl ?_; clear hK K; try refine go1 ?_)
      | (refine am_retP rfl ?_ rfl; first | refine go ?_ | rfl)
      | (refine am_retC [] rfl ?_ rfl rfl; first | refine go ?_ | rfl)
      | (refine wkq ?_)
      | (refine am_rs tabOk kOk rfl fun K Q1 hK => ?_; refine go1 ?_)
      | (refine am_ds mixed tabOk kOk rfl rfl fun K hK => ?_; refine go1 ?_)
      | (refine am_dreg mixed tabOk kOk rfl rfl fun K hK => ?_; refine go1 ?_)
    all_goals rfl
  · obtain ⟨i0, i1, i2, i3, i4, i5⟩ := hlens hs
    have hp := (show (log.length ≤ maxLen) = True ∧ (szNdF ⟨id, sz, el, be, te, vo, ro, le, co, no, de, he, log, gr, ne, ma, se, st⟩ 1048576 < 0) = False ∧ (log.length ≤ 1048576) = True ∧ (gr.length ≤ 1048576) = True ∧ (ne.length ≤ 1048576) = True ∧ (ma.length ≤ 1048576) = True ∧ (se.length ≤ 1048576) = True ∧ (st.length ≤ 1048576) = True ∧ (∀ x : Int, (x != x) = false) from
      ⟨eq_true hl, eq_false hs, eq_true i0, eq_true i1, eq_true i2, eq_true i3, eq_true i4, eq_true i5, fun x => by simp⟩)
    repeat' (fail_if_success (with_reducible apply amR_id)); first
      | (refine guardP_mk (fun h => ?_) (fun h => ?_) <;> (refine go1 ?_; try simp only [decide_eq_true_eq, decide_eq_false_iff_not, Bool.not_true, Bool.not_false, Bool.not_eq_true', Bool.not_eq_false', beq_iff_eq, bne_iff_ne, beq_eq_false_iff_ne, bne_eq_false_iff_eq, ne_eq, Bool.false_eq_true, reduceCtorEq] at h))
      | (refine hK _ ?_; clear hK K Q1)
      | (refine hK _ _ rfl ?_; clear hK K; try refine go1 ?_)
      | (refine am_retP rfl ?_ rfl; first | refine go ?_ | rfl)
      | (refine am_retC [] rfl ?_ rfl rfl; first | refine go ?_ | rfl)
      | (refine wkq ?_)
      | (refine am_rs tabOk kOk rfl fun K Q1 hK => ?_; refine go1 ?_)
      | (refine am_ds mixed tabOk kOk rfl rfl fun K hK => ?_; refine go1 ?_)
      | (refine am_dreg mixed tabOk kOk rfl rfl fun K hK => ?_; refine go1 ?_)
    all_goals rfl
/-! ### What came in -/
theorem rowsOk {X : Type} {tr : X → List Tree} {ok : X → Prop} {sz : Nat} : ∀ {l : List (List Tree)}, (∀ x, x ∈ l → x.length = sz ∧ ∃ c : X, x = tr c ∧ ok c) → ∃ cs : List X, l = cs.map tr ∧ ∀ c, c ∈ cs → ok c
  | [], _ => ⟨[], rfl, fun c hc => by cases hc⟩
  | x :: l, h => by
    obtain ⟨c, rfl, hc⟩ := (h x List.mem_cons_self).2
    obtain ⟨cs, rfl, hcs⟩ := rowsOk (tr := tr) (ok := ok) (sz := sz) (l := l) fun y hy => h y (List.mem_cons_of_mem _ hy)
    exact ⟨c :: cs, rfl, fun d hd => (List.mem_cons.1 hd).elim (fun e => e ▸ hc) (hcs d)⟩
theorem opT_rowsOk {P : Program} {t e : TypeId} {X : Type} {tr : X → List Tree} {ok : X → Prop} {sz : Nat} (ht : P.underlying t = some (.slice e)) (hc : P.cellsOf e = sz) (hpos : 0 < sz) (ho : OpT P (fun xs => ∃ c : X, xs = tr c ∧ ok c) e) : OpT P (fun xs => ∃ cs : List X, xs = [.sl sz (cs.map tr)] ∧ cs.length ≤ maxLen ∧ ∀ c, c ∈ cs → ok c) t := by
  refine opT_weak (opT_slice ht hc hpos ho) ?_
  rintro xs ⟨l, rfl, h1, h2⟩
  obtain ⟨cs, rfl, hcs⟩ := rowsOk h2
  exact ⟨cs, rfl, by simpa using h1, hcs⟩
theorem op_int {P : Program} {t : TypeId} (ht : P.underlying t = some (.int .i64)) : OpT P (fun xs => ∃ c : Int, xs = iTr c) t := opT_weak (opT_int ht) fun xs ⟨n, h, _⟩ => ⟨n, h⟩
theorem op_Entk : OpT Try.prog (fun xs => ∃ c : Ent, xs = c.tr ∧ c.ok) 229 := by
  refine opT_weak (opT_struct Try.underlying229 (by kernel_rfl) (opT_cons (s := 1) rfl (by kernel_rfl) (opT_int Try.underlying3) (opT_cons (s := 6) rfl (by kernel_rfl) (opT_struct Try.underlying38 (by kernel_rfl) (opT_cons (s := 1) rfl (by kernel_rfl) (opT_int Try.underlying3) (opT_cons (s := 1) rfl (by kernel_rfl) (opT_int Try.underlying3) (opT_cons (s := 1) rfl (by kernel_rfl) (opT_int Try.underlying3) (opT_cons (s := 1) rfl (by kernel_rfl) (opT_string Try.underlying9) (opT_cons (s := 1) rfl (by kernel_rfl) (opT_string Try.underlying9) (opT_cons (s := 1) rfl (by kernel_rfl) (opT_string Try.underlying9) opT_nil))))))) opT_nil))) ?_
  rintro xs ⟨_, _, rfl, ⟨a2, rfl, _⟩, ⟨_, _, rfl, ⟨_, _, rfl, ⟨a4, rfl, _⟩, ⟨_, _, rfl, ⟨a5, rfl, _⟩, ⟨_, _, rfl, ⟨a6, rfl, _⟩, ⟨_, _, rfl, ⟨a7, rfl, ha7⟩, ⟨_, _, rfl, ⟨a8, rfl, ha8⟩, ⟨_, _, rfl, ⟨a9, rfl, ha9⟩, rfl⟩⟩⟩⟩⟩⟩, rfl⟩⟩
  exact ⟨⟨a2, ⟨a4, a5, a6, a7, a8, a9⟩⟩, rfl, ha7, ha8, ha9⟩
theorem op_Nd : OpT Try.prog (fun xs => ∃ c : Nd, xs.map CV.t = c.cv ∧ (∀ e, e ∈ c.log → e.ok) ∧ c.log.length ≤ maxLen ∧ c.gr.length ≤ maxLen ∧ c.ne.length ≤ maxLen ∧ c.ma.length ≤ maxLen ∧ c.se.length ≤ maxLen ∧ c.st.length ≤ maxLen) 99 := by
  refine opT_weak (opT_struct Try.underlying99 (by kernel_rfl) (opT_cons (s := 1) rfl (by kernel_rfl) (opT_int Try.underlying3) (opT_cons (s := 1) rfl (by kernel_rfl) (opT_int Try.underlying3) (opT_cons (s := 1) rfl (by kernel_rfl) (opT_int Try.underlying3) (opT_cons (s := 1) rfl (by kernel_rfl) (opT_int Try.underlying3) (opT_cons (s := 1) rfl (by kernel_rfl) (opT_int Try.underlying3) (opT_cons (s := 1) rfl (by kernel_rfl) (opT_int Try.underlying3) (opT_cons (s := 1) rfl (by kernel_rfl) (opT_int Try.underlying3) (opT_cons (s := 1) rfl (by kernel_rfl) (opT_int Try.underlying3) (opT_cons (s := 1) rfl (by kernel_rfl) (opT_int Try.underlying3) (opT_cons (s := 1) rfl (by kernel_rfl) (opT_int Try.underlying3) (opT_cons (s := 1) rfl (by kernel_rfl) (opT_int Try.underlying3) (opT_cons (s := 1) rfl (by kernel_rfl) (opT_int Try.underlying3) (opT_cons (s := 1) rfl (by kernel_rfl) (opT_rowsOk (tr := Ent.tr) (ok := Ent.ok) (sz := 7) Try.underlying82 (by kernel_rfl) (by decide) op_Entk) (opT_cons (s := 1) rfl (by kernel_rfl) (opT_rows (tr := iTr) (sz := 1) Try.underlying51 (by kernel_rfl) (by decide) (op_int Try.underlying3)) (opT_cons (s := 1) rfl (by kernel_rfl) (opT_rows (tr := iTr) (sz := 1) Try.underlying51 (by kernel_rfl) (by decide) (op_int Try.underlying3)) (opT_cons (s := 1) rfl (by kernel_rfl) (opT_rows (tr := iTr) (sz := 1) Try.underlying51 (by kernel_rfl) (by decide) (op_int Try.underlying3)) (opT_cons (s := 1) rfl (by kernel_rfl) (opT_rows (tr := iTr) (sz := 1) Try.underlying51 (by kernel_rfl) (by decide) (op_int Try.underlying3)) (opT_cons (s := 1) rfl (by kernel_rfl) (opT_rows (tr := iTr) (sz := 1) Try.underlying51 (by kernel_rfl) (by decide) (op_int Try.underlying3)) opT_nil))))))))))))))))))) ?_
  rintro xs ⟨_, _, rfl, ⟨a2, rfl, _⟩, ⟨_, _, rfl, ⟨a3, rfl, _⟩, ⟨_, _, rfl, ⟨a4, rfl, _⟩, ⟨_, _, rfl, ⟨a5, rfl, _⟩, ⟨_, _, rfl, ⟨a6, rfl, _⟩, ⟨_, _, rfl, ⟨a7, rfl, _⟩, ⟨_, _, rfl, ⟨a8, rfl, _⟩, ⟨_, _, rfl, ⟨a9, rfl, _⟩, ⟨_, _, rfl, ⟨a10, rfl, _⟩, ⟨_, _, rfl, ⟨a11, rfl, _⟩, ⟨_, _, rfl, ⟨a12, rfl, _⟩, ⟨_, _, rfl, ⟨a13, rfl, _⟩, ⟨_, _, rfl, ⟨a14, rfl, ha14, oa14⟩, ⟨_, _, rfl, ⟨a15, rfl, ha15⟩, ⟨_, _, rfl, ⟨a16, rfl, ha16⟩, ⟨_, _, rfl, ⟨a17, rfl, ha17⟩, ⟨_, _, rfl, ⟨a18, rfl, ha18⟩, ⟨_, _, rfl, ⟨a19, rfl, ha19⟩, rfl⟩⟩⟩⟩⟩⟩⟩⟩⟩⟩⟩⟩⟩⟩⟩⟩⟩⟩
  exact ⟨⟨a2, a3, a4, a5, a6, a7, a8, a9, a10, a11, a12, a13, a14, a15, a16, a17, a18, a19⟩, rfl, oa14, ha14, ha15, ha16, ha17, ha18, ha19⟩
theorem lawNf (c : Nd) (h : (∀ e, e ∈ c.log → e.ok) ∧ c.log.length ≤ maxLen ∧ c.gr.length ≤ maxLen ∧ c.ne.length ≤ maxLen ∧ c.ma.length ≤ maxLen ∧ c.se.length ≤ maxLen ∧ c.st.length ≤ maxLen) : TC Try.prog 10 [.agg c.cv] [] 1 (bool true) [] 1 :=
  lawNf_tc c h.1 h.2.1 h.2.2.1 h.2.2.2.1 h.2.2.2.2.1 h.2.2.2.2.2.1 h.2.2.2.2.2.2
end Go.Proofs.YtgalnkilcajgcaaA
