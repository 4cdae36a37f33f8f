/- Bags: a packet put in, the program's way. -/
import Derived.Test.YthnpbfljoghbmaaDCopy
import Derived.Test.YthnpbfljoghbmaaAmNest2
namespace Go.Proofs.YthnpbfljoghbmaaA
open Go.Proofs
set_option autoImplicit false
set_option linter.unusedVariables false
set_option linter.unusedSimpArgs false
set_option maxRecDepth 4000
theorem opOK_appM {P : Program} {C : Ctx} {Γ : Nat → Option Row} {ops : Array Oper} {o : Oper} {s0 : St} (hΓ : TabOk P Γ) (hd : dstOk C.n o = true) (hg : Goes ops o s0) {t tx e e2 ex : TypeId} {x y : Operand} {r rx : Row} {id id2 n m : Nat} {xs ys : List (List NC)} (ho : o.op = .call { callee := .builtin .append, args := #[x, y], argTypes := #[t, tx] }) (ht : elemT Γ t = some (e, r)) (htx : elemT Γ tx = some (ex, rx))
    (hx : s0.eval x = .c (.own id 0 n)) (hob : s0.obj id = some (.nest e r.size xs)) (hy : s0.eval y = .c (.own id2 0 m)) (hob2 : s0.obj id2 = some (.nest e2 r.size ys)) (hn : n = xs.length) (hm0 : m = ys.length) (hne : id ≠ id2) (hnr : ∀ x, x ∈ ys → ∀ c, c ∈ x → ∀ a b q, c ≠ NC.row a b q) (hpos : 0 < m)
    (hb : (n + m) * r.bytes ≤ 140737488355328) (hm : n + m ≤ maxLen) : OpOK P C ops o ⟨.c (.own s0.next 0 (n + m)), [id, id2], [(s0.next, .nest e r.size (xs ++ ys))], [id, id2], 1⟩ s0 := by
  subst hn
  subst hm0
  exact opOK_appN hΓ hd hg ho ht htx hx hob hy hob2 hne hnr hpos hb hm
theorem bagOkP_tc (b : Bg) (h : bgOk b = true) : TC Try.prog 70 [.agg b.cv] [] 1 (bool (bgF b.nx b.ps b.ws)) [] 1 := by
  simp only [bgOk, Bool.and_eq_true, decide_eq_true_eq] at h
  exact bagOk_tc b.nx b.ps b.ws (of_decide_eq_true h.1).1 h.2
def kh1_0_1 (b : Bg) : Option TV := if bgOk b = true then some (bool (bgF b.nx b.ps b.ws)) else none
def kh1_0_0 (r0 : List CV) : Option TV := (unBg r0).bind (kh1_0_1)
def kh1_0 : List TV → Option TV
  | [.agg r0] => kh1_0_0 r0
  | _ => none
def kh1_call (f : FuncId) (args : List TV) : Option TV := if f = 70 then orO (kh1_0 args) (kd3.call f args) else kd3.call f args
def kh1 : Kn := { call := kh1_call, eqs := eqTys, callB := kd3.callB }
attribute [go_sem] kh1_0_0 kh1_0_1 kh1_0 kh1_call kh1
theorem kh1_ok : ∀ f args res, kh1_call f args = some res → TC Try.prog f args [] 1 res [] 1 := by
  intro f args res h
  unfold kh1_call at h
  split at h
  · rename_i e; subst e
    have hh := orO_elim h
    clear h
    rcases hh with h | h
    rotate_left
    · exact kD3.call _ _ _ h
    unfold kh1_0 at h
    split at h
    · rename_i r0; unfold kh1_0_0 at h
      obtain ⟨b, e0, h⟩ := Option.bind_eq_some_iff.1 h
      unfold kh1_0_1 at h
      split at h
      · rename_i hc; cases h; rw [unBg_ok e0]; exact bagOkP_tc b hc
      · cases h
    · cases h
  · exact kD3.call f args res h
theorem kH1 : KnOk Try.prog kh1 := ⟨kh1_ok, eqTysOk, kD3.callB⟩
def kh2_0_1 (b : Bg) : CB := if bgOk b = true then some (.agg [ci b.nx, .own 1 0 b.ps.length, .own 2 0 b.ws.length], [(1, .nest 44 4 (b.ps.map Pk.nc)), (2, .arr 3 1 (b.ws.map iTr))], 3) else none
def kh2_0_0 (q0 : List CV) : CB := (unBg q0).bind (kh2_0_1)
def kh2_0 : List TV → List (Nat × AObj) → CB
  | [.agg q0], [] => kh2_0_0 q0
  | _, _ => none
def kh2_1_1 (l : List Int) : CB := if l.length ≤ 1073741824 then some (.c (.mp 1), [(1, .mp (some .i64) (wallE l))], 2) else none
def kh2_1_0 (r0 : List (List Tree)) : CB := (unInts r0).bind (kh2_1_1)
def kh2_1 : List TV → List (Nat × AObj) → CB
  | [.c (.t (.sl 1 r0))], [] => kh2_1_0 r0
  | _, _ => none
def kh2_2_1 (l : List Int) : CB := if l.length ≤ 1073741824 then some (.c (.own 1 0 l.length), [(1, .arr 5 1 (l.map bTr))], 2) else none
def kh2_2_0 (r0 : List (List Tree)) : CB := (unBys r0).bind (kh2_2_1)
def kh2_2 : List TV → List (Nat × AObj) → CB
  | [.c (.t (.sl 1 r0))], [] => kh2_2_0 r0
  | _, _ => none
def kh2_call (f : FuncId) (args : List TV) (o : List (Nat × AObj)) : CB := if f = 71 then orO (kh2_0 args o) (kh1.callB f args o) else if f = 72 then orO (kh2_1 args o) (kh1.callB f args o) else if f = 74 then orO (kh2_2 args o) (kh1.callB f args o) else kh1.callB f args o
def kh2 : Kn := { call := kh1.call, eqs := eqTys, callB := kh2_call }
attribute [go_sem] kh2_0_0 kh2_0_1 kh2_0 kh2_1_0 kh2_1_1 kh2_1 kh2_2_0 kh2_2_1 kh2_2 kh2_call kh2
theorem kh2_ok : ∀ f args o res o1 n1, kh2_call f args o = some (res, o1, n1) → TC Try.prog f args o (o.length + 1) res o1 n1 := by
  intro f args o res o1 n1 h
  unfold kh2_call at h
  split at h
  · rename_i e; subst e
    have hh := orO_elim h
    clear h
    rcases hh with h | h
    rotate_left
    · exact kH1.callB _ _ _ _ _ _ h
    unfold kh2_0 at h
    split at h
    · rename_i q0; unfold kh2_0_0 at h
      have hb0 := Option.bind_eq_some_iff.1 h
      clear h
      obtain ⟨b, e0, h⟩ := hb0
      unfold kh2_0_1 at h
      split at h
      · rename_i hc; cases h; rw [unBg_ok e0]; exact cpBg_tc b hc
      · cases h
    · cases h
  split at h
  · rename_i e; subst e
    have hh := orO_elim h
    clear h
    rcases hh with h | h
    rotate_left
    · exact kH1.callB _ _ _ _ _ _ h
    unfold kh2_1 at h
    split at h
    · rename_i r0; unfold kh2_1_0 at h
      have hb0 := Option.bind_eq_some_iff.1 h
      clear h
      obtain ⟨l, e0, h⟩ := hb0
      unfold kh2_1_1 at h
      split at h
      · rename_i hc; cases h; rw [unInts_ok e0]; exact walled_tc l hc
      · cases h
    · cases h
  split at h
  · rename_i e; subst e
    have hh := orO_elim h
    clear h
    rcases hh with h | h
    rotate_left
    · exact kH1.callB _ _ _ _ _ _ h
    unfold kh2_2 at h
    split at h
    · rename_i r0; unfold kh2_2_0 at h
      have hb0 := Option.bind_eq_some_iff.1 h
      clear h
      obtain ⟨l, e0, h⟩ := hb0
      unfold kh2_2_1 at h
      split at h
      · rename_i hc; cases h; rw [unBys_ok e0]; exact cloneBs_tc l hc
      · cases h
    · cases h
  · exact kH1.callB f args o res o1 n1 h
theorem kH2 : KnOk Try.prog kh2 := ⟨kH1.call, eqTysOk, kh2_ok⟩
def pa0 : TV := .agg [ci 1, ci 0, ci 0, .t (.v (.slice none 0 0)), .t (.v (.slice none 0 0))]
def ptC (b : Bg) (f t : Int) (l : List Int) : Int := if rtB f t l.length = false then 2 else if f ∈ b.ws ∨ t ∈ b.ws then 3 else if b.ps.length = 4096 ∨ b.nx = 1099511627776 then 4 else 0
theorem putI0_tc (b : Bg) (f t : Int) (l : List Int) (h : bgOk b = true) (hl : l.length ≤ 1048576) (hf : bgF b.nx b.ps b.ws = false) : TC Try.prog 14 [.agg b.cv, int f, int t, ro 1 (l.map bTr)] [] 1 pa0 [] 1 := by
  refine tc_cell tabOk Try.func14 rfl 73 rfl (Nat.le_of_ble_eq_true rfl) (by decide) [(8, some 32)] rfl (by intro id x h; cases h) ?_
  intro w0 E0
  have kOk := kH2
  obtain ⟨n, ps, ws⟩ := b
  simp only [Bg.cv, pa0]
  simp only at hf
  have hp := And.intro h hf
  refine wk1 ?_
  refine am_retC [] rfl ?_ rfl rfl
  first | rfl | (refine go ?_; rfl)
set_option maxHeartbeats 16000000 in
theorem putI1_tc (b : Bg) (f t : Int) (l : List Int) (h : bgOk b = true) (hl : l.length ≤ 1048576) (hf : bgF b.nx b.ps b.ws = true) (hc : ptC b f t l ≠ 0) : TC Try.prog 14 [.agg b.cv, int f, int t, ro 1 (l.map bTr)] [] 1 (.agg [ci (ptC b f t l), ci 0, ci b.nx, .own 1 0 b.ps.length, .own 2 0 b.ws.length]) [(1, .nest 44 4 (b.ps.map Pk.nc)), (2, .arr 3 1 (b.ws.map iTr))] 3 := by
  refine tc_cell tabOk Try.func14 rfl 73 rfl (Nat.le_of_ble_eq_true rfl) (by decide) [(8, some 32)] rfl (by intro id x h; cases h) ?_
  intro w0 E0
  have kOk := kH2
  obtain ⟨n, ps, ws⟩ := b
  have hb := h
  simp only [bgOk, Bool.and_eq_true, decide_eq_true_eq] at hb
  obtain ⟨p1, p2, p3⟩ := of_decide_eq_true hb.1
  simp only [Bg.cv]
  simp only at hf hb
  unfold ptC at hc ⊢
  have base := And.intro h (And.intro hf (show (ws.length ≤ 1073741824) = True from eq_true (by omega)))
  by_cases c1 : rtB f t l.length = false
  · rw [if_pos c1]
    have hp := And.intro base c1
    refine wk1 ?_
    refine am_retC [(3, 1), (4, 2)] rfl ?_ ?_ rfl <;> first | rfl | (refine go ?_; rfl) | refine go ?_ | (simp only [go_sem, ↓reduceIte, List.map_cons, List.map_nil]; done) | (simp [go_sem]; intro _ _; rfl)
  rw [if_neg c1] at hc ⊢
  have c1' : rtB f t l.length = true := by simpa using c1
  have base1 := And.intro base c1'
  by_cases c2 : f ∈ ws
  · obtain ⟨i, hi⟩ := (wall_find ws f).1 c2
    rw [if_pos (.inl c2)]
    have hp := And.intro base1 hi
    refine wk1 ?_
    refine am_retC [(3, 1), (4, 2)] rfl ?_ ?_ rfl <;> first | rfl | (refine go ?_; rfl) | refine go ?_ | (simp only [go_sem, ↓reduceIte, List.map_cons, List.map_nil]; done) | (simp [go_sem]; intro _ _; rfl)
  have base2 := And.intro base1 ((wall_find ws f).2 c2)
  by_cases c3 : t ∈ ws
  · obtain ⟨i, hi⟩ := (wall_find ws t).1 c3
    rw [if_pos (.inr c3)]
    have hp := And.intro base2 hi
    refine wk1 ?_
    refine am_retC [(3, 1), (4, 2)] rfl ?_ ?_ rfl <;> first | rfl | (refine go ?_; rfl) | refine go ?_ | (simp only [go_sem, ↓reduceIte, List.map_cons, List.map_nil]; done) | (simp [go_sem]; intro _ _; rfl)
  rw [if_neg (by rintro (h | h); exact c2 h; exact c3 h)] at hc ⊢
  have base3 := And.intro base2 ((wall_find ws t).2 c3)
  simp only at hc ⊢
  by_cases c4 : ps.length = 4096
  · rw [if_pos (.inl c4)]
    have hp := And.intro base3 (show ((ps.length : Int) == 4096) = true ∧ ((ps.length : Int) = 4096) = True from ⟨by simp [c4], eq_true (by omega)⟩)
    refine wk1 ?_
    refine am_retC [(3, 1), (4, 2)] rfl ?_ ?_ rfl <;> first | rfl | (refine go ?_; rfl) | refine go ?_ | (simp only [go_sem, ↓reduceIte, List.map_cons, List.map_nil]; done) | (simp [go_sem]; intro _ _; rfl)
  have e4 : ¬ (ps.length : Int) = 4096 := by omega
  by_cases c5 : n = 1099511627776
  · rw [if_pos (.inr c5)]
    have hp := And.intro base3 (show ((ps.length : Int) == 4096) = false ∧ ((ps.length : Int) = 4096) = False ∧ (n == 1099511627776) = true ∧ (n = 1099511627776) = True from ⟨by simp [e4], eq_false e4, by simp [c5], eq_true c5⟩)
    refine wk1 ?_
    refine am_retC [(3, 1), (4, 2)] rfl ?_ ?_ rfl <;> first | rfl | (refine go ?_; rfl) | refine go ?_ | (simp only [go_sem, ↓reduceIte, List.map_cons, List.map_nil]; done) | (simp [go_sem]; intro _ _; rfl)
  exact absurd (if_neg (by rintro (h | h); exact c4 h; exact c5 h)) hc
set_option maxHeartbeats 16000000 in
theorem putI2_tc (b : Bg) (f t : Int) (l : List Int) (h : bgOk b = true) (hl : l.length ≤ 1048576) (hf : bgF b.nx b.ps b.ws = true) (hc : ptC b f t l = 0) : TC Try.prog 14 [.agg b.cv, int f, int t, ro 1 (l.map bTr)] [] 1 (.agg [ci 0, ci b.nx, ci (b.nx + 1), .own 1 0 (b.ps.length + 1), .own 2 0 b.ws.length]) [(1, .nest 44 4 ((b.ps ++ [(⟨b.nx, f, t, l⟩ : Pk)]).map Pk.nc)), (2, .arr 3 1 (b.ws.map iTr))] 3 := by
  refine tc_cell tabOk Try.func14 rfl 73 rfl (Nat.le_of_ble_eq_true rfl) (by decide) [(8, some 32)] rfl (by intro id x h; cases h) ?_
  intro w0 E0
  have kOk := kH2
  obtain ⟨n, ps, ws⟩ := b
  have hb := h
  simp only [bgOk, Bool.and_eq_true, decide_eq_true_eq] at hb
  obtain ⟨p1, p2, p3⟩ := of_decide_eq_true hb.1
  simp only [Bg.cv]
  simp only at hf hb
  unfold ptC at hc
  have c1 : rtB f t l.length = true := by
    cases e : rtB f t l.length with
    | true => rfl
    | false => rw [if_pos e] at hc; cases hc
  rw [if_neg (by simp [c1])] at hc
  have c2 : ¬ (f ∈ ws ∨ t ∈ ws) := fun e => by rw [if_pos e] at hc; cases hc
  rw [if_neg c2] at hc
  have c4 : ¬ (ps.length = 4096 ∨ n = 1099511627776) := fun e => by rw [if_pos e] at hc; cases hc
  have e4 : ¬ (ps.length : Int) = 4096 := by omega
  have e5 : ¬ n = 1099511627776 := fun e => c4 (.inr e)
  have hn : 1 ≤ n ∧ n ≤ 1099511627776 := by
    simp only [bgF, Bool.and_eq_true, inB, decide_eq_true_eq] at hf
    omega
  have hp := And.intro h (And.intro hf (show (ws.length ≤ 1073741824) = True ∧ rtB f t l.length = true ∧ mfind (.int .i64 f) (wallE ws) 0 = none ∧ mfind (.int .i64 t) (wallE ws) 0 = none ∧ ((ps.length : Int) == 4096) = false ∧ ((ps.length : Int) = 4096) = False ∧ (n == 1099511627776) = false ∧ (n = 1099511627776) = False ∧ IntKind.i64.wrap (n + 1) = n + 1 ∧ (l.length ≤ 1073741824) = True ∧ row44.size = 4 ∧ (∀ y z : List NC, (ps.map Pk.nc ++ [y]).set ps.length z = ps.map Pk.nc ++ [z]) from
    ⟨eq_true (by omega), c1, (wall_find ws f).2 fun e => c2 (.inl e), (wall_find ws t).2 fun e => c2 (.inr e), by simp [e4], eq_false e4, by simp [e5], eq_false e5, wrapN (by omega) (by omega), eq_true (by omega), rfl, fun y z => mid_set _ _ (by simp) y z⟩))
  refine wk1 ?_
  refine am_dreg mixed tabOk kOk rfl rfl fun K hK => ?_
  refine go1 ?_
  refine ⟨_, opOK_buildN tabOk rfl ?_ rfl rfl rfl rfl rfl (by decide) (by decide), ?_⟩
  · trivial
  refine go1 ?_
  refine ⟨_, opOK_appM tabOk rfl ?_ rfl rfl rfl rfl rfl rfl rfl (by simp) rfl (by decide) (fun x hx c hc a b q => ?_) (by decide) (by show (ps.length + 1) * 48 ≤ _; omega) (by unfold maxLen; omega), ?_⟩
  · trivial
  · simp only [List.mem_cons, List.not_mem_nil, or_false] at hx
    subst hx
    simp only [List.mem_cons, List.not_mem_nil, or_false] at hc
    rcases hc with rfl | rfl | rfl | rfl <;> simp
  refine go1 ?_
  refine hK _ _ rfl ?_
  clear hK K
  refine go1 ?_
  refine am_abs 9 ps.length 3 7 rfl (mid_get _ _ (by simp) _) rfl rfl (by simp) ?_
  refine go1 ?_
  refine wk1 ?_
  refine am_retC [(9, 1), (4, 2)] rfl ?_ ?_ rfl <;> first | rfl | (refine go ?_; rfl) | (refine go ?_; simp [Pk.nc]; done) | refine go ?_ | (simp only [go_sem, ↓reduceIte, List.map_cons, List.map_nil]; done) | (simp [go_sem, Pk.nc]; done)
end Go.Proofs.YthnpbfljoghbmaaA
