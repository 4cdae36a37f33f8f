/- Bags: a copy of one's own. -/
import Derived.Test.YthnpbfljoghbmaaDBag
namespace Go.Proofs.YthnpbfljoghbmaaA
open Go.Proofs
set_option autoImplicit false
set_option linter.unusedVariables false
set_option linter.unusedSimpArgs false
set_option maxRecDepth 4000
set_option maxHeartbeats 8000000 in
theorem clonePks_tc (l : List Pk) (hl : l.length ≤ 1073741824) : TC Try.prog 134 [ro 4 (l.map Pk.tr)] [] 1 (.c (.own 1 0 l.length)) [(1, .arr 44 4 (l.map Pk.tr))] 2 := by
  refine tc_intro Try.func134 rfl 8 rfl (Nat.le_of_ble_eq_true rfl) (by decide) [2] rfl (by intro id x h; cases h) ?_
  intro w0 E0
  have kOk := kD4
  refine wk ?_
  refine am_rs tabOk kOk rfl fun K Q1 hK => ?_
  refine go ?_
  refine amOp_eqNilR tabOk rfl rfl rfl rfl rfl fun b hb => ?_
  refine hK _ ?_
  clear hK K Q1
  cases b with
  | true =>
    have hb2 := hb rfl
    obtain rfl : l = [] := by simpa using hb2
    refine go ?_
    refine wk ?_
    refine am_ownNil 2 44 4 rfl ?_
    refine go ?_
    refine am_retB [(1, 1)] rfl ?_ ?_ rfl <;> first | refine go ?_ | rfl
  | false =>
    refine go ?_
    have hp := (show (l.length ≤ maxLen) = True ∧ (l.length * 48 ≤ 140737488355328) = True from ⟨eq_true (by unfold maxLen; omega), eq_true (by omega)⟩)
    refine wk1 ?_
    refine am_retB [(2, 1)] rfl ?_ ?_ rfl <;> first | refine go ?_ | rfl
def kd9_0_1 (l : List Pk) : CB := if l.length ≤ 1073741824 then some (.c (.own 1 0 l.length), [(1, .arr 44 4 (l.map Pk.tr))], 2) else none
def kd9_0_0 (r0 : List (List Tree)) : CB := (unPks r0).bind (kd9_0_1)
def kd9_0 : List TV → List (Nat × AObj) → CB
  | [.c (.t (.sl 4 r0))], [] => kd9_0_0 r0
  | _, _ => none
def kd9_call (f : FuncId) (args : List TV) (o : List (Nat × AObj)) : CB := if f = 134 then orO (kd9_0 args o) (kd4.callB f args o) else kd4.callB f args o
def kd9 : Kn := { call := kd4.call, eqs := eqTys, callB := kd9_call }
attribute [go_sem] kd9_0_0 kd9_0_1 kd9_0 kd9_call kd9
theorem kd9_ok : ∀ f args o res o1 n1, kd9_call f args o = some (res, o1, n1) → TC Try.prog f args o (o.length + 1) res o1 n1 := by
  intro f args o res o1 n1 h
  unfold kd9_call at h
  split at h
  · rename_i e; subst e
    have hh := orO_elim h
    clear h
    rcases hh with h | h
    rotate_left
    · exact kD4.callB _ _ _ _ _ _ h
    unfold kd9_0 at h
    split at h
    · rename_i r0; unfold kd9_0_0 at h
      have hb0 := Option.bind_eq_some_iff.1 h
      clear h
      obtain ⟨l, e0, h⟩ := hb0
      unfold kd9_0_1 at h
      split at h
      · rename_i hc; cases h; rw [unPks_ok e0]; exact clonePks_tc l hc
      · cases h
    · cases h
  · exact kD4.callB f args o res o1 n1 h
theorem kD9 : KnOk Try.prog kd9 := ⟨kD4.call, eqTysOk, kd9_ok⟩
def Pk.nt (p : Pk) : List NC := [.t (.v (.int .i64 p.id)), .t (.v (.int .i64 p.fr)), .t (.v (.int .i64 p.to)), .t (.sl 1 (p.bytes.map bTr))]
@[go_sem] theorem nt_map (l : List Pk) : (l.map Pk.tr).map (fun x => x.map NC.t) = l.map Pk.nt := by
  rw [List.map_map]
  exact List.map_congr_left fun p _ => rfl
@[go_sem] theorem rn_nt (f : CV → CV) (l : List Pk) : (l.map Pk.nt).map (fun x => x.map (NC.rn f)) = l.map Pk.nt := by
  rw [List.map_map]
  exact List.map_congr_left fun p _ => rfl
set_option maxHeartbeats 16000000 in
theorem cpBg_tc (b : Bg) (h : bgOk b = true) : TC Try.prog 71 [.agg b.cv] [] 1 (.agg [ci b.nx, .own 1 0 b.ps.length, .own 2 0 b.ws.length]) [(1, .nest 44 4 (b.ps.map Pk.nc)), (2, .arr 3 1 (b.ws.map iTr))] 3 := by
  refine tc_cell tabOk Try.func71 rfl 32 rfl (Nat.le_of_ble_eq_true rfl) (by decide) [(2, some 30)] rfl (by intro id x h; cases h) ?_
  intro w0 E0
  have kOk := kD9
  obtain ⟨nx, l, u⟩ := b
  simp only [bgOk, Bool.and_eq_true, decide_eq_true_eq] at h
  obtain ⟨h1, h2, h3⟩ := of_decide_eq_true h.1
  have hu := h.2
  simp only [Bg.cv]
  have hp := (show (l.length ≤ 1073741824) = True from eq_true (by omega))
  refine wk1 ?_
  refine am_tidy [(1, 1), (3, 2), (2, 3)] [1, 2, 10, 11] 4 rfl ?_
  refine go1 ?_
  clear hp
  refine am_nest 2 rfl ?_
  refine go ?_
  refine am_loop (l.length + 1) ?_
  suffices key : ∀ (r : List Pk) (k : Nat) (L : List Pk), L.length = k → k + r.length = l.length → L ++ r = l → amR Try.prog _ _ _ (r.length + 1) ⟨[(1, .c (.ptr 1 0)), (2, .c (.ptr 3 0)), (10, int (l.length : Nat)), (11, int (k : Nat))], [(1, .cells [ci nx, .own 2 0 l.length, .t (.sl 1 (u.map iTr))]), (2, .nest 44 4 (L.map Pk.nc ++ r.map Pk.nt)), (3, .cells [ci 0, .t (.v (.slice none 0 0)), .t (.v (.slice none 0 0))])], 4⟩ from key l 0 [] rfl (by simp) rfl
  intro r
  induction r with
  | nil =>
    intro k L hX hk hR
    rw [List.append_nil] at hR
    subst hR
    have hp := (show ((k : Int) < (L.length : Int)) = False ∧ L.map Pk.nc ++ ([] : List Pk).map Pk.nt = L.map Pk.nc ∧ (u.length ≤ 1073741824) = True from ⟨eq_false (by simp at hk; omega), List.append_nil _, eq_true (by omega)⟩)
    refine amR_succ ?_
    refine wk1 ?_
    refine am_retC [(2, 1), (4, 2)] rfl ?_ ?_ rfl <;> first | rfl | (refine go ?_; rfl) | refine go ?_ | (simp only [go_sem, ↓reduceIte, List.map_cons, List.map_nil]; done) | (simp [go_sem]; intro _ _; rfl)
  | cons e r ih =>
    intro k L hX hk hR
    have hX' : (L.map Pk.nc).length = k := by simpa using hX
    have hk1 : k < l.length := by simp at hk; omega
    have he : l[k]? = some e := by rw [← hR]; exact mid_get _ _ hX _
    have ihk := ih (k + 1) (L ++ [e]) (by simp [hX]) (by simp at hk; omega) (by rw [List.append_assoc]; exact hR)
    have hb := h2 e (List.mem_of_getElem? he)
    have hp := (show ((k : Int) < (l.length : Int)) = True ∧ (k < l.length) = True ∧ IntKind.i64.wrap ((k : Int) + 1) = ((k + 1 : Nat) : Int) ∧ (e.bytes.length ≤ 1073741824) = True ∧
        (∀ y : List NC, (L.map Pk.nc ++ y :: r.map Pk.nt)[k]? = some y) ∧ (∀ y z : List NC, (L.map Pk.nc ++ y :: r.map Pk.nt).set k z = L.map Pk.nc ++ z :: r.map Pk.nt) from
      ⟨eq_true (by omega), eq_true hk1, by rw [wrapN (by omega) (by omega)]; rfl, eq_true (by omega), fun y => mid_get _ _ hX' y, fun y z => mid_set _ _ hX' y z⟩)
    clear ih
    obtain ⟨a, b, c, v⟩ := e
    simp only [List.map_cons, Pk.nt]
    refine amR_succ ?_
    refine wk1 ?_
    refine amR_abs 2 k 3 4 rfl (mid_get _ _ hX' _) rfl rfl (by simp) ?_
    refine go1 ?_
    refine amR_tidy [(1, 1), (2, 2), (3, 3)] [1, 2, 10, 11] 4 rfl ?_
    refine go1 ?_
    refine amR_st ?_ ihk
    simp [Pk.nc]
end Go.Proofs.YthnpbfljoghbmaaA
