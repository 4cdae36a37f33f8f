/- Nodes: their faults. -/
import Derived.Test.YtgalnkilcajgcaaFNode6
namespace Go.Proofs.YtgalnkilcajgcaaA
open Go.Proofs
set_option autoImplicit false
set_option linter.unusedVariables false
set_option linter.unusedSimpArgs false
set_option maxRecDepth 20000
@[go_sem] theorem la_nil {α : Type} (m : List α) : List.append [] m = m := rfl
@[go_sem] theorem la_cons {α : Type} (a : α) (l m : List α) : List.append (a :: l) m = a :: List.append l m := rfl
def kn34_0_1 (c : Nd) : Option TV := some (bool (rlF c))
def kn34_0_0 (r0 : List CV) : Option TV := (unNd r0).bind (kn34_0_1)
def kn34_0 : List TV → Option TV
  | [.agg r0] => kn34_0_0 r0
  | _ => none
def kn34_1_1 (c : Nd) : Option TV := if c.gr.length ≤ 1048576 ∧ 3 ≤ c.sz ∧ c.sz ≤ 7 then some (bool (grF c)) else none
def kn34_1_0 (r0 : List CV) : Option TV := (unNd r0).bind (kn34_1_1)
def kn34_1 : List TV → Option TV
  | [.agg r0] => kn34_1_0 r0
  | _ => none
def kn34_2_1 (c : Nd) : Option TV := if c.gr.length ≤ 1048576 ∧ 3 ≤ c.sz ∧ c.sz ≤ 7 then some (bool (grF c)) else none
def kn34_2_0 (r0 : List CV) : Option TV := (unNd r0).bind (kn34_2_1)
def kn34_2 : List TV → Option TV
  | [.agg r0] => kn34_2_0 r0
  | _ => none
def kn34_3_1 (c : Nd) : Option TV := if (c.log.length ≤ 1048576 ∧ c.ne.length ≤ 1048576 ∧ c.ma.length ≤ 1048576 ∧ c.se.length ≤ 1048576 ∧ c.st.length ≤ 1048576) ∧ 3 ≤ c.sz ∧ c.sz ≤ 7 ∧ 1 ≤ c.id ∧ c.id ≤ c.sz then some (bool (lsF c)) else none
def kn34_3_0 (r0 : List CV) : Option TV := (unNd r0).bind (kn34_3_1)
def kn34_3 : List TV → Option TV
  | [.agg r0] => kn34_3_0 r0
  | _ => none
def kn34_4_1 (c : Nd) : Option TV := if (c.log.length ≤ 1048576 ∧ c.ne.length ≤ 1048576 ∧ c.ma.length ≤ 1048576 ∧ c.se.length ≤ 1048576 ∧ c.st.length ≤ 1048576) ∧ 3 ≤ c.sz ∧ c.sz ≤ 7 ∧ 1 ≤ c.id ∧ c.id ≤ c.sz then some (bool (lsF c)) else none
def kn34_4_0 (r0 : List CV) : Option TV := (unNd r0).bind (kn34_4_1)
def kn34_4 : List TV → Option TV
  | [.agg r0] => kn34_4_0 r0
  | _ => none
def kn34_call (f : FuncId) (args : List TV) : Option TV := if f = 150 then orO (kn34_0 args) (kn33.call f args) else if f = 152 then orO (kn34_1 args) (kn33.call f args) else if f = 147 then orO (kn34_2 args) (kn33.call f args) else if f = 153 then orO (kn34_3 args) (kn33.call f args) else if f = 148 then orO (kn34_4 args) (kn33.call f args) else kn33.call f args
def kn34 : Kn := { call := kn34_call, eqs := eqTys, callB := kn33.callB }
attribute [go_sem] kn34_0_0 kn34_0_1 kn34_0 kn34_1_0 kn34_1_1 kn34_1 kn34_2_0 kn34_2_1 kn34_2 kn34_3_0 kn34_3_1 kn34_3 kn34_4_0 kn34_4_1 kn34_4 kn34_call kn34
theorem kn34_ok : ∀ f args res, kn34_call f args = some res → TC Try.prog f args [] 1 res [] 1 := by
  intro f args res h
  unfold kn34_call at h
  split at h
  · rename_i e; subst e
    have hh := orO_elim h
    clear h
    rcases hh with h | h
    rotate_left
    · exact k33.call _ _ _ h
    unfold kn34_0 at h
    split at h
    · rename_i r0; unfold kn34_0_0 at h
      obtain ⟨c, e0, h⟩ := Option.bind_eq_some_iff.1 h
      unfold kn34_0_1 at h
      cases h; rw [unNd_ok e0]; exact role_tc c
    · cases h
  split at h
  · rename_i e; subst e
    have hh := orO_elim h
    clear h
    rcases hh with h | h
    rotate_left
    · exact k33.call _ _ _ h
    unfold kn34_1 at h
    split at h
    · rename_i r0; unfold kn34_1_0 at h
      obtain ⟨c, e0, h⟩ := Option.bind_eq_some_iff.1 h
      unfold kn34_1_1 at h
      split at h
      · rename_i hc; cases h; rw [unNd_ok e0]; exact grI_tc c hc.1 hc.2.1 hc.2.2
      · cases h
    · cases h
  split at h
  · rename_i e; subst e
    have hh := orO_elim h
    clear h
    rcases hh with h | h
    rotate_left
    · exact k33.call _ _ _ h
    unfold kn34_2 at h
    split at h
    · rename_i r0; unfold kn34_2_0 at h
      obtain ⟨c, e0, h⟩ := Option.bind_eq_some_iff.1 h
      unfold kn34_2_1 at h
      split at h
      · rename_i hc; cases h; rw [unNd_ok e0]; exact grS_tc c hc.1 hc.2.1 hc.2.2
      · cases h
    · cases h
  split at h
  · rename_i e; subst e
    have hh := orO_elim h
    clear h
    rcases hh with h | h
    rotate_left
    · exact k33.call _ _ _ h
    unfold kn34_3 at h
    split at h
    · rename_i r0; unfold kn34_3_0 at h
      obtain ⟨c, e0, h⟩ := Option.bind_eq_some_iff.1 h
      unfold kn34_3_1 at h
      split at h
      · rename_i hc; cases h; rw [unNd_ok e0]; exact lsI_tc c hc.1.1 hc.1.2.1 hc.1.2.2.1 hc.1.2.2.2.1 hc.1.2.2.2.2 hc.2.1 hc.2.2.1 hc.2.2.2.1 hc.2.2.2.2
      · cases h
    · cases h
  split at h
  · rename_i e; subst e
    have hh := orO_elim h
    clear h
    rcases hh with h | h
    rotate_left
    · exact k33.call _ _ _ h
    unfold kn34_4 at h
    split at h
    · rename_i r0; unfold kn34_4_0 at h
      obtain ⟨c, e0, h⟩ := Option.bind_eq_some_iff.1 h
      unfold kn34_4_1 at h
      split at h
      · rename_i hc; cases h; rw [unNd_ok e0]; exact lsS_tc c hc.1.1 hc.1.2.1 hc.1.2.2.1 hc.1.2.2.2.1 hc.1.2.2.2.2 hc.2.1 hc.2.2.1 hc.2.2.2.1 hc.2.2.2.2
      · cases h
    · cases h
  · exact k33.call f args res h
theorem k34 : KnOk Try.prog kn34 := ⟨kn34_ok, eqTysOk, k33.callB⟩
/-- The first of a node's faults. -/
def nfF (c : Nd) : Int :=
  if conF c.id c.sz c.el c.be = false then 1
  else if ¬ ((0 ≤ c.te ∧ c.te ≤ 1073741824) ∧ (0 ≤ c.vo ∧ c.vo ≤ c.sz) ∧ (c.te = 0 → c.vo = 0)) then 2
  else if rlF c = false then 3
  else if ¬ (c.log.length ≤ 4096 ∧ risF c.log 1 c.te = true) then 4
  else if ¬ (0 ≤ c.co ∧ c.co ≤ (c.log.length : Int)) then 5
  else if ¬ ((0 ≤ c.no ∧ c.no ≤ 1099511627776) ∧ (0 ≤ c.de ∧ c.de ≤ IntKind.i64.wrap (c.no + IntKind.i64.wrap (2 * c.el))) ∧ (0 ≤ c.he ∧ c.he ≤ c.no)) then 6
  else if grF c = false then 7 else if lsF c = false then 8 else 0
theorem conF_ok {a b c d : Int} (h : conF a b c d = true) : 3 ≤ b ∧ b ≤ 7 ∧ 1 ≤ a ∧ a ≤ b := by
  simp only [conF, decide_eq_true_eq] at h
  omega
end Go.Proofs.YtgalnkilcajgcaaA
