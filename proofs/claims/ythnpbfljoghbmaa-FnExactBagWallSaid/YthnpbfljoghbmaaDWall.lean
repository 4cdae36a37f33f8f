/- Bags: a wall put up or taken down. -/
import Derived.Test.YthnpbfljoghbmaaDCopy
import Derived.Test.YthnpbfljoghbmaaDSpec2
import Derived.Test.YthnpbfljoghbmaaCKeys
namespace Go.Proofs.YthnpbfljoghbmaaA
open Go.Proofs Go.RowKit Go.Maps Go.Sort Go.Shelf
set_option autoImplicit false
set_option linter.unusedVariables false
set_option linter.unusedSimpArgs false
set_option maxRecDepth 4000
/-! ### Sets of walls -/
def entB (w : Int) : Value × Value := (.int .i64 w, .bool true)
def unIB : List (Value × Value) → Option (List Int)
  | [] => some []
  | (.int .i64 w, .bool true) :: l => (unIB l).map (w :: ·)
  | _ => none
@[go_sem] theorem unIB_map (l : List Int) : unIB (l.map entB) = some l := by
  induction l with
  | nil => rfl
  | cons w l ih => simp only [List.map_cons, entB, unIB]; rw [ih]; rfl
theorem unIB_ok : ∀ {xs : List (Value × Value)} {l : List Int}, unIB xs = some l → xs = l.map entB
  | [], l, h => by cases h; rfl
  | x :: xs, l, h => by
    unfold unIB at h
    split at h
    · rename_i e; cases e
    · rename_i w xs' e
      obtain ⟨rfl, rfl⟩ := List.cons.inj e
      obtain ⟨l', h1, rfl⟩ := Option.map_eq_some_iff.1 h
      rw [unIB_ok h1]
      rfl
    · cases h
theorem waF_ok : ∀ {l : List Int} {la : Int}, waF l la = true → (∀ w, w ∈ l → la < w ∧ w ≤ 7) ∧ l.Pairwise (· < ·)
  | [], _, _ => ⟨fun w h => by (cases h), List.Pairwise.nil⟩
  | w :: l, la, h => by
    simp only [waF, Bool.and_eq_true, decide_eq_true_eq] at h
    obtain ⟨h1, h2⟩ := waF_ok h.2
    refine ⟨fun x hx => ?_, List.Pairwise.cons (fun x hx => (h1 x hx).1) h2⟩
    rcases List.mem_cons.1 hx with rfl | hx
    · exact h.1
    · have := h1 x hx; omega
theorem mset_new {w : Int} {l : List Int} (h : w ∉ l) : mset (.int .i64 w) (.bool true) (l.map entB) = (l ++ [w]).map entB := by
  have : mfind (.int .i64 w) (l.map entB) 0 = none := mfind_none.2 fun p hp => by
    obtain ⟨y, hy, rfl⟩ := List.mem_map.1 hp
    simp only [entB, sameK, beq_eq_false_iff_ne, ne_eq]
    intro e
    subst e
    exact h hy
  simp only [mset, this, List.map_append, List.map_cons, List.map_nil]
  rfl
theorem wallE_go : ∀ (u acc : List Int), (acc ++ u).Pairwise (· < ·) → u.foldl (fun es w => mset (.int .i64 w) (.bool true) es) (acc.map entB) = (acc ++ u).map entB
  | [], acc, _ => by simp
  | w :: u, acc, h => by
    have hn : w ∉ acc := fun hw => by
      have := (List.pairwise_append.1 h).2.2 w hw w List.mem_cons_self
      omega
    rw [List.foldl_cons, mset_new hn, wallE_go u (acc ++ [w]) (by simpa using h)]
    simp
theorem wallE_map {ws : List Int} (h : ws.Pairwise (· < ·)) : wallE ws = ws.map entB := wallE_go ws [] (by simpa using h)
theorem tdel_filter (id : Int) : ∀ {l : List Int}, l.Pairwise (· < ·) → tdel (fun b => id == b) l = l.filter fun b => !(id == b)
  | [], _ => rfl
  | w :: l, h => by
    have h2 := List.pairwise_cons.1 h
    simp only [tdel, List.filter_cons]
    by_cases e : id = w
    · subst e
      simp only [beq_self_eq_true, if_true, Bool.not_true, Bool.false_eq_true, if_false]
      refine (List.filter_eq_self.2 fun b hb => ?_).symm
      have := h2.1 b hb
      simp
      omega
    · have e1 : (id == w) = false := by simp [e]
      simp [e1, tdel_filter id h2.2]
theorem mdel_wall {id : Int} {l : List Int} (h : l.Pairwise (· < ·)) : mdel (.int .i64 id) (l.map entB) = (l.filter fun b => !(id == b)).map entB := by
  rw [mdel_map entB (f := fun b => id == b) (fun b => rfl) l, tdel_filter id h]
def wlF (ws : List Int) (id up : Int) : List Int := if up = 0 then ws.filter fun b => !(id == b) else (ws.filter fun b => !(id == b)) ++ [id]
def wlC (ws : List Int) (id up k : Int) : Bool := decide ((k = id ∧ up ≠ 0) ∨ (k ≠ id ∧ k ∈ ws))
def wlGo (ws : List Int) (id up : Int) : Nat → Int → List Int
  | 0, _ => []
  | d + 1, k => if wlC ws id up k = true then k :: wlGo ws id up d (k + 1) else wlGo ws id up d (k + 1)
theorem wlGo_mem {ws : List Int} {id up x : Int} : ∀ {d : Nat} {k : Int}, x ∈ wlGo ws id up d k ↔ k ≤ x ∧ x < k + (d : Nat) ∧ wlC ws id up x = true
  | 0, k => by simp only [wlGo, List.not_mem_nil, false_iff]; omega
  | d + 1, k => by
    simp only [wlGo]
    split
    · rename_i h
      rw [List.mem_cons, wlGo_mem]
      constructor
      · rintro (rfl | h1)
        · exact ⟨Int.le_refl _, by omega, h⟩
        · exact ⟨by omega, by omega, h1.2.2⟩
      · rintro ⟨h1, h2, h3⟩
        by_cases e : x = k
        · exact .inl e
        · exact .inr ⟨by omega, by omega, h3⟩
    · rename_i h
      rw [wlGo_mem]
      constructor
      · rintro ⟨h1, h2, h3⟩
        exact ⟨by omega, by omega, h3⟩
      · rintro ⟨h1, h2, h3⟩
        have e : x ≠ k := fun e => by subst e; exact h h3
        exact ⟨by omega, by omega, h3⟩
theorem wlGo_lt {ws : List Int} {id up : Int} : ∀ (d : Nat) (k : Int), (wlGo ws id up d k).Pairwise (· < ·)
  | 0, _ => List.Pairwise.nil
  | d + 1, k => by
    simp only [wlGo]
    split
    · exact List.Pairwise.cons (fun x hx => by have := (wlGo_mem.1 hx).1; omega) (wlGo_lt d (k + 1))
    · exact wlGo_lt d (k + 1)
theorem nodup_lt {l : List Int} (h : l.Pairwise (· < ·)) : l.Nodup := h.imp fun {a b} hab e => by omega
theorem srt_wl {ws : List Int} {id up : Int} (h : waF ws 0 = true) (hid : 1 ≤ id ∧ id ≤ 7) : srtI (wlF ws id up) = wlGo ws id up 7 1 := by
  obtain ⟨h1, h2⟩ := waF_ok h
  have hnd : (wlF ws id up).Nodup := by
    unfold wlF
    have hf : (ws.filter fun b => !(id == b)).Nodup := (nodup_lt h2).filter _
    split
    · exact hf
    · refine List.nodup_append.2 ⟨hf, by simp, fun a ha b hb => ?_⟩
      have hb' : b = id := by simpa using hb
      have := (List.mem_filter.1 ha).2
      simp at this
      intro e
      exact this (by rw [← hb', e])
  have hp : (wlF ws id up).Perm (wlGo ws id up 7 1) := (List.perm_ext_iff_of_nodup hnd (nodup_lt (wlGo_lt _ _))).2 fun x => by
    rw [wlGo_mem]
    unfold wlF wlC
    simp only [decide_eq_true_eq]
    split
    · rename_i e
      simp only [List.mem_filter, Bool.not_eq_true', beq_eq_false_iff_ne, ne_eq]
      constructor
      · rintro ⟨k1, k2⟩
        have := h1 x k1
        exact ⟨by omega, by omega, .inr ⟨fun h => k2 h.symm, k1⟩⟩
      · rintro ⟨k1, k2, k3⟩
        rcases k3 with ⟨_, k3⟩ | ⟨k3, k4⟩
        · exact absurd e k3
        · exact ⟨k4, fun h => k3 h.symm⟩
    · rename_i e
      simp only [List.mem_append, List.mem_filter, Bool.not_eq_true', beq_eq_false_iff_ne, ne_eq, List.mem_singleton]
      constructor
      · rintro (⟨k1, k2⟩ | rfl)
        · have := h1 x k1
          exact ⟨by omega, by omega, .inr ⟨fun h => k2 h.symm, k1⟩⟩
        · exact ⟨by omega, by omega, .inl ⟨rfl, e⟩⟩
      · rintro ⟨k1, k2, k3⟩
        rcases k3 with ⟨k3, _⟩ | ⟨k3, k4⟩
        · exact .inr k3
        · exact .inl ⟨k4, fun h => k3 h.symm⟩
  have e1 : srtI (wlF ws id up) = srtI (wlGo ws id up 7 1) := mergeSort_of_perm_i hp
  rw [e1]
  exact List.mergeSort_of_pairwise ((wlGo_lt 7 1).imp fun {a b} hab => by simp; omega)
def okB (l : List Int) : Bool := l.all (fun w => decide (1 ≤ w ∧ w ≤ 1073741824)) && decide (l.length ≤ 2097152)
theorem keyB_tc (l : List Int) (h : okB l = true) : TC Try.prog 87 [.c (.sq 140 1)] [(1, .mp (some .i64) (l.map entB))] 2 (.c (.own 2 0 l.length)) [(1, .mp (some .i64) (l.map entB)), (2, .arr 3 1 ((srtI l).map iTr))] 3 := by
  simp only [okB, Bool.and_eq_true, List.all_eq_true, decide_eq_true_eq] at h
  have := sortedI_tc 140 (l.map entB) l (by simp [List.map_map, entB, Function.comp_def]) (fun k hk => by
    have h1 := h.1 k hk
    have e1 : IntKind.i64.min = -9223372036854775808 := rfl
    have e2 : IntKind.i64.max = 9223372036854775807 := rfl
    omega) (by simpa using h.2) (enters_of Try.func140 (by kernel_rfl) rfl) fun gm nn D0 w Bm hB hc ho => AnyZI.keys_gives (ρ := keysB_ren) { keysB with } Fence.wide _ trivial rfl (by omega) Bm gm nn D0 w hB hc ho
  exact this
theorem bagOkB_tc (b : Bg) (h : bgOk b = true) : TC Try.prog 70 [.agg b.cv] [] 1 (bool (bgF b.nx b.ps b.ws)) [] 1 := by
  simp only [bgOk, Bool.and_eq_true, decide_eq_true_eq] at h
  exact bagOk_tc b.nx b.ps b.ws (of_decide_eq_true h.1).1 h.2
def kf1_0_1 (b : Bg) : Option TV := if bgOk b = true then some (bool (bgF b.nx b.ps b.ws)) else none
def kf1_0_0 (r0 : List CV) : Option TV := (unBg r0).bind (kf1_0_1)
def kf1_0 : List TV → Option TV
  | [.agg r0] => kf1_0_0 r0
  | _ => none
def kf1_call (f : FuncId) (args : List TV) : Option TV := if f = 70 then orO (kf1_0 args) (kd3.call f args) else kd3.call f args
def kf1 : Kn := { call := kf1_call, eqs := eqTys, callB := kd3.callB }
attribute [go_sem] kf1_0_0 kf1_0_1 kf1_0 kf1_call kf1
theorem kf1_ok : ∀ f args res, kf1_call f args = some res → TC Try.prog f args [] 1 res [] 1 := by
  intro f args res h
  unfold kf1_call at h
  split at h
  · rename_i e; subst e
    have hh := orO_elim h
    clear h
    rcases hh with h | h
    rotate_left
    · exact kD3.call _ _ _ h
    unfold kf1_0 at h
    split at h
    · rename_i r0; unfold kf1_0_0 at h
      obtain ⟨b, e0, h⟩ := Option.bind_eq_some_iff.1 h
      unfold kf1_0_1 at h
      split at h
      · rename_i hc; cases h; rw [unBg_ok e0]; exact bagOkB_tc b hc
      · cases h
    · cases h
  · exact kD3.call f args res h
theorem kF1 : KnOk Try.prog kf1 := ⟨kf1_ok, eqTysOk, kD3.callB⟩
def kf2_0_1 (b : Bg) : CB := if bgOk b = true then some (.agg [ci b.nx, .own 1 0 b.ps.length, .own 2 0 b.ws.length], [(1, .nest 44 4 (b.ps.map Pk.nc)), (2, .arr 3 1 (b.ws.map iTr))], 3) else none
def kf2_0_0 (q0 : List CV) : CB := (unBg q0).bind (kf2_0_1)
def kf2_0 : List TV → List (Nat × AObj) → CB
  | [.agg q0], [] => kf2_0_0 q0
  | _, _ => none
def kf2_1_1 (l : List Int) : CB := if l.length ≤ 1073741824 then some (.c (.mp 1), [(1, .mp (some .i64) (wallE l))], 2) else none
def kf2_1_0 (r0 : List (List Tree)) : CB := (unInts r0).bind (kf2_1_1)
def kf2_1 : List TV → List (Nat × AObj) → CB
  | [.c (.t (.sl 1 r0))], [] => kf2_1_0 r0
  | _, _ => none
def kf2_2_0 (es : List (Value × Value)) : CB := some (.c (.sq 140 1), [(1, .mp (some .i64) es)], 2)
def kf2_2 : List TV → List (Nat × AObj) → CB
  | [.c (.mp 1)], [(1, .mp (some .i64) es)] => kf2_2_0 es
  | _, _ => none
def kf2_3_1 (f : Nat) (l : List Int) : CB := if f = 140 ∧ okB l = true then some (.c (.own 2 0 l.length), [(1, .mp (some .i64) (l.map entB)), (2, .arr 3 1 ((srtI l).map iTr))], 3) else none
def kf2_3_0 (f : Nat) (r0 : List (Value × Value)) : CB := (unIB r0).bind (kf2_3_1 f)
def kf2_3 : List TV → List (Nat × AObj) → CB
  | [.c (.sq f 1)], [(1, .mp (some .i64) r0)] => kf2_3_0 f r0
  | _, _ => none
def kf2_call (f : FuncId) (args : List TV) (o : List (Nat × AObj)) : CB := if f = 71 then orO (kf2_0 args o) (kf1.callB f args o) else if f = 72 then orO (kf2_1 args o) (kf1.callB f args o) else if f = 88 then orO (kf2_2 args o) (kf1.callB f args o) else if f = 87 then orO (kf2_3 args o) (kf1.callB f args o) else kf1.callB f args o
def kf2 : Kn := { call := kf1.call, eqs := eqTys, callB := kf2_call }
attribute [go_sem] kf2_0_0 kf2_0_1 kf2_0 kf2_1_0 kf2_1_1 kf2_1 kf2_2_0 kf2_2 kf2_3_0 kf2_3_1 kf2_3 kf2_call kf2
theorem kf2_ok : ∀ f args o res o1 n1, kf2_call f args o = some (res, o1, n1) → TC Try.prog f args o (o.length + 1) res o1 n1 := by
  intro f args o res o1 n1 h
  unfold kf2_call at h
  split at h
  · rename_i e; subst e
    have hh := orO_elim h
    clear h
    rcases hh with h | h
    rotate_left
    · exact kF1.callB _ _ _ _ _ _ h
    unfold kf2_0 at h
    split at h
    · rename_i q0; unfold kf2_0_0 at h
      have hb0 := Option.bind_eq_some_iff.1 h
      clear h
      obtain ⟨b, e0, h⟩ := hb0
      unfold kf2_0_1 at h
      split at h
      · rename_i hc; cases h; rw [unBg_ok e0]; exact cpBg_tc b hc
      · cases h
    · cases h
  split at h
  · rename_i e; subst e
    have hh := orO_elim h
    clear h
    rcases hh with h | h
    rotate_left
    · exact kF1.callB _ _ _ _ _ _ h
    unfold kf2_1 at h
    split at h
    · rename_i r0; unfold kf2_1_0 at h
      have hb0 := Option.bind_eq_some_iff.1 h
      clear h
      obtain ⟨l, e0, h⟩ := hb0
      unfold kf2_1_1 at h
      split at h
      · rename_i hc; cases h; rw [unInts_ok e0]; exact walled_tc l hc
      · cases h
    · cases h
  split at h
  · rename_i e; subst e
    have hh := orO_elim h
    clear h
    rcases hh with h | h
    rotate_left
    · exact kF1.callB _ _ _ _ _ _ h
    unfold kf2_2 at h
    split at h
    · rename_i es; unfold kf2_2_0 at h
      cases h; exact keysB_tc es
    · cases h
  split at h
  · rename_i e; subst e
    have hh := orO_elim h
    clear h
    rcases hh with h | h
    rotate_left
    · exact kF1.callB _ _ _ _ _ _ h
    unfold kf2_3 at h
    split at h
    · rename_i f r0; unfold kf2_3_0 at h
      have hb0 := Option.bind_eq_some_iff.1 h
      clear h
      obtain ⟨l, e0, h⟩ := hb0
      unfold kf2_3_1 at h
      split at h
      · rename_i hc; cases h; rw [unIB_ok e0]; obtain ⟨rfl, h1⟩ := hc; exact keyB_tc l h1
      · cases h
    · cases h
  · exact kF1.callB f args o res o1 n1 h
theorem kF2 : KnOk Try.prog kf2 := ⟨kF1.call, eqTysOk, kf2_ok⟩
theorem wallI0_tc (b : Bg) (id up : Int) (h : bgOk b = true) (hf : bgF b.nx b.ps b.ws = false) : TC Try.prog 28 [.agg b.cv, int id, int up] [] 1 bg0 [] 1 := by
  refine tc_cell tabOk Try.func28 rfl 32 rfl (Nat.le_of_ble_eq_true rfl) (by decide) [(6, some 30)] rfl (by intro id x h; cases h) ?_
  intro w0 E0
  have kOk := kF2
  obtain ⟨n, ps, ws⟩ := b
  simp only [Bg.cv, bg0]
  simp only at hf
  have hp := And.intro h hf
  refine wk1 ?_
  refine am_retC [] rfl ?_ rfl rfl
  first | rfl | (refine go ?_; rfl)
theorem wallI1_tc (b : Bg) (id up : Int) (h : bgOk b = true) (hf : bgF b.nx b.ps b.ws = true) (hid : inB id 1 7 = false) : TC Try.prog 28 [.agg b.cv, int id, int up] [] 1 (.agg [ci b.nx, .own 1 0 b.ps.length, .own 2 0 b.ws.length]) [(1, .nest 44 4 (b.ps.map Pk.nc)), (2, .arr 3 1 (b.ws.map iTr))] 3 := by
  refine tc_cell tabOk Try.func28 rfl 32 rfl (Nat.le_of_ble_eq_true rfl) (by decide) [(6, some 30)] rfl (by intro id x h; cases h) ?_
  intro w0 E0
  have kOk := kF2
  obtain ⟨n, ps, ws⟩ := b
  simp only [Bg.cv]
  simp only at hf
  have hp := And.intro h (And.intro hf hid)
  refine wk1 ?_
  refine am_retC [(3, 1), (4, 2)] rfl ?_ ?_ rfl <;> first | rfl | (refine go ?_; rfl) | refine go ?_ | (simp only [go_sem, ↓reduceIte, List.map_cons, List.map_nil]; done) | (simp [go_sem]; intro _ _; rfl)
set_option maxHeartbeats 16000000 in
theorem wallI2_tc (b : Bg) (id up : Int) (h : bgOk b = true) (hf : bgF b.nx b.ps b.ws = true) (hid : inB id 1 7 = true) : TC Try.prog 28 [.agg b.cv, int id, int up] [] 1 (.agg [ci b.nx, .own 1 0 b.ps.length, .own 2 0 (wlGo b.ws id up 7 1).length]) [(1, .nest 44 4 (b.ps.map Pk.nc)), (2, .arr 3 1 ((wlGo b.ws id up 7 1).map iTr))] 3 := by
  refine tc_cell tabOk Try.func28 rfl 32 rfl (Nat.le_of_ble_eq_true rfl) (by decide) [(6, some 30)] rfl (by intro id x h; cases h) ?_
  intro w0 E0
  have kOk := kF2
  obtain ⟨n, ps, ws⟩ := b
  simp only [Bg.cv]
  simp only at hf
  have hwa : waF ws 0 = true := by simp only [bgF, Bool.and_eq_true] at hf; exact hf.2
  have hi := hid
  simp only [inB, decide_eq_true_eq] at hi
  obtain ⟨h1, h2⟩ := waF_ok hwa
  have hs := srt_wl (up := up) hwa hi
  have hlen : (wlF ws id up).length = (wlGo ws id up 7 1).length := by rw [← hs, srtI_len]
  have hwl := h
  simp only [bgOk, Bool.and_eq_true, decide_eq_true_eq] at hwl
  have hflen : (ws.filter fun b => !(id == b)).length ≤ ws.length := List.length_filter_le _ _
  have hmem : ∀ w, w ∈ wlF ws id up → 1 ≤ w ∧ w ≤ 1073741824 := fun w hw => by
    unfold wlF at hw
    split at hw
    · have := h1 w (List.mem_filter.1 hw).1; omega
    · rcases List.mem_append.1 hw with hw | hw
      · have := h1 w (List.mem_filter.1 hw).1; omega
      · have : w = id := by simpa using hw
        omega
  have hok : okB (wlF ws id up) = true := by
    simp only [okB, Bool.and_eq_true, List.all_eq_true, decide_eq_true_eq]
    refine ⟨hmem, ?_⟩
    unfold wlF
    split
    · omega
    · rw [List.length_append, List.length_singleton]; omega
  have base := And.intro h (And.intro hf (And.intro hid (show (ws.length ≤ 1073741824) = True ∧ wallE ws = ws.map entB ∧ mdel (.int .i64 id) (ws.map entB) = (ws.filter fun b => !(id == b)).map entB from ⟨eq_true (by omega), wallE_map h2, mdel_wall h2⟩)))
  by_cases c : up = 0
  · have e : wlF ws id up = ws.filter fun b => !(id == b) := by unfold wlF; rw [if_pos c]
    rw [e] at hs hlen hok
    have hp := And.intro base (show (up != 0) = false ∧ (up = 0) = True ∧ okB (ws.filter fun b => !(id == b)) = true ∧ srtI (ws.filter fun b => !(id == b)) = wlGo ws id up 7 1 ∧ (ws.filter fun b => !(id == b)).length = (wlGo ws id up 7 1).length from ⟨by simp [c], eq_true c, hok, hs, hlen⟩)
    refine wk1 ?_
    refine am_retC [(3, 1), (6, 2)] rfl ?_ ?_ rfl <;> first | rfl | (refine go ?_; rfl) | refine go ?_ | (simp only [go_sem, ↓reduceIte, List.map_cons, List.map_nil]; done) | (simp [go_sem]; intro _ _; rfl)
  · have e : wlF ws id up = (ws.filter fun b => !(id == b)) ++ [id] := by unfold wlF; rw [if_neg c]
    rw [e] at hs hlen hok
    have hni : id ∉ ws.filter fun b => !(id == b) := fun h => by simpa using (List.mem_filter.1 h).2
    have hp := And.intro base (show (up != 0) = true ∧ (up = 0) = False ∧ mset (.int .i64 id) (.bool true) ((ws.filter fun b => !(id == b)).map entB) = ((ws.filter fun b => !(id == b)) ++ [id]).map entB ∧ okB ((ws.filter fun b => !(id == b)) ++ [id]) = true ∧ srtI ((ws.filter fun b => !(id == b)) ++ [id]) = wlGo ws id up 7 1 ∧ ((ws.filter fun b => !(id == b)) ++ [id]).length = (wlGo ws id up 7 1).length from ⟨by simp [c], eq_false c, mset_new hni, hok, hs, hlen⟩)
    refine wk1 ?_
    refine am_retC [(3, 1), (6, 2)] rfl ?_ ?_ rfl <;> first | rfl | (refine go ?_; rfl) | refine go ?_ | (simp only [go_sem, ↓reduceIte, List.map_cons, List.map_nil]; done) | (simp [go_sem]; intro _ _; rfl)
end Go.Proofs.YthnpbfljoghbmaaA
