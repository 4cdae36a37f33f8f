/- A map's keys, in their order: what the two library functions answer, as contracts over plain states. -/
import Derived.Test.YthnpbfljoghbmaaCTab
import Derived.Test.YthnpbfljoghbmaaCLay
namespace Go.Proofs.YthnpbfljoghbmaaA
open Go.Proofs Go.RowKit Go.Maps Go.Sort Go.Shelf
set_option autoImplicit false
set_option linter.unusedVariables false
set_option linter.unusedSimpArgs false
set_option maxRecDepth 4000
theorem fc_below {w w' : World} {E : Env} (hpre : Pre w E) (hfresh : ∀ b o, w.heap.size ≤ b → E.own b o = none) (hb : Below w.heap.size w w') : FC w E E w' :=
  ⟨hpre, hb.os, hb.tape, hb.output, hb.size, fun _ _ h => h, fun b hlt => by
    rw [hb.block b hlt]
    exact ⟨fun _ => rfl, fun cur ty fr hx => ⟨cur, hx, rfl, fun _ _ => rfl⟩⟩, fun _ _ _ _ => rfl, fun b o h => hfresh b o (Nat.le_trans hb.size h), fun b o he => he⟩
theorem keys_core {f fi ty : Nat} (hn : ∃ fn, Try.prog.funcs[f]? = some fn ∧ (fn.name == "runtime.NumGoroutine") = false ∧ fn.body.isSome = true)
    (hc : ∀ (mb : Option Nat) (W : World), CallsIn Fence.wide 5 Try.prog f #[.map mb] W fun e w' => e = .returned (.func (.func fi) #[] #[.pointer (some ⟨W.heap.size, 0, none⟩)]) ∧ w' = W.alloc (.cells #[.map mb] ty)) (d : Option IntKind) (es : List (Value × Value)) :
    TC Try.prog f [.c (.mp 1)] [(1, .mp d es)] 2 (.c (.sq fi 1)) [(1, .mp d es)] 2 := by
  refine ⟨hn, fun E w vs hvs hobjs hnext hzero hfresh hown hpre => ?_⟩
  match vs, hvs with
  | [v], ⟨g1, _⟩ =>
    obtain ⟨g, h1, rfl⟩ := rtC g1
    obtain ⟨g', arr, clock, h2, h3, h4, h5, h6, h7⟩ := hobjs 1 _ rfl
    rw [h1] at h2
    cases h2
    have hg : g < w.heap.size := (Array.getElem?_eq_some_iff.1 h3).1
    refine (callsIn_wide.1 (hc (some g) w)).mono ?_
    rintro e w' ⟨rfl, rfl⟩
    have hb : Below w.heap.size w (w.alloc (.cells #[.map (some g)] ty)) := (Below.refl _ w).alloc (Nat.le_refl _) _
    refine ⟨_, E, rfl, ⟨w.heap.size, g, rfl, hfresh _ _ (Nat.le_refl _), by simp, h1⟩, fc_below hpre hfresh hb, fun id x hx => ?_, hnext, hzero⟩
    simp only [look] at hx
    split at hx
    · rename_i e
      subst e
      cases hx
      exact ⟨g, arr, clock, h1, (hb.block g hg).trans h3, h4, h5, h6, h7⟩
    · cases hx
theorem sorted_core {f fi et : Nat} {d : Option IntKind} {es : List (Value × Value)} {us : List Value} (hn : ∃ fn, Try.prog.funcs[f]? = some fn ∧ (fn.name == "runtime.NumGoroutine") = false ∧ fn.body.isSome = true) (hu : ∀ u, u ∈ us → u.oneCell' = true) (hul : us.length = es.length)
    (hc : ∀ (W : World) (g gm : Nat) (arr : Array MapEntry) (clock : Nat), W.cell? ⟨g, 0, none⟩ = some (.map (some gm)) → W.heap[gm]? = some (.map arr clock) → (arr.toList.map fun e => (e.key, e.val)) = es → Go.MapKept.Stamped arr clock →
      Calls Try.prog f #[.func (.func fi) #[] #[.pointer (some ⟨g, 0, none⟩)]] W fun e w' => ∃ v, e = .returned v ∧ w'.ownsRow W.heap.size et 1 v us.length us ∧ Below W.heap.size W w') :
    TC Try.prog f [.c (.sq fi 1)] [(1, .mp d es)] 2 (.c (.own 2 0 us.length)) [(1, .mp d es), (2, .arr et 1 (us.map fun u => [.v u]))] 3 := by
  refine ⟨hn, fun E w vs hvs hobjs hnext hzero hfresh hown hpre => ?_⟩
  match vs, hvs with
  | [v], ⟨g1, _⟩ =>
    obtain ⟨g, gm, rfl, h0, h1, h2⟩ := rtC g1
    obtain ⟨g', arr, clock, h2', h3, h4, h5, h6, h7⟩ := hobjs 1 _ rfl
    rw [h2] at h2'
    cases h2'
    have hg : gm < w.heap.size := (Array.getElem?_eq_some_iff.1 h3).1
    refine (hc w g gm arr clock h1 h3 h4 h7).mono ?_
    rintro e w' ⟨v, rfl, hrow, hb⟩
    have mp1 : ∀ E' : Env, E'.at_ 1 = E.at_ 1 → (∀ o, E'.own gm o = E.own gm o) → RObj E' w' 1 (.mp d es) := fun E' e1 e2 => ⟨gm, arr, clock, by rw [e1]; exact h2, (hb.block gm hg).trans h3, h4, fun o => by rw [e2]; exact h5 o, h6, h7⟩
    obtain ⟨hlen, hcase⟩ := hrow
    rcases hcase with ⟨rfl, hz⟩ | ⟨gr, cap, cur, rfl, hbase, hgr, r1, r2, r3, r4⟩
    · have hus : us = [] := List.eq_nil_of_length_eq_zero hz
      subst hus
      refine ⟨_, ⟨fun k => if k = 2 then some .nil else E.at_ k, E.own⟩, rfl, .inl ⟨rfl, rfl, rfl, rfl⟩, ?_, fun id x hx => ?_, fun id hid => ?_, ?_⟩
      · have hf := fc_below hpre hfresh hb
        exact ⟨hf.pre, hf.os, hf.tape, hf.output, hf.size, fun id B h => by
          show (if id = 2 then some Base.nil else E.at_ id) = some B
          rw [if_neg (fun e => by rw [e, hnext 2 (Nat.le_refl _)] at h; cases h)]
          exact h, hf.blk, hf.keep, hf.fresh, hf.pos⟩
      · simp only [look] at hx
        split at hx
        · rename_i e
          subst e
          cases hx
          exact mp1 _ rfl fun _ => rfl
        split at hx
        · rename_i e
          subst e
          cases hx
          exact .inl ⟨rfl, rfl⟩
        · cases hx
      · show (if id = 2 then some Base.nil else E.at_ id) = none
        rw [if_neg (by omega)]
        exact hnext id (by omega)
      · exact hzero
    · refine ⟨_, E.new 2 (.arr gr 1 cap) gr, rfl, ?_, ?_, fun id x hx => ?_, fun id hid => ?_, ?_⟩
      · exact .inr ⟨gr, 1, cap, 0, rfl, by rw [Nat.sub_zero], by omega, fun _ => rfl⟩
      · have hf := fc_below hpre hfresh hb
        refine ⟨hf.pre, hf.os, hf.tape, hf.output, hf.size, fun id B h => ?_, hf.blk, fun b o hlt hfx => ?_, fun b o hle => ?_, fun b o he => ?_⟩
        · show (if id = 2 then _ else E.at_ id) = some B
          rw [if_neg (fun e => by rw [e, hnext 2 (Nat.le_refl _)] at h; cases h)]
          exact h
        · show (if b = gr then some 2 else E.own b o) = E.own b o
          rw [if_neg (by omega)]
        · have hlt : gr < w'.heap.size := (Array.getElem?_eq_some_iff.1 hgr).1
          show (if b = gr then some 2 else E.own b o) = none
          rw [if_neg (by omega)]
          exact hfresh b o (Nat.le_trans hb.size hle)
        · have he' : (if b = gr then some 2 else E.own b o) = some 0 := he
          split at he'
          · cases he'
          · exact he'
      · simp only [look] at hx
        split at hx
        · rename_i e
          subst e
          cases hx
          refine mp1 _ rfl fun o => ?_
          show (if gm = gr then some 2 else E.own gm o) = E.own gm o
          rw [if_neg (by omega)]
        split at hx
        · rename_i e
          subst e
          cases hx
          refine .inr ⟨gr, cap, cur, rfl, hgr, r3, by simpa using r1, r2, fun o => ?_, fun x hx => ?_, fun i x hx j t ht => ?_⟩
          · show (if gr = gr then some 2 else E.own gr o) = some 2
            rw [if_pos rfl]
          · obtain ⟨u, _, rfl⟩ := List.mem_map.1 hx
            rfl
          · rw [List.getElem?_map] at hx
            cases hz : us[i]? with
            | none => rw [hz] at hx; cases hx
            | some u =>
              rw [hz] at hx
              cases hx
              cases j with
              | zero =>
                cases ht
                have hi := (List.getElem?_eq_some_iff.1 hz).1
                refine ⟨u, ?_, .v u (hu u (List.mem_of_getElem? hz))⟩
                have h8 : (cur.toList.take (us.length * 1))[i]? = some u := by rw [r4]; exact hz
                rw [List.getElem?_take_of_lt (by omega)] at h8
                simpa using h8
              | succ j => simp at ht
        · cases hx
      · show (if id = 2 then _ else E.at_ id) = none
        rw [if_neg (by omega)]
        exact hnext id (by omega)
      · exact hzero
/-! ### The keys as the library's contracts know them -/
def RU : Value → Option (DataW Unit × List MemPlace) := fun _ => some (.nil, [])
theorem rdU {k : TypeId} {x : MapEntry} {l : Lit} (h : Go.keyOf Try.prog k x.key = some l) : Go.WideElems.rd Try.prog k RU x = some (l, .nil) := by
  simp [Go.WideElems.rd, h, RU]
theorem owns_of {k : TypeId} {W : World} {gm : Nat} {arr : Array MapEntry} {clock : Nat} {es : List (Value × Value)} {f : Value → Lit} (h1 : W.heap[gm]? = some (.map arr clock)) (h2 : (arr.toList.map fun e => (e.key, e.val)) = es) (h3 : Go.MapKept.Stamped arr clock)
    (hk : ∀ p, p ∈ es → Go.keyOf Try.prog k p.1 = some (f p.1)) (hm : es.length ≤ maxLen) : ∃ D : DataW Unit, W.ownsMap Try.prog k RU gm arr.size D ∧ Maps.size D = es.length ∧ ∃ l, D = .map l ∧ (l.map fun p => p.1).Perm (es.map fun p => f p.1) := by
  have hr : ∀ x, x ∈ arr.toList → Go.WideElems.rd Try.prog k RU x = some (f x.key, .nil) := fun x hx => rdU (hk (x.key, x.val) (by rw [← h2]; exact List.mem_map.2 ⟨x, hx, rfl⟩))
  have hl : arr.size = es.length := by rw [← h2]; simp
  have hp := Go.WideShapes.sorted_perm (arr.toList.map (Go.WideElems.rg Try.prog k RU))
  refine ⟨_, ⟨arr, clock, h1, ⟨by omega, h3, fun x hx => ⟨_, hr x hx⟩⟩, Nat.le_refl _, rfl⟩, ?_, _, rfl, ?_⟩
  · rw [Maps.size_eq, hp.length_eq]
    simp [hl]
  · refine (hp.map _).trans ?_
    rw [← h2, List.map_map, List.map_map]
    have : arr.toList.map ((fun p : Lit × DataW Unit => p.1) ∘ Go.WideElems.rg Try.prog k RU) = arr.toList.map ((fun p : Value × Value => f p.1) ∘ fun e : MapEntry => (e.key, e.val)) :=
      List.map_congr_left fun x hx => by simp [Go.WideElems.rg, hr x hx]
    rw [this]
/-! ### Texts -/
def litT : Value → Lit
  | .string s => .string s.data.toList
  | _ => .bool false
def litI : Value → Lit
  | .int k n => .int k n
  | _ => .bool false
/-- Texts in their order. -/
def srtT (ks : List ByteArray) : List ByteArray := ((ks.map fun k => k.toList).mergeSort (fun x y => decide (x ≤ y))).map fun l => ⟨l.toArray⟩
def srtI (ks : List Int) : List Int := ks.mergeSort fun x y => decide (x ≤ y)
theorem srtT_len (ks : List ByteArray) : (srtT ks).length = ks.length := by simp [srtT, List.length_mergeSort]
theorem srtI_len (ks : List Int) : (srtI ks).length = ks.length := by simp [srtI, List.length_mergeSort]
theorem sortsP (m : Nat) : AnyZ.SortsIn Try.prog sortedP_ren Fence.wide m := ⟨fun blk off cap ss W hH hblk hsz => callsIn_wide.2 (AnyM.slices_Sort_string sortP blk off cap ss W hH hblk hsz), fun p cap W => callsIn_wide.2 (AnyM.slices_Sort_string_none sortP p cap W)⟩
theorem sortsI (m : Nat) : AnyZI.SortsIn Try.prog sortedI_ren Fence.wide m := ⟨fun blk off cap ss W hH hblk hsz => callsIn_wide.2 (AnyM.slices_Sort_int sortI blk off cap ss W hH hblk hsz), fun p cap W => callsIn_wide.2 (AnyM.slices_Sort_int_none sortI p cap W)⟩
theorem keysP_tc (es : List (Value × Value)) : TC Try.prog 151 [.c (.mp 1)] [(1, .mp none es)] 2 (.c (.sq 173 1)) [(1, .mp none es)] 2 := keys_core ⟨_, Try.func151, by kernel_rfl, rfl⟩ (fun mb W => AnyZ.keys_in keysP Fence.wide 5 trivial rfl mb W) none es
theorem keysS_tc (es : List (Value × Value)) : TC Try.prog 152 [.c (.mp 1)] [(1, .mp (some .i64) es)] 2 (.c (.sq 174 1)) [(1, .mp (some .i64) es)] 2 := keys_core ⟨_, Try.func152, by kernel_rfl, rfl⟩ (fun mb W => AnyZI.keys_in keysS Fence.wide 5 trivial rfl mb W) (some .i64) es
theorem keysB_tc (es : List (Value × Value)) : TC Try.prog 88 [.c (.mp 1)] [(1, .mp (some .i64) es)] 2 (.c (.sq 140 1)) [(1, .mp (some .i64) es)] 2 := keys_core ⟨_, Try.func88, by kernel_rfl, rfl⟩ (fun mb W => AnyZI.keys_in keysB Fence.wide 5 trivial rfl mb W) (some .i64) es
def sT (k : ByteArray) : List Tree := [.v (.string k)]
def iT1 (k : Int) : List Tree := [.v (.int .i64 k)]
theorem sortedP_tc (es : List (Value × Value)) (ks : List ByteArray) (hk : es.map (fun p => p.1) = ks.map .string) (hw : ∀ k, k ∈ ks → k.size ≤ maxLen) (hl : ks.length ≤ 2097152) :
    TC Try.prog 150 [.c (.sq 173 1)] [(1, .mp none es)] 2 (.c (.own 2 0 ks.length)) [(1, .mp none es), (2, .arr 9 1 ((srtT ks).map sT))] 3 := by
  have hne : es.length = ks.length := by simpa using congrArg List.length hk
  have h := sorted_core (f := 150) (fi := 173) (et := 9) (d := none) (es := es) (us := (srtT ks).map .string) ⟨_, Try.func150, by kernel_rfl, rfl⟩ (fun u hu => by obtain ⟨k, _, rfl⟩ := List.mem_map.1 hu; rfl) (by simp [srtT_len, hne]) fun W g gm arr clock h1 h2 h3 h4 => by
    obtain ⟨D, hown, hsz, l, hD, hperm⟩ := owns_of (k := 9) (f := litT) h2 h3 h4 (fun p hp => by
      have : p.1 ∈ es.map (fun p => p.1) := List.mem_map.2 ⟨p, hp, rfl⟩
      rw [hk] at this
      obtain ⟨k, hkk, e⟩ := List.mem_map.1 this
      rw [← e]
      exact Go.WideMaps.keyOf_string_mk Try.underlying9 (hw k hkk)) (by simp only [maxLen]; omega)
    have hgb : g < W.heap.size := cell_lt h1
    have hseq : SeqGives Fence.wide 2 Try.prog 173 #[.pointer (some ⟨g, 0, none⟩)] encStr (fun ss => ss.Perm (strKeys D)) (Maps.size D) W := AnyZ.keys_gives (ρ := keysP_ren) { keysP with } Fence.wide _ trivial rfl (by omega) g gm _ D W hgb h1 hown
    have hS := AnyZ.sorted_in sortedP Fence.wide 5 trivial trivial trivial trivial rfl (by omega) (sortsP _) (enters_of Try.func172 (by kernel_rfl) rfl) 173 #[.pointer (some ⟨g, 0, none⟩)] trivial (enters_of Try.func173 (by kernel_rfl) rfl) _ _ (by rw [hsz]; simp only [maxLen]; omega) (by rw [hsz]; omega) W hseq
    refine (callsIn_wide.1 hS).mono ?_
    rintro e w' ⟨v, ss, rfl, hp, hrow, _, hb⟩
    have hp2 : ss.Perm (ks.map fun k => k.toList) := by
      subst hD
      refine hp.trans ?_
      have := hperm.map strOf
      simp only [List.map_map] at this
      refine List.Perm.trans (by exact .refl _) (this.trans ?_)
      have e2 : es.map ((strOf ∘ fun p : Value × Value => litT p.1)) = (es.map fun p => p.1).map fun v => strOf (litT v) := by simp [List.map_map, Function.comp_def]
      rw [show (List.map (strOf ∘ fun p : Value × Value => litT p.1) es) = (es.map fun p => p.1).map fun v => strOf (litT v) from e2, hk, List.map_map]
      have : (ks.map ((fun v => strOf (litT v)) ∘ Value.string)) = ks.map fun k => k.toList := List.map_congr_left fun k _ => (ByteArray.toList_eq k).symm
      rw [this]
    have e1 : (ss.mergeSort (fun x y => decide (x ≤ y))).map encStr = (srtT ks).map .string := by
      rw [show ss.mergeSort (fun x y => decide (x ≤ y)) = (ks.map fun k => k.toList).mergeSort (fun x y => decide (x ≤ y)) from mergeSort_of_perm hp2]
      simp only [srtT, List.map_map]
      rfl
    have e3 : ss.length = ((srtT ks).map Value.string).length := by simp [srtT_len, hp2.length_eq]
    rw [e1, e3] at hrow
    exact ⟨v, rfl, hrow, hb⟩
  have e4 : ((srtT ks).map Value.string).length = ks.length := by simp [srtT_len]
  rw [e4, List.map_map] at h
  exact h

theorem sortedI_tc (fi : Nat) (es : List (Value × Value)) (ks : List Int) (hk : es.map (fun p => p.1) = ks.map (.int .i64)) (hw : ∀ k, k ∈ ks → IntKind.i64.min ≤ k ∧ k ≤ IntKind.i64.max) (hl : ks.length ≤ 2097152)
    (hen : ∀ args w, (callFunc fi args).run Try.prog w = .ok (.enter fi args) w)
    (hg : ∀ (gm nn : Nat) (D0 : DataW Unit) (w : World) (Bm : Nat), Bm < w.heap.size → w.cell? ⟨Bm, 0, none⟩ = some (.map (some gm)) → w.ownsMap Try.prog 3 RU gm nn D0 → SeqGives Fence.wide 2 Try.prog fi #[.pointer (some ⟨Bm, 0, none⟩)] encZ (fun ss => ss.Perm (intKeys D0)) (Maps.size D0) w) :
    TC Try.prog 87 [.c (.sq fi 1)] [(1, .mp (some .i64) es)] 2 (.c (.own 2 0 ks.length)) [(1, .mp (some .i64) es), (2, .arr 3 1 ((srtI ks).map iT1))] 3 := by
  have hne : es.length = ks.length := by simpa using congrArg List.length hk
  have h := sorted_core (f := 87) (fi := fi) (et := 3) (d := some .i64) (es := es) (us := (srtI ks).map (.int .i64)) ⟨_, Try.func87, by kernel_rfl, rfl⟩ (fun u hu => by obtain ⟨k, _, rfl⟩ := List.mem_map.1 hu; rfl) (by simp [srtI_len, hne]) fun W g gm arr clock h1 h2 h3 h4 => by
    obtain ⟨D, hown, hsz, l, hD, hperm⟩ := owns_of (k := 3) (f := litI) h2 h3 h4 (fun p hp => by
      have : p.1 ∈ es.map (fun p => p.1) := List.mem_map.2 ⟨p, hp, rfl⟩
      rw [hk] at this
      obtain ⟨k, hkk, e⟩ := List.mem_map.1 this
      rw [← e]
      exact keyOf_int_mk Try.underlying3 (by have := hw k hkk; simp only [Lit.wf, Bool.and_eq_true, decide_eq_true_eq]; exact this)) (by simp only [maxLen]; omega)
    have hgb : g < W.heap.size := cell_lt h1
    have hseq := hg gm _ D W g hgb h1 hown
    have hS := AnyZI.sorted_in sortedI Fence.wide 5 trivial trivial trivial trivial rfl (by omega) (sortsI _) (enters_of Try.func139 (by kernel_rfl) rfl) fi #[.pointer (some ⟨g, 0, none⟩)] trivial hen _ _ (by rw [hsz]; simp only [maxLen]; omega) (by rw [hsz]; omega) W hseq
    refine (callsIn_wide.1 hS).mono ?_
    rintro e w' ⟨v, ss, rfl, hp, hrow, _, hb⟩
    have hp2 : ss.Perm ks := by
      subst hD
      refine hp.trans ?_
      have := hperm.map Go.intOf
      simp only [List.map_map] at this
      refine List.Perm.trans (by exact .refl _) (this.trans ?_)
      have e2 : es.map ((Go.intOf ∘ fun p : Value × Value => litI p.1)) = (es.map fun p => p.1).map fun v => Go.intOf (litI v) := by simp [List.map_map, Function.comp_def]
      rw [show (List.map (Go.intOf ∘ fun p : Value × Value => litI p.1) es) = (es.map fun p => p.1).map fun v => Go.intOf (litI v) from e2, hk, List.map_map]
      have : (ks.map ((fun v => Go.intOf (litI v)) ∘ Value.int .i64)) = ks := by
        rw [show ((fun v => Go.intOf (litI v)) ∘ Value.int .i64) = id from rfl, List.map_id]
      rw [this]
    have e1 : ss.mergeSort (fun x y => decide (x ≤ y)) = srtI ks := mergeSort_of_perm_i hp2
    have e3 : ss.length = ((srtI ks).map (Value.int .i64)).length := by simp [srtI_len, hp2.length_eq]
    rw [e1, e3] at hrow
    exact ⟨v, rfl, hrow, hb⟩
  have e4 : ((srtI ks).map (Value.int .i64)).length = ks.length := by simp [srtI_len]
  rw [e4, List.map_map] at h
  exact h
end Go.Proofs.YthnpbfljoghbmaaA
