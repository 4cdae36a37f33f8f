/- The calculus: structs and slices that are built; structs compared. -/
import Derived.Test.YthnpbfljoghbmaaB2
import Derived.Laws.BytesArg
import Derived.Laws.Small
import Derived.Laws.StructEq
import Derived.ChangeKeysEq
import Derived.Laws.MakeOwn
import Derived.MapKept
namespace Go.Proofs.YthnpbfljoghbmaaA
set_option autoImplicit false
set_option linter.unusedVariables false

/-! ### What 'fill' does -/
theorem fold_set (off : Nat) : ∀ (cs : List Value) (k : Nat) (cells : Array Value), ((cs.zipIdx k).foldl (fun (a : Array Value) (p : Value × Nat) => a.setIfInBounds (off + p.2) p.1) cells).size = cells.size ∧
    ∀ j, j < cells.size → ((cs.zipIdx k).foldl (fun (a : Array Value) (p : Value × Nat) => a.setIfInBounds (off + p.2) p.1) cells)[j]? = if off + k ≤ j ∧ j < off + k + cs.length then cs[j - (off + k)]? else cells[j]?
  | [], k, cells => ⟨rfl, fun j hj => by rw [if_neg (by simp <;> omega)]; rfl⟩
  | c :: cs, k, cells => by
    obtain ⟨h1, h2⟩ := fold_set off cs (k + 1) (cells.setIfInBounds (off + k) c)
    simp only [List.zipIdx_cons, List.foldl_cons]
    refine ⟨by rw [h1]; simp, fun j hj => ?_⟩
    rw [h2 j (by simpa using hj)]
    by_cases e : j = off + k
    · subst e
      rw [if_neg (by omega), if_pos ⟨by omega, by simp⟩]
      simp [hj]
    · by_cases hin : off + k ≤ j ∧ j < off + k + (c :: cs).length
      · rw [if_pos (by simp at hin ⊢; omega), if_pos hin]
        obtain ⟨i, rfl⟩ : ∃ i, j = off + k + 1 + i := ⟨j - (off + k + 1), by omega⟩
        rw [show off + k + 1 + i - (off + (k + 1)) = i by omega, show off + k + 1 + i - (off + k) = i + 1 by omega]
        simp
      · rw [if_neg (by simp at hin ⊢; omega), if_neg hin, Array.getElem?_setIfInBounds, if_neg (Ne.symm e)]
theorem fold_arr (off : Nat) (v cells : Array Value) : (v.zipIdx.foldl (fun cs (c, j) => cs.setIfInBounds (off + j) c) cells) = ((v.toList.zipIdx 0).foldl (fun (a : Array Value) (p : Value × Nat) => a.setIfInBounds (off + p.2) p.1) cells) := by
  rw [← Array.foldl_toList, Array.toList_zipIdx]
theorem fill_cons {place : Nat → Option (Nat × Nat)} {cells : Array Value} {i off size : Nat} {v : Value} {rest : List (Nat × Value)} (hp : place i = some (off, size)) (hs : v.cells.size = size) (hf : off + size ≤ cells.size) :
    ∃ cells', Instr.fill place cells ((i, v) :: rest) = Instr.fill place cells' rest ∧ cells'.size = cells.size ∧ ∀ j, j < cells.size → cells'[j]? = if off ≤ j ∧ j < off + size then v.cells[j - off]? else cells[j]? := by
  refine ⟨_, by simp only [Instr.fill, hp, hs]; rw [if_neg (by simp; omega)], ?_⟩
  rw [fold_arr]
  obtain ⟨h1, h2⟩ := fold_set off v.cells.toList 0 cells
  refine ⟨h1, fun j hj => ?_⟩
  rw [h2 j hj]
  simp only [Nat.add_zero, Array.length_toList, hs]
  split
  · simp
  · rfl

section
variable {P : Program} {Γ : Nat → Option Row} {C : Ctx} {Q : Exit → St → Prop} {st : St} {o : Oper} {K : St → Prop} {E : Env} {a : Act} {w : World}

/-! ### A struct built -/
def placeT (Γ : Nat → Option Row) (fs : List (Nat × Nat)) (i : Nat) : Option (Nat × Nat) :=
  match fs[i]? with
  | some (off, ty) => (Γ ty).map fun q => (off, q.size)
  | none => none
def fillC (Γ : Nat → Option Row) (fs : List (Nat × Nat)) : List CV → List (Nat × TV) → Option (List CV)
  | cs, [] => some cs
  | cs, (i, x) :: r => match placeT Γ fs i, tvCells x with
    | some (off, sz), some us => if us.length = sz ∧ off + sz ≤ cs.length then fillC Γ fs (splice cs off us) r else none
    | _, _ => none
theorem fillC_ok {place : Nat → Option (Nat × Nat)} {fs : List (Nat × Nat)} (hpl : ∀ i off sz, placeT Γ fs i = some (off, sz) → place i = some (off, sz)) :
    ∀ {ps : List (Nat × TV)} {vs : List (Nat × Value)} {cells : Array Value} {cs cs' : List CV}, All2 (fun v p => v.1 = p.1 ∧ RT E w v.2 p.2) vs ps → All2 (RC E w) cells.toList cs → fillC Γ fs cs ps = some cs' →
      ∃ cells', Instr.fill place cells vs = some cells' ∧ All2 (RC E w) cells'.toList cs'
  | [], [], cells, cs, cs', _, hc, h => by cases h; exact ⟨cells, rfl, hc⟩
  | (i, x) :: ps, (i', v) :: vs, cells, cs, cs', hv, hc, h => by
    obtain ⟨⟨hi, hx⟩, hv⟩ := hv
    simp only at hi hx
    subst hi
    simp only [fillC] at h
    split at h
    · rename_i off sz us hp hu
      split at h
      · rename_i hcond
        obtain ⟨h1, h2⟩ := hcond
        obtain ⟨uv, h3, h4, _⟩ := tvCells_ok hx hu
        have hlen := hc.length
        have hvl := h4.length
        have hs : v.cells.size = sz := by rw [h3]; simp; omega
        have hcl : cells.size = cs.length := by rw [← hlen]; simp
        obtain ⟨cells', h5, h6, h7⟩ := fill_cons (place := place) (cells := cells) (rest := vs) (hpl _ _ _ hp) hs (by rw [hcl]; omega)
        rw [h5]
        refine fillC_ok hpl hv ?_ h
        have hsz : cells.size = cs.length := by rw [← hlen]; simp
        refine All2.mk (by rw [splice_length (by omega)]; simp [h6, hsz]) fun j u c hu' hc' => ?_
        have hj : j < cells.size := by rw [hsz, ← splice_length (off := off) (cs := us) (by omega)]; exact (List.getElem?_eq_some_iff.1 hc').1
        rw [Array.getElem?_toList, h7 j hj] at hu'
        rw [splice_get (by omega)] at hc'
        split at hc'
        · rename_i hin
          rw [if_pos (by omega), h3] at hu'
          obtain ⟨u', h8, h9⟩ := h4.get hc'
          have : u' = u := by simpa [h8] using hu'
          subst this
          exact h9
        · rename_i hin
          rw [if_neg (by omega)] at hu'
          obtain ⟨u', h8, h9⟩ := hc.get hc'
          rw [Array.getElem?_toList, hu'] at h8
          cases h8
          exact h9
      · cases h
    · cases h
  | [], _ :: _, _, _, _, h, _, _ => h.elim
  | _ :: _, [], _, _, _, h, _, _ => h.elim

theorem amOp_build (hΓ : TabOk P Γ) {t : TypeId} {parts : Array (Nat × Operand)} {r : Row} {fs : List (Nat × Nat)} {cs : List CV} (ho : o.op = .build t parts) (ht : Γ t = some r) (hk : r.k = .struct fs)
    (hc : fillC Γ fs (r.zero.map fun v => .t (.v v)) (parts.toList.map fun p => (p.1, st.eval p.2)) = some cs) (hfs : ∀ p, p ∈ fs → (Γ p.2).isSome = true) (hd : dstOk C.n o = true) (hK : K (st.put o.dst (.agg cs))) : amOp P C o Q K st := by
  refine amOp_pure hd hK fun E a w hr => ?_
  have hrow := hΓ t r ht
  have hkk := hrow.k
  rw [hk] at hkk
  obtain ⟨fa, hu, hfa⟩ := hkk
  obtain ⟨i, hi, hsz, _, ⟨z, hz, hzc, hzz⟩, hzl, hall, _⟩ := hrow.info
  have hvs : All2 (fun (v : Nat × Value) (p : Nat × TV) => v.1 = p.1 ∧ RT E w v.2 p.2) (parts.toList.map fun p => (p.1, a.eval p.2)) (parts.toList.map fun p => (p.1, st.eval p.2)) := by
    generalize parts.toList = l
    induction l with
    | nil => trivial
    | cons p l ih => exact ⟨⟨rfl, hr.eval p.2⟩, ih⟩
  have hmap : ∀ (F : Field → Sem (Nat × Nat)), (∀ f q w, Γ f.type = some q → (F f).run P w = .ok (f.offset, q.size) w) → ∀ l : List Field, (∀ f, f ∈ l → (Γ f.type).isSome = true) → (l.mapM F).run P w = .ok (l.map fun f => (f.offset, ((Γ f.type).map (·.size)).getD 0)) w := by
    intro F hF l hl
    induction l with
    | nil => rfl
    | cons f l ih =>
      obtain ⟨q, hq⟩ := Option.isSome_iff_exists.1 (hl f List.mem_cons_self)
      rw [List.mapM_cons, Sem.run_bind, hF f q w hq, Result.andThen_ok, Sem.run_bind, ih fun g hg => hl g (List.mem_cons_of_mem _ hg), Result.andThen_ok]
      simp [hq]
  have hall' : ∀ f, f ∈ fa.toList → (Γ f.type).isSome = true := fun f hf => hfs (f.offset, f.type) (by rw [← hfa]; exact List.mem_map.2 ⟨f, hf, rfl⟩)
  obtain ⟨cells', h1, h2⟩ := fillC_ok (place := ((fa.toList.map fun f => (f.offset, ((Γ f.type).map (·.size)).getD 0)).toArray[·]?)) (fs := fs) (fun k off sz hp => by
    unfold placeT at hp
    rw [← hfa] at hp
    rw [List.getElem?_map] at hp
    cases hf : fa.toList[k]? with
    | none => rw [hf] at hp; cases hp
    | some f =>
      rw [hf] at hp
      simp only [Option.map_some] at hp
      cases hq : Γ f.type with
      | none => rw [hq] at hp; cases hp
      | some q =>
        rw [hq] at hp
        cases hp
        simp [hf, hq]) hvs (cells := z.cells) (by rw [hzc]; exact all2_zero hall) hc
  refine ⟨.agg cells', ?_, cells'.toList, by simp, h2⟩
  have hF : ∀ (f : Field) (q : Row) (w : World), Γ f.type = some q → (do pure (f.offset, ← sizeOf f.type) : Sem (Nat × Nat)).run P w = .ok (f.offset, q.size) w := fun f q w hq => by simp [run_sizeOf hΓ hq]
  have hb : (Instr.build t (parts.map fun (i, x) => (i, a.eval x))).run P w = .ok (.agg cells') w := by
    unfold Instr.build
    have hz' : (zeroValue t).run P w = .ok z w := by simp [zeroValue, typeInfo, hi, hz]
    rw [Sem.run_bind, hz', Result.andThen_ok, Sem.run_bind, run_underlying hu, Result.andThen_ok]
    simp only []
    rw [Sem.run_bind, Array.mapM_eq_mapM_toList]
    have hm := hmap _ hF fa.toList hall'
    have hm2 : (List.toArray <$> (fa.toList.mapM fun f => do pure (f.offset, ← sizeOf f.type) : Sem (List (Nat × Nat)))).run P w = .ok (fa.toList.map fun f => (f.offset, ((Γ f.type).map (·.size)).getD 0)).toArray w := by
      rw [map_eq_pure_bind, Sem.run_bind, hm]
      rfl
    rw [hm2, Result.andThen_ok]
    have h1' : Instr.fill ((fa.toList.map fun f => (f.offset, ((Γ f.type).map (·.size)).getD 0)).toArray[·]?) z.cells (parts.map fun (i, x) => (i, a.eval x)).toList = some cells' := by
      rw [← h1]; congr 1; simp
    rw [h1']
    rfl
  unfold execOp
  simp only [ho]
  rw [Sem.run_bind, hb]
  rfl

/-! ### A slice built -/
def treesOf : List CV → Option (List Tree)
  | [] => some []
  | .t x :: l => (treesOf l).map (x :: ·)
  | _ :: _ => none
/-- The parts, in order from k on, each of sz cells. -/
def rowsFrom (sz : Nat) : Nat → List (Nat × TV) → Option (List (List Tree))
  | _, [] => some []
  | k, (i, x) :: l => if i = k then (match (tvCells x).bind treesOf with
    | some ts => if ts.length = sz then (rowsFrom sz (k + 1) l).map (ts :: ·) else none
    | none => none) else none
theorem treesOf_ok : ∀ {cs : List CV} {ts : List Tree} {vs : List Value}, treesOf cs = some ts → All2 (RC E w) vs cs → All2 (RO w (roE E)) vs ts
  | [], _, [], h, _ => by cases h; trivial
  | .t x :: l, ts, v :: vs, h, k => by
    simp only [treesOf] at h
    cases hl : treesOf l with
    | none => rw [hl] at h; cases h
    | some ts' => rw [hl] at h; cases h; exact ⟨k.1, treesOf_ok hl k.2⟩
  | [], _, _ :: _, _, k => k.elim
  | _ :: _, _, [], _, k => k.elim
  | .own _ _ _ :: _, _, _ :: _, h, _ => by cases h
  | .ptr _ _ :: _, _, _ :: _, h, _ => by cases h
  | .ifp _ _ _ :: _, _, _ :: _, h, _ => by cases h
  | .ep _ _ _ :: _, _, _ :: _, h, _ => by cases h
  | .rp _ :: _, _, _ :: _, h, _ => by cases h
  | .irp _ _ :: _, _, _ :: _, h, _ => by cases h
  | .gv _ _ :: _, _, _ :: _, h, _ => by cases h
  | .sq _ _ :: _, _, _ :: _, h, _ => by cases h
  | .junk :: _, _, _ :: _, h, _ => by cases h
theorem fill_rows {sz : Nat} : ∀ {ps : List (Nat × TV)} {vs : List (Nat × Value)} {k : Nat} {cells : Array Value} {xs : List (List Tree)}, All2 (fun (v : Nat × Value) (p : Nat × TV) => v.1 = p.1 ∧ RT E w v.2 p.2) vs ps → rowsFrom sz k ps = some xs → (k + ps.length) * sz ≤ cells.size →
    ∃ cells', Instr.fill (fun i => some (i * sz, sz)) cells vs = some cells' ∧ cells'.size = cells.size ∧ (∀ j, j < k * sz → cells'[j]? = cells[j]?) ∧ (∀ x, x ∈ xs → x.length = sz) ∧ xs.length = ps.length ∧
      ∀ (i : Nat) x, xs[i]? = some x → ∀ (j : Nat) t, x[j]? = some t → ∃ v, cells'[(k + i) * sz + j]? = some v ∧ RO w (roE E) v t
  | [], [], k, cells, xs, _, h, _ => by cases h; exact ⟨cells, rfl, rfl, fun _ _ => rfl, (fun x hx => by cases hx), rfl, (fun i x hx => by simp at hx)⟩
  | (i, x) :: ps, (i', v) :: vs, k, cells, xs, hv, h, hsz => by
    obtain ⟨⟨hi, hx⟩, hv⟩ := hv
    simp only at hi hx
    subst hi
    simp only [rowsFrom] at h
    split at h
    · rename_i hik
      subst hik
      split at h
      · rename_i ts hts
        split at h
        · rename_i htl
          cases hr : rowsFrom sz (i' + 1) ps with
          | none => rw [hr] at h; cases h
          | some xs' =>
            rw [hr] at h
            cases h
            cases hcs : tvCells x with
            | none => rw [hcs] at hts; cases hts
            | some cs =>
              rw [hcs] at hts
              obtain ⟨uv, h3, h4, _⟩ := tvCells_ok hx hcs
              have h5 := treesOf_ok (show treesOf cs = some ts from hts) h4
              have hvl := h5.length
              have hs : v.cells.size = sz := by rw [h3]; simp; omega
              simp only [List.length_cons] at hsz
              have hle : i' * sz + sz ≤ cells.size := by
                have : (i' + 1) * sz ≤ (i' + (ps.length + 1)) * sz := Nat.mul_le_mul_right _ (by omega)
                rw [Nat.add_mul, Nat.one_mul] at this
                omega
              obtain ⟨c1, h6, h7, h8⟩ := fill_cons (place := fun i => some (i * sz, sz)) (cells := cells) (rest := vs) rfl hs hle
              obtain ⟨c2, g1, g2, g3, g4, g5, g6⟩ := fill_rows (cells := c1) hv hr (by rw [h7, show i' + 1 + ps.length = i' + (ps.length + 1) by omega]; exact hsz)
              refine ⟨c2, by rw [h6]; exact g1, by rw [g2, h7], fun j hj => ?_, fun y hy => ?_, by simp [g5], fun q y hy j t ht => ?_⟩
              · rw [g3 j (by rw [Nat.add_mul]; omega), h8 j (by omega), if_neg (by omega)]
              · rcases List.mem_cons.1 hy with e | hy
                · subst e; exact htl
                · exact g4 y hy
              · cases q with
                | zero =>
                  simp at hy
                  subst hy
                  have hj : j < sz := by rw [← htl]; exact (List.getElem?_eq_some_iff.1 ht).1
                  obtain ⟨u, h9, h10⟩ := h5.get ht
                  refine ⟨u, ?_, h10⟩
                  rw [Nat.add_zero, g3 (i' * sz + j) (by rw [Nat.add_mul]; omega), h8 _ (by omega), if_pos (by omega), show i' * sz + j - i' * sz = j by omega, h3]
                  simpa using h9
                | succ q =>
                  obtain ⟨u, h9, h10⟩ := g6 q y (by simpa using hy) j t ht
                  exact ⟨u, by rw [show i' + (q + 1) = i' + 1 + q by omega]; exact h9, h10⟩
        · cases h
      · cases h
    · cases h
  | [], _ :: _, _, _, _, h, _, _ => h.elim
  | _ :: _, [], _, _, _, h, _, _ => h.elim

theorem amOp_buildSlice (hΓ : TabOk P Γ) {t e : TypeId} {len : Nat} {parts : Array (Nat × Operand)} {r : Row} {xs : List (List Tree)} (ho : o.op = .buildSlice t len parts) (ht : P.underlying t = some (.slice e)) (he : Γ e = some r)
    (hc : rowsFrom r.size 0 (parts.toList.map fun p => (p.1, st.eval p.2)) = some xs) (hl : parts.size = len) (hn : len * r.size ≤ 16777216) (hpos : 0 < r.size) (hd : dstOk C.n o = true) (hK : K ((st.new (.arr e r.size xs)).put o.dst (.c (.own st.next 0 len)))) : amOp P C o Q K st := by
  refine amOp_step hd hK fun E a w hr => ?_
  obtain ⟨i, hi, hsz, hby, ⟨z, hz, hzc, _⟩, hzl, hall, _⟩ := (hΓ e r he).info
  have hvs : All2 (fun (v : Nat × Value) (p : Nat × TV) => v.1 = p.1 ∧ RT E w v.2 p.2) (parts.toList.map fun p => (p.1, a.eval p.2)) (parts.toList.map fun p => (p.1, st.eval p.2)) := by
    generalize parts.toList = l
    induction l with
    | nil => trivial
    | cons p l ih => exact ⟨⟨rfl, hr.eval p.2⟩, ih⟩
  obtain ⟨cells', h1, h2, _, h3, h4, h5⟩ := fill_rows (sz := r.size) (k := 0) (cells := (Array.range (len * r.size)).map (z.cells[· % z.cells.size]!)) hvs hc (by simp [hl])
  have hxl : xs.length = len := by rw [h4]; simp [hl]
  have hfl : ∃ vs, Flat w (roE E) r.size xs vs ∧ ∀ (k : Nat) v, vs[k]? = some v → cells'[k]? = some v := by
    refine ⟨cells'.toList, ⟨by simp [h2, hxl], h3, fun i x hx j t htt => ?_⟩, fun k v hv => by simpa using hv⟩
    obtain ⟨v, h6, h7⟩ := h5 i x hx j t htt
    exact ⟨v, by rw [Nat.zero_add] at h6; simpa using h6, h7⟩
  obtain ⟨vs, hf, hcv⟩ := hfl
  have hst := step_new hr (.arr w.heap.size r.size len) (.cells cells' e)
  have hmx : len ≤ maxLen := by
    have := Nat.le_mul_of_pos_right len hpos
    unfold maxLen
    omega
  refine ⟨_, .slice (some ⟨w.heap.size, 0, none⟩) len len, w.alloc (.cells cells' e), ?_, hr.new (.arr w.heap.size r.size len) _ _ (robj_of_flat (g := w.heap.size) (cap := len) (vs := vs) (by simp [Env.new]) (Go.heap_alloc_new w _) (by simp [h2]) (by omega) hmx (fun o => by simp [Env.new]) (hf.mono fun v t h => hst.ro h) hcv), .inr ⟨w.heap.size, r.size, len, 0, by simp [Env.new], rfl, by omega, fun _ => by omega⟩⟩
  have hbig : ¬ (2 ^ 24 < len * r.size) := by omega
  by_cases hne : len * r.size = 0
  · have hl0 : len = 0 := by
      rcases Nat.mul_eq_zero.1 hne with h0 | h0
      · exact h0
      · omega
    subst hl0
    have hpe : parts = #[] := Array.size_eq_zero_iff.1 hl
    subst hpe
    have hce : cells' = #[] := by
      apply Array.size_eq_zero_iff.1
      rw [h2]
      simp
    subst hce
    have hr0 : Array.range 0 = #[] := rfl
    simp [execOp, ho, Instr.buildSlice, run_underlying ht, run_sizeOf hΓ he, newRow, Instr.fill, hr0]
  simp [execOp, ho, Instr.buildSlice, run_underlying ht, run_sizeOf hΓ he, hbig, hne, zeroValue, typeInfo, hi, hz, h1, newRow]

/-! ### Structs compared -/
theorem amOp_eqS {op : BinOp} {ty yt : TypeId} {x y : Operand} {us vs : List Value} {b : Bool} (ho : o.op = .binOp op ty x y yt) (hx : st.eval x = .agg (us.map fun v => .t (.v v))) (hy : st.eval y = .agg (vs.map fun v => .t (.v v)))
    (hrun : ∀ (w : World) (x y : Operand), (do eqGuard op ty x y (.agg us.toArray) (.agg vs.toArray); binOp op ty (.agg us.toArray) (.agg vs.toArray) : Sem Value).run P w = .ok (.bool b) w) (hd : dstOk C.n o = true) (hK : K (st.put o.dst (lit (.bool b)))) : amOp P C o Q K st := by
  have lits : ∀ {E : Env} {w : World} {l : List Value} {vs : List Value}, All2 (RC E w) vs (l.map fun v => .t (.v v)) → vs = l := by
    intro E w l
    induction l with
    | nil => intro vs h; cases vs with
      | nil => rfl
      | cons _ _ => exact h.elim
    | cons v l ih => intro vs h; cases vs with
      | nil => exact h.elim
      | cons u vs => obtain ⟨h1, h2⟩ := h; rw [ro_v h1, ih h2]
  refine amOp_pure hd hK fun E a w hr => ⟨.bool b, ?_, .v _ rfl⟩
  have h1 := hr.eval x
  have h2 := hr.eval y
  rw [hx] at h1
  rw [hy] at h2
  obtain ⟨us', h3, h4⟩ := rtA h1
  obtain ⟨vs', h5, h6⟩ := rtA h2
  have := lits h4; subst this
  have := lits h6; subst this
  have h7 := hrun w x y
  unfold execOp
  simp only [ho, h3, h5]
  rw [Sem.run_bind, h7]
  rfl
end
end Go.Proofs.YthnpbfljoghbmaaA
/- The calculus: arrays of one-cell elements, by value and behind an address. -/
namespace Go.Proofs.YthnpbfljoghbmaaA
set_option autoImplicit false
set_option linter.unusedVariables false
/-- An array's places, one a cell. -/
def idxFs (e : Nat) : List Value → Nat → List (Nat × Nat)
  | [], _ => []
  | _ :: l, k => (k, e) :: idxFs e l (k + 1)
theorem idxFs_get {e : Nat} : ∀ {l : List Value} {k j : Nat} {p : Nat × Nat}, (idxFs e l k)[j]? = some p → p = (k + j, e) ∧ j < l.length
  | [], _, _, _, h => by simp [idxFs] at h
  | v :: l, k, 0, p, h => by simp [idxFs] at h; subst h; simp
  | v :: l, k, j + 1, p, h => by
    simp only [idxFs, List.getElem?_cons_succ] at h
    obtain ⟨h1, h2⟩ := idxFs_get h
    subst h1
    exact ⟨by rw [show k + 1 + j = k + (j + 1) by omega], by simp; omega⟩
section
variable {P : Program} {C : Ctx} {Q : Exit → St → Prop} {st : St} {E : Env} {a : Act} {w : World} {Γ : Nat → Option Row} {K : St → Prop} {o : Oper}
theorem amOp_buildArr (hΓ : TabOk P Γ) {t n e : Nat} {parts : Array (Nat × Operand)} {r q : Row} {cs : List CV} (ho : o.op = .build t parts) (ht : Γ t = some r) (hk : r.k = .arr n e) (hq : Γ e = some q) (hq1 : q.size = 1)
    (hc : fillC Γ (idxFs e r.zero 0) (r.zero.map fun v => .t (.v v)) (parts.toList.map fun p => (p.1, st.eval p.2)) = some cs) (hd : dstOk C.n o = true) (hK : K (st.put o.dst (.agg cs))) : amOp P C o Q K st := by
  refine amOp_pure hd hK fun E a w hr => ?_
  have hrow := hΓ t r ht
  have hu := hrow.k
  rw [hk] at hu
  obtain ⟨i, hi, hsz, _, ⟨z, hz, hzc, hzz⟩, hzl, hall, _⟩ := hrow.info
  have hvs : All2 (fun (v : Nat × Value) (p : Nat × TV) => v.1 = p.1 ∧ RT E w v.2 p.2) (parts.toList.map fun p => (p.1, a.eval p.2)) (parts.toList.map fun p => (p.1, st.eval p.2)) := by
    generalize parts.toList = l
    induction l with
    | nil => trivial
    | cons p l ih => exact ⟨⟨rfl, hr.eval p.2⟩, ih⟩
  obtain ⟨cells', h1, h2⟩ := fillC_ok (place := fun i => some (i * 1, 1)) (fs := idxFs e r.zero 0) (fun k off sz hp => by
    unfold placeT at hp
    cases hf : (idxFs e r.zero 0)[k]? with
    | none => rw [hf] at hp; cases hp
    | some p =>
      rw [hf] at hp
      obtain ⟨rfl, _⟩ := idxFs_get hf
      simp only [hq, Option.map_some] at hp
      cases hp
      simp [hq1]) hvs (cells := z.cells) (by rw [hzc]; exact all2_zero hall) hc
  refine ⟨.agg cells', ?_, cells'.toList, by simp, h2⟩
  have hb : (Instr.build t (parts.map fun (i, x) => (i, a.eval x))).run P w = .ok (.agg cells') w := by
    unfold Instr.build
    have hz' : (zeroValue t).run P w = .ok z w := by simp [zeroValue, typeInfo, hi, hz]
    have hs1 := run_sizeOf (w := w) hΓ hq
    rw [hq1] at hs1
    have h3 : (parts.map fun (i, x) => (i, a.eval x)).toList = parts.toList.map fun p => (p.1, a.eval p.2) := by simp
    rw [Sem.run_bind, hz', Result.andThen_ok, Sem.run_bind, run_underlying hu, Result.andThen_ok]
    simp only [Sem.run_bind, hs1, Result.andThen_ok, h3, h1]
    rfl
  unfold execOp
  simp only [ho]
  rw [Sem.run_bind, hb]
  rfl
theorem amOp_indexArr (hΓ : TabOk P Γ) {t n e : Nat} {x ix : Operand} {r q : Row} {xs : List CV} {c : CV} {k : IntKind} {i : Int} (ho : o.op = .index t x ix) (ht : Γ t = some r) (hk : r.k = .arr n e) (hq : Γ e = some q) (hrow0 : q.k.isRow = false)
    (hx : st.eval x = .agg xs) (hi : st.eval ix = lit (.int k i)) (h0 : 0 ≤ i) (hn : i < n) (hc : xs[i.toNat]? = some c) (hd : dstOk C.n o = true) (hK : K (st.put o.dst (.c c))) : amOp P C o Q K st := by
  refine amOp_pure hd hK fun E a w hr => ?_
  have hu := (hΓ t r ht).k
  rw [hk] at hu
  obtain ⟨_, hi', hsz, _, _, _, _, hs1⟩ := (hΓ e q hq).info
  have hq1 := hs1 hrow0
  obtain ⟨D, hD, hDr⟩ := row_isAgg (hΓ e q hq)
  have h1 := hr.eval x
  rw [hx] at h1
  obtain ⟨vs, h2, h3⟩ := h1
  obtain ⟨v, h4, h5⟩ := h3.get hc
  refine ⟨v, ?_, h5⟩
  have hs2 := run_sizeOf (w := w) hΓ hq
  rw [hq1] at hs2
  have hpart : (part e vs.toArray (i.toNat * 1)).run P w = .ok v w := by
    have hagg : (isAgg e).run P w = .ok false w := by rw [run_isAgg hD, hDr, hrow0]
    simp [part, hagg, h4]
  have h9 : 0 ≤ i ∧ i < (n : Int) := ⟨h0, hn⟩
  have hb : (Instr.index t (a.eval x) (a.eval ix)).run P w = .ok v w := by
    rw [h2, hr.lit hi]
    unfold Instr.index
    simp only [asIntOf, Sem.run_bind, Sem.run_pure, Result.andThen_ok, run_underlying hu]
    rw [if_pos h9]
    simp only [Sem.run_bind, hs2, Result.andThen_ok, hpart]
  unfold execOp
  simp only [ho]
  rw [Sem.run_bind, hb]
  rfl
theorem amOp_indexPtr (hΓ : TabOk P Γ) {t n e : Nat} {x ix : Operand} {r q : Row} {id off : Nat} {k : IntKind} {i : Int} (ho : o.op = .indexAddr t x ix) (ht : Γ t = some r) (hk : r.k = .arr n e) (hq : Γ e = some q)
    (hx : st.eval x = .c (.ptr id off)) (hi : st.eval ix = lit (.int k i)) (h0 : 0 ≤ i) (hn : i < n) (hd : dstOk C.n o = true) (hK : K (st.put o.dst (.c (.ptr id (off + i.toNat * q.size))))) : amOp P C o Q K st := by
  refine amOp_pure hd hK fun E a w hr => ?_
  have hu := (hΓ t r ht).k
  rw [hk] at hu
  have h1 := hr.eval x
  rw [hx] at h1
  obtain ⟨g, base, h2, h3⟩ := rtC h1
  refine ⟨.pointer (some ⟨g, base + (off + i.toNat * q.size), none⟩), ?_, g, base, h2, rfl⟩
  have h9 : 0 ≤ i ∧ i < (n : Int) := ⟨h0, hn⟩
  have hii := hr.lit hi
  simp [execOp, ho, h3, hii, Instr.indexAt, Instr.sureAddr, asIntOf, run_underlying hu, h9, run_sizeOf hΓ hq, Addr.add_mid, Nat.add_assoc]
end
end Go.Proofs.YthnpbfljoghbmaaA
/- The calculus, twelfth part: a region's operations, reckoned one behind the other. -/
namespace Go.Proofs.YthnpbfljoghbmaaA
set_option autoImplicit false
set_option linter.unusedVariables false

def behindO (obj : Nat → Option AObj) : TV → Option (List CV)
  | .c (.ptr id off) => match obj id with
    | some (.cells xs) => some (xs.drop off)
    | _ => none
  | .c (.ep id i j) => match obj id with
    | some (.arr _ _ xs) => (xs[i]?).map fun x => (x.drop j).map .t
    | some (.nest _ _ xs) => (xs[i]?).map fun x => (x.drop j).map ncCV
    | _ => none
  | .c (.rp xs) => some (xs.map .t)
  | _ => none
theorem behindO_eq (st : St) (x : TV) : behindO st.obj x = behind st x := by
  unfold behindO behind
  rfl
def isBoolT (Γ : Nat → Option Row) (t : Nat) : Bool :=
  match Γ t with
  | some r => match r.k with | .bool => true | _ => false
  | none => false
def isStrT (Γ : Nat → Option Row) (t : Nat) : Bool :=
  match Γ t with
  | some r => match r.k with | .str => true | _ => false
  | none => false
def elemT (Γ : Nat → Option Row) (t : Nat) : Option (Nat × Row) :=
  match Γ t with
  | some r => match r.k with | .slice e => (Γ e).map fun q => (e, q) | _ => none
  | none => none
def pureBin (Γ : Nat → Option Row) (op : BinOp) (ty : Nat) (x y : TV) : Option TV :=
  match cv1 x, cv1 y with
  | some u, some v => if isBool u = true then (if isBoolT Γ ty = true then (binLit op u v).map lit else none) else (binLit op u v).map lit
  | _, _ => none
def pureConv (Γ : Nat → Option Row) (s d : Nat) (x : TV) : Option TV :=
  match Γ s, Γ d, cv1 x with
  | some _, some r, some (.int _ n) => match r.k with | .int k' => some (lit (.int k' (k'.wrap n))) | _ => none
  | some _, some r, some (.string b) => match r.k with | .str => some (lit (.string b)) | _ => none
  | _, _, _ => none
def pureIndexSl (Γ : Nat → Option Row) (obj : Nat → Option AObj) (t : Nat) (x i : TV) : Option TV :=
  match elemT Γ t, cv1 i with
  | some (_, r), some (.int _ n) =>
    if 0 ≤ n then
      (match x with
      | .c (.t (.sl sz xs)) => if r.size = sz then (xs[n.toNat]?).map fun el => .c (.rp el) else none
      | .c (.own id lo len) => match obj id with
        | some (.arr _ sz _) => if r.size = sz ∧ n.toNat < len then some (.c (.ep id (lo + n.toNat) 0)) else none
        | some (.nest _ sz _) => if r.size = sz ∧ n.toNat < len then some (.c (.ep id (lo + n.toNat) 0)) else none
        | _ => none
      | _ => none)
    else none
  | _, _ => none
def idxA (n : Nat) (q : Option Row) (xs : List CV) (i : Int) : Option TV :=
  match q with
  | some q => if q.k.isRow = false ∧ 0 ≤ i ∧ i < n then (xs[i.toNat]?).map .c else none
  | none => none
def arrT (Γ : Nat → Option Row) (t : Nat) : Option (Nat × Nat) :=
  match Γ t with
  | some r => match r.k with
    | .arr n e => some (n, e)
    | _ => none
  | none => none
def pureIndex (Γ : Nat → Option Row) (t : Nat) (x i : TV) : Option TV :=
  match x, cv1 i with
  | .agg xs, some (.int _ n) => match arrT Γ t with
    | some (m, e) => idxA m (Γ e) xs n
    | none => none
  | .c (.t (.v (.string s))), some (.int _ n) => if 0 ≤ n then (if isStrT Γ t = true then (s[n.toNat]?).map fun b => lit (.int .u8 b.toNat) else none) else none
  | _, _ => none
def ptrA (n : Nat) (q : Option Row) (id off : Nat) (i : Int) : Option TV :=
  match q with
  | some q => if 0 ≤ i ∧ i < n then some (.c (.ptr id (off + i.toNat * q.size))) else none
  | none => none
def cutB (ev : Operand → TV) (lo hi : Option Operand) (len : Nat) : Option (Nat × Nat) :=
  match (match lo with | none => some 0 | some x => match cv1 (ev x) with | some (.int _ n) => if 0 ≤ n then some n.toNat else none | _ => none),
        (match hi with | none => some len | some x => match cv1 (ev x) with | some (.int _ n) => if 0 ≤ n then some n.toNat else none | _ => none) with
  | some l, some h => if l ≤ h ∧ h ≤ len then some (l, h) else none
  | _, _ => none
theorem cutB_eq (st : St) (lo hi : Option Operand) (len : Nat) : cutB st.eval lo hi len = cutOf st lo hi len := rfl
def cutSize (obj : Nat → Option AObj) (r : Row) : TV → Bool
  | .c (.t (.sl sz _)) => decide (r.size = sz)
  | .c (.own id _ _) => match obj id with
    | some (.arr _ sz _) => decide (r.size = sz)
    | _ => false
  | _ => true
def pureCut (Γ : Nat → Option Row) (ev : Operand → TV) (obj : Nat → Option AObj) (t : Nat) (x : Operand) (lo hi : Option Operand) : Option TV :=
  match cv1 (ev x) with
  | some (.string s) => if isStrT Γ t = true then (cutB ev lo hi s.size).map fun p => lit (.string (s.extract p.1 p.2)) else none
  | _ => match elemT Γ t, lenTV (ev x) with
    | some (_, r), some n => if cutSize obj r (ev x) = true then (match cutB ev lo hi n with | some (l, h) => cutTV (ev x) l h | none => none) else none
    | _, _ => none
def pureLen (Γ : Nat → Option Row) (t : Nat) (x : TV) : Option TV :=
  match cv1 x with
  | some (.string s) => if isStrT Γ t = true then some (lit (.int .i64 s.size)) else none
  | _ => match elemT Γ t with
    | some _ => (lenTV x).map fun n : Nat => lit (.int .i64 (n : Int))
    | none => none
def pureMinMax (b : Builtin) (x y : TV) : Option TV :=
  match b, cv1 x, cv1 y with
  | .min, some (.int k m), some (.int _ n) => some (lit (.int k (if n < m then n else m)))
  | .max, some (.int k m), some (.int _ n) => some (lit (.int k (if n > m then n else m)))
  | _, _, _ => none
/-- The parts, each with what it yields. -/
def evMap (ev : Operand → TV) (l : List (Nat × Operand)) : List (Nat × TV) := l.map fun p => (p.1, ev p.2)
@[go_sem] theorem evMap_nil {ev : Operand → TV} : evMap ev [] = [] := rfl
@[go_sem] theorem evMap_cons {ev : Operand → TV} {p : Nat × Operand} {l : List (Nat × Operand)} : evMap ev (p :: l) = (p.1, ev p.2) :: evMap ev l := rfl
def buildA (Γ : Nat → Option Row) (e : Nat) (zero : List Value) (parts : List (Nat × TV)) : Option Row → Option TV
  | some q => if q.size = 1 then (fillC Γ (idxFs e zero 0) (zero.map fun v => .t (.v v)) parts).map .agg else none
  | none => none
def pureBuild (Γ : Nat → Option Row) (ev : Operand → TV) (t : Nat) (parts : List (Nat × Operand)) : Option TV :=
  match Γ t with
  | some r => match r.k with
    | .struct fs => if fs.all (fun p => (Γ p.2).isSome) = true then (fillC Γ fs (r.zero.map fun v => .t (.v v)) (evMap ev parts)).map .agg else none
    | .arr _ e => buildA Γ e r.zero (evMap ev parts) (Γ e)
    | _ => none
  | none => none
/-- Bytes as a text. -/
def byteRows : List (List Tree) → Option (List Int)
  | [] => some []
  | x :: l => match x, byteRows l with
    | [.v (.int .u8 n)], some ns => some (n :: ns)
    | _, _ => none
def strTV : Option (List Int) → Option TV
  | some ns => some (lit (.string (strOfNums ns)))
  | none => none
def bytesK (Γ : Nat → Option Row) (s d : Nat) : Bool :=
  match elemT Γ s, Γ d with
  | some (_, re), some rd => (match re.k with | .int .u8 => true | _ => false) && (match rd.k with | .str => true | _ => false)
  | _, _ => false
def pureStr (obj : Nat → Option AObj) (x : TV) : Option TV :=
  match x with
  | .c (.own id lo len) => match obj id with
    | some (.arr _ _ xs) => if lo + len ≤ xs.length then strTV (byteRows ((xs.drop lo).take len)) else none
    | _ => none
  | .c (.t (.sl _ xs)) => strTV (byteRows xs)
  | _ => none
def pureConvB (Γ : Nat → Option Row) (obj : Nat → Option AObj) (s d : Nat) (x : TV) : Option TV := if bytesK Γ s d = true then pureStr obj x else pureConv Γ s d x
def pureIndexAddr (Γ : Nat → Option Row) (obj : Nat → Option AObj) (t : Nat) (x i : TV) : Option TV :=
  match x, arrT Γ t, cv1 i with
  | .c (.ptr id off), some (m, e), some (.int _ n) => ptrA m (Γ e) id off n
  | _, _, _ => pureIndexSl Γ obj t x i
/-- What an operation that only reckons and reads yields. -/
def pureVal (Γ : Nat → Option Row) (ev : Operand → TV) (obj : Nat → Option AObj) (op : Op) : Option TV :=
  match op with
  | .move x | .assign x => some (ev x)
  | .pick c x y => match cv1 (ev c) with
    | some (.bool b) => some (pickTV b (ev x) (ev y))
    | _ => none
  | .binOp op ty x y _ => pureBin Γ op ty (ev x) (ev y)
  | .unOp op _ x => match cv1 (ev x) with
    | some u => (unLit op u).map lit
    | none => none
  | .convert s d x => pureConvB Γ obj s d (ev x)
  | .nilCheck x => if someTV (ev x) = true then some (ev x) else none
  | .fieldAddr s x f => match fieldOf Γ s f with
    | some (off, _, q) => if q.size = 0 then none else addrTV off (ev x)
    | none => none
  | .load t x => match Γ t, behindO obj (ev x) with
    | some r, some cs => loadTV r cs
    | _, _ => none
  | .indexAddr t x i => pureIndexAddr Γ obj t (ev x) (ev i)
  | .index t x i => pureIndex Γ t (ev x) (ev i)
  | .field t x f => match fieldOf Γ t f, ev x with
    | some (off, _, q), .agg xs => loadTV q (xs.drop off)
    | _, _ => none
  | .extract x i => match ev x with
    | .tup xs => xs[i]?
    | _ => none
  | .slice t x lo hi none => pureCut Γ ev obj t x lo hi
  | .build t parts => pureBuild Γ ev t parts.toList
  | .call c => match c.callee, c.args.toList, c.argTypes.toList with
    | .builtin .len, [x], [t] => pureLen Γ t (ev x)
    | .builtin b, [x, y], _ => pureMinMax b (ev x) (ev y)
    | _, _, _ => none
  | _ => none

section
variable {P : Program} {Γ : Nat → Option Row} {C : Ctx} {Q : Exit → St → Prop} {st : St} {o : Oper} {K : St → Prop} {E : Env} {a : Act} {w : World}
theorem binLit_one {op : BinOp} {u v r : Value} (h : binLit op u v = some r) : r.oneCell' = true := by
  cases u <;> cases v <;> simp only [binLit, reduceCtorEq] at h
  case int.int k a k' b =>
    split at h
    · cases hs : shiftInt op k a b with
      | none => rw [hs] at h; cases h
      | some c => rw [hs] at h; cases h; rfl
    · split at h
      · split at h
        · cases hs : cmpInt op a b with
          | none => rw [hs] at h; cases h
          | some c => rw [hs] at h; cases h; rfl
        · cases hs : arithInt op k a b with
          | none => rw [hs] at h; cases h
          | some c => rw [hs] at h; cases h; rfl
      · cases h
  case string.string s t =>
    cases op <;> simp [strBin] at h
    case add => obtain ⟨_, rfl⟩ := h; rfl
    all_goals subst h; rfl
  case bool.bool s t => cases op <;> simp [boolBin] at h <;> subst h <;> rfl
theorem isBoolT_ok (hΓ : TabOk P Γ) {t : Nat} (h : isBoolT Γ t = true) : P.underlying t = some .bool := by
  unfold isBoolT at h
  split at h
  · rename_i r hr
    have := (hΓ t r hr).k
    split at h
    · rename_i hk; rw [hk] at this; exact this
    · cases h
  · cases h
theorem arrT_ok {t n e : Nat} (h : arrT Γ t = some (n, e)) : ∃ r, Γ t = some r ∧ r.k = .arr n e := by
  unfold arrT at h
  split at h
  · rename_i r hr
    split at h
    · rename_i hk; cases h; exact ⟨r, hr, hk⟩
    · cases h
  · cases h
theorem isStrT_ok (hΓ : TabOk P Γ) {t : Nat} (h : isStrT Γ t = true) : P.underlying t = some .string := by
  unfold isStrT at h
  split at h
  · rename_i r hr
    have := (hΓ t r hr).k
    split at h
    · rename_i hk; rw [hk] at this; exact this
    · cases h
  · cases h
theorem elemT_ok (hΓ : TabOk P Γ) {t e : Nat} {q : Row} (h : elemT Γ t = some (e, q)) : P.underlying t = some (.slice e) ∧ Γ e = some q := by
  unfold elemT at h
  split at h
  · rename_i r hr
    have := (hΓ t r hr).k
    split at h
    · rename_i e' hk
      rw [hk] at this
      cases hq : Γ e' with
      | none => rw [hq] at h; cases h
      | some q' => rw [hq] at h; cases h; exact ⟨this, hq⟩
    · cases h
  · cases h
theorem und_some (hΓ : TabOk P Γ) {t : Nat} {r : Row} (h : Γ t = some r) : ∃ D, P.underlying t = some D := by
  obtain ⟨D, hD, _⟩ := row_isAgg (hΓ t r h); exact ⟨D, hD⟩

theorem byteRows_ok : ∀ {l : List (List Tree)} {ns : List Int}, byteRows l = some ns → l = ns.map fun n => [Tree.v (.int .u8 n)]
  | [], ns, h => by cases h; rfl
  | x :: l, ns, h => by
    unfold byteRows at h
    split at h
    · rename_i n ns' hl
      cases h
      rw [byteRows_ok hl]
      rfl
    · cases h
theorem strTV_some {x : Option (List Int)} {X : TV} (h : strTV x = some X) : ∃ ns, x = some ns ∧ X = lit (.string (strOfNums ns)) := by
  cases x with
  | none => cases h
  | some ns => cases h; exact ⟨ns, rfl, rfl⟩
theorem run_bytesStr {e sd dd : TypeId} (w : World) (hs : P.underlying sd = some (.slice e)) (he : P.underlying e = some (.int .u8)) (hdd : P.underlying dd = some .string) {a : Option Addr} {len cap : Nat} {ns : List Int} (hlen : ns.length = len) (ha : ns ≠ [] → ∃ g o, a = some ⟨g, o, none⟩ ∧ ∀ i, i < len → w.cell? ⟨g, o + i, none⟩ = some (.int .u8 (ns.getD i 0))) :
    (convert sd dd (.slice a len cap)).run P w = .ok (.string (strOfNums ns)) w := by
  cases ns with
  | nil =>
    simp at hlen
    subst hlen
    cases a with
    | none => exact run_convert_bytes_nil w sd e hs he 0 cap dd hdd
    | some a =>
      rw [run_convert_bytes_string w sd dd e _ 0 cap hs he hdd, run_bytesToString w a 0 cap [] (by simpa using run_loadCells_list (P := P) w a [] (fun j v hj => by simp at hj))]
      rfl
  | cons n ns =>
    obtain ⟨g, o, rfl, hc⟩ := ha (by simp)
    exact run_convert_bytes_arg w sd e hs he g o len cap _ hlen hc dd hdd
theorem amOp_convB (hΓ : TabOk P Γ) {s d : TypeId} {x : Operand} {X : TV} (ho : o.op = .convert s d x) (hb : bytesK Γ s d = true) (h : pureStr st.obj (st.eval x) = some X) (hd : dstOk C.n o = true) (hk : K (st.put o.dst X)) : amOp P C o Q K st := by
  unfold bytesK at hb
  split at hb
  · rename_i e re rd hel hrd
    simp only [Bool.and_eq_true] at hb
    obtain ⟨hu, hre⟩ := elemT_ok hΓ hel
    have hke := (hΓ e re hre).k
    have hkd := (hΓ d rd hrd).k
    have h1 : re.k = .int .u8 := by
      have := hb.1
      split at this
      · assumption
      · cases this
    have h2 : rd.k = .str := by
      have := hb.2
      split at this
      · assumption
      · cases this
    rw [h1] at hke
    rw [h2] at hkd
    unfold pureStr at h
    split at h
    · rename_i id lo len hx
      split at h
      · rename_i ty sz xs hob
        split at h
        · rename_i hle
          obtain ⟨ns, h3, rfl⟩ := strTV_some h
          have h4 := byteRows_ok h3
          have hnl : ns.length = len := by
            have := congrArg List.length h4
            simp at this
            omega
          refine amOp_pure hd hk fun E a w hr => ?_
          have hxx := hr.eval x
          rw [hx] at hxx
          refine ⟨.string (strOfNums ns), ?_, .v _ rfl⟩
          have hat : ∀ i, i < len → xs[lo + i]? = some [Tree.v (.int .u8 (ns.getD i 0))] := fun i hi => by
            have h5 : ((xs.drop lo).take len)[i]? = (ns.map fun n => [Tree.v (.int .u8 n)])[i]? := by rw [h4]
            rw [List.getElem?_take, if_pos hi, List.getElem?_drop, List.getElem?_map, List.getElem?_eq_getElem (show i < ns.length by omega)] at h5
            rw [h5]
            simp [List.getD, List.getElem?_eq_getElem (show i < ns.length by omega)]
          have hrun : (convert s d (a.eval x)).run P w = .ok (.string (strOfNums ns)) w := by
            rcases rtC hxx with ⟨h5, h6, h7, h8⟩ | ⟨g, sz', cap, o', h5, h6, h7, h8⟩
            · rw [h6]
              subst h8
              exact run_bytesStr w hu hke hkd hnl (fun hne => absurd (List.eq_nil_of_length_eq_zero hnl) hne)
            · rw [h6]
              rcases hr.objs _ _ hob with ⟨h9, _⟩ | ⟨g', cap', cur, h9, h10, h11, h12, h13, h14, h15, h16⟩
              · rw [h5] at h9; cases h9
              rw [h5] at h9; cases h9
              refine run_bytesStr w hu hke hkd hnl (fun hne => ⟨g, o', rfl, fun i hi => ?_⟩)
              have h17 := hat i hi
              have hsz : sz = 1 := (h15 _ (List.mem_of_getElem? h17)).symm
              subst hsz
              obtain ⟨v, h18, h19⟩ := h16 _ _ h17 0 _ rfl
              have := ro_v h19
              subst this
              rw [cur_cell h10, h8 (by omega), Nat.mul_one]
              simpa using h18
          unfold execOp
          simp only [ho]
          rw [Sem.run_bind, hrun]
          rfl
        · cases h
      · cases h
    · rename_i sz xs hx
      obtain ⟨ns, h3, rfl⟩ := strTV_some h
      have h4 := byteRows_ok h3
      refine amOp_pure hd hk fun E a w hr => ?_
      have hxx := hr.eval x
      rw [hx] at hxx
      refine ⟨.string (strOfNums ns), ?_, .v _ rfl⟩
      have hrun : (convert s d (a.eval x)).run P w = .ok (.string (strOfNums ns)) w := by
        have hro := rtT hxx
        generalize a.eval x = v at hro
        cases hro with
        | sl a cap sz xs g off f hcap hmax hsz ha hc ht =>
          have hnl : ns.length = xs.length := by rw [h4]; simp
          refine run_bytesStr w hu hke hkd hnl (fun hne => ?_)
          have hxne : xs ≠ [] := fun e => hne (List.eq_nil_of_length_eq_zero (by rw [hnl, e]; rfl))
          refine ⟨g, off, ha hxne, fun i hi => ?_⟩
          have h5 : xs[i]? = some [Tree.v (.int .u8 (ns.getD i 0))] := by
            rw [h4, List.getElem?_map, List.getElem?_eq_getElem (show i < ns.length by omega)]
            simp [List.getD, List.getElem?_eq_getElem (show i < ns.length by omega)]
          have hs1 : sz = 1 := (hsz _ (List.mem_of_getElem? h5)).symm
          subst hs1
          have h6 := (hc i 0 hi (by omega)).2
          have h7 := ro_v (ht i _ h5 0 _ rfl)
          rw [h7, Nat.mul_one] at h6
          simpa using h6
      unfold execOp
      simp only [ho]
      rw [Sem.run_bind, hrun]
      rfl
    · cases h
  · cases hb
theorem pureVal_ok (hΓ : TabOk P Γ) {X : TV} (hd : dstOk C.n o = true) (h : pureVal Γ st.eval st.obj o.op = some X) (hk : K (st.put o.dst X)) : amOp P C o Q K st := by
  generalize ho : o.op = op at h
  cases op <;> simp only [pureVal, reduceCtorEq] at h
  case move x => cases h; exact amOp_move (.inl ho) hd hk
  case assign x => cases h; exact amOp_move (.inr ho) hd hk
  case pick c x y =>
    split at h
    · rename_i b hc; cases h; exact amOp_pick ho (cv1_some hc) hd hk
    · cases h
  case binOp op ty x y yt =>
    unfold pureBin at h
    split at h
    · rename_i u v hu hv
      have hgo : (binLit op u v).map lit = some X → (isBool u = true → P.underlying ty = some .bool) → amOp P C o Q K st := fun h1 h2 => by
        cases hr : binLit op u v with
        | none => rw [hr] at h1; cases h1
        | some r => rw [hr] at h1; cases h1; exact amOp_bin ho (cv1_some hu) (cv1_some hv) hr (binLit_one hr) h2 hd hk
      split at h
      · split at h
        · rename_i hb; exact hgo h fun _ => isBoolT_ok hΓ hb
        · cases h
      · rename_i hb; exact hgo h fun h0 => absurd h0 hb
    · cases h
  case build t parts =>
    unfold pureBuild at h
    split at h
    · rename_i r hr
      split at h
      · rename_i fs hfs
        split at h
        · rename_i hall
          cases hc : fillC Γ fs (r.zero.map fun v => .t (.v v)) (evMap st.eval parts.toList) with
          | none => rw [hc] at h; cases h
          | some cs => rw [hc] at h; cases h; exact amOp_build hΓ ho hr hfs hc (fun p hp => List.all_eq_true.1 hall p hp) hd hk
        · cases h
      · rename_i n e hfs
        unfold buildA at h
        split at h
        · rename_i q hq
          split at h
          · rename_i hq1
            cases hc : fillC Γ (idxFs e r.zero 0) (r.zero.map fun v => .t (.v v)) (evMap st.eval parts.toList) with
            | none => rw [hc] at h; cases h
            | some cs => rw [hc] at h; cases h; exact amOp_buildArr hΓ ho hr hfs hq hq1 hc hd hk
          · cases h
        · cases h
      · cases h
    · cases h
  case unOp op ty x =>
    split at h
    · rename_i u hu
      cases hr : unLit op u with
      | none => rw [hr] at h; cases h
      | some r => rw [hr] at h; cases h; exact amOp_un ho (cv1_some hu) hr hd hk
    · cases h
  case convert s d x =>
    unfold pureConvB at h
    split at h
    · rename_i hb
      exact amOp_convB hΓ ho hb h hd hk
    unfold pureConv at h
    split at h
    · rename_i r1 r k n hs hdd hx
      split at h
      · rename_i k' hk'
        cases h
        obtain ⟨D, hD⟩ := und_some hΓ hs
        have h2 := (hΓ d r hdd).k
        rw [hk'] at h2
        exact amOp_conv ho hD h2 (cv1_some hx) hd hk
      · cases h
    · rename_i r1 r b hs hdd hx
      split at h
      · rename_i hk'
        cases h
        obtain ⟨D, hD⟩ := und_some hΓ hs
        have h2 := (hΓ d r hdd).k
        rw [hk'] at h2
        exact amOp_convStr ho hD h2 (cv1_some hx) hd hk
      · cases h
    · cases h
  case nilCheck x =>
    split at h
    · rename_i hx; cases h; exact amOp_nilCheck ho hx hd hk
    · cases h
  case fieldAddr s x f =>
    split at h
    · rename_i off ty q hf
      split at h
      · cases h
      · rename_i hq; exact amOp_fieldAddr hΓ ho hf hq h hd hk
    · cases h
  case load t x =>
    split at h
    · rename_i r cs hr hb
      rw [behindO_eq] at hb
      exact amOp_load hΓ ho hr hb h hd hk
    · cases h
  case indexAddr t x i =>
    unfold pureIndexAddr at h
    split at h
    · rename_i id off m e k n hx har hi
      obtain ⟨r, hr, hrk⟩ := arrT_ok har
      unfold ptrA at h
      split at h
      · rename_i q hq
        split at h
        · rename_i hc; cases h; exact amOp_indexPtr hΓ ho hr hrk hq hx (cv1_some hi) hc.1 hc.2 hd hk
        · cases h
      · cases h
    unfold pureIndexSl at h
    split at h
    · rename_i e r k n he hi
      obtain ⟨h1, h2⟩ := elemT_ok hΓ he
      split at h
      · rename_i h0
        split at h
        · rename_i sz xs hx
          split at h
          · rename_i hsz
            cases hel : xs[n.toNat]? with
            | none => rw [hel] at h; cases h
            | some el => rw [hel] at h; cases h; exact amOp_indexRo hΓ ho h1 h2 hx hsz (cv1_some hi) h0 hel hd hk
          · cases h
        · rename_i id lo len hx
          split at h
          · rename_i ty sz xs hob
            split at h
            · rename_i hc; cases h; exact amOp_indexOwn hΓ ho h1 h2 hx hob hc.1 (cv1_some hi) h0 hc.2 hd hk
            · cases h
          · rename_i ty sz xs hob
            split at h
            · rename_i hc; cases h; exact amOp_indexNest hΓ ho h1 h2 hx hob hc.1 (cv1_some hi) h0 hc.2 hd hk
            · cases h
          · cases h
        · cases h
      · cases h
    · cases h
  case index t x i =>
    unfold pureIndex at h
    split at h
    · rename_i xs k n hx hi
      split at h
      · rename_i m e har
        obtain ⟨r, hr, hrk⟩ := arrT_ok har
        unfold idxA at h
        split at h
        · rename_i q hq
          split at h
          · rename_i hc
            cases hx' : xs[n.toNat]? with
            | none => rw [hx'] at h; cases h
            | some c => rw [hx'] at h; cases h; exact amOp_indexArr hΓ ho hr hrk hq hc.1 hx (cv1_some hi) hc.2.1 hc.2.2 hx' hd hk
          · cases h
        · cases h
      · cases h
    · rename_i s k n hs hi
      split at h
      · rename_i h0
        split at h
        · rename_i ht
          cases hb : s[n.toNat]? with
          | none => rw [hb] at h; cases h
          | some b => rw [hb] at h; cases h; exact amOp_indexStr ho (isStrT_ok hΓ ht) hs (cv1_some hi) h0 hb hd hk
        · cases h
      · cases h
    · cases h
  case field t x f =>
    split at h
    · rename_i off ty q xs hf hx
      exact amOp_field hΓ ho hf hx h hd hk
    · cases h
  case extract x i =>
    split at h
    · rename_i xs hx; exact amOp_extract ho hx h hd hk
    · cases h
  case slice t x lo hi mx =>
    cases mx with
    | some _ => cases h
    | none =>
      simp only [pureCut] at h
      split at h
      · rename_i s hs
        split at h
        · rename_i ht
          rw [cutB_eq] at h
          cases hc : cutOf st lo hi s.size with
          | none => rw [hc] at h; cases h
          | some p => rw [hc] at h; cases h; exact amOp_cutStr ho (isStrT_ok hΓ ht) (cv1_some hs) hc hd hk
        · cases h
      · split at h
        · rename_i e r n he hn
          obtain ⟨h1, h2⟩ := elemT_ok hΓ he
          split at h
          · rename_i hsz
            rw [cutB_eq] at h
            split at h
            · rename_i l' h' hc
              refine amOp_cut hΓ ho h1 h2 hn hc h (fun sz xs hx => ?_) (fun id l0 len hx => ?_) hd hk
              · rw [hx] at hsz; simpa [cutSize] using hsz
              · rw [hx] at hsz
                simp only [cutSize] at hsz
                split at hsz
                · rename_i ty sz xs hob
                  have : r.size = sz := by simpa using hsz
                  subst this
                  exact ⟨ty, xs, hob⟩
                · cases hsz
            · cases h
          · cases h
        · cases h
  case call c =>
    split at h
    · rename_i x t h1 h2 h3
      have hc : c = { callee := .builtin .len, args := #[x], argTypes := #[t] } := by
        cases c
        simp only at h1 h2 h3
        subst h1
        congr 1
        · apply Array.toList_inj.1; rw [h2]
        · apply Array.toList_inj.1; rw [h3]
      subst hc
      unfold pureLen at h
      split at h
      · rename_i s hs
        split at h
        · rename_i ht; cases h; exact amOp_lenStr ho (isStrT_ok hΓ ht) (cv1_some hs) hd hk
        · cases h
      · split at h
        · rename_i e he
          obtain ⟨e', q⟩ := e
          obtain ⟨h1, h2⟩ := elemT_ok hΓ he
          cases hn : lenTV (st.eval x) with
          | none => rw [hn] at h; cases h
          | some n => rw [hn] at h; cases h; exact amOp_lenSlice (rt := 0) ho h1 hn hd hk
        · cases h
    · rename_i b x y h1 h2
      obtain ⟨ce, as, ts⟩ := c
      simp only at h1 h2
      subst h1
      have has : as = #[x, y] := by apply Array.toList_inj.1; rw [h2]
      subst has
      unfold pureMinMax at h
      split at h
      · rename_i k m k' n hx hy
        cases h
        refine amOp_pure hd hk fun E a w hr => ⟨.int k (if n < m then n else m), ?_, .v _ rfl⟩
        have e1 : a.eval x = .int k m := hr.lit (cv1_some hx)
        have e2 : a.eval y = .int k' n := hr.lit (cv1_some hy)
        have hrun := run_min_int2 (P := P) (w := w) ts o.type k k' m n
        simp [execOp, ho, resolve, invoke, builtin, e1, e2, hrun]
      · rename_i k m k' n hx hy
        cases h
        refine amOp_pure hd hk fun E a w hr => ⟨.int k (if n > m then n else m), ?_, .v _ rfl⟩
        have e1 : a.eval x = .int k m := hr.lit (cv1_some hx)
        have e2 : a.eval y = .int k' n := hr.lit (cv1_some hy)
        have hrun := run_max_int2 (P := P) (w := w) ts o.type k k' m n
        simp [execOp, ho, resolve, invoke, builtin, e1, e2, hrun]
      · cases h
    · cases h
end
end Go.Proofs.YthnpbfljoghbmaaA
/- The calculus: structs of plain fields compared. -/
namespace Go.Proofs.YthnpbfljoghbmaaA
set_option autoImplicit false
set_option linter.unusedVariables false
/-- A struct type whose values are compared field by field. -/
def EqStOk (P : Program) (t : TypeId) : Prop := ∃ fs, P.underlying t = some (.struct fs) ∧ (∀ f, f ∈ fs.toList → f.name ≠ "_") ∧ P.stoodInHeld t = false ∧ P.eqGuardType P.depth t = false
/-- An array type whose values are compared item by item. -/
def EqArOk (P : Program) (t : TypeId) : Prop := ∃ n e, P.underlying t = some (.array n e) ∧ P.eqGuardType P.depth t = false
def EqTyOk (P : Program) (t : TypeId) : Prop := EqStOk P t ∨ EqArOk P t
def eqOne (Γ : Nat → Option Row) (ty : Nat) (x y : Option CV) : Option Bool :=
  match Γ ty, x, y with
  | some r, some (.t (.v u)), some (.t (.v v)) => match r.k, u, v with
    | .int _, .int k a, .int k' b => if k = k' then some (a == b) else none
    | .str, .string a, .string b => some (a == b)
    | .bool, .bool a, .bool b => some (a == b)
    | _, _, _ => none
  | _, _, _ => none
def eqF (Γ : Nat → Option Row) (xs ys : List CV) : List (Nat × Nat) → Option Bool
  | [] => some true
  | (off, ty) :: fs => match eqOne Γ ty xs[off]? ys[off]? with
    | some b => (eqF Γ xs ys fs).map (b && ·)
    | none => none
/-- A field that is a struct of plain fields. -/
def nestB (Γ : Nat → Option Row) (eqs : List Nat) (ty off : Nat) (xs ys : List CV) : Option Bool → Option Bool
  | some b => some b
  | none => match Γ ty with
    | some r => match r.k with
      | .struct fs => if eqs.contains ty = true then eqF Γ ((xs.drop off).take r.size) ((ys.drop off).take r.size) fs else none
      | _ => none
    | none => none
def eqF2 (Γ : Nat → Option Row) (eqs : List Nat) (xs ys : List CV) : List (Nat × Nat) → Option Bool
  | [] => some true
  | (off, ty) :: fs =>
    match nestB Γ eqs ty off xs ys (eqOne Γ ty xs[off]? ys[off]?) with
    | some b => (eqF2 Γ eqs xs ys fs).map (b && ·)
    | none => none
/-- A type of one cell. -/
def oneT (Γ : Nat → Option Row) (e : Nat) : Bool :=
  match Γ e with
  | some q => decide (q.size = 1)
  | none => false
def eqVal (Γ : Nat → Option Row) (eqs : List Nat) (op : BinOp) (t : Nat) (x y : TV) : Option TV :=
  match op, Γ t, x, y with
  | .eql, some r, .agg xs, .agg ys => match r.k with
    | .struct fs => if eqs.contains t = true then (eqF2 Γ eqs xs ys fs).map fun b => lit (.bool b) else none
    | .arr n e => if eqs.contains t = true ∧ r.zero.length = n ∧ oneT Γ e = true then (eqF Γ xs ys (idxFs e r.zero 0)).map fun b => lit (.bool b) else none
    | _ => none
  | .neq, some r, .agg xs, .agg ys => match r.k with
    | .struct fs => if eqs.contains t = true then (eqF2 Γ eqs xs ys fs).map fun b => lit (.bool !b) else none
    | .arr n e => if eqs.contains t = true ∧ r.zero.length = n ∧ oneT Γ e = true then (eqF Γ xs ys (idxFs e r.zero 0)).map fun b => lit (.bool !b) else none
    | _ => none
  | _, _, _, _ => none
/-- What is known of a program's types: those whose values are compared part by part; pointer types; the methods of these. -/
structure Eqs where
  tys : List Nat
  ptrs : List Nat
  mth : Nat → String → Option Nat
def PtrOk (P : Program) (t : TypeId) : Prop := ∃ e i, P.underlying t = some (.pointer e) ∧ P.info? t = some i ∧ i.zero = some (.pointer none)
structure EqsOk (P : Program) (eqs : Eqs) : Prop where
  tys : ∀ t, t ∈ eqs.tys → EqTyOk P t
  ptrs : ∀ t, t ∈ eqs.ptrs → PtrOk P t
  mth : ∀ t n f, eqs.mth t n = some f → MthOk P t n f
/-- A pointer as a value of an interface; the same value asked for its type. -/
def ifpPrep (eqs : Eqs) (t : Nat) : TV → Option TV
  | .c (.ptr id off) => if eqs.ptrs.contains t = true then some (.c (.ifp t id off)) else none
  | .c (.rp xs) => if eqs.ptrs.contains t = true then some (.c (.irp t xs)) else none
  | _ => none
def assertPrep (eqs : Eqs) (t : Nat) (ok : Bool) : TV → Option TV
  | .c (.ifp ty id off) => if ok = true ∧ eqs.ptrs.contains t = true then (if ty = t then some (.tup [.c (.ptr id off), lit (.bool true)]) else some (.tup [lit (.pointer none), lit (.bool false)])) else none
  | .c (.irp ty xs) => if ok = true ∧ eqs.ptrs.contains t = true then (if ty = t then some (.tup [.c (.rp xs), lit (.bool true)]) else some (.tup [lit (.pointer none), lit (.bool false)])) else none
  | _ => none
section
variable {P : Program} {Γ : Nat → Option Row} {C : Ctx} {Q : Exit → St → Prop} {st : St} {o : Oper} {K : St → Prop} {E : Env} {a : Act} {w : World}
theorem ifpPrep_ok {eqs : Eqs} (he : EqsOk P eqs) {t : TypeId} {x : Operand} {X : TV} (ho : o.op = .makeInterface t x) (h : ifpPrep eqs t (st.eval x) = some X) (hd : dstOk C.n o = true) (hK : K (st.put o.dst X)) : amOp P C o Q K st := by
  unfold ifpPrep at h
  split at h
  · rename_i id off hx
    split at h
    · rename_i hm
      cases h
      obtain ⟨e, i, hu, _⟩ := he.ptrs t (by simpa using hm)
      refine amOp_pure hd hK fun E a w hr => ?_
      have h1 := hr.eval x
      rw [hx] at h1
      obtain ⟨g, base, h2, h3⟩ := rtC h1
      exact ⟨_, by simp [execOp, ho, h3, Instr.makeInterface, run_underlying hu], g, base, h2, rfl⟩
    · cases h
  · rename_i tr hx
    split at h
    · rename_i hm
      cases h
      obtain ⟨e, i, hu, _⟩ := he.ptrs t (by simpa using hm)
      refine amOp_pure hd hK fun E a w hr => ?_
      have h1 := hr.eval x
      rw [hx] at h1
      obtain ⟨g, base, h3, h2⟩ := rtC h1
      exact ⟨_, by simp [execOp, ho, h3, Instr.makeInterface, run_underlying hu], g, base, rfl, h2⟩
    · cases h
  · cases h
theorem assertPrep_ok {eqs : Eqs} (he : EqsOk P eqs) {xt t : TypeId} {ok : Bool} {x : Operand} {X : TV} (ho : o.op = .typeAssert x xt t ok) (h : assertPrep eqs t ok (st.eval x) = some X) (hd : dstOk C.n o = true) (hK : K (st.put o.dst X)) : amOp P C o Q K st := by
  unfold assertPrep at h
  split at h
  · rename_i ty id off hx
    split at h
    · rename_i hm
      obtain ⟨rfl, hm⟩ := hm
      obtain ⟨e, i, hu, hi, hz⟩ := he.ptrs t (by simpa using hm)
      split at h
      · rename_i ht
        subst ht
        cases h
        refine amOp_pure hd hK fun E a w hr => ?_
        have h1 := hr.eval x
        rw [hx] at h1
        obtain ⟨g, base, h2, h3⟩ := rtC h1
        exact ⟨.tuple #[.pointer (some ⟨g, base + off, none⟩), .bool true], by simp [execOp, ho, h3, Instr.typeAssert, run_underlying hu], _, rfl, ⟨g, base, h2, rfl⟩, .v _ rfl, trivial⟩
      · rename_i ht
        cases h
        refine amOp_pure hd hK fun E a w hr => ?_
        have h1 := hr.eval x
        rw [hx] at h1
        obtain ⟨g, base, h2, h3⟩ := rtC h1
        exact ⟨.tuple #[.pointer none, .bool false], by simp [execOp, ho, h3, Instr.typeAssert, run_underlying hu, ht, zeroValue, typeInfo, hi, hz], _, rfl, .v _ rfl, .v _ rfl, trivial⟩
    · cases h
  · rename_i ty tr hx
    split at h
    · rename_i hm
      obtain ⟨rfl, hm⟩ := hm
      obtain ⟨e, i, hu, hi, hz⟩ := he.ptrs t (by simpa using hm)
      split at h
      · rename_i ht
        subst ht
        cases h
        refine amOp_pure hd hK fun E a w hr => ?_
        have h1 := hr.eval x
        rw [hx] at h1
        obtain ⟨g, base, h3, h2⟩ := rtC h1
        exact ⟨.tuple #[.pointer (some ⟨g, base, none⟩), .bool true], by simp [execOp, ho, h3, Instr.typeAssert, run_underlying hu], _, rfl, ⟨g, base, rfl, h2⟩, .v _ rfl, trivial⟩
      · rename_i ht
        cases h
        refine amOp_pure hd hK fun E a w hr => ?_
        have h1 := hr.eval x
        rw [hx] at h1
        obtain ⟨g, base, h3, h2⟩ := rtC h1
        exact ⟨.tuple #[.pointer none, .bool false], by simp [execOp, ho, h3, Instr.typeAssert, run_underlying hu, ht, zeroValue, typeInfo, hi, hz], _, rfl, .v _ rfl, .v _ rfl, trivial⟩
    · cases h
  · cases h
theorem eqOne_ok (hΓ : TabOk P Γ) {ty off d : Nat} {us vs : List Value} {xs ys : List CV} {b : Bool} (hx : All2 (RC E w) us xs) (hy : All2 (RC E w) vs ys) (h : eqOne Γ ty xs[off]? ys[off]? = some b) :
    ∃ u v, (part ty us.toArray off).run P w = .ok u w ∧ (part ty vs.toArray off).run P w = .ok v w ∧ (Op.equalIn (d + 1) ty u v).run P w = .ok b w := by
  unfold eqOne at h
  split at h
  · rename_i r u v hr hxo hyo
    obtain ⟨u', h1, h2⟩ := hx.get hxo
    obtain ⟨v', h3, h4⟩ := hy.get hyo
    have := ro_v h2; subst this
    have := ro_v h4; subst this
    have hrow := hΓ ty r hr
    obtain ⟨D, hD, hDr⟩ := row_isAgg hrow
    have hk := hrow.k
    have hpart : ∀ (ws : List Value) (x : Value), ws[off]? = some x → r.k.isRow = false → (part ty ws.toArray off).run P w = .ok x w := fun ws x hw hrow0 => by
      have hagg : (isAgg ty).run P w = .ok false w := by rw [run_isAgg hD, hDr, hrow0]
      simp [part, hagg, hw]
    split at h
    · rename_i k0 k1 m k2 n hk0
      rw [hk0] at hk
      split at h
      · rename_i e; subst e; cases h
        exact ⟨_, _, hpart _ _ h1 (by rw [hk0]; rfl), hpart _ _ h3 (by rw [hk0]; rfl), run_equalIn_int w d ty _ _ _ _ hk⟩
      · cases h
    · rename_i s t hk0
      rw [hk0] at hk
      cases h
      refine ⟨_, _, hpart _ _ h1 (by rw [hk0]; rfl), hpart _ _ h3 (by rw [hk0]; rfl), ?_⟩
      rw [run_equalIn_string w d ty _ _ hk, beq_toListBytes]
    · rename_i s t hk0
      rw [hk0] at hk
      cases h
      exact ⟨_, _, hpart _ _ h1 (by rw [hk0]; rfl), hpart _ _ h3 (by rw [hk0]; rfl), run_equalIn_bool' w d ty _ _ hk⟩
    · cases h
  · cases h
theorem eqF_ok (hΓ : TabOk P Γ) {d : Nat} {us vs : List Value} {xs ys : List CV} (hx : All2 (RC E w) us xs) (hy : All2 (RC E w) vs ys) :
    ∀ {fl : List Field} {b : Bool}, (∀ f, f ∈ fl → f.name ≠ "_") → eqF Γ xs ys (fl.map fun f => (f.offset, f.type)) = some b → (Op.eqFields (d + 1) us.toArray vs.toArray fl).run P w = .ok b w
  | [], b, _, h => by cases h; simp [Op.eqFields]
  | f :: fl, b, hn, h => by
    simp only [List.map_cons, eqF] at h
    split at h
    · rename_i c hc
      cases hr : eqF Γ xs ys (fl.map fun f => (f.offset, f.type)) with
      | none => rw [hr] at h; cases h
      | some c' =>
        rw [hr] at h
        cases h
        obtain ⟨u, v, h1, h2, h3⟩ := eqOne_ok (d := d) hΓ hx hy hc
        have h4 := eqF_ok (d := d) hΓ hx hy (fun g hg => hn g (List.mem_cons_of_mem _ hg)) hr
        rw [Op.eqFields]
        simp only [if_pos (hn f List.mem_cons_self), Sem.run_bind, h1, h2, h3, Result.andThen_ok]
        cases c
        · simp
        · simpa using h4
    · cases h
theorem All2.take' {α β : Type} {R : α → β → Prop} : ∀ {xs : List α} {ys : List β} (n : Nat), All2 R xs ys → All2 R (xs.take n) (ys.take n)
  | _, _, 0, _ => by simp only [List.take_zero]; trivial
  | [], [], n + 1, _ => trivial
  | x :: xs, y :: ys, n + 1, h => ⟨h.1, All2.take' n h.2⟩
  | [], _ :: _, n + 1, h => h.elim
  | _ :: _, [], n + 1, h => h.elim
theorem All2.drop' {α β : Type} {R : α → β → Prop} : ∀ {xs : List α} {ys : List β} (n : Nat), All2 R xs ys → All2 R (xs.drop n) (ys.drop n)
  | _, _, 0, h => h
  | [], [], n + 1, _ => trivial
  | x :: xs, y :: ys, n + 1, h => All2.drop' n h.2
  | [], _ :: _, n + 1, h => h.elim
  | _ :: _, [], n + 1, h => h.elim
theorem nestB_ok (hΓ : TabOk P Γ) {eqs : List Nat} (he : ∀ t, t ∈ eqs → EqTyOk P t) {ty off d : Nat} {us vs : List Value} {xs ys : List CV} {b : Bool} (hx : All2 (RC E w) us xs) (hy : All2 (RC E w) vs ys) (h : nestB Γ eqs ty off xs ys (eqOne Γ ty xs[off]? ys[off]?) = some b) :
    ∃ u v, (part ty us.toArray off).run P w = .ok u w ∧ (part ty vs.toArray off).run P w = .ok v w ∧ (Op.equalIn (d + 2) ty u v).run P w = .ok b w := by
  cases hq : eqOne Γ ty xs[off]? ys[off]? with
  | some c =>
    rw [hq] at h
    cases h
    exact eqOne_ok (d := d + 1) hΓ hx hy hq
  | none =>
    rw [hq] at h
    simp only [nestB] at h
    split at h
    · rename_i r hr
      split at h
      · rename_i fs hfs
        split at h
        · rename_i hm
          have hrow := hΓ ty r hr
          have hst : EqStOk P ty := by
            rcases he ty (by simpa using hm) with h | ⟨n, e, hu, _⟩
            · exact h
            · have hkk := hrow.k
              rw [hfs] at hkk
              obtain ⟨fa', hu', _⟩ := hkk
              rw [hu] at hu'
              cases hu'
          obtain ⟨fa, hu, hn, hp, hg⟩ := hst
          have hkk := hrow.k
          rw [hfs] at hkk
          obtain ⟨fa', hu', hfa⟩ := hkk
          rw [hu] at hu'
          cases hu'
          rw [← hfa] at h
          obtain ⟨D, hD, hDr⟩ := row_isAgg hrow
          obtain ⟨inf, hinf, hsz, _⟩ := hrow.info
          have hpart : ∀ (ws : List Value), (part ty ws.toArray off).run P w = .ok (.agg ((ws.drop off).take r.size).toArray) w := fun ws => by
            have hagg : (isAgg ty).run P w = .ok true w := by rw [run_isAgg hD, hDr, hfs]; rfl
            have hs : (sizeOf ty).run P w = .ok r.size w := by simp [sizeOf, typeInfo, hinf, hsz]
            simp [part, hagg, hs]
          refine ⟨_, _, hpart us, hpart vs, ?_⟩
          have hf : P.fieldsOf ty = fa := by simp [Program.fieldsOf, hu]
          rw [run_equalIn_struct (P := P) w (d + 1) ty _ _ (by rw [hf]; exact hu) hp, hf]
          exact eqF_ok (d := d) hΓ ((hx.drop' off).take' r.size) ((hy.drop' off).take' r.size) hn h
        · cases h
      · cases h
    · cases h
theorem eqF2_ok (hΓ : TabOk P Γ) {eqs : List Nat} (he : ∀ t, t ∈ eqs → EqTyOk P t) {d : Nat} {us vs : List Value} {xs ys : List CV} (hx : All2 (RC E w) us xs) (hy : All2 (RC E w) vs ys) :
    ∀ {fl : List Field} {b : Bool}, (∀ f, f ∈ fl → f.name ≠ "_") → eqF2 Γ eqs xs ys (fl.map fun f => (f.offset, f.type)) = some b → (Op.eqFields (d + 2) us.toArray vs.toArray fl).run P w = .ok b w
  | [], b, _, h => by cases h; simp [Op.eqFields]
  | f :: fl, b, hn, h => by
    simp only [List.map_cons, eqF2] at h
    split at h
    · rename_i c hc
      cases hr : eqF2 Γ eqs xs ys (fl.map fun f => (f.offset, f.type)) with
      | none => rw [hr] at h; cases h
      | some c' =>
        rw [hr] at h
        cases h
        obtain ⟨u, v, h1, h2, h3⟩ := nestB_ok (d := d) hΓ he hx hy hc
        have h4 := eqF2_ok (d := d) hΓ he hx hy (fun g hg => hn g (List.mem_cons_of_mem _ hg)) hr
        rw [Op.eqFields]
        simp only [if_pos (hn f List.mem_cons_self), Sem.run_bind, h1, h2, h3, Result.andThen_ok]
        cases c
        · simp
        · simpa using h4
    · cases h
theorem eqItems_ok (hΓ : TabOk P Γ) {d e : Nat} {us vs : List Value} {xs ys : List CV} (hx : All2 (RC E w) us xs) (hy : All2 (RC E w) vs ys) :
    ∀ {l : List Value} {k : Nat} {b : Bool}, eqF Γ xs ys (idxFs e l k) = some b → (Op.eqItems (d + 1) e 1 us.toArray vs.toArray (List.range' k l.length)).run P w = .ok b w
  | [], k, b, h => by cases h; simp [Op.eqItems]
  | v :: l, k, b, h => by
    simp only [idxFs, eqF] at h
    split at h
    · rename_i c hc
      cases hr : eqF Γ xs ys (idxFs e l (k + 1)) with
      | none => rw [hr] at h; cases h
      | some c' =>
        rw [hr] at h
        cases h
        obtain ⟨u, v, h1, h2, h3⟩ := eqOne_ok (d := d) hΓ hx hy hc
        have h4 := eqItems_ok (d := d) hΓ hx hy hr
        rw [List.length_cons, List.range'_succ]
        simp only [Op.eqItems, Nat.mul_one, Sem.run_bind, h1, h2, h3, Result.andThen_ok]
        cases c
        · simp
        · simpa using h4
    · cases h
theorem eqVal_ok (hΓ : TabOk P Γ) {eqs : List Nat} (he : ∀ t, t ∈ eqs → EqTyOk P t) {op : BinOp} {t yt : TypeId} {x y : Operand} {X : TV} (ho : o.op = .binOp op t x y yt) (h : eqVal Γ eqs op t (st.eval x) (st.eval y) = some X) (hd : dstOk C.n o = true) (hK : K (st.put o.dst X)) : amOp P C o Q K st := by
  have main : ∀ {r : Row} {fs : List (Nat × Nat)} {xs ys : List CV} {b : Bool}, Γ t = some r → r.k = .struct fs → t ∈ eqs → st.eval x = .agg xs → st.eval y = .agg ys → eqF2 Γ eqs xs ys fs = some b → ∀ {E : Env} {a : Act} {w : World}, RelE E C st a w → ∃ us vs, a.eval x = .agg us ∧ a.eval y = .agg vs ∧ (eqGuard op t x y (.agg us) (.agg vs)).run P w = .ok () w ∧ (Op.equalIn 10000 t (.agg us) (.agg vs)).run P w = .ok b w := by
    intro r fs xs ys b hr hk hm hx hy hb E a w hrel
    have hst : EqStOk P t := by
      rcases he t hm with h | ⟨n, e, hu, _⟩
      · exact h
      · have hkk := (hΓ t r hr).k
        rw [hk] at hkk
        obtain ⟨fa', hu', _⟩ := hkk
        rw [hu] at hu'
        cases hu'
    obtain ⟨fa, hu, hn, hp, hg⟩ := hst
    have h1 := hrel.eval x
    have h2 := hrel.eval y
    rw [hx] at h1
    rw [hy] at h2
    obtain ⟨us, h3, h4⟩ := rtA h1
    obtain ⟨vs, h5, h6⟩ := rtA h2
    have hkk := (hΓ t r hr).k
    rw [hk] at hkk
    obtain ⟨fa', hu', hfa⟩ := hkk
    rw [hu] at hu'
    cases hu'
    rw [← hfa] at hb
    have h7 := eqF2_ok (d := 9997) hΓ he h4 h6 hn hb
    refine ⟨_, _, h3, h5, run_eqGuard_agg w op t x y _ _ hg, ?_⟩
    have hf : P.fieldsOf t = fa := by simp [Program.fieldsOf, hu]
    rw [run_equalIn_struct (P := P) w 9999 t us.toArray vs.toArray (by rw [hf]; exact hu) hp, hf]
    exact h7
  have mainA : ∀ {r : Row} {n e : Nat} {xs ys : List CV} {b : Bool}, Γ t = some r → r.k = .arr n e → r.zero.length = n → oneT Γ e = true → t ∈ eqs → st.eval x = .agg xs → st.eval y = .agg ys → eqF Γ xs ys (idxFs e r.zero 0) = some b → ∀ {E : Env} {a : Act} {w : World}, RelE E C st a w → ∃ us vs, a.eval x = .agg us ∧ a.eval y = .agg vs ∧ (eqGuard op t x y (.agg us) (.agg vs)).run P w = .ok () w ∧ (Op.equalIn 10000 t (.agg us) (.agg vs)).run P w = .ok b w := by
    intro r n e xs ys b hr hk hzn h1e hm hx hy hb E a w hrel
    have har : P.eqGuardType P.depth t = false ∧ P.underlying t = some (.array n e) := by
      have hkk := (hΓ t r hr).k
      rw [hk] at hkk
      rcases he t hm with ⟨fa, hu, _⟩ | ⟨n', e', hu, hg⟩
      · have hkk' : P.underlying t = some (.array n e) := hkk
        rw [hu] at hkk'
        cases hkk'
      · exact ⟨hg, hkk⟩
    obtain ⟨hg, hu⟩ := har
    have h1 := hrel.eval x
    have h2 := hrel.eval y
    rw [hx] at h1
    rw [hy] at h2
    obtain ⟨us, h3, h4⟩ := rtA h1
    obtain ⟨vs, h5, h6⟩ := rtA h2
    have h7 := eqItems_ok (d := 9998) hΓ h4 h6 hb
    unfold oneT at h1e
    split at h1e
    · rename_i q hq
      obtain ⟨inf, hi, hsz, _⟩ := (hΓ e q hq).info
      have hc1 : P.cellsOf e = 1 := by
        simp only [decide_eq_true_eq] at h1e
        simp [Program.cellsOf, hi, hsz, h1e]
      refine ⟨_, _, h3, h5, run_eqGuard_agg w op t x y _ _ hg, ?_⟩
      rw [run_equalIn_array (P := P) w 9999 us.toArray vs.toArray hu hi, hc1, List.range_eq_range', ← hzn]
      exact h7
    · cases h1e
  unfold eqVal at h
  split at h
  · rename_i r xs ys hr hx hy
    split at h
    · rename_i fs hfs
      split at h
      · rename_i hm
        cases hb : eqF2 Γ eqs xs ys fs with
        | none => rw [hb] at h; cases h
        | some b =>
          rw [hb] at h
          cases h
          refine amOp_pure hd hK fun E a w hrel => ⟨.bool b, ?_, .v _ rfl⟩
          obtain ⟨us, vs, h1, h2, h3, h4⟩ := main hr hfs (by simpa using hm) hx hy hb hrel
          unfold execOp
          simp only [ho, h1, h2]
          rw [Sem.run_bind, Sem.run_bind, h3, Result.andThen_ok, run_eql_struct, h4]
          rfl
      · cases h
    · rename_i n e hfs
      split at h
      · rename_i hm
        obtain ⟨hm, hzn, h1e⟩ := hm
        cases hb : eqF Γ xs ys (idxFs e r.zero 0) with
        | none => rw [hb] at h; cases h
        | some b =>
          rw [hb] at h
          cases h
          refine amOp_pure hd hK fun E a w hrel => ⟨.bool b, ?_, .v _ rfl⟩
          obtain ⟨us, vs, h1, h2, h3, h4⟩ := mainA hr hfs hzn h1e (by simpa using hm) hx hy hb hrel
          unfold execOp
          simp only [ho, h1, h2]
          rw [Sem.run_bind, Sem.run_bind, h3, Result.andThen_ok, run_eql_struct, h4]
          rfl
      · cases h
    · cases h
  · rename_i r xs ys hr hx hy
    split at h
    · rename_i fs hfs
      split at h
      · rename_i hm
        cases hb : eqF2 Γ eqs xs ys fs with
        | none => rw [hb] at h; cases h
        | some b =>
          rw [hb] at h
          cases h
          refine amOp_pure hd hK fun E a w hrel => ⟨.bool (!b), ?_, .v _ rfl⟩
          obtain ⟨us, vs, h1, h2, h3, h4⟩ := main hr hfs (by simpa using hm) hx hy hb hrel
          unfold execOp
          simp only [ho, h1, h2]
          rw [Sem.run_bind, Sem.run_bind, h3, Result.andThen_ok, run_neq_struct, h4]
          rfl
      · cases h
    · rename_i n e hfs
      split at h
      · rename_i hm
        obtain ⟨hm, hzn, h1e⟩ := hm
        cases hb : eqF Γ xs ys (idxFs e r.zero 0) with
        | none => rw [hb] at h; cases h
        | some b =>
          rw [hb] at h
          cases h
          refine amOp_pure hd hK fun E a w hrel => ⟨.bool (!b), ?_, .v _ rfl⟩
          obtain ⟨us, vs, h1, h2, h3, h4⟩ := mainA hr hfs hzn h1e (by simpa using hm) hx hy hb hrel
          unfold execOp
          simp only [ho, h1, h2]
          rw [Sem.run_bind, Sem.run_bind, h3, Result.andThen_ok, run_neq_struct, h4]
          rfl
      · cases h
    · cases h
  · cases h
end
attribute [go_sem] ifpPrep assertPrep eqOne eqF eqF2 nestB eqVal oneT idxFs
end Go.Proofs.YthnpbfljoghbmaaA
/- The calculus: rows made, elements of rows written. -/
namespace Go.Proofs.YthnpbfljoghbmaaA
set_option autoImplicit false
set_option linter.unusedVariables false
section
variable {P : Program} {C : Ctx} {Q : Exit → St → Prop} {st : St} {E : Env} {a : Act} {w : World} {Γ : Nat → Option Row} {K : St → Prop} {o : Oper}
theorem mul_lt_row {i n sz : Nat} (h : i < n) : i * sz + sz ≤ n * sz := by
  have := Nat.mul_le_mul_right sz (show i + 1 ≤ n from h)
  rwa [Nat.add_mul, Nat.one_mul] at this
theorem amOp_storeEp (hΓ : TabOk P Γ) {t : TypeId} {x y : Operand} {r : Row} {id i j ty sz : Nat} {xs : List (List Tree)} {row ts : List Tree} (ho : o.op = .store t x y) (ht : Γ t = some r) (hx : st.eval x = .c (.ep id i j)) (hob : st.obj id = some (.arr ty sz xs))
    (hrow : xs[i]? = some row) (hc : tvCells (st.eval y) = some (ts.map .t)) (hl : ts.length = r.size) (hfit : j + ts.length ≤ row.length) (hd : dstOk C.n o = true) (hk : K ((st.setObj id (.arr ty sz (xs.set i (splice row j ts)))).put o.dst (.c .junk))) : amOp P C o Q K st := by
  refine amOp_do hd hk fun E a w h => ?_
  obtain ⟨vs, h1, h2, h3⟩ := tvCells_ok (h.eval y) hc
  have hxx := h.eval x
  rw [hx] at hxx
  obtain ⟨g, sz', cap, h4, h5⟩ := rtC hxx
  rcases h.objs _ _ hob with ⟨h6, _⟩ | ⟨g', cap', cur, h6, h7, h8, h9, h10, h11, h12, h13⟩
  · rw [h4] at h6; cases h6
  rw [h4] at h6; cases h6
  have hrl : row.length = sz := h12 row (List.mem_of_getElem? hrow)
  have hi : i < xs.length := (List.getElem?_eq_some_iff.1 hrow).1
  have hvl : vs.length = ts.length := by have := h2.length; simpa using this
  have hcap : i * sz + sz ≤ cap * sz := mul_lt_row (by omega)
  have hs := step_store h (vs := vs) (g := g) (o := i * sz + j) (obj_pos h hob) (fun k _ => h11 _)
  refine ⟨E, w.setCells g (i * sz + j) vs, ?_, h.step hs rfl h.next h.zero h.npos fun k z hz => ?_⟩
  · obtain ⟨inf, hinf, hsz, _⟩ := (hΓ t r ht).info
    have hx' : a.eval x = .pointer (some ⟨g, i * sz + j, none⟩) := h5
    have hthere : w.there g (i * sz + j) vs.length := fun k hk => by
      refine ⟨?_, frozen_of_row w g _ cur ty h7⟩
      rw [cur_cell h7, Array.getElem?_eq_getElem (by omega)]
      rfl
    have hrun := run_storeAt_any (P := P) (t := t) h1 hthere (by simp [hinf, hsz]; omega) h3
    unfold execOp
    simp only [ho, hx']
    rw [Sem.run_bind, hrun]
    rfl
  · simp only [St.setObj, St.obj, look_upd] at hz
    split at hz
    · rename_i e
      subst e
      cases hz
      right
      obtain ⟨cur', h14, h15, h16⟩ := setCells_cur g vs (i * sz + j) w cur ty (0, 0) h7
      refine .inr ⟨g, cap, cur', h4, h14, by rw [h15]; exact h8, by simpa using h9, h10, h11, fun x' hx' => ?_, fun i' x' hx' j' t' ht' => ?_⟩
      · rcases List.mem_or_eq_of_mem_set hx' with hm | rfl
        · exact h12 _ hm
        · rw [splice_length hfit, hrl]
      · by_cases hii : i' = i
        · subst hii
          rw [List.getElem?_set_self hi] at hx'
          cases hx'
          rw [splice_get hfit] at ht'
          have hj' : j' < sz := by
            split at ht'
            · omega
            · have := (List.getElem?_eq_some_iff.1 ht').1; omega
          rw [h16 (i' * sz + j') (by omega)]
          split at ht'
          · rename_i hin
            rw [if_pos (by omega), show i' * sz + j' - (i' * sz + j) = j' - j by omega]
            have h17 : (ts.map CV.t)[j' - j]? = some (.t t') := by rw [List.getElem?_map, ht']; rfl
            obtain ⟨v, h18, h19⟩ := h2.get h17
            exact ⟨v, h18, hs.rc (x := .t t') h19⟩
          · rename_i hin
            rw [if_neg (by omega)]
            obtain ⟨v, h18, h19⟩ := h13 i' row hrow j' t' ht'
            exact ⟨v, h18, hs.rc (x := .t t') h19⟩
        · rw [List.getElem?_set_ne (Ne.symm hii)] at hx'
          have hi' : i' < xs.length := (List.getElem?_eq_some_iff.1 hx').1
          have hj' : j' < sz := by
            have := (List.getElem?_eq_some_iff.1 ht').1
            rwa [h12 _ (List.mem_of_getElem? hx')] at this
          have hcap' : i' * sz + sz ≤ cap * sz := mul_lt_row (by omega)
          have hout : ¬ (i * sz + j ≤ i' * sz + j' ∧ i' * sz + j' < i * sz + j + vs.length) := by
            rcases Nat.lt_or_gt_of_ne hii with hlt | hlt
            · have : i' * sz + sz ≤ i * sz := mul_lt_row hlt
              omega
            · have : i * sz + sz ≤ i' * sz := mul_lt_row hlt
              omega
          rw [h16 (i' * sz + j') (by omega), if_neg hout]
          obtain ⟨v, h18, h19⟩ := h13 i' x' hx' j' t' ht'
          exact ⟨v, h18, hs.rc (x := .t t') h19⟩
    · rename_i e
      exact .inl ⟨hz, fun e' => e e'⟩
/-- A cell stored into an element: as it is told. -/
def ncOf : CV → NC
  | .t t => .t t
  | x => .c x
theorem rnc_of {E : Env} {w : World} {id g : Nat} {v : Value} {x : CV} (h : RC E w v x) (h1 : v.oneCell' = true) : RNC E w id g v (ncOf x) := by
  cases x with
  | t t => exact h
  | _ => exact ⟨h1, h⟩
theorem ncOf_row (x : CV) (a b : Nat) (r : List (List Tree)) : ncOf x ≠ .row a b r := by
  intro e
  cases x <;> cases e
theorem amOp_storeNest (hΓ : TabOk P Γ) {t : TypeId} {x y : Operand} {r : Row} {id i j ty sz : Nat} {xs : List (List NC)} {row : List NC} {ts : List CV} (ho : o.op = .store t x y) (ht : Γ t = some r) (hx : st.eval x = .c (.ep id i j)) (hob : st.obj id = some (.nest ty sz xs))
    (hrow : xs[i]? = some row) (hc : tvCells (st.eval y) = some ts) (hl : ts.length = r.size) (hfit : j + ts.length ≤ row.length) (hd : dstOk C.n o = true) (hk : K ((st.setObj id (.nest ty sz (xs.set i (splice row j (ts.map ncOf))))).put o.dst (.c .junk))) : amOp P C o Q K st := by
  refine amOp_do hd hk fun E a w h => ?_
  obtain ⟨vs, h1, h2, h3⟩ := tvCells_ok (h.eval y) hc
  have hxx := h.eval x
  rw [hx] at hxx
  obtain ⟨g, sz', cap, h4, h5⟩ := rtC hxx
  rcases h.objs _ _ hob with ⟨h6, _⟩ | ⟨g', cap', cur, h6, h7, h8, h9, h10, h11, h12, h13, h14⟩
  · rw [h4] at h6; cases h6
  rw [h4] at h6; cases h6
  have hrl : row.length = sz := h12 row (List.mem_of_getElem? hrow)
  have hi : i < xs.length := (List.getElem?_eq_some_iff.1 hrow).1
  have hvl : vs.length = ts.length := by have := h2.length; simpa using this
  have hcap : i * sz + sz ≤ cap * sz := mul_lt_row (by omega)
  have hfit' : j + (ts.map ncOf).length ≤ row.length := by simpa using hfit
  have hs := step_store h (vs := vs) (g := g) (o := i * sz + j) (obj_pos h hob) (fun k _ => h11 _)
  have hpos : ∀ i' x' j' (c' : NC), xs[i']? = some x' → x'[j']? = some c' → j' < sz ∧ i' < xs.length := fun i' x' j' c' e1 e2 => by
    have := (List.getElem?_eq_some_iff.1 e2).1
    rw [h12 _ (List.mem_of_getElem? e1)] at this
    exact ⟨this, (List.getElem?_eq_some_iff.1 e1).1⟩
  have hout : ∀ i' j', i' < xs.length → j' < sz → ¬ (i' = i ∧ j ≤ j' ∧ j' < j + vs.length) → ¬ (i * sz + j ≤ i' * sz + j' ∧ i' * sz + j' < i * sz + j + vs.length) := fun i' j' h1' h2' h3' => by
    by_cases hii : i' = i
    · subst hii; omega
    · rcases Nat.lt_or_gt_of_ne hii with hlt | hlt
      · have : i' * sz + sz ≤ i * sz := mul_lt_row hlt
        omega
      · have : i * sz + sz ≤ i' * sz := mul_lt_row hlt
        omega
  refine ⟨E, w.setCells g (i * sz + j) vs, ?_, h.step hs rfl h.next h.zero h.npos fun k z hz => ?_⟩
  · obtain ⟨inf, hinf, hsz, _⟩ := (hΓ t r ht).info
    have hx' : a.eval x = .pointer (some ⟨g, i * sz + j, none⟩) := h5
    have hthere : w.there g (i * sz + j) vs.length := fun k hk => by
      refine ⟨?_, frozen_of_row w g _ cur ty h7⟩
      rw [cur_cell h7, Array.getElem?_eq_getElem (by omega)]
      rfl
    have hrun := run_storeAt_any (P := P) (t := t) h1 hthere (by simp [hinf, hsz]; omega) h3
    unfold execOp
    simp only [ho, hx']
    rw [Sem.run_bind, hrun]
    rfl
  · simp only [St.setObj, St.obj, look_upd] at hz
    split at hz
    · rename_i e
      subst e
      cases hz
      right
      obtain ⟨cur', h15, h16, h17⟩ := setCells_cur g vs (i * sz + j) w cur ty (0, 0) h7
      have inner : ∀ v c, RNC E w k g v c → RNC E (w.setCells g (i * sz + j) vs) k g v c := fun v c hv => by
        cases c with
        | t t => exact hs.ro hv
        | c x => exact ⟨hv.1, hs.rc hv.2⟩
        | row a b rr =>
          rcases hv with hv | ⟨g', cap', cu, o', q1, q0, q2, q3, q4, q5, q6, q7, q8, q9⟩
          · exact .inl hv
          · refine .inr ⟨g', cap', cu, o', q1, q0, q2, by rw [setCells_heap_ne g vs _ w g' q2]; exact q3, q4, q5, q6, q7, q8, fun i x hx j t ht => ?_⟩
            obtain ⟨u, n1, n2⟩ := q9 i x hx j t ht
            exact ⟨u, n1, hs.ro n2⟩
      have old : ∀ p, isRow (xs.set i (splice row j (ts.map ncOf))) sz p → isRow xs sz p ∧ cur'[p]? = cur[p]? := fun p hp => by
        obtain ⟨i', j', x', a', b', r', e1, e2, e3⟩ := hp
        by_cases hii : i' = i
        · subst hii
          rw [List.getElem?_set_self hi] at e2
          cases e2
          rw [splice_get hfit'] at e3
          split at e3
          · rename_i hin
            rw [List.getElem?_map] at e3
            cases hq : ts[j' - j]? with
            | none => rw [hq] at e3; cases e3
            | some q => rw [hq] at e3; exact absurd (Option.some.inj e3) (ncOf_row _ _ _ _)
          · rename_i hin
            have := hpos i' row j' _ hrow e3
            have hin' : ¬ (j ≤ j' ∧ j' < j + ts.length) := by simpa using hin
            refine ⟨⟨i', j', row, a', b', r', e1, hrow, e3⟩, ?_⟩
            have hc1 : i' * sz + sz ≤ cap * sz := mul_lt_row (by omega)
            rw [h17 p (by omega), if_neg (by rw [e1]; exact hout i' j' this.2 this.1 (by omega))]
        · rw [List.getElem?_set_ne (Ne.symm hii)] at e2
          have := hpos i' x' j' _ e2 e3
          refine ⟨⟨i', j', x', a', b', r', e1, e2, e3⟩, ?_⟩
          have hc1 : i' * sz + sz ≤ cap * sz := mul_lt_row (by omega)
          rw [h17 p (by omega), if_neg (by rw [e1]; exact hout i' j' this.2 this.1 (by omega))]
      refine .inr ⟨g, cap, cur', h4, h15, by rw [h16]; exact h8, by simpa using h9, h10, h11, fun x' hx' => ?_, fun i' x' hx' j' t' ht' => ?_, fun p q v v' b hp hq hv hv' hb hb' => ?_⟩
      · rcases List.mem_or_eq_of_mem_set hx' with hm | rfl
        · exact h12 _ hm
        · rw [splice_length hfit', hrl]
      · by_cases hii : i' = i
        · subst hii
          rw [List.getElem?_set_self hi] at hx'
          cases hx'
          have hj' : j' < sz := by
            have := (List.getElem?_eq_some_iff.1 ht').1
            rw [splice_length hfit'] at this
            omega
          rw [splice_get hfit'] at ht'
          rw [h17 (i' * sz + j') (by omega)]
          split at ht'
          · rename_i hin
            have hin' : j ≤ j' ∧ j' < j + ts.length := by simpa using hin
            rw [if_pos (by omega), show i' * sz + j' - (i' * sz + j) = j' - j by omega]
            rw [List.getElem?_map] at ht'
            cases hq : ts[j' - j]? with
            | none => rw [hq] at ht'; cases ht'
            | some q =>
              rw [hq] at ht'
              cases ht'
              obtain ⟨v, h18, h19⟩ := h2.get hq
              exact ⟨v, h18, rnc_of (hs.rc h19) (h3 v (List.mem_of_getElem? h18))⟩
          · rename_i hin
            have hin' : ¬ (j ≤ j' ∧ j' < j + ts.length) := by simpa using hin
            rw [if_neg (by omega)]
            obtain ⟨v, h18, h19⟩ := h13 i' row hrow j' t' ht'
            exact ⟨v, h18, inner _ _ h19⟩
        · rw [List.getElem?_set_ne (Ne.symm hii)] at hx'
          have hp := hpos i' x' j' t' hx' ht'
          have hc1 : i' * sz + sz ≤ cap * sz := mul_lt_row (by omega)
          rw [h17 (i' * sz + j') (by omega), if_neg (hout i' j' hp.2 hp.1 (by omega))]
          obtain ⟨v, h18, h19⟩ := h13 i' x' hx' j' t' ht'
          exact ⟨v, h18, inner _ _ h19⟩
      · obtain ⟨o1, o2⟩ := old p hp
        obtain ⟨o3, o4⟩ := old q hq
        exact h14 p q v v' b o1 o3 (by rw [← o2]; exact hv) (by rw [← o4]; exact hv') hb hb'
    · rename_i e
      exact .inl ⟨hz, fun e' => e e'⟩
theorem amOp_makeSlice (hΓ : TabOk P Γ) {t e : TypeId} {x y : Operand} {r : Row} {n : Nat} (ho : o.op = .makeSlice t x y) (ht : P.underlying t = some (.slice e)) (he : Γ e = some r) (hx : st.eval x = lit (.int .i64 n)) (hy : st.eval y = lit (.int .i64 n))
    (hb : r.bytes * n ≤ 281474976710656) (hm : n ≤ maxLen) (hd : dstOk C.n o = true) (hK : K ((st.new (.arr e r.size (List.replicate n (r.zero.map .v)))).put o.dst (.c (.own st.next 0 n)))) : amOp P C o Q K st := by
  refine amOp_step hd hK fun E a w hr => ?_
  obtain ⟨i, hi, hsz, hby, ⟨z, hz, hzc, _⟩, hzl, hall, _⟩ := (hΓ e r he).info
  have hzs : z.cells.size = r.size := by rw [← hzl, ← hzc]; simp
  have hf : Flat w (roE E) r.size (List.replicate n (r.zero.map .v)) (madeCells z.cells (n * r.size)).toList := by
    refine ⟨by simp [size_madeCells], fun x hx => ?_, fun i x hx j t htt => ?_⟩
    · obtain ⟨_, rfl⟩ := List.mem_replicate.1 hx
      simp [hzl]
    · rw [List.getElem?_replicate] at hx
      split at hx
      · rename_i hin
        cases hx
        rw [List.getElem?_map] at htt
        cases hzj : r.zero[j]? with
        | none => rw [hzj] at htt; cases htt
        | some u =>
          rw [hzj] at htt
          cases htt
          have hj : j < r.size := by rw [← hzl]; exact (List.getElem?_eq_some_iff.1 hzj).1
          have hcap : i * r.size + r.size ≤ n * r.size := mul_lt_row hin
          refine ⟨u, ?_, .v u (List.all_eq_true.1 hall u (List.mem_of_getElem? hzj))⟩
          have h3 : z.cells[j]? = some u := by rw [← hzc] at hzj; simpa using hzj
          rw [Array.getElem?_toList]
          unfold madeCells
          rw [Array.getElem?_map, Array.getElem?_range]
          rw [if_pos (show i * r.size + j < n * r.size by omega)]
          simp only [Option.map_some, Option.some.injEq]
          rw [hzs, Nat.mul_comm i, Nat.mul_add_mod, Nat.mod_eq_of_lt hj, getElem!_def, h3]
      · cases hx
  have hst := step_new hr (.arr w.heap.size r.size n) (.cells (madeCells z.cells (n * r.size)) e)
  refine ⟨_, .slice (some ⟨w.heap.size, 0, none⟩) n n, w.alloc (.cells (madeCells z.cells (n * r.size)) e), ?_, hr.new (.arr w.heap.size r.size n) _ _ (robj_of_flat (g := w.heap.size) (cap := n) (by simp [Env.new]) (Go.heap_alloc_new w _) (by simp [size_madeCells]) (by simp) hm (fun o => by simp [Env.new]) (hf.mono fun v t h => hst.ro h) (fun k v hv => by simpa using hv)), .inr ⟨w.heap.size, r.size, n, 0, by simp [Env.new], rfl, by omega, fun _ => by omega⟩⟩
  have hxe : a.eval x = .int .i64 n := ro_v (rtT (by have := hr.eval x; rw [hx] at this; exact this))
  have hye : a.eval y = .int .i64 n := ro_v (rtT (by have := hr.eval y; rw [hy] at this; exact this))
  have hrun := run_make (P := P) w t e i z ht hi hz .i64 .i64 n n (by omega) (by omega) (by rw [hby]; omega) (by unfold maxLen at hm; omega)
  unfold execOp
  simp only [ho, hxe, hye]
  rw [Sem.run_bind, hrun]
  simp [hsz]
end
def cvTrees : List CV → Option (List Tree)
  | [] => some []
  | .t x :: l => (cvTrees l).map (x :: ·)
  | _ :: _ => none
theorem cvTrees_ok : ∀ {l : List CV} {ts : List Tree}, cvTrees l = some ts → l = ts.map .t
  | [], ts, h => by cases h; rfl
  | x :: l, ts, h => by
    cases x with
    | t y =>
      simp only [cvTrees] at h
      cases hl : cvTrees l with
      | none => rw [hl] at h; cases h
      | some us => rw [hl] at h; cases h; rw [cvTrees_ok hl]; rfl
    | _ => cases h
end Go.Proofs.YthnpbfljoghbmaaA
/- The calculus: maps of the call's own. -/
namespace Go.Proofs.YthnpbfljoghbmaaA
set_option autoImplicit false
set_option linter.unusedVariables false
def sameK : Value → Value → Bool
  | .int _ a, .int _ b => a == b
  | .string a, .string b => a == b
  | _, _ => false
/-- Where a key stands, and what stands there. -/
def mfind (k : Value) : List (Value × Value) → Nat → Option (Nat × Value)
  | [], _ => none
  | p :: es, i => if sameK k p.1 = true then some (i, p.2) else mfind k es (i + 1)
/-- The entries behind a store. -/
def mset (k v : Value) (es : List (Value × Value)) : List (Value × Value) :=
  match mfind k es 0 with
  | some (i, _) => es.modify i fun _ => (k, v)
  | none => es ++ [(k, v)]
def mdel (k : Value) (es : List (Value × Value)) : List (Value × Value) :=
  match mfind k es 0 with
  | some (i, _) => es.eraseIdx i
  | none => es
def descOf : Option IntKind → TypeDesc
  | some k => .int k
  | none => .string
theorem sameNow_key {d : Option IntKind} {k q : Value} (hk : KeyV d k) (hq : KeyV d q) : Instr.sameNow (descOf d) k q = some (sameK k q) := by
  cases d with
  | none => obtain ⟨s, rfl⟩ := hk; obtain ⟨t, rfl⟩ := hq; rfl
  | some kd => obtain ⟨s, rfl⟩ := hk; obtain ⟨t, rfl⟩ := hq; simp [Instr.sameNow, descOf, sameK]
theorem findNow_key {d : Option IntKind} {k : Value} (hk : KeyV d k) : ∀ (l : List MapEntry) (i : Nat), (∀ e, e ∈ l → KeyV d e.key) → Instr.findNow (descOf d) k l i = some (mfind k (l.map fun e => (e.key, e.val)) i)
  | [], _, _ => rfl
  | e :: l, i, h => by
    simp only [Instr.findNow, sameNow_key hk (h e List.mem_cons_self), List.map_cons, mfind]
    cases hs : sameK k e.key with
    | true => rfl
    | false => simpa using findNow_key hk l (i + 1) fun e he => h e (List.mem_cons_of_mem _ he)
theorem mfind_same {k : Value} : ∀ {es : List (Value × Value)} {i j : Nat} {v : Value}, mfind k es i = some (j, v) → ∃ q, es[j - i]? = some (q, v) ∧ sameK k q = true ∧ i ≤ j
  | [], _, _, _, h => by cases h
  | p :: es, i, j, v, h => by
    simp only [mfind] at h
    split at h
    · rename_i hs; cases h; exact ⟨p.1, by simp, hs, Nat.le_refl _⟩
    · obtain ⟨q, h1, h2, h3⟩ := mfind_same h
      refine ⟨q, ?_, h2, by omega⟩
      rw [show j - i = (j - (i + 1)) + 1 by omega]
      simpa using h1
theorem mfind_none {k : Value} : ∀ {es : List (Value × Value)} {i : Nat}, mfind k es i = none ↔ ∀ p, p ∈ es → sameK k p.1 = false
  | [], i => by simp [mfind]
  | p :: es, i => by
    simp only [mfind]
    cases hs : sameK k p.1 with
    | true => simp [hs]
    | false => simp [hs, mfind_none (k := k) (es := es) (i := i + 1)]
section
variable {P : Program} {w : World}
theorem run_checkKey {d : Option IntKind} {kt : TypeId} {k : Value} (hkt : P.underlying kt = some (descOf d)) (hk : KeyV d k) (e : Bool) : (Instr.checkKey e 10000 kt k).run P w = .ok () w := by
  rw [show (10000 : Nat) = 9999 + 1 from rfl, Instr.checkKey]
  cases d with
  | none => obtain ⟨s, rfl⟩ := hk; simp only [Sem.run_bind, run_underlying hkt, Result.andThen_ok]; rfl
  | some kd => obtain ⟨s, rfl⟩ := hk; simp only [Sem.run_bind, run_underlying hkt, Result.andThen_ok]; rfl
theorem run_findKey {d : Option IntKind} {kt : TypeId} {k : Value} {l : List MapEntry} (hkt : P.underlying kt = some (descOf d)) (hk : KeyV d k) (hl : ∀ e, e ∈ l → KeyV d e.key) : (Instr.findKey kt k l).run P w = .ok (mfind k (l.map fun e => (e.key, e.val)) 0) w := by
  simp [Instr.findKey, run_underlying hkt, findNow_key hk l 0 hl]
end
/-! ### A map's block -/
section
variable {P : Program} {Γ : Nat → Option Row} {C : Ctx} {Q : Exit → St → Prop} {st : St} {o : Oper} {K : St → Prop} {E : Env} {a : Act} {w : World}
theorem run_mkMap (t : TypeId) (w : World) : (Instr.makeMap t none).run P w = .ok (.map (some w.heap.size)) (w.alloc (.map #[] 0)) := rfl
theorem RelE.newMap (h : RelE E C st a w) (d : Option IntKind) : RelE (E.new st.next (.map w.heap.size) w.heap.size) C (st.new (.mp d [])) a (w.alloc (.map #[] 0)) :=
  h.new (.map w.heap.size) (.map #[] 0) (.mp d []) ⟨w.heap.size, #[], 0, by simp [Env.new], Go.heap_alloc_new w _, rfl, fun o => by simp [Env.new], (fun p hp => by cases hp), Go.MapKept.stamped_empty 0⟩
theorem amOp_makeMap {t kt et : TypeId} (d : Option IntKind) (ho : o.op = .makeMap t none) (ht : P.underlying t = some (.map kt et)) (hd : dstOk C.n o = true) (hk : K ((st.new (.mp d [])).put o.dst (.c (.mp st.next)))) : amOp P C o Q K st := by
  refine amOp_step hd hk fun E a w h => ?_
  refine ⟨_, .map (some w.heap.size), w.alloc (.map #[] 0), ?_, h.newMap d, ⟨w.heap.size, by simp [Env.new], rfl⟩⟩
  simp [execOp, ho, run_mkMap]
/-- What is stored: one cell, or a struct of such. -/
def litsOf : List CV → Option (List Value)
  | [] => some []
  | .t (.v x) :: l => (litsOf l).map (x :: ·)
  | _ => none
def valOf : TV → Option Value
  | .c (.t (.v x)) => some x
  | .agg xs => (litsOf xs).map fun vs => .agg vs.toArray
  | _ => none
/-- What is read. -/
def tvOf : Value → TV
  | .agg cs => .agg (cs.toList.map fun v => .t (.v v))
  | v => .c (.t (.v v))
theorem litsOf_ok : ∀ {xs : List CV} {us vs : List Value}, litsOf xs = some us → All2 (RC E w) vs xs → vs = us ∧ ∀ u, u ∈ us → u.oneCell' = true
  | [], us, [], h, _ => by cases h; exact ⟨rfl, fun u hu => by cases hu⟩
  | .t (.v x) :: l, us, v :: vs, h, k => by
    simp only [litsOf] at h
    cases hl : litsOf l with
    | none => rw [hl] at h; cases h
    | some us' =>
      rw [hl] at h
      cases h
      obtain ⟨h1, h2⟩ := litsOf_ok hl k.2
      have h3 : RO w (fun b o => E.own b o = none) v (.v x) := k.1
      cases h3 with
      | v _ h4 => exact ⟨by rw [h1], fun u hu => (List.mem_cons.1 hu).elim (fun e => e ▸ h4) (h2 u)⟩
  | [], _, _ :: _, _, k => k.elim
  | _ :: _, _, [], _, k => k.elim
  | .t (.sl _ _) :: _, _, _ :: _, h, _ => by cases h
  | .own _ _ _ :: _, _, _ :: _, h, _ => by cases h
  | .ptr _ _ :: _, _, _ :: _, h, _ => by cases h
  | .ifp _ _ _ :: _, _, _ :: _, h, _ => by cases h
  | .ep _ _ _ :: _, _, _ :: _, h, _ => by cases h
  | .rp _ :: _, _, _ :: _, h, _ => by cases h
  | .irp _ _ :: _, _, _ :: _, h, _ => by cases h
  | .gv _ _ :: _, _, _ :: _, h, _ => by cases h
  | .sq _ _ :: _, _, _ :: _, h, _ => by cases h
  | .mp _ :: _, _, _ :: _, h, _ => by cases h
  | .junk :: _, _, _ :: _, h, _ => by cases h
theorem valOf_ok {v x : Value} {y : TV} (h : RT E w v y) (hy : valOf y = some x) : v = x ∧ FlatV x := by
  cases y with
  | tup _ => cases hy
  | c y =>
    cases y with
    | t y =>
      cases y with
      | v y =>
        cases hy
        have h3 : RO w (fun b o => E.own b o = none) v (.v x) := h
        cases h3 with
        | v _ h4 => exact ⟨rfl, .inl h4⟩
      | sl _ _ => cases hy
    | _ => cases hy
  | agg xs =>
    simp only [valOf] at hy
    obtain ⟨vs, h1, h2⟩ := rtA h
    cases hl : litsOf xs with
    | none => rw [hl] at hy; cases hy
    | some us =>
      rw [hl] at hy
      cases hy
      obtain ⟨h3, h4⟩ := litsOf_ok hl h2
      subst h3
      exact ⟨h1, .inr ⟨_, rfl, h4⟩⟩
theorem all2_flat {vs : List Value} (h : ∀ u, u ∈ vs → u.oneCell' = true) : All2 (RC E w) vs (vs.map fun v => .t (.v v)) := by
  induction vs with
  | nil => exact trivial
  | cons v vs ih => exact ⟨RO.v v (h v List.mem_cons_self), ih fun u hu => h u (List.mem_cons_of_mem _ hu)⟩
theorem tvOf_ok {v : Value} (h : FlatV v) : RT E w v (tvOf v) := by
  rcases h with h | ⟨cs, rfl, h⟩
  · cases v with
    | agg cs => cases h
    | _ => exact RO.v _ h
  · exact ⟨cs, rfl, by simpa [tvOf] using all2_flat h⟩
/-! ### Stores into a map -/
theorem set_get {α : Type} (l : Array α) (g b : Nat) (x : α) (hg : g < l.size) : (l.setIfInBounds g x)[b]? = if b = g then some x else l[b]? := by
  rw [Array.getElem?_setIfInBounds]
  by_cases h : g = b
  · subst h; simp [hg]
  · rw [if_neg h, if_neg (fun e => h e.symm)]
theorem step_setMap (h : RelE E C st a w) {g id : Nat} {arr : Array MapEntry} {clock : Nat} (hb : w.heap[g]? = some (.map arr clock)) (hid : id ≠ 0) (hown : ∀ o, E.own g o = some id) (ob : Obj) :
    Step E E w { w with heap := w.heap.setIfInBounds g ob } (fun k => k = id) := by
  have hg : g < w.heap.size := (Array.getElem?_eq_some_iff.1 hb).1
  have hget : ∀ b : Nat, b ≠ g → (w.heap.setIfInBounds g ob)[b]? = w.heap[b]? := fun b hne => by rw [set_get _ _ _ _ hg, if_neg hne]
  exact {
    os := rfl
    tape := rfl
    output := rfl
    size := by simp
    ch0 := fun h0 => hid h0.symm
    at_ := fun _ _ h => h
    none_ := fun _ _ _ h => h
    some_ := fun _ _ _ h _ => h
    cell := fun b o v hc _ => by
      obtain ⟨cur, ty, fr, h1, h2⟩ := cell_cur hc
      have hne : b ≠ g := fun e => by subst e; rw [hb] at h1; cases h1
      rw [World.cell?_of_block (w := w) (hget b hne)]
      exact hc
    blk := fun b cur ty fr h1 => by
      have hne : b ≠ g := fun e => by subst e; rw [hb] at h1; cases h1
      exact ⟨cur, (hget b hne).trans h1, rfl⟩
    mp := fun b id' arr' clock' h1 ho hn => by
      have hne : b ≠ g := fun e => by
        subst e
        have := (ho 0).symm.trans (hown 0)
        exact hn (Option.some.inj this)
      exact (hget b hne).trans h1
    same := fun b h1 hn => by
      have hne : b ≠ g := fun e => by
        subst e
        rcases hn 0 with h2 | h2
        · rw [hown] at h2; cases h2
        · rw [hown] at h2; exact hid (Option.some.inj h2)
      exact hget b hne
    fresh := fun b o h1 => h.fc.fresh b o (by simpa using h1)
    pos := fun _ _ h => h }
theorem RelE.setMap (h : RelE E C st a w) {id g : Nat} {d : Option IntKind} {es es' : List (Value × Value)} {arr arr' : Array MapEntry} {clock clock' : Nat} (ho : st.obj id = some (.mp d es)) (h1 : E.at_ id = some (.map g)) (h2 : w.heap[g]? = some (.map arr clock)) (h4 : ∀ o, E.own g o = some id)
    (h3 : (arr'.toList.map fun e => (e.key, e.val)) = es') (h5 : ∀ p, p ∈ es' → KeyV d p.1 ∧ FlatV p.2) (h6 : Go.MapKept.Stamped arr' clock') : RelE E C (st.setObj id (.mp d es')) a { w with heap := w.heap.setIfInBounds g (.map arr' clock') } := by
  have hg : g < w.heap.size := (Array.getElem?_eq_some_iff.1 h2).1
  refine h.step (step_setMap h h2 (obj_pos h ho) h4 _) rfl h.next h.zero h.npos fun k z hz => ?_
  simp only [St.setObj, St.obj, look_upd] at hz
  split at hz
  · rename_i e
    subst e
    cases hz
    right
    exact ⟨g, arr', clock', h1, by rw [set_get _ _ _ _ hg, if_pos rfl], h3, h4, h5, h6⟩
  · rename_i e
    exact .inl ⟨hz, fun e' => e e'⟩
theorem map_erase {α β : Type} (g : α → β) : ∀ (l : List α) (i : Nat), (l.eraseIdx i).map g = (l.map g).eraseIdx i
  | [], i => by cases i <;> rfl
  | a :: l, 0 => rfl
  | a :: l, i + 1 => by simp [map_erase g l i]
theorem map_modify {α β : Type} (g : α → β) (f : α → α) (c : β) (h : ∀ a, g (f a) = c) : ∀ (l : List α) (i : Nat), (l.modify i f).map g = (l.map g).modify i fun _ => c
  | [], i => by cases i <;> rfl
  | a :: l, 0 => by simp [h]
  | a :: l, i + 1 => by simp [map_modify g f c h l i]
theorem isKey_of {d : Option IntKind} {k : Value} (h : KeyV d k) : Go.MapKept.IsKey (descOf d) k := by
  cases d with
  | none => obtain ⟨s, rfl⟩ := h; exact trivial
  | some kd => obtain ⟨n, rfl⟩ := h; exact rfl
theorem sameK_eq {d : Option IntKind} {k q : Value} (hk : KeyV d k) (hq : KeyV d q) (h : sameK k q = true) : q = k := by
  obtain ⟨r, h1, h2⟩ := Go.MapKept.sameNow_of_keys (isKey_of hk) (isKey_of hq)
  rw [sameNow_key hk hq] at h1
  exact (h2.1 ((Option.some.inj h1).symm.trans h)).symm
theorem sameK_refl {d : Option IntKind} {k : Value} (h : KeyV d k) : sameK k k = true := by
  obtain ⟨r, h1, h2⟩ := Go.MapKept.sameNow_of_keys (isKey_of h) (isKey_of h)
  rw [sameNow_key h h] at h1
  exact (Option.some.inj h1).trans (h2.2 rfl)
theorem amOp_mapUpdate {t kt et : TypeId} {m k v : Operand} {id : Nat} {d : Option IntKind} {es : List (Value × Value)} {kv vv : Value} (ho : o.op = .mapUpdate t m k v) (ht : P.underlying t = some (.map kt et)) (hkt : P.underlying kt = some (descOf d))
    (hm : st.eval m = .c (.mp id)) (hob : st.obj id = some (.mp d es)) (hk : st.eval k = lit kv) (hkv : KeyV d kv) (hv : valOf (st.eval v) = some vv) (hd : dstOk C.n o = true) (hK : K ((st.setObj id (.mp d (mset kv vv es))).put o.dst (.c .junk))) : amOp P C o Q K st := by
  refine amOp_do hd hK fun E a w h => ?_
  have hmm := h.eval m
  rw [hm] at hmm
  obtain ⟨g, h1, h2⟩ := rtC hmm
  obtain ⟨g', arr, clock, h3, h4, h5, h6, h7, hst0⟩ := h.objs _ _ hob
  rw [h1] at h3
  cases h3
  obtain ⟨h8, h9⟩ := valOf_ok (h.eval v) hv
  have h10 : a.eval k = kv := h.lit hk
  have hl : ∀ e, e ∈ arr.toList → KeyV d e.key := fun e he => (h7 (e.key, e.val) (by rw [← h5]; exact List.mem_map.2 ⟨e, he, rfl⟩)).1
  have hf := run_findKey (P := P) (w := w) (l := arr.toList) hkt hkv hl
  rw [h5] at hf
  have hg := Go.MapKept.run_getObj_map (P := P) h4
  have hs := fun ob => Go.MapKept.run_setObj_map (P := P) ob h4
  have hc := fun e => run_checkKey (P := P) (w := w) hkt hkv e
  cases hq : mfind kv es 0 with
  | none =>
    rw [hq] at hf
    refine ⟨E, _, ?_, h.setMap (arr' := arr.push ⟨kv, vv, clock⟩) (clock' := clock + 1) hob h1 h4 h6 (by simp [mset, hq, h5]) (fun p hp => ?_) (Go.MapKept.stamped_push hst0 fun x hx he => ?_)⟩
    · simp [execOp, ho, h2, h8, h10, Instr.mapUpdate, run_underlying ht, hg, hc, hf, hs]
    · simp only [mset, hq, List.mem_append, List.mem_singleton] at hp
      rcases hp with hp | rfl
      · exact h7 p hp
      · exact ⟨hkv, h9⟩
    · have h11 := mfind_none.1 hq (x.key, x.val) (by rw [← h5]; exact List.mem_map.2 ⟨x, hx, rfl⟩)
      simp only at h11
      rw [he] at h11
      rw [sameK_refl hkv] at h11
      cases h11
  | some r =>
    obtain ⟨i, u⟩ := r
    rw [hq] at hf
    obtain ⟨q, h11, h12, _⟩ := mfind_same hq
    rw [Nat.sub_zero] at h11
    have hqk := sameK_eq hkv (h7 (q, u) (List.mem_of_getElem? h11)).1 h12
    subst hqk
    have hkey : ((arr[i]?).map (·.key)).getD q = q := by
      rw [← h5, List.getElem?_map] at h11
      cases hz : arr.toList[i]? with
      | none => rw [hz] at h11; cases h11
      | some e =>
        rw [hz] at h11
        have : arr[i]? = some e := by simpa using hz
        rw [this]
        simp only [Option.map_some, Option.some.injEq, Prod.mk.injEq] at h11
        simp [h11.1]
    have hst := Go.MapKept.run_keyThatStays (P := P) (w := w) (isKey_of hkv)
    refine ⟨E, _, ?_, h.setMap (arr' := arr.modify i fun e => { e with key := q, val := vv }) (clock' := clock) hob h1 h4 h6 ?_ (fun p hp => ?_) (Go.MapKept.stamped_modify hst0 i _ (fun _ _ => rfl) fun e he hei => ?_)⟩
    · simp [execOp, ho, h2, h8, h10, Instr.mapUpdate, run_underlying ht, hg, hc, hf, hs, hkey, hst]
    · simp only [mset, hq, Array.toList_modify]
      rw [map_modify (fun e : MapEntry => (e.key, e.val)) (fun e => { e with key := q, val := vv }) (q, vv) (fun _ => rfl), h5]
    · simp only [mset, hq] at hp
      obtain ⟨j, hj⟩ := List.getElem?_of_mem hp
      rw [List.getElem?_modify] at hj
      by_cases hij : i = j
      · subst hij
        rw [h11] at hj
        simp at hj
        subst hj
        exact ⟨hkv, h9⟩
      · cases hz : es[j]? with
        | none => rw [hz] at hj; cases hj
        | some e =>
          rw [hz] at hj
          simp [hij] at hj
          subst hj
          exact h7 e (List.mem_of_getElem? hz)
    · rw [← h5, List.getElem?_map] at h11
      have h13 : arr.toList[i]? = some e := by simpa using hei
      rw [h13] at h11
      simp only [Option.map_some, Option.some.injEq, Prod.mk.injEq] at h11
      exact h11.1.symm
/-! ### Reads -/
def zeroTV (r : Row) : TV := if r.k.isRow = true then .agg (r.zero.map fun v => .t (.v v)) else match r.zero with | [v] => .c (.t (.v v)) | _ => .c .junk
theorem zeroTV_ok {t : TypeId} {r : Row} (hr : RowOk P t r) : ∃ z, (zeroValue t).run P w = .ok z w ∧ RT E w z (zeroTV r) := by
  obtain ⟨i, hi, hsz, _, ⟨z, hz, hzc, hzr⟩, hzl, hall, hone⟩ := hr.info
  refine ⟨z, by simp [zeroValue, typeInfo, hi, hz], ?_⟩
  unfold zeroTV
  by_cases hrow : r.k.isRow = true
  · rw [if_pos hrow, hzr hrow]
    exact ⟨r.zero, rfl, all2_zero hall⟩
  · have hrow' : r.k.isRow = false := by simpa using hrow
    rw [if_neg hrow]
    have h1 := hr.one i z hi hz hrow'
    have h2 : r.zero = [z] := by rw [← hzc, cells_one h1]
    rw [h2]
    exact RO.v z h1
theorem rt1_rt {v : Value} {y : TV} (hy : ∀ xs, y ≠ .tup xs) (h : RT E w v y) : RT1 E w v y := by
  cases y with
  | tup xs => exact absurd rfl (hy xs)
  | c x => exact h
  | agg xs => exact h
theorem tvOf_tup (v : Value) : ∀ xs, tvOf v ≠ .tup xs := by
  intro xs h
  cases v <;> cases h
theorem zeroTV_tup (r : Row) : ∀ xs, zeroTV r ≠ .tup xs := by
  intro xs h
  unfold zeroTV at h
  split at h
  · cases h
  · split at h <;> cases h
def getTV (c : Bool) (x : Option (Nat × Value)) (r : Row) : TV :=
  if c = true then .tup [(match x with | some p => tvOf p.2 | none => zeroTV r), lit (.bool x.isSome)] else (match x with | some p => tvOf p.2 | none => zeroTV r)
theorem amOp_lookup (hΓ : TabOk P Γ) {t kt et : TypeId} {m k : Operand} {c : Bool} {id : Nat} {d : Option IntKind} {es : List (Value × Value)} {kv : Value} {r : Row} (ho : o.op = .lookup t m k c) (ht : P.underlying t = some (.map kt et)) (hkt : P.underlying kt = some (descOf d)) (he : Γ et = some r)
    (hm : st.eval m = .c (.mp id)) (hob : st.obj id = some (.mp d es)) (hk : st.eval k = lit kv) (hkv : KeyV d kv) (hd : dstOk C.n o = true) (hK : K (st.put o.dst (getTV c (mfind kv es 0) r))) : amOp P C o Q K st := by
  refine amOp_pure hd hK fun E a w h => ?_
  have hmm := h.eval m
  rw [hm] at hmm
  obtain ⟨g, h1, h2⟩ := rtC hmm
  obtain ⟨g', arr, clock, h3, h4, h5, h6, h7, hst0⟩ := h.objs _ _ hob
  rw [h1] at h3
  cases h3
  have h10 : a.eval k = kv := h.lit hk
  have hl : ∀ e, e ∈ arr.toList → KeyV d e.key := fun e he => (h7 (e.key, e.val) (by rw [← h5]; exact List.mem_map.2 ⟨e, he, rfl⟩)).1
  have hf := run_findKey (P := P) (w := w) (l := arr.toList) hkt hkv hl
  rw [h5] at hf
  have hg := Go.MapKept.run_getObj_map (P := P) h4
  have hc := fun e => run_checkKey (P := P) (w := w) hkt hkv e
  have key : ∃ v, (∀ b : Bool, (execOp a.eval o).run P w = .ok (.value (if c = true then .tuple #[v, .bool (mfind kv es 0).isSome] else v)) w) ∧ RT E w v (match mfind kv es 0 with | some p => tvOf p.2 | none => zeroTV r) ∧ ∀ xs, (match mfind kv es 0 with | some p => tvOf p.2 | none => zeroTV r) ≠ .tup xs := by
    cases hq : mfind kv es 0 with
    | none =>
      obtain ⟨z, hz1, hz2⟩ := zeroTV_ok (E := E) (w := w) (hΓ et r he)
      rw [hq] at hf
      refine ⟨z, fun _ => ?_, hz2, zeroTV_tup r⟩
      simp [execOp, ho, h2, h10, Instr.lookup, run_underlying ht, hg, hc, hf, hz1]
    | some p =>
      obtain ⟨i, u⟩ := p
      rw [hq] at hf
      obtain ⟨q, h11, h12, _⟩ := mfind_same hq
      refine ⟨u, fun _ => ?_, tvOf_ok (h7 (q, u) (List.mem_of_getElem? h11)).2, tvOf_tup u⟩
      simp [execOp, ho, h2, h10, Instr.lookup, run_underlying ht, hg, hc, hf]
  obtain ⟨v, hv1, hv2, hv3⟩ := key
  refine ⟨_, hv1 true, ?_⟩
  unfold getTV
  cases c with
  | false => simpa using hv2
  | true => exact ⟨[v, .bool (mfind kv es 0).isSome], rfl, rt1_rt hv3 hv2, RO.v _ rfl, trivial⟩
theorem amOp_lenMap {t kt et : TypeId} {m : Operand} {id : Nat} {d : Option IntKind} {es : List (Value × Value)} (ho : o.op = .call { callee := .builtin .len, args := #[m], argTypes := #[t] }) (ht : P.underlying t = some (.map kt et)) (hm : st.eval m = .c (.mp id)) (hob : st.obj id = some (.mp d es)) (hd : dstOk C.n o = true)
    (hK : K (st.put o.dst (lit (.int .i64 es.length)))) : amOp P C o Q K st := by
  refine amOp_pure hd hK fun E a w h => ?_
  have hmm := h.eval m
  rw [hm] at hmm
  obtain ⟨g, h1, h2⟩ := rtC hmm
  obtain ⟨g', arr, clock, h3, h4, h5, h6, h7, hst0⟩ := h.objs _ _ hob
  rw [h1] at h3
  cases h3
  have hg := Go.MapKept.run_getObj_map (P := P) h4
  refine ⟨.int .i64 es.length, ?_, .v _ rfl⟩
  rw [← h5]
  simp [execOp, ho, resolve, invoke, builtin, Builtin.len_, h2, run_underlying ht, hg, goInt]
theorem amOp_delete {t kt et kt' : TypeId} {m k : Operand} {id : Nat} {d : Option IntKind} {es : List (Value × Value)} {kv : Value} (ho : o.op = .call { callee := .builtin .delete, args := #[m, k], argTypes := #[t, kt'] }) (ht : P.underlying t = some (.map kt et)) (hkt : P.underlying kt = some (descOf d))
    (hm : st.eval m = .c (.mp id)) (hob : st.obj id = some (.mp d es)) (hk : st.eval k = lit kv) (hkv : KeyV d kv) (hd : dstOk C.n o = true) (hK : K ((st.setObj id (.mp d (mdel kv es))).put o.dst (.tup []))) : amOp P C o Q K st := by
  refine amOp_step hd hK fun E a w h => ?_
  have hmm := h.eval m
  rw [hm] at hmm
  obtain ⟨g, h1, h2⟩ := rtC hmm
  obtain ⟨g', arr, clock, h3, h4, h5, h6, h7, hst0⟩ := h.objs _ _ hob
  rw [h1] at h3
  cases h3
  have h10 : a.eval k = kv := h.lit hk
  have hl : ∀ e, e ∈ arr.toList → KeyV d e.key := fun e he => (h7 (e.key, e.val) (by rw [← h5]; exact List.mem_map.2 ⟨e, he, rfl⟩)).1
  have hf := run_findKey (P := P) (w := w) (l := arr.toList) hkt hkv hl
  rw [h5] at hf
  have hg := Go.MapKept.run_getObj_map (P := P) h4
  have hs := fun ob => Go.MapKept.run_setObj_map (P := P) ob h4
  have hc := fun e => run_checkKey (P := P) (w := w) hkt hkv e
  cases hq : mfind kv es 0 with
  | none =>
    rw [hq] at hf
    refine ⟨E, .tuple #[], _, ?_, h.setMap (arr' := arr) (clock' := clock) hob h1 h4 h6 (by simp [mdel, hq, h5]) (by simpa [mdel, hq] using h7) hst0, ⟨[], rfl, trivial⟩⟩
    simp [execOp, ho, resolve, invoke, builtin, Builtin.delete_, h2, h10, run_underlying ht, hg, hc, hf, hs]
  | some p =>
    obtain ⟨i, u⟩ := p
    rw [hq] at hf
    refine ⟨E, .tuple #[], _, ?_, h.setMap (arr' := arr.eraseIdxIfInBounds i) (clock' := clock) hob h1 h4 h6 ?_ (fun p hp => ?_) (Go.MapKept.stamped_erase hst0 i), ⟨[], rfl, trivial⟩⟩
    · simp [execOp, ho, resolve, invoke, builtin, Builtin.delete_, h2, h10, run_underlying ht, hg, hc, hf, hs]
    · simp only [mdel, hq]
      obtain ⟨q, h11, _, _⟩ := mfind_same hq
      rw [Nat.sub_zero] at h11
      have hi : i < arr.size := by
        have := (List.getElem?_eq_some_iff.1 h11).1
        rw [← h5] at this
        simpa using this
      have he : (arr.eraseIdxIfInBounds i).toList = arr.toList.eraseIdx i := by simp [Array.eraseIdxIfInBounds, hi]
      rw [he, ← h5]
      exact map_erase _ _ _
    · simp only [mdel, hq] at hp
      exact h7 p (List.mem_of_mem_eraseIdx hp)
/-! ### As the walk asks for it -/
def keyKind (Γ : Nat → Option Row) (k : Nat) : Option (Option IntKind) :=
  match (Γ k).map (fun r : Row => r.k) with
  | some (.int kd) => some (some kd)
  | some .str => some none
  | _ => none
/-- Of a map's type: the key's kind, the element's row. -/
def mapT (Γ : Nat → Option Row) (t : Nat) : Option (Option IntKind × Row) :=
  match (Γ t).map (fun r : Row => r.k) with
  | some (.map k e) => match keyKind Γ k, Γ e with
    | some d, some q => some (d, q)
    | _, _ => none
  | _ => none
theorem keyKind_ok (hΓ : TabOk P Γ) {k : Nat} {d : Option IntKind} (h : keyKind Γ k = some d) : P.underlying k = some (descOf d) := by
  unfold keyKind at h
  cases hr : Γ k with
  | none => rw [hr] at h; cases h
  | some r =>
    rw [hr] at h
    have hk := (hΓ k r hr).k
    simp only [Option.map_some] at h
    split at h
    · rename_i kd e
      cases h
      have e' : r.k = .int kd := Option.some.inj e
      rw [e'] at hk
      exact hk
    · rename_i e
      cases h
      have e' : r.k = .str := Option.some.inj e
      rw [e'] at hk
      exact hk
    · cases h
theorem mapT_ok (hΓ : TabOk P Γ) {t : Nat} {d : Option IntKind} {q : Row} (h : mapT Γ t = some (d, q)) : ∃ k e, P.underlying t = some (.map k e) ∧ P.underlying k = some (descOf d) ∧ Γ e = some q := by
  unfold mapT at h
  cases hr : Γ t with
  | none => rw [hr] at h; cases h
  | some r =>
    rw [hr] at h
    have hk := (hΓ t r hr).k
    simp only [Option.map_some] at h
    split at h
    · rename_i k e e1
      have e' : r.k = .map k e := Option.some.inj e1
      rw [e'] at hk
      split at h
      · rename_i d' q' h1 h2
        cases h
        exact ⟨k, e, hk, keyKind_ok hΓ h1, h2⟩
      · cases h
    · cases h
def keyB : Option IntKind → Value → Bool
  | some k, .int k' _ => decide (k = k')
  | none, .string _ => true
  | _, _ => false
theorem keyB_ok {d : Option IntKind} {v : Value} (h : keyB d v = true) : KeyV d v := by
  unfold keyB at h
  split at h
  · rename_i k k' n
    have : k = k' := by simpa using h
    subst this
    exact ⟨n, rfl⟩
  · rename_i s
    exact ⟨s, rfl⟩
  · cases h
/-- A map and a key of it: its name, its key's kind, its entries. -/
def mapOf (st : St) (d : Option IntKind) (m : Operand) : Option (Nat × List (Value × Value)) :=
  match st.eval m with
  | .c (.mp id) => match st.obj id with
    | some (.mp d' es) => if d' = d then some (id, es) else none
    | _ => none
  | _ => none
theorem mapOf_ok {d : Option IntKind} {m : Operand} {id : Nat} {es : List (Value × Value)} (h : mapOf st d m = some (id, es)) : st.eval m = .c (.mp id) ∧ st.obj id = some (.mp d es) := by
  unfold mapOf at h
  split at h
  · rename_i id' hm
    split at h
    · rename_i d' es' ho
      split at h
      · rename_i e
        cases h
        subst e
        exact ⟨hm, ho⟩
      · cases h
    · cases h
  · cases h
def keyOf (st : St) (d : Option IntKind) (k : Operand) : Option Value :=
  match cv1 (st.eval k) with
  | some v => if keyB d v = true then some v else none
  | none => none
theorem keyOf_ok {d : Option IntKind} {k : Operand} {v : Value} (h : keyOf st d k = some v) : st.eval k = lit v ∧ KeyV d v := by
  unfold keyOf at h
  split at h
  · rename_i v' hv
    split at h
    · rename_i hb
      cases h
      exact ⟨cv1_some hv, keyB_ok hb⟩
    · cases h
  · cases h
def getPrep (Γ : Nat → Option Row) (st : St) (t : Nat) (m k : Operand) : Option (Option (Nat × Value) × Row) :=
  match mapT Γ t with
  | some (d, q) => match mapOf st d m, keyOf st d k with
    | some (_, es), some v => some (mfind v es 0, q)
    | _, _ => none
  | none => none
def updPrep (Γ : Nat → Option Row) (st : St) (t : Nat) (m k v : Operand) : Option (Nat × Option IntKind × List (Value × Value)) :=
  match mapT Γ t with
  | some (d, _) => match mapOf st d m, keyOf st d k, valOf (st.eval v) with
    | some (id, es), some kv, some vv => some (id, d, mset kv vv es)
    | _, _, _ => none
  | none => none
def kMap (K : St → Prop) (st : St) (dst : Option Tmp) (p : Option IntKind × Row) : Prop := K ((st.new (.mp p.1 [])).put dst (.c (.mp st.next)))
def kGet (K : St → Prop) (st : St) (dst : Option Tmp) (c : Bool) (p : Option (Nat × Value) × Row) : Prop := K (st.put dst (getTV c p.1 p.2))
def kUpd (K : St → Prop) (st : St) (dst : Option Tmp) (p : Nat × Option IntKind × List (Value × Value)) : Prop := K ((st.setObj p.1 (.mp p.2.1 p.2.2)).put dst (.c .junk))
/-- len and delete of a map. -/
def mapCall (Γ : Nat → Option Row) (st : St) (c : Call) : Option (Option (Nat × Option IntKind × List (Value × Value)) × TV) :=
  match c.callee, c.args.toList, c.argTypes.toList with
  | .builtin .len, [m], [t] => match mapT Γ t with
    | some (d, _) => (mapOf st d m).map fun p => (none, lit (.int .i64 p.2.length))
    | none => none
  | .builtin .delete, [m, k], [t, _] => match mapT Γ t with
    | some (d, _) => match mapOf st d m, keyOf st d k with
      | some (id, es), some kv => some (some (id, d, mdel kv es), .tup [])
      | _, _ => none
    | none => none
  | _, _, _ => none
def kMapC (K : St → Prop) (st : St) (dst : Option Tmp) (p : Option (Nat × Option IntKind × List (Value × Value)) × TV) : Prop :=
  K ((match p.1 with | some q => st.setObj q.1 (.mp q.2.1 q.2.2) | none => st).put dst p.2)
theorem getPrep_ok (hΓ : TabOk P Γ) {t : Nat} {m k : Operand} {c : Bool} {p : Option (Nat × Value) × Row} (ho : o.op = .lookup t m k c) (hp : getPrep Γ st t m k = some p) (hd : dstOk C.n o = true) (h : kGet K st o.dst c p) : amOp P C o Q K st := by
  unfold getPrep at hp
  split at hp
  · rename_i d q hT
    obtain ⟨kt, et, h1, h2, h3⟩ := mapT_ok hΓ hT
    split at hp
    · rename_i id es v hm hk
      cases hp
      exact amOp_lookup hΓ ho h1 h2 h3 (mapOf_ok hm).1 (mapOf_ok hm).2 (keyOf_ok hk).1 (keyOf_ok hk).2 hd h
    · cases hp
  · cases hp
theorem updPrep_ok (hΓ : TabOk P Γ) {t : Nat} {m k v : Operand} {p : Nat × Option IntKind × List (Value × Value)} (ho : o.op = .mapUpdate t m k v) (hp : updPrep Γ st t m k v = some p) (hd : dstOk C.n o = true) (h : kUpd K st o.dst p) : amOp P C o Q K st := by
  unfold updPrep at hp
  split at hp
  · rename_i d q hT
    obtain ⟨kt, et, h1, h2, h3⟩ := mapT_ok hΓ hT
    split at hp
    · rename_i id es kv vv hm hk hv
      cases hp
      exact amOp_mapUpdate ho h1 h2 (mapOf_ok hm).1 (mapOf_ok hm).2 (keyOf_ok hk).1 (keyOf_ok hk).2 hv hd h
    · cases hp
  · cases hp
theorem kMap_ok (hΓ : TabOk P Γ) {t : Nat} {p : Option IntKind × Row} (ho : o.op = .makeMap t none) (hp : mapT Γ t = some p) (hd : dstOk C.n o = true) (h : kMap K st o.dst p) : amOp P C o Q K st := by
  obtain ⟨d, q⟩ := p
  obtain ⟨kt, et, h1, _, _⟩ := mapT_ok hΓ hp
  exact amOp_makeMap d ho h1 hd h
theorem mapCall_ok (hΓ : TabOk P Γ) {c : Call} {p : Option (Nat × Option IntKind × List (Value × Value)) × TV} (ho : o.op = .call c) (hp : mapCall Γ st c = some p) (hd : dstOk C.n o = true) (h : kMapC K st o.dst p) : amOp P C o Q K st := by
  unfold mapCall at hp
  split at hp
  · rename_i m t h1 h2 h3
    have hc : c = { callee := .builtin .len, args := #[m], argTypes := #[t] } := by
      cases c
      simp only at h1 h2 h3
      subst h1
      congr 1
      · apply Array.toList_inj.1; rw [h2]
      · apply Array.toList_inj.1; rw [h3]
    subst hc
    split at hp
    · rename_i d q hT
      obtain ⟨kt, et, g1, g2, _⟩ := mapT_ok hΓ hT
      cases hm : mapOf st d m with
      | none => rw [hm] at hp; cases hp
      | some r =>
        obtain ⟨id, es⟩ := r
        rw [hm] at hp
        cases hp
        exact amOp_lenMap ho g1 (mapOf_ok hm).1 (mapOf_ok hm).2 hd h
    · cases hp
  · rename_i m k t t' h1 h2 h3
    have hc : c = { callee := .builtin .delete, args := #[m, k], argTypes := #[t, t'] } := by
      cases c
      simp only at h1 h2 h3
      subst h1
      congr 1
      · apply Array.toList_inj.1; rw [h2]
      · apply Array.toList_inj.1; rw [h3]
    subst hc
    split at hp
    · rename_i d q hT
      obtain ⟨kt, et, g1, g2, _⟩ := mapT_ok hΓ hT
      split at hp
      · rename_i id es kv hm hk
        cases hp
        exact amOp_delete ho g1 g2 (mapOf_ok hm).1 (mapOf_ok hm).2 (keyOf_ok hk).1 (keyOf_ok hk).2 hd h
      · cases hp
    · cases hp
  · cases hp
end
end Go.Proofs.YthnpbfljoghbmaaA
/- The calculus: a block takes a new name. -/
namespace Go.Proofs.YthnpbfljoghbmaaA
set_option autoImplicit false
set_option linter.unusedVariables false
def mvN (id nx : Nat) : Nat → Option Nat := fun j => if j = id then some nx else some j
def mvT (f : Nat → Option Nat) : List (Nat × TV) → List (Nat × TV)
  | [] => []
  | (t, x) :: l => (t, renTV f x) :: mvT f l
def mvO (id nx : Nat) (f : Nat → Option Nat) : List (Nat × AObj) → List (Nat × AObj)
  | [] => []
  | (k, x) :: l => (if k = id then nx else k, renObj f x) :: mvO id nx f l
def St.mv (st : St) (id : Nat) : St := ⟨mvT (mvN id st.next) st.tmps, mvO id st.next (mvN id st.next) st.objs, st.next + 1⟩
section
variable {P : Program} {C : Ctx} {Q : Exit → St → Prop} {st : St} {E : Env} {a : Act} {w : World}
theorem look_mvT {f : Nat → Option Nat} {t : Nat} {x : TV} : ∀ {l : List (Nat × TV)}, look t (mvT f l) = some x → ∃ y, look t l = some y ∧ x = renTV f y
  | [], h => by cases h
  | (s, y) :: l, h => by
    simp only [mvT, look] at h ⊢
    split at h
    · rename_i e; cases h; exact ⟨y, by rw [if_pos e], rfl⟩
    · rename_i e
      rw [if_neg e]
      exact look_mvT h
theorem look_key {α : Type} {p : Nat × α} : ∀ {l : List (Nat × α)}, p ∈ l → (look p.1 l).isSome = true
  | [], h => by cases h
  | (k, y) :: l, h => by
    simp only [look]
    split
    · rfl
    · rename_i e
      rcases List.mem_cons.1 h with h | h
      · subst h; exact absurd rfl e
      · exact look_key h
theorem look_mvO {f : Nat → Option Nat} {id nx j : Nat} {x : AObj} : ∀ {l : List (Nat × AObj)}, (∀ p, p ∈ l → p.1 < nx) → look j (mvO id nx f l) = some x → (j = nx ∧ ∃ y, look id l = some y ∧ x = renObj f y) ∨ (j ≠ id ∧ j < nx ∧ ∃ y, look j l = some y ∧ x = renObj f y)
  | [], _, h => by cases h
  | (k, y) :: l, hl, h => by
    have hk : k < nx := hl (k, y) List.mem_cons_self
    simp only [mvO, look] at h
    by_cases hki : k = id
    · subst hki
      rw [if_pos rfl] at h
      split at h
      · rename_i e; cases h; exact .inl ⟨e, y, by simp [look], rfl⟩
      · rename_i e
        rcases look_mvO (fun p hp => hl p (List.mem_cons_of_mem _ hp)) h with ⟨h1, _⟩ | ⟨h1, h2, z, h3, h4⟩
        · exact absurd h1 e
        · exact .inr ⟨h1, h2, z, by simp only [look]; rw [if_neg h1]; exact h3, h4⟩
    · rw [if_neg hki] at h
      split at h
      · rename_i e; subst e; cases h; exact .inr ⟨hki, hk, y, by simp [look], rfl⟩
      · rename_i e
        rcases look_mvO (fun p hp => hl p (List.mem_cons_of_mem _ hp)) h with ⟨h1, z, h3, h4⟩ | ⟨h1, h2, z, h3, h4⟩
        · exact .inl ⟨h1, z, by simp only [look]; rw [if_neg (fun e => hki e.symm)]; exact h3, h4⟩
        · exact .inr ⟨h1, h2, z, by simp only [look]; rw [if_neg e]; exact h3, h4⟩
theorem RelE.mv (h : RelE E C st a w) {id : Nat} (hid : (st.obj id).isSome = true) : ∃ E', RelE E' C (st.mv id) a w := by
  obtain ⟨ob, hob⟩ := Option.isSome_iff_exists.1 hid
  have hne : id ≠ 0 := obj_pos h hob
  have hlive : ∀ k y, st.obj k = some y → ∃ B, E.at_ k = some B := fun k y hy => by
    have := h.objs _ _ hy
    cases y with
    | cells xs => obtain ⟨g, b, c, t, h1, _⟩ := this; exact ⟨_, h1⟩
    | arr ty sz xs => rcases this with ⟨h1, _⟩ | ⟨g, cap, cur, h1, _⟩ <;> exact ⟨_, h1⟩
    | mp d es => obtain ⟨g, _, _, h1, _⟩ := this; exact ⟨_, h1⟩
    | nest ty sz xs => rcases this with ⟨h1, _⟩ | ⟨g, cap, cur, h1, _⟩ <;> exact ⟨_, h1⟩
  have hlt : ∀ k B, E.at_ k = some B → k < st.next := fun k B hB => by
    rcases Nat.lt_or_ge k st.next with h1 | h1
    · exact h1
    · rw [h.next k h1] at hB; cases hB
  have hkeys : ∀ p, p ∈ st.objs → p.1 < st.next := fun p hp => by
    obtain ⟨y, hy⟩ := Option.isSome_iff_exists.1 (look_key hp)
    obtain ⟨B, hB⟩ := hlive _ _ hy
    exact hlt _ _ hB
  have hnp := h.npos
  let E' : Env := ⟨fun k => if k = st.next then E.at_ id else E.at_ k, fun b o => if E.own b o = some id then some st.next else E.own b o⟩
  have hnone : ∀ b o, E.own b o = none → E'.own b o = none := fun b o h0 => by
    show (if E.own b o = some id then _ else _) = _
    rw [if_neg (by rw [h0]; simp), h0]
  have hren : Ren (mvN id st.next) E E' w w := ⟨fun v t hv => hv.mono fun b o v' hb hc => ⟨hnone _ _ hb, hc⟩, fun g o v hg hc => ⟨hnone _ _ hg, hc⟩, fun i k B hi hB => by
    unfold mvN at hi
    show (if k = st.next then E.at_ id else E.at_ k) = some B
    split at hi
    · rename_i e; subst e; cases hi; rw [if_pos rfl]; exact hB
    · cases hi
      rw [if_neg (by have := hlt _ _ hB; omega)]
      exact hB⟩
  have hobj : ∀ k k' y, st.obj k = some y → mvN id st.next k = some k' → (∀ b o, E.own b o = some k → E'.own b o = some k') → RObj E' w k' (renObj (mvN id st.next) y) := fun k k' y hy hk hown => by
    have hr := h.objs _ _ hy
    cases y with
    | cells xs =>
      obtain ⟨g, base, cur, ty, h7, h8, h9, h10⟩ := hr
      refine ⟨g, base, cur, ty, hren.at_ _ _ _ hk h7, h8, by simpa using h9, fun q c hc => ?_⟩
      rw [List.getElem?_map] at hc
      cases hx0 : xs[q]? with
      | none => rw [hx0] at hc; cases hc
      | some c0 =>
        rw [hx0] at hc
        cases hc
        obtain ⟨h11, v, h12, h13, h14⟩ := h10 q c0 hx0
        exact ⟨hown _ _ h11, v, h12, h13, hren.rc h14⟩
    | arr ty sz xs =>
      rcases hr with ⟨h7, h8⟩ | ⟨g, cap, cur, h7, h8, h9, h10, h11, h12, h13, h14⟩
      · exact .inl ⟨hren.at_ _ _ _ hk h7, h8⟩
      · refine .inr ⟨g, cap, cur, hren.at_ _ _ _ hk h7, h8, h9, h10, h11, fun o => hown _ _ (h12 o), h13, fun i x hx j t ht => ?_⟩
        obtain ⟨v, h15, h16⟩ := h14 i x hx j t ht
        exact ⟨v, h15, hren.ro _ _ h16⟩
    | mp d es =>
      obtain ⟨g, arr, clock, h7, h8, h9, h10, h11⟩ := hr
      exact ⟨g, arr, clock, hren.at_ _ _ _ hk h7, h8, h9, fun o => hown _ _ (h10 o), h11⟩
    | nest ty sz xs => exact RNest.mono (fun B hB => hren.at_ _ _ _ hk hB) (fun b o ho => hown _ _ ho) blk_same (fun v t hv => hren.ro _ _ hv) (fun x hx c hc v y e hy => hren.rc hy) hr
  refine ⟨E', fun t x hx => ?_, h.size, h.defers, fun j x hx => ?_, fun j hj => ?_, ?_, Nat.succ_pos _, h.dom, ⟨h.fc.pre, h.fc.os, h.fc.tape, h.fc.output, h.fc.size, fun i B hB => ?_, h.fc.blk, fun b o hb h0 => ?_, fun b o hb => hnone _ _ (h.fc.fresh b o hb), fun b o he => ?_⟩⟩
  · obtain ⟨y, h1, rfl⟩ := look_mvT hx
    exact hren.rt (h.tmps _ _ h1)
  · rcases look_mvO hkeys hx with ⟨rfl, y, h1, rfl⟩ | ⟨h1, h2, y, h3, rfl⟩
    · exact hobj id _ y h1 (by simp [mvN]) fun b o ho => by
        show (if E.own b o = some id then _ else _) = _
        rw [if_pos ho]
    · exact hobj j _ y h3 (by simp [mvN, h1]) fun b o ho => by
        show (if E.own b o = some id then _ else _) = _
        rw [if_neg (by rw [ho]; simpa using h1), ho]
  · have hj' : st.next + 1 ≤ j := hj
    show (if j = st.next then _ else _) = _
    rw [if_neg (by omega)]
    exact h.next j (by omega)
  · show (if 0 = st.next then _ else _) = _
    rw [if_neg (by omega)]
    exact h.zero
  · have hB' := h.fc.at_ i B hB
    show (if i = st.next then _ else _) = _
    rw [if_neg (by have := hlt _ _ hB'; omega)]
    exact hB'
  · have h4 := h.fc.keep b o hb h0
    show (if E.own b o = some id then _ else _) = _
    rw [if_neg (by rw [h4]; rcases h0 with h0 | h0 <;> rw [h0] <;> simp; omega), h4]
  · have h' : (if E.own b o = some id then some st.next else E.own b o) = some 0 := he
    split at h'
    · have := Option.some.inj h'; omega
    · exact h.fc.pos b o h'
/-- Under a new name it is as it was. -/
theorem am_mv {c : Code} (id : Nat) (hid : (st.obj id).isSome = true) (h : am P C c Q (st.mv id)) : am P C c Q st := am_weak (fun a w ⟨E, hr⟩ => hr.mv hid) h
end
theorem renTV_mv_c (f : Nat → Option Nat) (x : CV) : renTV f (.c x) = .c (renCV f x) := rfl
attribute [go_sem] St.mv mvN mvT mvO
end Go.Proofs.YthnpbfljoghbmaaA
/- The calculus, thirteenth part: regions whole, tests, and what is reckoned by rewriting. -/
namespace Go.Proofs.YthnpbfljoghbmaaA
set_option autoImplicit false
set_option linter.unusedVariables false

def srcKind (Γ : Nat → Option Row) (tx : Nat) (y : TV) : Bool :=
  match cv1 y with
  | some (.string _) => isStrT Γ tx
  | _ => (elemT Γ tx).isSome
def litC (v : Value) : CV := .t (.v v)
/-- A value that may be told. What follows is held back until it is. -/
def optCase {α : Type} (x : Option α) (f : α → Prop) (d : Unit → Prop) : Prop :=
  match x with
  | some a => f a
  | none => d ()
@[go_sem] theorem optCase_some {α : Type} {a : α} {f : α → Prop} {d : Unit → Prop} : optCase (some a) f d = f a := rfl
@[go_sem] theorem optCase_none {α : Type} {f : α → Prop} {d : Unit → Prop} : optCase (none : Option α) f d = d () := rfl
def fls (_ : Unit) : Prop := False
def storePrep (Γ : Nat → Option Row) (st : St) (t : Nat) (x y : Operand) : Option (Nat × List CV) :=
  match Γ t, st.eval x, tvCells (st.eval y) with
  | some r, .c (.ptr id off), some cs => match st.obj id with
    | some (.cells xs) => if cs.length = r.size ∧ off + cs.length ≤ xs.length then some (id, splice xs off cs) else none
    | _ => none
  | _, _, _ => none
def rowsPrep (Γ : Nat → Option Row) (st : St) (t len : Nat) (parts : List (Nat × Operand)) : Option (Nat × Row × List (List Tree)) :=
  match elemT Γ t with
  | some (e, r) => match rowsFrom r.size 0 (evMap st.eval parts) with
    | some xs => if parts.length = len ∧ len * r.size ≤ 16777216 ∧ 0 < r.size then some (e, r, xs) else none
    | none => none
  | none => none
/-- What is known of functions: name and arguments told, the answer told. -/
structure Kn where
  call : FuncId → List TV → Option TV
  eqs : Eqs
  callB : FuncId → List TV → List (Nat × AObj) → Option (TV × List (Nat × AObj) × Nat) := fun _ _ _ => none
structure KnOk (P : Program) (kn : Kn) : Prop where
  call : ∀ f args res, kn.call f args = some res → TC P f args [] 1 res [] 1
  eqs : EqsOk P kn.eqs
  callB : ∀ f args objs0 res objs1 n1, kn.callB f args objs0 = some (res, objs1, n1) → TC P f args objs0 (objs0.length + 1) res objs1 n1
def plainCV : CV → Bool
  | .t _ | .junk | .rp _ | .irp _ _ | .gv _ _ => true
  | _ => false
def plainTV1 : TV → Bool
  | .c x => plainCV x
  | .agg xs => xs.all plainCV
  | .tup _ => false
def plainTV : TV → Bool
  | .c x => plainCV x
  | .agg xs => xs.all plainCV
  | .tup xs => xs.all plainTV1
def litCV : CV → Bool
  | .t (.v _) | .junk => true
  | _ => false
def litTV1 : TV → Bool
  | .c x => litCV x
  | .agg xs => xs.all litCV
  | .tup _ => false
def litTV : TV → Bool
  | .c x => litCV x
  | .agg xs => xs.all litCV
  | .tup xs => xs.all litTV1
def guardO (b : Bool) (r : TV) : Option TV := if b = true then some r else none
def convArgs (m : Bool) (st : St) (ρ : List Nat) : List Operand → Option (List TV)
  | [] => some []
  | x :: l => match convTV m st ρ (st.eval x) with
    | some y => (convArgs m st ρ l).map (y :: ·)
    | none => none
def consO (y : Option TV) (l : Option (List TV)) : Option (List TV) := y.bind fun y => l.map (y :: ·)
def optOr {α : Type} (x : Option α) (d : Unit → Option α) : Option α :=
  match x with
  | some a => some a
  | none => d ()
@[go_sem] theorem optOr_some {α : Type} {a : α} {d : Unit → Option α} : optOr (some a) d = some a := rfl
@[go_sem] theorem optOr_none {α : Type} {d : Unit → Option α} : optOr (none : Option α) d = d () := rfl
def callP (r : TV) : Option TV := guardO (plainTV r) r
def callL (r : TV) : Option TV := guardO (litTV r) r
def callK (kn : Kn) (f : FuncId) (args : List TV) : Option TV := (kn.call f args).bind callP
def callF (kn : Kn) (f : FuncId) (args : List TV) : Option TV := (kn.call f args).bind callL
def callM (kn : Kn) (st : St) (xs : List Operand) (f : FuncId) (_ : Unit) : Option TV := (convArgs true st [] xs).bind (callF kn f)
def callVal (kn : Kn) (st : St) (c : Call) : Option TV :=
  match c.callee with
  | .value (.func f) => optOr ((convArgs false st [] c.args.toList).bind (callK kn f)) (callM kn st c.args.toList f)
  | _ => none
/-! Calls that are handed blocks. -/
def idsC : CV → List Nat
  | .ptr id _ => [id]
  | .ifp _ id _ => [id]
  | .own id _ _ => [id]
  | .mp id => [id]
  | .sq _ id => [id]
  | _ => []
def cvIds : List CV → List Nat
  | [] => []
  | x :: l => idsC x ++ cvIds l
def tvIds : TV → List Nat
  | .c x => idsC x
  | .agg xs => cvIds xs
  | .tup _ => []
def argIds (st : St) : List Operand → List Nat
  | [] => []
  | x :: l => tvIds (st.eval x) ++ argIds st l
def obIds : Option AObj → List Nat
  | some (.cells xs) => cvIds xs
  | _ => []
def hasId (j : Nat) : List Nat → Bool
  | [] => false
  | i :: l => if j = i then true else hasId j l
def reach (st : St) : Nat → List Nat → List Nat → List Nat
  | 0, _, acc => acc
  | _ + 1, [], acc => acc
  | n + 1, j :: l, acc => if hasId j acc = true then reach st n l acc else reach st n (obIds (st.obj j) ++ l) (acc ++ [j])
def consB (k : Nat) : Option AObj → Option (List (Nat × AObj)) → Option (List (Nat × AObj))
  | some x, some l => some ((k, x) :: l)
  | _, _ => none
def mkObjs (st : St) (ρ : List Nat) : Nat → List Nat → Option (List (Nat × AObj))
  | _, [] => some []
  | k, j :: l => consB k ((st.obj j).bind (convObj false st ρ)) (mkObjs st ρ (k + 1) l)
abbrev BRes := List Nat × TV × List (Nat × AObj) × Nat
def cb3 (ρ : List Nat) (p : TV × List (Nat × AObj) × Nat) : Option BRes := if (nodupB ρ && uniq p.2.1) = true then some (ρ, p) else none
def cb2 (kn : Kn) (f : FuncId) (ρ : List Nat) (args : List TV) (objs0 : List (Nat × AObj)) : Option BRes := (kn.callB f args objs0).bind (cb3 ρ)
def cb1 (kn : Kn) (st : St) (f : FuncId) (ρ : List Nat) (args : List TV) : Option BRes := (mkObjs st ρ 1 ρ).bind (cb2 kn f ρ args)
def cb0 (kn : Kn) (st : St) (f : FuncId) (xs : List Operand) (ρ : List Nat) : Option BRes := (convArgs false st ρ xs).bind (cb1 kn st f ρ)
def callBV (kn : Kn) (st : St) (c : Call) : Option BRes :=
  match c.callee with
  | .value (.func f) => cb0 kn st f c.args.toList (reach st 16 (argIds st c.args.toList) [])
  | _ => none
/-! Calls that read the rows they are handed and answer with new ones. -/
def isV : Tree → Bool
  | .v _ => true
  | _ => false
def flatRow : List Tree → Bool
  | [] => true
  | x :: l => isV x && flatRow l
def flatRows : List (List Tree) → Bool
  | [] => true
  | x :: l => flatRow x && flatRows l
theorem flatRow_ok : ∀ {l : List Tree}, flatRow l = true → ∀ t, t ∈ l → ∃ v, t = .v v
  | x :: l, h, t, ht => by
    simp only [flatRow, Bool.and_eq_true] at h
    rcases List.mem_cons.1 ht with rfl | ht
    · cases t with
      | v v => exact ⟨v, rfl⟩
      | sl _ _ => cases h.1
    · exact flatRow_ok h.2 t ht
theorem flatRows_ok : ∀ {l : List (List Tree)}, flatRows l = true → ∀ x, x ∈ l → ∀ t, t ∈ x → ∃ v, t = .v v
  | x :: l, h, y, hy, t, ht => by
    simp only [flatRows, Bool.and_eq_true] at h
    rcases List.mem_cons.1 hy with rfl | hy
    · exact flatRow_ok h.1 t ht
    · exact flatRows_ok h.2 y hy t ht
theorem flatRows_map {α : Type} {f : α → List Tree} (hf : ∀ a, flatRow (f a) = true) : ∀ l : List α, flatRows (l.map f) = true
  | [] => rfl
  | a :: l => by simp only [List.map_cons, flatRows, hf, flatRows_map hf l, Bool.and_self]
def flatCB : CV → Bool
  | .t (.v _) | .own _ _ _ | .ptr _ _ | .ifp _ _ _ | .ep _ _ _ | .mp _ | .junk => true
  | _ => false
theorem flatCB_ok {x : CV} (h : flatCB x = true) : flatCV x := by
  cases x with
  | t t => cases t with
    | v v => exact trivial
    | sl a b => cases h
  | rp _ => cases h
  | irp _ _ => cases h
  | gv _ _ => cases h
  | sq _ _ => cases h
  | _ => exact trivial
def flatTB1 : TV → Bool
  | .c x => flatCB x
  | .agg xs => xs.all flatCB
  | .tup _ => false
def flatTB : TV → Bool
  | .c x => flatCB x
  | .agg xs => xs.all flatCB
  | .tup xs => xs.all flatTB1
theorem flatAll_ok {xs : List CV} (h : xs.all flatCB = true) : ∀ x, x ∈ xs → flatCV x := fun x hx => flatCB_ok (List.all_eq_true.1 h x hx)
theorem flatTB_ok {r : TV} (h : flatTB r = true) : flatTV r := by
  cases r with
  | c x => exact flatCB_ok h
  | agg xs => exact flatAll_ok h
  | tup xs =>
    intro y hy
    have := List.all_eq_true.1 h y hy
    cases y with
    | c x => exact flatCB_ok this
    | agg xs => exact flatAll_ok this
    | tup _ => cases this
def flatNB : NC → Bool
  | .t (.v _) => true
  | .row _ _ r => flatRows r
  | _ => false
theorem flatNB_ok {c : NC} (h : flatNB c = true) : flatNC c := by
  cases c with
  | t t => cases t with
    | v v => exact trivial
    | sl a b => cases h
  | row a b r => exact flatRows_ok h
  | c x => cases h
def flatOB : AObj → Bool
  | .cells xs => xs.all flatCB
  | .arr _ _ xs => flatRows xs
  | .mp _ _ => true
  | .nest _ _ xs => xs.all fun x => x.all flatNB
def flatOsB : List (Nat × AObj) → Bool
  | [] => true
  | p :: l => flatOB p.2 && flatOsB l
theorem flatOsB_ok : ∀ {l : List (Nat × AObj)}, flatOsB l = true → ∀ p, p ∈ l → flatObj p.2
  | p :: l, h, q, hq => by
    simp only [flatOsB, Bool.and_eq_true] at h
    rcases List.mem_cons.1 hq with rfl | hq
    · have h1 := h.1
      obtain ⟨i, o⟩ := q
      cases o with
      | cells xs => exact flatAll_ok h1
      | arr _ _ xs => exact flatRows_ok h1
      | mp _ _ => exact trivial
      | nest _ _ xs => exact fun x hx c hc => flatNB_ok (List.all_eq_true.1 (List.all_eq_true.1 h1 x hx) c hc)
    · exact flatOsB_ok h.2 q hq
def cr1 (p : TV × List (Nat × AObj) × Nat) : Option BRes := if (flatTB p.1 && flatOsB p.2.1 && uniq p.2.1) = true then some ([], p) else none
def cr0 (kn : Kn) (f : FuncId) (args : List TV) : Option BRes := (kn.callB f args []).bind cr1
def callRV (kn : Kn) (st : St) (c : Call) : Option BRes :=
  match c.callee with
  | .value (.func f) => (convArgs true st [] c.args.toList).bind (cr0 kn f)
  | _ => none
/-! Calls by a method's name. -/
def convTVs (m : Bool) (st : St) (ρ : List Nat) : List TV → Option (List TV)
  | [] => some []
  | x :: l => match convTV m st ρ x with
    | some y => (convTVs m st ρ l).map (y :: ·)
    | none => none
def tvsIds : List TV → List Nat
  | [] => []
  | x :: l => tvIds x ++ tvsIds l
def evs (st : St) : List Operand → List TV
  | [] => []
  | x :: l => st.eval x :: evs st l
def ci1 (kn : Kn) (st : St) (f : FuncId) (tvs : List TV) (ρ : List Nat) : Option BRes := (convTVs false st ρ tvs).bind (cb1 kn st f ρ)
def ci0 (kn : Kn) (st : St) (tvs : List TV) (f : FuncId) : Option BRes := ci1 kn st f tvs (reach st 16 (tvsIds tvs) [])
def callIV (kn : Kn) (st : St) (c : Call) : Option BRes :=
  match c.callee with
  | .invoke recv name => match st.eval recv with
    | .c (.ifp ty id off) => (kn.eqs.mth ty name).bind (ci0 kn st (.c (.ptr id off) :: evs st c.args.toList))
    | .c (.irp ty xs) => (kn.eqs.mth ty name).bind (ci0 kn st (.c (.rp xs) :: evs st c.args.toList))
    | _ => none
  | _ => none
def backObjs (ρ : List Nat) (n0 nx : Nat) (l : List (Nat × AObj)) : List (Nat × AObj) := l.map fun p => (bwd ρ n0 nx p.1, renObj (bwdO ρ n0 nx) p.2)
@[go_sem] theorem backObjs_nil {ρ : List Nat} {n0 nx : Nat} : backObjs ρ n0 nx [] = [] := rfl
@[go_sem] theorem backObjs_cons {ρ : List Nat} {n0 nx : Nat} {p : Nat × AObj} {l : List (Nat × AObj)} : backObjs ρ n0 nx (p :: l) = (bwd ρ n0 nx p.1, renObj (bwdO ρ n0 nx) p.2) :: backObjs ρ n0 nx l := rfl
@[go_sem] theorem st_back {st : St} {ρ : List Nat} {objs1 : List (Nat × AObj)} {n0 n1 : Nat} : st.back ρ objs1 n0 n1 = ⟨st.tmps, backObjs ρ n0 st.next objs1 ++ delAll ρ st.objs, st.next + (n1 - n0)⟩ := rfl
def kBack (K : St → Prop) (st : St) (d : Option Tmp) (p : BRes) : Prop := K ((st.back p.1 p.2.2.1 (p.1.length + 1) p.2.2.2).put d (renTV (bwdO p.1 (p.1.length + 1) st.next) p.2.1))
def appPrep (Γ : Nat → Option Row) (st : St) (c : Call) : Option (Nat × Row × Option Nat × List (List Tree) × List (List Tree)) :=
  match c.callee, c.args.toList, c.argTypes.toList with
  | .builtin .append, [x, y], [t, tx] => match elemT Γ t with
    | some (e, r) => match dstOf st e r.size (st.eval x), srcOf st r.size (st.eval y) with
      | some (old, xs), some ys => if srcKind Γ tx (st.eval y) = true then some (e, r, old, xs, ys) else none
      | _, _ => none
    | none => none
  | _, _, _ => none
def kPut (K : St → Prop) (st : St) (d : Option Tmp) (X : TV) : Prop := K (st.put d X)
def kBox (K : St → Prop) (st : St) (d : Option Tmp) (cs : List CV) : Prop := K ((st.new (.cells cs)).put d (.c (.ptr st.next 0)))
def kAlloc (K : St → Prop) (st : St) (d : Option Tmp) (r : Row) : Prop := K ((st.new (.cells (r.zero.map fun v => .t (.v v)))).put d (.c (.ptr st.next 0)))
def kStore (K : St → Prop) (st : St) (d : Option Tmp) (p : Nat × List CV) : Prop := K ((st.setObj p.1 (.cells p.2)).put d (.c .junk))
def kRows (K : St → Prop) (st : St) (d : Option Tmp) (len : Nat) (p : Nat × Row × List (List Tree)) : Prop := K ((st.new (.arr p.1 p.2.1.size p.2.2)).put d (.c (.own st.next 0 len)))
def kApp (K : St → Prop) (st : St) (d : Option Tmp) (p : Nat × Row × Option Nat × List (List Tree) × List (List Tree)) : Prop :=
  (p.2.2.2.1.length + p.2.2.2.2.length) * p.2.1.bytes ≤ 140737488355328 ∧ p.2.2.2.1.length + p.2.2.2.2.length ≤ maxLen ∧
      K (((st.delOpt p.2.2.1).new (.arr p.1 p.2.1.size (p.2.2.2.1 ++ p.2.2.2.2))).put d (.c (.own st.next 0 (p.2.2.2.1.length + p.2.2.2.2.length))))
def kAm (P : Program) (C : Ctx) (Q : Exit → St → Prop) (o : Oper) (K : St → Prop) (st : St) (_ : Unit) : Prop := amOp P C o Q K st
def kCallV (P : Program) (kn : Kn) (C : Ctx) (Q : Exit → St → Prop) (o : Oper) (K : St → Prop) (st : St) (c : Call) (_ : Unit) : Prop := optCase (callIV kn st c) (kBack K st o.dst) (kAm P C Q o K st)
def kCallR (P : Program) (kn : Kn) (C : Ctx) (Q : Exit → St → Prop) (o : Oper) (K : St → Prop) (st : St) (c : Call) (_ : Unit) : Prop := optCase (callRV kn st c) (kBack K st o.dst) (kCallV P kn C Q o K st c)
def kCallB (P : Program) (kn : Kn) (C : Ctx) (Q : Exit → St → Prop) (o : Oper) (K : St → Prop) (st : St) (c : Call) (_ : Unit) : Prop := optCase (callBV kn st c) (kBack K st o.dst) (kCallR P kn C Q o K st c)
def kCall (P : Program) (kn : Kn) (C : Ctx) (Q : Exit → St → Prop) (o : Oper) (K : St → Prop) (st : St) (c : Call) (_ : Unit) : Prop := optCase (callVal kn st c) (kPut K st o.dst) (kCallB P kn C Q o K st c)
def epSet (r : Row) (id ty sz : Nat) (xs : List (List Tree)) (i j : Nat) (ts : List Tree) : Option (List Tree) → Option (Nat × Nat × Nat × List (List Tree))
  | some row => if ts.length = r.size ∧ j + ts.length ≤ row.length then some (id, ty, sz, xs.set i (splice row j ts)) else none
  | none => none
def epPrep (Γ : Nat → Option Row) (st : St) (t : Nat) (x y : Operand) : Option (Nat × Nat × Nat × List (List Tree)) :=
  match Γ t, st.eval x, (tvCells (st.eval y)).bind cvTrees with
  | some r, .c (.ep id i j), some ts => match st.obj id with
    | some (.arr ty sz xs) => epSet r id ty sz xs i j ts xs[i]?
    | _ => none
  | _, _, _ => none
def kStoreR (K : St → Prop) (st : St) (d : Option Tmp) (p : Nat × Nat × Nat × List (List Tree)) : Prop := K ((st.setObj p.1 (.arr p.2.1 p.2.2.1 p.2.2.2)).put d (.c .junk))
def epN (Γ : Nat → Option Row) (st : St) (t : Nat) (x y : Operand) : Option (Nat × Nat × Nat × List (List NC)) :=
  match Γ t, st.eval x, tvCells (st.eval y) with
  | some r, .c (.ep id i j), some ts => match st.obj id with
    | some (.nest ty sz xs) => match xs[i]? with
      | some row => if ts.length = r.size ∧ j + ts.length ≤ row.length then some (id, ty, sz, xs.set i (splice row j (ts.map ncOf))) else none
      | none => none
    | _ => none
  | _, _, _ => none
def kStoreN (K : St → Prop) (st : St) (d : Option Tmp) (p : Nat × Nat × Nat × List (List NC)) : Prop := K ((st.setObj p.1 (.nest p.2.1 p.2.2.1 p.2.2.2)).put d (.c .junk))
def kStoreF (P : Program) (Γ : Nat → Option Row) (C : Ctx) (Q : Exit → St → Prop) (o : Oper) (K : St → Prop) (st : St) (t : Nat) (x y : Operand) (_ : Unit) : Prop := optCase (epN Γ st t x y) (kStoreN K st o.dst) (kAm P C Q o K st)
theorem epN_ok {P : Program} {Γ : Nat → Option Row} {C : Ctx} {Q : Exit → St → Prop} {o : Oper} {K : St → Prop} {st : St} (hΓ : TabOk P Γ) {t : Nat} {x y : Operand} {p : Nat × Nat × Nat × List (List NC)} (ho : o.op = .store t x y) (hp : epN Γ st t x y = some p) (hd : dstOk C.n o = true) (h : kStoreN K st o.dst p) : amOp P C o Q K st := by
  unfold epN at hp
  split at hp
  · rename_i r id i j ts hr hx hts
    split at hp
    · rename_i ty sz xs hob
      split at hp
      · rename_i row hrow
        split at hp
        · rename_i hl
          cases hp
          exact amOp_storeNest hΓ ho hr hx hob hrow hts hl.1 hl.2 hd h
        · cases hp
      · cases hp
    · cases hp
  · cases hp
def kStoreE (P : Program) (Γ : Nat → Option Row) (C : Ctx) (Q : Exit → St → Prop) (o : Oper) (K : St → Prop) (st : St) (t : Nat) (x y : Operand) (_ : Unit) : Prop := optCase (epPrep Γ st t x y) (kStoreR K st o.dst) (kStoreF P Γ C Q o K st t x y)
def makePrep (Γ : Nat → Option Row) (st : St) (t : Nat) (x y : Operand) : Option (Nat × Row × Int) :=
  match elemT Γ t, st.eval x, st.eval y with
  | some (e, r), .c (.t (.v (.int .i64 n))), .c (.t (.v (.int .i64 m))) => if n = m then some (e, r, n) else none
  | _, _, _ => none
def kMake (K : St → Prop) (st : St) (d : Option Tmp) (p : Nat × Row × Int) : Prop :=
  0 ≤ p.2.2 ∧ (p.2.1.bytes * p.2.2.toNat ≤ 281474976710656 ∧ p.2.2.toNat ≤ maxLen) ∧ K ((st.new (.arr p.1 p.2.1.size (List.replicate p.2.2.toNat (p.2.1.zero.map .v)))).put d (.c (.own st.next 0 p.2.2.toNat)))
def kCallM (P : Program) (Γ : Nat → Option Row) (kn : Kn) (C : Ctx) (Q : Exit → St → Prop) (o : Oper) (K : St → Prop) (st : St) (c : Call) (_ : Unit) : Prop := optCase (mapCall Γ st c) (kMapC K st o.dst) (kCall P kn C Q o K st c)
/-- An operation that makes or writes. -/
def heavyOp (P : Program) (Γ : Nat → Option Row) (kn : Kn) (C : Ctx) (Q : Exit → St → Prop) (o : Oper) (K : St → Prop) (st : St) (_ : Unit) : Prop :=
  match o.op with
  | .box _ x => optCase (tvCells (st.eval x)) (kBox K st o.dst) fls
  | .alloc t => optCase (Γ t) (kAlloc K st o.dst) fls
  | .store t x y => optCase (storePrep Γ st t x y) (kStore K st o.dst) (kStoreE P Γ C Q o K st t x y)
  | .makeSlice t x y => optCase (makePrep Γ st t x y) (kMake K st o.dst) (kAm P C Q o K st)
  | .buildSlice t len parts => optCase (rowsPrep Γ st t len parts.toList) (kRows K st o.dst len) (kAm P C Q o K st)
  | .binOp op ty x y _ => optCase (eqVal Γ kn.eqs.tys op ty (st.eval x) (st.eval y)) (kPut K st o.dst) (kAm P C Q o K st)
  | .makeInterface t x => optCase (ifpPrep kn.eqs t (st.eval x)) (kPut K st o.dst) (kAm P C Q o K st)
  | .typeAssert x _ t ok => optCase (assertPrep kn.eqs t ok (st.eval x)) (kPut K st o.dst) (kAm P C Q o K st)
  | .makeMap t none => optCase (mapT Γ t) (kMap K st o.dst) (kAm P C Q o K st)
  | .lookup t m k c => optCase (getPrep Γ st t m k) (kGet K st o.dst c) (kAm P C Q o K st)
  | .mapUpdate t m k v => optCase (updPrep Γ st t m k v) (kUpd K st o.dst) (kAm P C Q o K st)
  | .call c => optCase (appPrep Γ st c) (kApp K st o.dst) (kCallM P Γ kn C Q o K st c)
  | _ => amOp P C o Q K st
def runOp (P : Program) (Γ : Nat → Option Row) (kn : Kn) (C : Ctx) (Q : Exit → St → Prop) (o : Oper) (K : St → Prop) (st : St) : Prop :=
  optCase (pureVal Γ st.eval st.obj o.op) (kPut K st o.dst) (heavyOp P Γ kn C Q o K st)
def dstAt : List Oper → Nat → Option Nat
  | [], _ => none
  | o :: _, 0 => o.dst
  | _ :: l, n + 1 => dstAt l n
theorem dstAt_eq : ∀ (l : List Oper) (j : Nat), dstAt l j = (l[j]?).bind (·.dst)
  | [], _ => by simp [dstAt]
  | o :: l, 0 => by simp [dstAt]
  | o :: l, n + 1 => by simp [dstAt, dstAt_eq l n]
/-- Two ways, by a test. -/
def guardP (b want : Bool) (X Y : Unit → Prop) : Prop := (b = want → X ()) ∧ (b = !want → Y ())
theorem guardP_mk {b want : Bool} {X Y : Unit → Prop} (h1 : b = want → X ()) (h2 : b = !want → Y ()) : guardP b want X Y := ⟨h1, h2⟩
@[go_sem] theorem guardP_tt {X Y : Unit → Prop} : guardP true true X Y = X () := by simp [guardP]
@[go_sem] theorem guardP_ff {X Y : Unit → Prop} : guardP false false X Y = X () := by simp [guardP]
@[go_sem] theorem guardP_tf {X Y : Unit → Prop} : guardP true false X Y = Y () := by simp [guardP]
@[go_sem] theorem guardP_ft {X Y : Unit → Prop} : guardP false true X Y = Y () := by simp [guardP]
def boolAt (d : Nat) (st : St) : Option Bool :=
  match look d st.tmps with
  | some (.c (.t (.v (.bool b)))) => some b
  | _ => none
theorem boolAt_ok {d : Nat} {st : St} {b : Bool} (h : boolAt d st = some b) : look d st.tmps = some (.c (.t (.v (.bool b)))) := by
  unfold boolAt at h
  split at h
  · rename_i b' hb; cases h; exact hb
  · cases h
def gRun (P : Program) (Γ : Nat → Option Row) (kn : Kn) (C : Ctx) (Q : Exit → St → Prop) (o : Oper) (K : St → Prop) (st : St) (_ : Unit) : Prop := runOp P Γ kn C Q o K st
def gSkip (o : Oper) (K : St → Prop) (st : St) (_ : Unit) : Prop := K (st.put o.dst (.tup []))
def kGuard (P : Program) (Γ : Nat → Option Row) (kn : Kn) (C : Ctx) (Q : Exit → St → Prop) (o : Oper) (K : St → Prop) (st : St) (d : Tmp) (want : Bool) (b : Bool) : Prop :=
  guardP b want (gRun P Γ kn C Q o K (st.put (some d) (lit (.bool want)))) (gSkip o K (st.put (some d) (lit (.bool (!want)))))
def kNone (o : Oper) (K : St → Prop) (st : St) (d : Tmp) (_ : Unit) : Prop := look d st.tmps = some (.tup []) ∧ K (st.put o.dst (.tup []))
def runOps (P : Program) (Γ : Nat → Option Row) (kn : Kn) (C : Ctx) (Q : Exit → St → Prop) (ops : Array Oper) : List Oper → (St → Prop) → St → Prop
  | [], K, st => K st
  | o :: l, K, st => match o.guard with
    | none => runOp P Γ kn C Q o (runOps P Γ kn C Q ops l K) st
    | some (j, want) => match dstAt ops.toList j with
      | some d => optCase (boolAt d st) (kGuard P Γ kn C Q o (runOps P Γ kn C Q ops l K) st d want) (kNone o (runOps P Γ kn C Q ops l K) st d)
      | none => False

section
variable {P : Program} {Γ : Nat → Option Row} {kn : Kn} {C : Ctx} {Q : Exit → St → Prop} {st : St} {o : Oper} {K : St → Prop} {ops : Array Oper} {E : Env}
theorem optCase_elim {α : Type} {x : Option α} {f : α → Prop} {d : Unit → Prop} {G : Prop} (h : optCase x f d) (h1 : ∀ a, x = some a → f a → G) (h2 : x = none → d () → G) : G := by
  cases x with
  | some a => exact h1 a rfl h
  | none => exact h2 rfl h
theorem storePrep_ok {t : Nat} {x y : Operand} {p : Nat × List CV} (h : storePrep Γ st t x y = some p) : ∃ r off xs cs, Γ t = some r ∧ st.eval x = .c (.ptr p.1 off) ∧ st.obj p.1 = some (.cells xs) ∧ tvCells (st.eval y) = some cs ∧ cs.length = r.size ∧ off + cs.length ≤ xs.length ∧ p.2 = splice xs off cs := by
  unfold storePrep at h
  split at h
  · rename_i r id off cs hr hx hc
    split at h
    · rename_i xs hob
      split at h
      · rename_i hl; cases h; exact ⟨r, off, xs, cs, hr, hx, hob, hc, hl.1, hl.2, rfl⟩
      · cases h
    · cases h
  · cases h
theorem rowsPrep_ok {t len : Nat} {parts : List (Nat × Operand)} {p : Nat × Row × List (List Tree)} (h : rowsPrep Γ st t len parts = some p) : elemT Γ t = some (p.1, p.2.1) ∧ rowsFrom p.2.1.size 0 (parts.map fun p => (p.1, st.eval p.2)) = some p.2.2 ∧ parts.length = len ∧ len * p.2.1.size ≤ 16777216 ∧ 0 < p.2.1.size := by
  unfold rowsPrep at h
  split at h
  · rename_i e r he
    split at h
    · rename_i xs hx
      split at h
      · rename_i hc; cases h; exact ⟨he, hx, hc⟩
      · cases h
    · cases h
  · cases h
theorem guardO_some {b : Bool} {r y : TV} (h : guardO b r = some y) : b = true ∧ y = r := by
  unfold guardO at h
  split at h
  · rename_i hb; cases h; exact ⟨hb, rfl⟩
  · cases h
theorem plain_ren {r : TV} (h : plainTV r = true) (ρ : Nat → Option Nat) : renTV ρ r = r := by
  have h1 : ∀ x : CV, plainCV x = true → renCV ρ x = x := fun x hx => by cases x <;> simp_all [plainCV, renCV]
  have h2 : ∀ xs : List CV, xs.all plainCV = true → xs.map (renCV ρ) = xs := fun xs hx => by
    induction xs with
    | nil => rfl
    | cons x xs ih => simp only [List.all_cons, Bool.and_eq_true] at hx; simp [h1 x hx.1, ih hx.2]
  have h3 : ∀ y : TV, plainTV1 y = true → renTV1 ρ y = y := fun y hy => by
    cases y with
    | c x => simp only [renTV1]; rw [h1 x hy]
    | agg xs => simp only [renTV1]; rw [h2 xs hy]
    | tup _ => cases hy
  cases r with
  | c x => exact h3 (.c x) h
  | agg xs => exact h3 (.agg xs) h
  | tup xs =>
    simp only [renTV]
    congr 1
    induction xs with
    | nil => rfl
    | cons x xs ih =>
      simp only [plainTV, List.all_cons, Bool.and_eq_true] at h
      simp [h3 x h.1, ih (by simpa [plainTV] using h.2)]
theorem lit_flat {r : TV} (h : litTV r = true) : flatTV r ∧ plainTV r = true := by
  have h1 : ∀ x : CV, litCV x = true → flatCV x ∧ plainCV x = true := fun x hx => by
    cases x with
    | t t => cases t with
      | v v => exact ⟨trivial, rfl⟩
      | sl a b => cases hx
    | _ => first | exact ⟨trivial, rfl⟩ | (cases hx)
  have h2 : ∀ xs : List CV, xs.all litCV = true → (∀ x, x ∈ xs → flatCV x) ∧ xs.all plainCV = true := fun xs hx => by
    rw [List.all_eq_true] at hx
    exact ⟨fun x h => (h1 x (hx x h)).1, by rw [List.all_eq_true]; exact fun x h => (h1 x (hx x h)).2⟩
  cases r with
  | c x => exact h1 x h
  | agg xs => exact h2 xs h
  | tup xs =>
    simp only [litTV, List.all_eq_true] at h
    refine ⟨fun y hy => ?_, by
      simp only [plainTV, List.all_eq_true]
      intro y hy
      have := h y hy
      cases y with
      | c x => exact (h1 x this).2
      | agg xs => exact (h2 xs this).2
      | tup _ => cases this⟩
    have := h y hy
    cases y with
    | c x => exact (h1 x this).1
    | agg xs => exact (h2 xs this).1
    | tup _ => cases this
theorem convArgs_eq {m : Bool} {ρ : List Nat} : ∀ {l : List Operand} {args : List TV}, convArgs m st ρ l = some args → allSome (l.map fun x => convTV m st ρ (st.eval x)) = some args
  | [], args, h => by cases h; rfl
  | x :: l, args, h => by
    simp only [convArgs] at h
    split at h
    · rename_i y hy
      cases hl : convArgs m st ρ l with
      | none => rw [hl] at h; cases h
      | some ys => rw [hl] at h; cases h; simp [hy, allSome, convArgs_eq hl]
    · cases h
theorem callVal_ok (hkn : KnOk P kn) (hd : dstOk C.n o = true) {c : Call} (ho : o.op = .call c) {X : TV} (h : callVal kn st c = some X) (hK : K (st.put o.dst X)) : amOp P C o Q K st := by
  unfold callVal at h
  split at h
  · rename_i f hf
    obtain ⟨ce, as, ts⟩ := c
    simp only at hf
    subst hf
    unfold optOr at h
    split at h
    · rename_i a ha
      cases h
      obtain ⟨args, h1, h2⟩ := Option.bind_eq_some_iff.1 ha
      obtain ⟨r, h3, h4⟩ := Option.bind_eq_some_iff.1 h2
      obtain ⟨h5, rfl⟩ := guardO_some h4
      exact amOp_q hd false ho (hkn.call _ _ _ h3) (convArgs_eq h1) (fun h => by cases h) (plain_ren h5) hK
    · obtain ⟨args, h1, h2⟩ := Option.bind_eq_some_iff.1 h
      obtain ⟨r, h3, h4⟩ := Option.bind_eq_some_iff.1 h2
      obtain ⟨h5, rfl⟩ := guardO_some h4
      exact amOp_q hd true ho (hkn.call _ _ _ h3) (convArgs_eq h1) (fun _ => (lit_flat h5).1) (plain_ren (lit_flat h5).2) hK
  · cases h
theorem mkObjs_ok {ρ : List Nat} : ∀ {l : List Nat} {k : Nat} {os : List (Nat × AObj)}, mkObjs st ρ k l = some os → os.length = l.length ∧ (∀ j, j ∈ l → (st.obj j).isSome = true) ∧ (∀ q, k ≤ q → q < k + l.length → (look q os).isSome = true) ∧
    ∀ q x, look q os = some x → k ≤ q ∧ ∃ j y, l[q - k]? = some j ∧ st.obj j = some y ∧ convObj false st ρ y = some x
  | [], k, os, h => by
    cases h
    exact ⟨rfl, (fun j hj => by cases hj), (fun q h1 h2 => by simp at h2; omega), fun q x hx => by cases hx⟩
  | j :: l, k, os, h => by
    simp only [mkObjs] at h
    unfold consB at h
    split at h
    · rename_i x os' hx hos
      cases h
      obtain ⟨y, h1, h2⟩ := Option.bind_eq_some_iff.1 hx
      obtain ⟨h3, h4, h5, h6⟩ := mkObjs_ok hos
      refine ⟨by simp [h3], fun i hi => ?_, fun q hq1 hq2 => ?_, fun q z hz => ?_⟩
      · rcases List.mem_cons.1 hi with e | hi
        · subst e; rw [h1]; rfl
        · exact h4 i hi
      · simp only [look]
        split
        · rfl
        · rename_i hne
          exact h5 q (by omega) (by simp only [List.length_cons] at hq2; omega)
      · simp only [look] at hz
        split at hz
        · rename_i e; subst e; cases hz; exact ⟨Nat.le_refl _, j, y, by simp, h1, h2⟩
        · obtain ⟨h7, j', y', h8, h9, h10⟩ := h6 q z hz
          refine ⟨by omega, j', y', ?_, h9, h10⟩
          rw [show q - k = (q - (k + 1)) + 1 by omega]
          simpa using h8
    · cases h
theorem callBV_ok (hkn : KnOk P kn) (hd : dstOk C.n o = true) {c : Call} (ho : o.op = .call c) {p : BRes} (h : callBV kn st c = some p) (hK : kBack K st o.dst p) : amOp P C o Q K st := by
  unfold callBV at h
  split at h
  · rename_i f hf
    obtain ⟨ce, as, ts⟩ := c
    simp only at hf
    subst hf
    obtain ⟨args, h1, h2⟩ := Option.bind_eq_some_iff.1 h
    obtain ⟨objs0, h3, h4⟩ := Option.bind_eq_some_iff.1 h2
    obtain ⟨⟨res, objs1, n1⟩, h5, h6⟩ := Option.bind_eq_some_iff.1 h4
    unfold cb3 at h6
    split at h6
    · rename_i hb
      simp only [Bool.and_eq_true] at hb
      cases h6
      obtain ⟨g1, g2, g3, g4⟩ := mkObjs_ok h3
      have htc := hkn.callB _ _ _ _ _ _ h5
      rw [g1] at htc
      refine amOp_call hd false _ ho htc (convArgs_eq h1) rfl hb.1 g2 (fun k x hx => ?_) (fun k hk1 hk2 => g3 k hk1 (by omega)) hb.2 (fun h => by cases h) hK
      obtain ⟨q1, j, y, q2, q3, q4⟩ := g4 k x hx
      refine ⟨j, y, ?_, q3, q4⟩
      unfold fwd
      rw [nodup_ok hb.1 _ _ q2]
      simp
      omega
    · cases h6
  · cases h
theorem convTVs_eq {m : Bool} {ρ : List Nat} : ∀ {l : List TV} {r : List TV}, convTVs m st ρ l = some r → allSome (l.map fun x => convTV m st ρ x) = some r
  | [], r, h => by cases h; rfl
  | x :: l, r, h => by
    simp only [convTVs] at h
    split at h
    · rename_i y hy
      cases hl : convTVs m st ρ l with
      | none => rw [hl] at h; cases h
      | some r' =>
        rw [hl] at h
        cases h
        simp [allSome, hy, convTVs_eq hl]
    · cases h
theorem evs_eq : ∀ l : List Operand, evs st l = l.map st.eval
  | [] => rfl
  | x :: l => by rw [evs, evs_eq l]; rfl
theorem callRV_ok (hkn : KnOk P kn) (hd : dstOk C.n o = true) {c : Call} (ho : o.op = .call c) {p : BRes} (h : callRV kn st c = some p) (hK : kBack K st o.dst p) : amOp P C o Q K st := by
  unfold callRV at h
  split at h
  · rename_i f hf
    obtain ⟨ce, as, ts⟩ := c
    simp only at hf
    subst hf
    obtain ⟨args, h1, h2⟩ := Option.bind_eq_some_iff.1 h
    obtain ⟨⟨res, objs1, n1⟩, h5, h6⟩ := Option.bind_eq_some_iff.1 h2
    unfold cr1 at h6
    split at h6
    · rename_i hb
      simp only [Bool.and_eq_true] at hb
      cases h6
      have htc := hkn.callB _ _ _ _ _ _ h5
      exact amOp_call hd true [] ho htc (convArgs_eq h1) rfl rfl (fun j hj => by cases hj) (fun k x hx => by cases hx) (fun k hk1 hk2 => by simp at hk2; omega) hb.2 (fun _ => ⟨flatTB_ok hb.1.1, flatOsB_ok hb.1.2⟩) hK
    · cases h6
  · cases h
theorem callIV_ok (hkn : KnOk P kn) (hd : dstOk C.n o = true) {c : Call} (ho : o.op = .call c) {p : BRes} (h : callIV kn st c = some p) (hK : kBack K st o.dst p) : amOp P C o Q K st := by
  unfold callIV at h
  split at h
  · rename_i recv name hf
    obtain ⟨ce, as, ts⟩ := c
    simp only at hf
    subst hf
    split at h
    · rename_i ty id off hrecv
      obtain ⟨f, hm, h0⟩ := Option.bind_eq_some_iff.1 h
      rw [evs_eq] at h0
      unfold ci0 ci1 at h0
      obtain ⟨args, h1, h2⟩ := Option.bind_eq_some_iff.1 h0
      obtain ⟨objs0, h3, h4⟩ := Option.bind_eq_some_iff.1 h2
      obtain ⟨⟨res, objs1, n1⟩, h5, h6⟩ := Option.bind_eq_some_iff.1 h4
      unfold cb3 at h6
      split at h6
      · rename_i hb
        simp only [Bool.and_eq_true] at hb
        cases h6
        obtain ⟨g1, g2, g3, g4⟩ := mkObjs_ok h3
        have htc := hkn.callB _ _ _ _ _ _ h5
        rw [g1] at htc
        have h1' := convTVs_eq h1
        refine amOp_inv hd _ ho (hkn.eqs.mth _ _ _ hm) hrecv htc h1' rfl hb.1 g2 (fun k x hx => ?_) (fun k hk1 hk2 => g3 k hk1 (by omega)) hb.2 hK
        obtain ⟨q1, j, y, q2, q3, q4⟩ := g4 k x hx
        refine ⟨j, y, ?_, q3, q4⟩
        unfold fwd
        rw [nodup_ok hb.1 _ _ q2]
        simp
        omega
      · cases h6
    · rename_i ty tr hrecv
      obtain ⟨f, hm, h0⟩ := Option.bind_eq_some_iff.1 h
      rw [evs_eq] at h0
      unfold ci0 ci1 at h0
      obtain ⟨args, h1, h2⟩ := Option.bind_eq_some_iff.1 h0
      obtain ⟨objs0, h3, h4⟩ := Option.bind_eq_some_iff.1 h2
      obtain ⟨⟨res, objs1, n1⟩, h5, h6⟩ := Option.bind_eq_some_iff.1 h4
      unfold cb3 at h6
      split at h6
      · rename_i hb
        simp only [Bool.and_eq_true] at hb
        cases h6
        obtain ⟨g1, g2, g3, g4⟩ := mkObjs_ok h3
        have htc := hkn.callB _ _ _ _ _ _ h5
        rw [g1] at htc
        have h1' := convTVs_eq h1
        refine amOp_invR hd _ ho (hkn.eqs.mth _ _ _ hm) hrecv htc h1' rfl hb.1 g2 (fun k x hx => ?_) (fun k hk1 hk2 => g3 k hk1 (by omega)) hb.2 hK
        obtain ⟨q1, j, y, q2, q3, q4⟩ := g4 k x hx
        refine ⟨j, y, ?_, q3, q4⟩
        unfold fwd
        rw [nodup_ok hb.1 _ _ q2]
        simp
        omega
      · cases h6
    · cases h
  · cases h
theorem heavyOp_ok (hΓ : TabOk P Γ) (hkn : KnOk P kn) (hd : dstOk C.n o = true) (h : heavyOp P Γ kn C Q o K st ()) : amOp P C o Q K st := by
  unfold heavyOp at h
  split at h
  · rename_i t x ho
    exact optCase_elim h (fun cs hc h => amOp_box ho hc hd h) fun _ h => h.elim
  · rename_i t ho
    exact optCase_elim h (fun r hr h => amOp_alloc hΓ ho hr hd h) fun _ h => h.elim
  · rename_i t x y ho
    refine optCase_elim h (fun p hp h => ?_) fun _ h => optCase_elim h (fun p hp h => ?_) fun _ h => optCase_elim h (fun p hp h => epN_ok hΓ ho hp hd h) fun _ h => h
    · obtain ⟨r, off, xs, cs, h1, h2, h3, h4, h5, h6, h7⟩ := storePrep_ok hp
      unfold kStore at h
      rw [h7] at h
      exact amOp_storePtr hΓ ho h1 h2 h3 h4 h5 h6 hd h
    · unfold epPrep at hp
      split at hp
      · rename_i r id i j ts hr hx hts
        split at hp
        · rename_i ty sz xs hob
          unfold epSet at hp
          split at hp
          · rename_i row hrow
            split at hp
            · rename_i hl
              cases hp
              obtain ⟨cs, h1, h2⟩ := Option.bind_eq_some_iff.1 hts
              rw [cvTrees_ok h2] at h1
              exact amOp_storeEp hΓ ho hr hx hob hrow h1 hl.1 hl.2 hd h
            · cases hp
          · cases hp
        · cases hp
      · cases hp
  · rename_i t x y ho
    refine optCase_elim h (fun p hp h => ?_) fun _ h => h
    unfold makePrep at hp
    split at hp
    · rename_i e r n m he hx hy
      split at hp
      · rename_i hnm
        cases hp
        subst hnm
        obtain ⟨h0, ⟨h1, h2⟩, h3⟩ := h
        obtain ⟨h6, h7⟩ := elemT_ok hΓ he
        have hn : n = (n.toNat : Int) := (Int.toNat_of_nonneg h0).symm
        exact amOp_makeSlice hΓ ho h6 h7 (by rw [hx, ← hn]) (by rw [hy, ← hn]) h1 h2 hd h3
      · cases hp
    · cases hp
  · rename_i t len parts ho
    refine optCase_elim h (fun p hp h => ?_) fun _ h => h
    obtain ⟨h1, h2, h3, h4, h5⟩ := rowsPrep_ok hp
    obtain ⟨h6, h7⟩ := elemT_ok hΓ h1
    exact amOp_buildSlice hΓ ho h6 h7 h2 (by simpa using h3) h4 h5 hd h
  · rename_i op ty x y yt ho
    exact optCase_elim h (fun X hX h => eqVal_ok hΓ hkn.eqs.tys ho hX hd h) fun _ h => h
  · rename_i t x ho
    exact optCase_elim h (fun X hX h => ifpPrep_ok hkn.eqs ho hX hd h) fun _ h => h
  · rename_i x xt t ok ho
    exact optCase_elim h (fun X hX h => assertPrep_ok hkn.eqs ho hX hd h) fun _ h => h
  · rename_i t ho
    exact optCase_elim h (fun p hp h => kMap_ok hΓ ho hp hd h) fun _ h => h
  · rename_i t m k c ho
    exact optCase_elim h (fun p hp h => getPrep_ok hΓ ho hp hd h) fun _ h => h
  · rename_i t m k v ho
    exact optCase_elim h (fun p hp h => updPrep_ok hΓ ho hp hd h) fun _ h => h
  · rename_i c ho
    refine optCase_elim h (fun p hp h => ?_) fun _ h => optCase_elim h (fun p hp h => mapCall_ok hΓ ho hp hd h) fun _ h => optCase_elim h (fun X hX h => callVal_ok hkn hd ho hX h) fun _ h => optCase_elim h (fun p hp h => callBV_ok hkn hd ho hp h) fun _ h => optCase_elim h (fun p hp h => callRV_ok hkn hd ho hp h) fun _ h => optCase_elim h (fun p hp h => callIV_ok hkn hd ho hp h) fun _ h => h
    unfold appPrep at hp
    split at hp
    · rename_i x y t tx h1 h2 h3
      have hc : c = { callee := .builtin .append, args := #[x, y], argTypes := #[t, tx] } := by
        cases c
        simp only at h1 h2 h3
        subst h1
        congr 1
        · apply Array.toList_inj.1; rw [h2]
        · apply Array.toList_inj.1; rw [h3]
      subst hc
      split at hp
      · rename_i e r he
        obtain ⟨h4, h5⟩ := elemT_ok hΓ he
        split at hp
        · rename_i old xs ys hx hy
          split at hp
          · rename_i h6
            cases hp
            obtain ⟨h7, h8, h9⟩ := h
            unfold srcKind at h6
            split at h6
            · rename_i s hs
              have hst := isStrT_ok hΓ h6
              exact amOp_append hΓ ho h4 h5 hx hy (.inr hst) (.inl ⟨s, cv1_some hs⟩) (.inr hst) h7 h8 hd h9
            · rename_i hs
              obtain ⟨⟨e', q⟩, he'⟩ := Option.isSome_iff_exists.1 h6
              have hst := (elemT_ok hΓ he').1
              refine amOp_append hΓ ho h4 h5 hx hy (.inl ⟨_, hst⟩) (.inr ⟨_, hst⟩) (.inl fun s hs' => ?_) h7 h8 hd h9
              rw [hs'] at hs
              exact hs s rfl
          · cases hp
        · cases hp
      · cases hp
    · cases hp
  · exact h
theorem runOp_ok (hΓ : TabOk P Γ) (hkn : KnOk P kn) (hd : dstOk C.n o = true) (h : runOp P Γ kn C Q o K st) : amOp P C o Q K st :=
  optCase_elim h (fun X hX h => pureVal_ok hΓ hd hX h) fun _ h => heavyOp_ok hΓ hkn hd h
theorem yielded_ok {j d : Nat} {b : Bool} {a : Act} {w : World} (hr : RelE E C st a w) (hd : (ops[j]?).bind (·.dst) = some d) (h : look d st.tmps = some (.c (.t (.v (.bool b))))) : yielded ops a.tmps j = some b ∧ a.tmps.getD d undef = .bool b := by
  have h1 := ro_v (rtT (hr.tmps d _ h))
  refine ⟨?_, h1⟩
  unfold yielded
  rw [hd]
  rw [Array.getD_eq_getD_getElem?] at h1
  cases hg : a.tmps[d]? with
  | none => rw [hg] at h1; simp [undef] at h1
  | some v => rw [hg] at h1; simp at h1; subst h1; simp [hg]
theorem yielded_none {j d : Nat} {a : Act} {w : World} (hr : RelE E C st a w) (hd : (ops[j]?).bind (·.dst) = some d) (h : look d st.tmps = some (.tup [])) : yielded ops a.tmps j = none := by
  have h1 : RT E w (a.tmps.getD d undef) (.tup []) := hr.tmps d _ h
  obtain ⟨vs, h2, h3⟩ := h1
  unfold yielded
  rw [hd]
  rw [Array.getD_eq_getD_getElem?] at h2
  cases hg : a.tmps[d]? with
  | none => simp [hg]
  | some v => rw [hg] at h2; simp at h2; subst h2; simp [hg]
/-- What a slot is told as may be told otherwise. -/
theorem RelE.retell {a : Act} {w : World} (hr : RelE E C st a w) {d : Nat} {x : TV} (h : RT E w (a.tmps.getD d undef) x) : RelE E C (st.put (some d) x) a w := by
  refine ⟨fun t y hy => ?_, hr.size, hr.defers, hr.objs, hr.next, hr.zero, hr.npos, hr.dom, hr.fc⟩
  simp only [St.put, look_push] at hy
  split at hy
  · rename_i e; subst e; cases hy; exact h
  · exact hr.tmps t y hy
theorem rt_undef {w : World} : RT E w undef (.tup []) := ⟨[], rfl, trivial⟩
theorem runOps_ok (hΓ : TabOk P Γ) (hkn : KnOk P kn) : ∀ (l : List Oper) (st : St), l.all (dstOk C.n) = true → runOps P Γ kn C Q ops l (Q .normal) st → amOps P C ops l Q st
  | [], st, _, h => amOps_nil h
  | o :: l, st, hd, h => by
    simp only [List.all_cons, Bool.and_eq_true] at hd
    simp only [runOps] at h
    split at h
    · rename_i hg
      exact amOps_cons hg (amOp_mono (runOp_ok hΓ hkn hd.1 h) fun st' h' => runOps_ok hΓ hkn l st' hd.2 h')
    · rename_i j want hg
      split at h
      · rename_i d hdst
        rw [dstAt_eq, Array.getElem?_toList] at hdst
        refine optCase_elim h (fun b hb0 h => ?_) fun _ h => ?_
        · have hb := boolAt_ok hb0
          intro a w ⟨E, hr⟩
          obtain ⟨hy, hv⟩ := yielded_ok hr hdst hb
          unfold wpList
          by_cases hbw : b = want
          · rw [if_pos (by simp [Region.wanted, hg, hy, hbw])]
            have hr2 := hr.retell (d := d) (x := lit (.bool want)) (by rw [hv, hbw]; exact RO.v _ rfl)
            exact .inl (runOp_ok hΓ hkn hd.1 (h.1 hbw) a w ⟨E, hr2⟩ _ (amOps_lift fun st' h' => runOps_ok hΓ hkn l st' hd.2 h'))
          · rw [if_neg (by simp [Region.wanted, hg, hy, hbw])]
            have hbn : b = !want := by cases b <;> cases want <;> simp_all
            have h2 := h.2 hbn
            have hr2 := hr.retell (d := d) (x := lit (.bool (!want))) (by rw [hv, hbn]; exact RO.v _ rfl)
            exact runOps_ok hΓ hkn l _ hd.2 h2 _ w ⟨E, hr2.put (x := .tup []) rt_undef (dstOk_lt hd.1)⟩
        · obtain ⟨hb, h⟩ := h
          intro a w ⟨E, hr⟩
          have hy := yielded_none hr hdst hb
          unfold wpList
          rw [if_neg (by simp [Region.wanted, hg, hy])]
          exact runOps_ok hΓ hkn l _ hd.2 h _ w ⟨E, hr.put (x := .tup []) rt_undef (dstOk_lt hd.1)⟩
      · exact h.elim

/-! ### What a proof uses -/
theorem am_reg (hΓ : TabOk P Γ) (hkn : KnOk P kn) {id : Nat} (hd : ops.toList.all (dstOk C.n) = true) (h : ∀ (K : St → Prop) (Q1 : Exit → St → Prop), (∀ st, Q .normal st → K st) → runOps P Γ kn C Q1 ops ops.toList K st) : am P C (.region id ops false) Q st :=
  am_region (runOps_ok hΓ hkn _ _ hd (h _ _ fun _ h => h))
theorem am_rs (hΓ : TabOk P Γ) (hkn : KnOk P kn) {id : Nat} {y : Code} (hd : ops.toList.all (dstOk C.n) = true) (h : ∀ (K : St → Prop) (Q1 : Exit → St → Prop), (∀ st, am P C y Q st → K st) → runOps P Γ kn C Q1 ops ops.toList K st) : am P C (.seq (.region id ops false) y) Q st :=
  am_seq (am_reg hΓ hkn hd fun K Q1 hK => h K Q1 fun st h => hK st h)
def boolTV : TV → Option Bool
  | .c (.t (.v (.bool b))) => some b
  | _ => none
def gCode (P : Program) (C : Ctx) (x : Code) (Q : Exit → St → Prop) (st : St) (_ : Unit) : Prop := am P C x Q st
def kCond (P : Program) (C : Ctx) (x y : Code) (Q : Exit → St → Prop) (st : St) (b : Bool) : Prop := guardP b true (gCode P C x Q st) (gCode P C y Q st)
theorem am_cond {c : Operand} {x y : Code} (h : optCase (boolTV (st.eval c)) (kCond P C x y Q st) fls) : am P C (.cond c x y) Q st := by
  refine optCase_elim h (fun b hb h => ?_) fun _ h => h.elim
  intro a w hr
  obtain ⟨E, hr'⟩ := hr
  have h0 : st.eval c = lit (.bool b) := by
    unfold boolTV at hb
    split at hb
    · rename_i b' h0; cases hb; exact h0
    · cases hb
  have h1 := hr'.lit h0
  exact wp_cond_split h1 (fun ht => h.1 ht a w ⟨E, hr'⟩) (fun hf => h.2 hf a w ⟨E, hr'⟩)
theorem am_ss {x y z : Code} (h : am P C (.seq x y) (thenQ (am P C z Q) Q) st) : am P C (.seq (.seq x y) z) Q st := am_seq h
theorem am_sb {x z : Code} {id : Nat} (h : am P C x (blockQ id (thenQ (am P C z Q) Q)) st) : am P C (.seq (.block id x) z) Q st := am_seq (am_block h)
theorem am_skipk {K : St → Prop} (h : K st) : am P C .skip (thenQ K Q) st := am_skip h
theorem am_sc {c : Operand} {x y z : Code} (h : optCase (boolTV (st.eval c)) (kCond P C x y (thenQ (am P C z Q) Q) st) fls) : am P C (.seq (.cond c x y) z) Q st := am_seq (am_cond h)
theorem am_sl {c z : Code} (n : Nat) (h : amR P C c (thenQ (am P C z Q) Q) n st) : am P C (.seq (.loop c) z) Q st := am_seq (am_loop n h)
theorem am_retP {rs : List Tmp} {res : TV} (hn : C.n0 = 1) (h1 : retTV rs (st.tidy [] rs 1) = res) (hQ : Q .ret = RetQ C rs res [] 1 .ret) : am P C .ret Q st := am_ret (by rw [hQ]; exact ret_plain hn h1)
end
theorem am_retB {P : Program} {C : Ctx} {Q : Exit → St → Prop} {st : St} {rs : List Tmp} {res : TV} {objs1 : List (Nat × AObj)} {n1 : Nat} (ρ : List (Nat × Nat)) (hok : tidyOk C.n0 ρ n1 = true) (h1 : retTV rs (st.tidy ρ rs n1) = res) (h2 : (st.tidy ρ rs n1).objs = objs1) (hQ : Q .ret = RetQ C rs res objs1 n1 .ret) : am P C .ret Q st := am_ret (by rw [hQ]; exact ret_tidy ρ hok h1 h2)
theorem ret_norm {C : Ctx} {st : St} {rs : List Tmp} {res : TV} {objs1 : List (Nat × AObj)} {n1 : Nat} (ρ : List (Nat × Nat)) (hok : tidyOk C.n0 ρ n1 = true) (h1 : retTV rs (st.tidy ρ rs n1) = res) (h2 : (st.tidy ρ rs n1).objs = objs1) : RetQ C rs res objs1 n1 .normal st :=
  ⟨.inr rfl, _, fun a w hr => hr.tidy hok, h1, fun id x hx => by rw [← h2] at hx; exact hx, rfl⟩
theorem lit_eq (v : Value) : lit v = .c (.t (.v v)) := rfl
def tidyTs (ρ : List (Nat × Nat)) (st : St) : List Nat → List (Nat × TV)
  | [] => []
  | t :: l => (t, renTV (look · ρ) (st.get t)) :: tidyTs ρ st l
def consA (k : Nat) (ρ : List (Nat × Nat)) : Option AObj → List (Nat × AObj) → List (Nat × AObj)
  | some o, l => (k, renObj (look · ρ) o) :: l
  | none, l => l
def tidyOs (ρ : List (Nat × Nat)) (st : St) : List (Nat × Nat) → List (Nat × AObj)
  | [] => []
  | p :: l => consA p.2 ρ (st.obj p.1) (tidyOs ρ st l)
@[go_sem] theorem st_tidy {st : St} {ρ : List (Nat × Nat)} {ts : List Nat} {N : Nat} : st.tidy ρ ts N = ⟨tidyTs ρ st ts, tidyOs ρ st ρ, N⟩ := by
  have h1 : ∀ l : List Nat, (l.map fun t => (t, renTV (look · ρ) (st.get t))) = tidyTs ρ st l := fun l => by induction l with | nil => rfl | cons t l ih => simp [tidyTs, ih]
  have h2 : ∀ l : List (Nat × Nat), (l.filterMap fun p => (st.obj p.1).map fun o => (p.2, renObj (look · ρ) o)) = tidyOs ρ st l := fun l => by
    induction l with
    | nil => rfl
    | cons p l ih => cases h : st.obj p.1 <;> simp [tidyOs, consA, h, ih]
  unfold St.tidy
  rw [h1, h2]
@[go_sem] theorem runOps_nil {P : Program} {Γ : Nat → Option Row} {kn : Kn} {C : Ctx} {Q : Exit → St → Prop} {ops : Array Oper} {K : St → Prop} {st : St} : runOps P Γ kn C Q ops [] K st = K st := rfl
@[go_sem] theorem runOps_cons {P : Program} {Γ : Nat → Option Row} {kn : Kn} {C : Ctx} {Q : Exit → St → Prop} {ops : Array Oper} {o : Oper} {l : List Oper} {K : St → Prop} {st : St} : runOps P Γ kn C Q ops (o :: l) K st = (match o.guard with
    | none => runOp P Γ kn C Q o (runOps P Γ kn C Q ops l K) st
    | some (j, want) => match dstAt ops.toList j with
      | some d => optCase (boolAt d st) (kGuard P Γ kn C Q o (runOps P Γ kn C Q ops l K) st d want) (kNone o (runOps P Γ kn C Q ops l K) st d)
      | none => False) := by
  conv => lhs; unfold runOps
attribute [go_sem] kCallM kMapC mapCall kUpd kGet kMap updPrep getPrep keyOf mapOf keyB mapT keyKind getTV zeroTV tvOf valOf litsOf
attribute [go_sem] flatNB epN kStoreN kStoreF ncOf ncCV isV flatRow flatRows flatCB flatTB1 flatTB flatOB flatOsB cr1 cr0 callRV kCallR byteRows strTV bytesK pureStr pureConvB epSet epPrep kStoreR kStoreE makePrep kMake cvTrees tidyTs tidyOs consA idsC cvIds tvIds argIds obIds hasId reach consB mkObjs convTVs tvsIds evs ci1 ci0 callIV kCallV convObj cb3 cb2 cb1 cb0 callBV kBack kCallB delAll bwd bwdO posOf uniq nodupB plainCV plainTV1 plainTV litCV litTV1 litTV guardO convArgs convTV convCV callP callL callK callF callM callVal kCall fwd allSome boolTV gCode kCond kPut kBox kAlloc kStore kRows kApp kAm fls gRun gSkip kGuard kNone push storePrep rowsPrep appPrep boolAt pureBuild fillC placeT rowsFrom treesOf dstAt runOp pureVal heavyOp behindO St.eval St.get St.put St.obj St.new St.setObj St.delOpt St.delObj look upd del cv1 lit_eq pickTV pureBin binLit isShift isCmp cmpInt arithInt shiftInt strBin boolBin isBool isBoolT isStrT elemT unLit pureConv
  someTV fieldOf addrTV loadTV TK.isRow pureIndexAddr pureIndexSl ptrA arrT idxA buildA pureIndex pureCut cutB cutSize cutTV pureLen pureMinMax lenTV tvCells isJunk splice constTV argSlots srcKind dstOf srcOf Value.oneCell' blockQ thenQ retTV oneTV renTV renTV1 renCV renObj invl
end Go.Proofs.YthnpbfljoghbmaaA
