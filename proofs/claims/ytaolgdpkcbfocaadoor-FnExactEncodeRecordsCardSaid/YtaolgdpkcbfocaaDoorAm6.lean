/- The calculus, sixth part: slices and strings read, rows written at an index. -/
import Derived.Test.YtaolgdpkcbfocaaDoorAm5
import Derived.Laws.Slices
namespace Go.Proofs.YtaolgdpkcbfocaaDoorA
set_option autoImplicit false
set_option linter.unusedVariables false

section
variable {P : Program} {Γ : Nat → Option Row} {C : Ctx} {Q : Exit → St → Prop} {st : St} {o : Oper} {K : St → Prop} {E : Env} {a : Act} {w : World}

theorem row_size (hΓ : TabOk P Γ) {e : Nat} {r : Row} (h : Γ e = some r) : (P.info? e).map (·.size) = some r.size := by
  obtain ⟨i, hi, hs, _⟩ := (hΓ e r h).info
  simp [hi, hs]
theorem run_sizeOf (hΓ : TabOk P Γ) {e : Nat} {r : Row} (h : Γ e = some r) : (sizeOf e).run P w = .ok r.size w := by
  obtain ⟨i, hi, hs, _⟩ := (hΓ e r h).info
  simp [sizeOf, typeInfo, hi, hs]

/-- What is told of a slice that is read. -/
theorem ro_slice {A : Nat → Nat → Prop} {v : Value} {sz : Nat} {xs : List (List Tree)} (h : RO w A v (.sl sz xs)) :
    ∃ (ad : Option Addr) (cap g off : Nat) (f : Nat → Nat → Value), v = .slice ad xs.length cap ∧ xs.length ≤ cap ∧ xs.length ≤ maxLen ∧ (∀ x, x ∈ xs → x.length = sz) ∧ (xs ≠ [] → ad = some ⟨g, off, none⟩) ∧
      (∀ i j, i < xs.length → j < sz → A g (off + i * sz + j) ∧ w.cell? ⟨g, off + i * sz + j, none⟩ = some (f i j)) ∧ (∀ i x, xs[i]? = some x → ∀ j t, x[j]? = some t → RO w A (f i j) t) := by
  cases h with
  | sl ad cap _ _ g off f h1 h2 h3 h4 h5 h6 => exact ⟨ad, cap, g, off, f, rfl, h1, h2, h3, h4, h5, h6⟩

theorem amOp_indexRo (hΓ : TabOk P Γ) {t e : TypeId} {x ix : Operand} {r : Row} {k : IntKind} {n : Int} {sz : Nat} {xs : List (List Tree)} {el : List Tree} (ho : o.op = .indexAddr t x ix) (ht : P.underlying t = some (.slice e)) (he : Γ e = some r)
    (hx : st.eval x = .c (.t (.sl sz xs))) (hsz : r.size = sz) (hi : st.eval ix = lit (.int k n)) (h0 : 0 ≤ n) (hel : xs[n.toNat]? = some el) (hd : dstOk C.n o = true) (hk : K (st.put o.dst (.c (.rp el)))) : amOp P C o Q K st := by
  refine amOp_pure hd hk fun E a w h => ?_
  have h1 := h.eval x
  rw [hx] at h1
  obtain ⟨ad, cap, g, off, f, h2, h3, h4, h5, h6, h7, h8⟩ := ro_slice (rtT h1)
  have hlt : n.toNat < xs.length := (List.getElem?_eq_some_iff.1 hel).1
  have had := h6 (by intro e; rw [e] at hlt; exact absurd hlt (Nat.not_lt_zero _))
  subst had
  refine ⟨.pointer (some ⟨g, off + n.toNat * sz, none⟩), ?_, g, _, rfl, fun j t ht' => ?_⟩
  · have hii := h.lit hi
    subst hsz
    have h9 : 0 ≤ n ∧ n < (xs.length : Int) := ⟨h0, by omega⟩
    simp [execOp, ho, h2, hii, Instr.indexAt, asIntOf, run_underlying ht, h9, run_sizeOf hΓ he, Addr.add_mid]
  · have hel' : el ∈ xs := List.mem_of_getElem? hel
    have hj : j < sz := by rw [← h5 el hel']; exact (List.getElem?_eq_some_iff.1 ht').1
    exact ⟨(h7 _ j hlt hj).1, _, (h7 _ j hlt hj).2, h8 _ _ hel _ _ ht'⟩

theorem amOp_indexOwn (hΓ : TabOk P Γ) {t e : TypeId} {x ix : Operand} {r : Row} {k : IntKind} {n : Int} {sz id lo len ty : Nat} {xs : List (List Tree)} (ho : o.op = .indexAddr t x ix) (ht : P.underlying t = some (.slice e)) (he : Γ e = some r)
    (hx : st.eval x = .c (.own id lo len)) (hob : st.obj id = some (.arr ty sz xs)) (hsz : r.size = sz) (hi : st.eval ix = lit (.int k n)) (h0 : 0 ≤ n) (hlt : n.toNat < len) (hd : dstOk C.n o = true)
    (hk : K (st.put o.dst (.c (.ep id (lo + n.toNat) 0)))) : amOp P C o Q K st := by
  refine amOp_pure hd hk fun E a w h => ?_
  have h1 := h.eval x
  rw [hx] at h1
  rcases rtC h1 with ⟨_, _, _, h2⟩ | ⟨g, sz', cap, of, h2, h3, h4, h5⟩
  · omega
  rcases h.objs _ _ hob with ⟨h6, _⟩ | ⟨g', cap', cur, h6, _⟩
  · rw [h2] at h6; cases h6
  rw [h2] at h6; cases h6
  have hii := h.lit hi
  subst hsz
  have h9 : 0 ≤ n ∧ n < (len : Int) := ⟨h0, by omega⟩
  refine ⟨_, ?_, g, r.size, cap, h2, rfl⟩
  simp [execOp, ho, h3, hii, Instr.indexAt, asIntOf, run_underlying ht, h9, run_sizeOf hΓ he, Addr.add_mid, h5 (by omega), Nat.add_mul]

theorem amOp_indexStr {t : TypeId} {x ix : Operand} {k : IntKind} {n : Int} {s : ByteArray} {b : UInt8} (ho : o.op = .index t x ix) (ht : P.underlying t = some .string) (hx : st.eval x = lit (.string s)) (hi : st.eval ix = lit (.int k n)) (h0 : 0 ≤ n)
    (hb : s[n.toNat]? = some b) (hd : dstOk C.n o = true) (hk : K (st.put o.dst (lit (.int .u8 b.toNat)))) : amOp P C o Q K st :=
  amOp_pure hd hk fun E a w h => ⟨_, by simp [execOp, ho, h.lit hx, h.lit hi, Instr.index, asIntOf, run_underlying ht, h0, hb], .v _ rfl⟩

/-- A slice's length. -/
def lenTV : TV → Option Nat
  | .c (.t (.sl _ xs)) => some xs.length
  | .c (.own _ _ len) => some len
  | .c (.t (.v (.slice none n _))) => some n
  | _ => none
theorem lenTV_ok {v : Value} {x : TV} {n : Nat} (h : RT E w v x) (hn : lenTV x = some n) : ∃ ad cap, v = .slice ad n cap := by
  unfold lenTV at hn
  split at hn
  · cases hn; obtain ⟨ad, cap, g, off, f, h2, _⟩ := ro_slice (rtT h); exact ⟨ad, cap, h2⟩
  · cases hn
    rcases rtC h with ⟨_, h1, _, h2⟩ | ⟨g, sz', cap, of, h2, h3, _⟩
    · subst h2; exact ⟨none, 0, h1⟩
    · exact ⟨_, _, h3⟩
  · cases hn; exact ⟨none, _, ro_v (rtT h)⟩
  · cases hn
theorem amOp_lenSlice {t e rt : TypeId} {x : Operand} {n : Nat} (ho : o.op = .call { callee := .builtin .len, args := #[x], argTypes := #[t] }) (ht : P.underlying t = some (.slice e)) (hx : lenTV (st.eval x) = some n) (hd : dstOk C.n o = true)
    (hk : K (st.put o.dst (lit (.int .i64 n)))) : amOp P C o Q K st := by
  refine amOp_pure hd hk fun E a w h => ?_
  obtain ⟨ad, cap, h1⟩ := lenTV_ok (h.eval x) hx
  refine ⟨.int .i64 n, ?_, .v _ rfl⟩
  simp [execOp, ho, resolve, invoke, builtin, Builtin.len_, h1, run_underlying ht, goInt]
theorem amOp_lenStr {t : TypeId} {x : Operand} {s : ByteArray} (ho : o.op = .call { callee := .builtin .len, args := #[x], argTypes := #[t] }) (ht : P.underlying t = some .string) (hx : st.eval x = lit (.string s)) (hd : dstOk C.n o = true)
    (hk : K (st.put o.dst (lit (.int .i64 s.size)))) : amOp P C o Q K st :=
  amOp_pure hd hk fun E a w h => ⟨.int .i64 s.size, by simp [execOp, ho, resolve, invoke, builtin, Builtin.len_, h.lit hx, run_underlying ht, goInt], .v _ rfl⟩

theorem amOp_extract {x : Operand} {i : Nat} {xs : List TV} {y : TV} (ho : o.op = .extract x i) (hx : st.eval x = .tup xs) (hy : xs[i]? = some y) (hd : dstOk C.n o = true) (hk : K (st.put o.dst y)) : amOp P C o Q K st := by
  refine amOp_pure hd hk fun E a w h => ?_
  have h1 := h.eval x
  rw [hx] at h1
  obtain ⟨vs, h2, h3⟩ := h1
  obtain ⟨v, h4, h5⟩ := h3.get hy
  refine ⟨v, ?_, ?_⟩
  · have h4' : vs.toArray[i]? = some v := by simpa using h4
    simp [execOp, ho, h2, Instr.extract, h4']
  · cases y with
    | tup _ => exact h5.elim
    | c _ => exact h5
    | agg _ => exact h5

theorem amOp_field (hΓ : TabOk P Γ) {t : TypeId} {x : Operand} {f off ty : Nat} {q : Row} {xs : List CV} {y : TV} (ho : o.op = .field t x f) (hf : fieldOf Γ t f = some (off, ty, q)) (hx : st.eval x = .agg xs) (hy : loadTV q (xs.drop off) = some y)
    (hd : dstOk C.n o = true) (hk : K (st.put o.dst y)) : amOp P C o Q K st := by
  refine amOp_pure hd hk fun E a w h => ?_
  have h1 := h.eval x
  rw [hx] at h1
  obtain ⟨vs, h2, h3⟩ := h1
  obtain ⟨fs, fd, h4, h5, h6, h7, h8⟩ := fieldOf_ok hΓ hf
  obtain ⟨D, hD, hDr⟩ := row_isAgg h8
  obtain ⟨i, hi, hsz, _⟩ := h8.info
  subst h6; subst h7
  unfold loadTV at hy
  split at hy
  · rename_i hisr
    split at hy
    · rename_i hle
      cases hy
      refine ⟨.agg ((vs.drop fd.offset).take q.size).toArray, ?_, _, rfl, (h3.drop _).take _⟩
      have hp : (part fd.type vs.toArray fd.offset).run P w = .ok (.agg (vs.toArray.extract fd.offset (fd.offset + q.size))) w := by
        unfold part
        rw [Sem.run_bind, run_isAgg hD, hDr, hisr]
        simp [sizeOf, typeInfo, hi, hsz]
      have he : vs.toArray.extract fd.offset (fd.offset + q.size) = ((vs.drop fd.offset).take q.size).toArray := by
        apply Array.toList_inj.1
        simp
      rw [he] at hp
      simp [execOp, ho, h2, Instr.field, run_underlying h4, h5, asAgg, hp]
    · cases hy
  · rename_i hisr
    split at hy
    · rename_i c cs hcs
      cases hy
      have hg : xs[fd.offset]? = some c := by
        have := congrArg (·[0]?) hcs
        simpa using this
      obtain ⟨v, h9, h10⟩ := h3.get hg
      refine ⟨v, ?_, h10⟩
      have hp : (part fd.type vs.toArray fd.offset).run P w = .ok v w := by
        unfold part
        rw [Sem.run_bind, run_isAgg hD, hDr, Bool.eq_false_iff.mpr hisr]
        simp [h9]
      simp [execOp, ho, h2, Instr.field, run_underlying h4, h5, asAgg, hp]
    · cases hy

/-! ### A slice cut -/
/-- The bounds of a cut: low and high, if they are told and fit. -/
def cutOf (st : St) (lo hi : Option Operand) (len : Nat) : Option (Nat × Nat) :=
  match (match lo with | none => some 0 | some x => match cv1 (st.eval x) with | some (.int _ n) => if 0 ≤ n then some n.toNat else none | _ => none),
        (match hi with | none => some len | some x => match cv1 (st.eval x) with | some (.int _ n) => if 0 ≤ n then some n.toNat else none | _ => none) with
  | some l, some h => if l ≤ h ∧ h ≤ len then some (l, h) else none
  | _, _ => none
theorem run_bounds {len cap l h : Nat} {lo hi : Option Operand} (hr : RelE E C st a w) (hb : cutOf st lo hi len = some (l, h)) (hcap : len ≤ cap) (isS : Bool) (hS : isS = false → cap = len) :
    l ≤ h ∧ h ≤ len ∧ (Instr.sliceBounds isS len cap (lo.map a.eval) (hi.map a.eval) none).run P w = .ok (l, h, cap) w := by
  unfold cutOf at hb
  split at hb
  · rename_i l' h' hl hh
    split at hb
    · rename_i hle
      cases hb
      refine ⟨hle.1, hle.2, ?_⟩
      have e1 : ∀ {x : Operand} {m : Nat} {y : Nat} {cd : BoundsCode}, (match cv1 (st.eval x) with | some (.int _ n) => if 0 ≤ n then some n.toNat else none | _ => none) = some m → m ≤ y → (Instr.sliceBound (a.eval x) y cd).run P w = .ok m w := by
        intro x m y cd hm hy
        split at hm
        · rename_i k n hc
          split at hm
          · rename_i h0
            cases hm
            have h1 := hr.lit (cv1_some hc)
            rw [h1]
            have h2 : 0 ≤ n ∧ n ≤ (y : Int) := ⟨h0, by omega⟩
            simp [Instr.sliceBound, asIntOf, h2]
          · cases hm
        · cases hm
      cases lo with
      | none =>
        cases hl
        cases hi with
        | none => cases hh; simp [Instr.sliceBounds]
        | some y => simp [Instr.sliceBounds, e1 hh (show h ≤ cap by omega)]
      | some x =>
        cases hi with
        | none => cases hh; simp [Instr.sliceBounds, e1 hl hle.1]
        | some y => simp [Instr.sliceBounds, e1 hh (show h ≤ cap by omega), e1 hl hle.1]
    · cases hb
  · cases hb
def cutTV (x : TV) (l h : Nat) : Option TV :=
  match x with
  | .c (.t (.sl sz xs)) => some (.c (.t (.sl sz ((xs.take h).drop l))))
  | .c (.own id lo _) => some (.c (.own id (lo + l) (h - l)))
  | .c (.t (.v (.slice none 0 0))) => some (.c (.t (.v (.slice none 0 0))))
  | _ => none
theorem amOp_cut (hΓ : TabOk P Γ) {t e : TypeId} {x : Operand} {lo hi : Option Operand} {r : Row} {n l h : Nat} {y : TV} (ho : o.op = .slice t x lo hi none) (ht : P.underlying t = some (.slice e)) (he : Γ e = some r)
    (hn : lenTV (st.eval x) = some n) (hb : cutOf st lo hi n = some (l, h)) (hy : cutTV (st.eval x) l h = some y) (hsz : ∀ sz xs, st.eval x = .c (.t (.sl sz xs)) → r.size = sz)
    (hso : ∀ id l0 len, st.eval x = .c (.own id l0 len) → ∃ ty xs, st.obj id = some (.arr ty r.size xs)) (hd : dstOk C.n o = true) (hk : K (st.put o.dst y)) : amOp P C o Q K st := by
  refine amOp_pure hd hk fun E a w hr => ?_
  have h1 := hr.eval x
  have hrun : ∀ ad cap, a.eval x = .slice ad n cap → n ≤ cap → (execOp a.eval o).run P w = .ok (.value (.slice (if cap = l then ad else ad.map (·.add (l * r.size))) (h - l) (cap - l))) w ∧ l ≤ h ∧ h ≤ n := by
    intro ad cap hv hc
    obtain ⟨h2, h3, h4⟩ := run_bounds (P := P) hr hb hc true (by simp)
    refine ⟨?_, h2, h3⟩
    simp [execOp, ho, hv, Instr.sliceAt, Instr.slice, run_underlying ht, h4, run_sizeOf hΓ he]
  generalize hX : st.eval x = X at *
  unfold cutTV at hy
  split at hy
  · rename_i sz xs
    cases hy
    obtain ⟨ad, cap, g, off, f, h2, h3, h4, h5, h6, h7, h8⟩ := ro_slice (rtT h1)
    cases hn
    obtain ⟨h9, h10, h11⟩ := hrun ad cap h2 h3
    have := hsz sz xs rfl
    subst this
    refine ⟨_, h9, ?_⟩
    have hlen : ((xs.take h).drop l).length = h - l := by rw [List.length_drop, List.length_take]; omega
    have hget : ∀ i, ((xs.take h).drop l)[i]? = if l + i < h then xs[l + i]? else none := fun i => by rw [List.getElem?_drop, List.getElem?_take]
    rw [← hlen]
    refine RO.sl (g := g) (off := off + l * r.size) (f := fun i j => f (l + i) j) _ _ _ _ (by rw [hlen]; omega) (by rw [hlen]; omega) (fun y hy => h5 y (List.mem_of_mem_take (List.mem_of_mem_drop hy))) (fun hne => ?_) (fun i j hi hj => ?_) (fun i y hy j t ht' => ?_)
    · have hpos : 0 < ((xs.take h).drop l).length := by
        cases hq : (xs.take h).drop l with
        | nil => exact absurd hq hne
        | cons _ _ => simp
      have hne' : xs ≠ [] := by intro e; subst e; simp at hpos
      rw [h6 hne', if_neg (by omega)]
      simp [Addr.add_mid]
    · rw [hlen] at hi
      have := h7 (l + i) j (by omega) hj
      rwa [Nat.add_mul, ← Nat.add_assoc] at this
    · rw [hget] at hy
      split at hy
      · exact h8 _ _ hy _ _ ht'
      · cases hy
  · rename_i id l0 len
    cases hy
    cases hn
    rcases rtC h1 with ⟨h2, h3, h4, h5⟩ | ⟨g, sz', cap, of, h2, h3, h4, h5⟩
    · subst h4; subst h5
      obtain ⟨h6, h7, h8⟩ := hrun none 0 h3 (Nat.le_refl _)
      obtain ⟨rfl, rfl⟩ : l = 0 ∧ h = 0 := by omega
      exact ⟨_, h6, .inl ⟨h2, by simp, rfl, rfl⟩⟩
    · obtain ⟨h6, h7, h8⟩ := hrun _ _ h3 (by omega)
      obtain ⟨ty, xs, hob⟩ := hso id l0 _ rfl
      rcases hr.objs _ _ hob with ⟨h9, _⟩ | ⟨g', cap', cur, h9, _⟩
      · rw [h2] at h9; cases h9
      rw [h2] at h9; cases h9
      refine ⟨_, h6, .inr ⟨g, r.size, cap, if cap - l0 = l then of else of + l * r.size, h2, ?_, by omega, fun hlt => ?_⟩⟩
      · rw [Nat.sub_sub]
        split <;> simp [Addr.add_mid]
      · rw [if_neg (by omega), h5 (by omega), Nat.add_mul]
  · cases hy
    cases hn
    have h2 := ro_v (rtT h1)
    obtain ⟨h6, h7, h8⟩ := hrun none 0 h2 (Nat.le_refl _)
    obtain ⟨rfl, rfl⟩ : l = 0 ∧ h = 0 := by omega
    exact ⟨_, h6, .v _ rfl⟩
  · cases hy
theorem amOp_cutStr {t : TypeId} {x : Operand} {lo hi : Option Operand} {s : ByteArray} {l h : Nat} (ho : o.op = .slice t x lo hi none) (ht : P.underlying t = some .string) (hx : st.eval x = lit (.string s)) (hb : cutOf st lo hi s.size = some (l, h))
    (hd : dstOk C.n o = true) (hk : K (st.put o.dst (lit (.string (s.extract l h))))) : amOp P C o Q K st := by
  refine amOp_pure hd hk fun E a w hr => ⟨.string (s.extract l h), ?_, .v _ rfl⟩
  obtain ⟨h2, h3, h4⟩ := run_bounds (P := P) hr hb (Nat.le_refl _) false (by simp)
  simp [execOp, ho, hr.lit hx, Instr.sliceAt, Instr.slice, run_underlying ht, h4]
end
end Go.Proofs.YtaolgdpkcbfocaaDoorA
