/- Tables: the two maps at work answer as the reference's lists in order. -/
import Derived.Test.YthnpbfljoghbmaaCApp
import Derived.Test.YthnpbfljoghbmaaCTell
namespace Go.Proofs.YthnpbfljoghbmaaA
open Go.Proofs
set_option autoImplicit false
set_option linter.unusedVariables false
set_option linter.unusedSimpArgs false
set_option maxRecDepth 4000
def tellP (l : List Pr) : List Pr := (srtT (l.map Pr.k)).map fun k => ⟨k, valF l k⟩
def tellS (l : List Ss) : List Ss := (srtI (l.map Ss.cl)).map fun k => sesF l k
abbrev RpP (l s : List Pr) : Prop := Rp Pr.k tlt l s
abbrev RpS (l s : List Ss) : Prop := Rp Ss.cl (fun x y : Int => x < y) l s
theorem tellP_of {l s : List Pr} (h : RpP l s) : tellP l = s := by
  unfold tellP
  rw [srtT_of h, List.map_map]
  refine (List.map_congr_left fun p hp => ?_).trans (List.map_id _)
  obtain ⟨i, hi⟩ := List.getElem?_of_mem hp
  have := getP_of h hi
  simp [valF, this]
theorem tellS_of {l s : List Ss} (h : RpS l s) : tellS l = s := by
  unfold tellS
  rw [srtI_of h, List.map_map]
  refine (List.map_congr_left fun p hp => ?_).trans (List.map_id _)
  obtain ⟨i, hi⟩ := List.getElem?_of_mem hp
  have := getS_of h hi
  simp [sesF, this]
/-- What holds of the two maps against the table, from command to command. -/
structure Inv (l : List Pr) (m : List Ss) (t : Tb) : Prop where
  p : RpP l t.ps
  s : RpS m t.ss
  kp : ∀ p, p ∈ t.ps → p.k.size ≤ 64
  np : t.ps.length ≤ 256
  ks : ∀ s, s ∈ t.ss → 1 ≤ s.cl ∧ s.cl ≤ 8
theorem few {s : List Ss} : ∀ (a : Int), Sorted Ss.cl (fun x y : Int => x < y) s → (∀ x, x ∈ s → a ≤ x.cl ∧ x.cl ≤ 8) → a ≤ 9 → (s.length : Int) ≤ 9 - a := by
  induction s with
  | nil => intro a _ _ h; simp; omega
  | cons x s ih =>
    intro a h hk ha
    unfold Sorted at h
    rw [List.pairwise_cons] at h
    have h1 := hk x List.mem_cons_self
    have h2 := ih (x.cl + 1) h.2 (fun y hy => ⟨h.1 y hy, (hk y (List.mem_cons_of_mem _ hy)).2⟩) (by omega)
    simp only [List.length_cons]
    omega
theorem Inv.ns {l : List Pr} {m : List Ss} {t : Tb} (h : Inv l m t) : t.ss.length ≤ 8 := by
  have := few 1 h.s.srt h.ks (by omega)
  omega
theorem Inv.okP {l : List Pr} {m : List Ss} {t : Tb} (h : Inv l m t) : okP l = true := by
  simp only [Go.Proofs.YthnpbfljoghbmaaA.okP, Bool.and_eq_true, List.all_eq_true, decide_eq_true_eq]
  refine ⟨fun p hp => ?_, ?_⟩
  · have := h.kp p (h.p.perm.mem_iff.1 hp); omega
  · rw [h.p.perm.length_eq]; have := h.np; omega
theorem Inv.okS {l : List Pr} {m : List Ss} {t : Tb} (h : Inv l m t) : okS m = true := by
  simp only [Go.Proofs.YthnpbfljoghbmaaA.okS, Bool.and_eq_true, List.all_eq_true, decide_eq_true_eq]
  refine ⟨fun p hp => ?_, ?_⟩
  · have := h.ks p (h.s.perm.mem_iff.1 hp); omega
  · rw [h.s.perm.length_eq]; have := h.ns; omega
theorem Inv.tb {l : List Pr} {m : List Ss} {t : Tb} (h : Inv l m t) : tbOk2 t = true := by
  have h1 := h.np
  have h2 := h.ns
  simp only [tbOk2, decide_eq_true_eq]
  omega
/-! ### A well-formed table -/
theorem leT_iff {a b : ByteArray} : leT a b = false ↔ tlt b a := by
  unfold leT
  constructor
  · intro h
    rw [less_eq] at h
    simp only [Bool.or_eq_false_iff, decide_eq_false_iff_not] at h
    rcases ordT.tri a b with h1 | h1 | h1
    · exact absurd h1 h.1
    · exact absurd h1 h.2
    · exact h1
  · exact gtT
theorem psF_srt : ∀ {s : List Pr} {last : ByteArray}, psF s last = true → Sorted Pr.k tlt s ∧ (∀ p, p ∈ s → tlt last p.k ∧ p.k.size ≤ 64)
  | [], _, _ => ⟨List.Pairwise.nil, fun p hp => by cases hp⟩
  | p :: s, last, h => by
    simp only [psF, Bool.and_eq_true, Bool.not_eq_true', decide_eq_true_eq] at h
    obtain ⟨⟨⟨h1, h2⟩, h3⟩, h4⟩ := h
    obtain ⟨h5, h6⟩ := psF_srt h4
    have h7 := leT_iff.1 h1
    refine ⟨List.Pairwise.cons (fun q hq => (h6 q hq).1) h5, fun q hq => ?_⟩
    rcases List.mem_cons.1 hq with rfl | hq
    · exact ⟨h7, h2⟩
    · exact ⟨ordT.tr _ _ _ h7 (h6 q hq).1, (h6 q hq).2⟩
theorem ssF_srt : ∀ {s : List Ss} {c : Int}, ssF s c = true → Sorted Ss.cl (fun x y : Int => x < y) s ∧ (∀ p, p ∈ s → c < p.cl ∧ p.cl ≤ 8)
  | [], _, _ => ⟨List.Pairwise.nil, fun p hp => by cases hp⟩
  | p :: s, c, h => by
    simp only [ssF, s1F, Bool.and_eq_true, decide_eq_true_eq] at h
    obtain ⟨⟨h1, ⟨⟨⟨h2, _⟩, _⟩, _⟩⟩, h4⟩ := h
    obtain ⟨h5, h6⟩ := ssF_srt h4
    refine ⟨List.Pairwise.cons (fun q hq => (h6 q hq).1) h5, fun q hq => ?_⟩
    rcases List.mem_cons.1 hq with rfl | hq
    · exact ⟨h1, h2⟩
    · have := h6 q hq; omega
theorem inv_mk {t : Tb} (h : tbF t.ps t.ss = true) : Inv (mkP t.ps) (mkS t.ss) t := by
  simp only [tbF, Bool.and_eq_true, decide_eq_true_eq] at h
  obtain ⟨⟨h1, h2⟩, h3⟩ := h
  obtain ⟨h4, h5⟩ := psF_srt h2
  obtain ⟨h6, h7⟩ := ssF_srt h3
  have e1 : mkP t.ps = t.ps := by
    have := foldl_set (key := Pr.k) ordT h4 [] (fun a ha => by cases ha)
    simpa [mkP, setP] using this
  have e2 : mkS t.ss = t.ss := by
    have := foldl_set (key := Ss.cl) ordI h6 [] (fun a ha => by cases ha)
    simpa [mkS, setS] using this
  rw [e1, e2]
  exact ⟨⟨.refl _, h4⟩, ⟨.refl _, h6⟩, fun p hp => (h5 p hp).2, h1, fun s hs => by have := h7 s hs; omega⟩
theorem inv_nil : Inv [] [] ⟨[], []⟩ := ⟨⟨.refl _, List.Pairwise.nil⟩, ⟨.refl _, List.Pairwise.nil⟩, (fun p hp => by cases hp), by simp, (fun s hs => by cases hs)⟩
/-! ### One command -/
theorem filter_split {α κ : Type} {key : α → κ} {lt : κ → κ → Prop} (o : Ord lt) {A B : α → Bool} (hAB : ∀ a b, A a = true → B b = true → lt (key a) (key b)) : ∀ {u : List α}, Sorted key lt u → u.filter A ++ u.filter B = u.filter fun x => A x || B x
  | [], _ => rfl
  | x :: u, h => by
    unfold Sorted at h
    rw [List.pairwise_cons] at h
    have ih := filter_split o hAB (u := u) h.2
    rw [List.filter_cons, List.filter_cons, List.filter_cons]
    by_cases ha : A x = true
    · have hb : ¬ B x = true := fun hb => o.irr _ (hAB x x ha hb)
      simp [ha, hb, ← ih]
    · by_cases hb : B x = true
      · have he : u.filter A = [] := by
          rw [List.filter_eq_nil_iff]
          intro a hau haa
          exact o.irr _ (o.tr _ _ _ (h.1 a hau) (hAB a x haa hb))
        rw [he] at ih
        simp [ha, hb, he, ← ih]
      · simp [ha, hb, ← ih]
theorem filter_none {α : Type} {f : α → Bool} {l : List α} (h : ∀ a, f a = false) : l.filter f = [] := by
  rw [List.filter_eq_nil_iff]
  intro a _
  simp [h a]
theorem wsGo_gen {u : List Ss} {x : Ss} (hu : Sorted Ss.cl (fun x y : Int => x < y) u) : ∀ (n : Nat) (c : Int), wsGo u x n c = u.filter (fun b => decide (c ≤ b.cl ∧ b.cl < c + n ∧ b.cl < x.cl)) ++ (if c ≤ x.cl ∧ x.cl < c + n then [x] else []) ++ u.filter (fun b => decide (c ≤ b.cl ∧ b.cl < c + n ∧ x.cl < b.cl))
  | 0, c => by
    rw [wsGo, filter_none (fun b => by simp; omega), filter_none (fun b => by simp; omega), if_neg (by omega)]
    rfl
  | n + 1, c => by
    rw [wsGo, wsGo_gen hu n (c + 1)]
    by_cases h1 : c = x.cl
    · rw [if_pos h1, if_neg (by omega), if_pos (by omega), filter_none (fun b => by simp; omega), filter_none (f := fun b : Ss => decide (c ≤ b.cl ∧ b.cl < c + ((n + 1 : Nat) : Int) ∧ b.cl < x.cl)) (fun b => by simp; omega)]
      simp only [List.nil_append, List.append_nil]
      congr 1
      refine List.filter_congr fun b _ => ?_
      simp only [decide_eq_decide]
      omega
    · rw [if_neg h1]
      by_cases h2 : c < x.cl
      · have e1 : u.filter (fun b => decide (b.cl = c)) ++ u.filter (fun b => decide (c + 1 ≤ b.cl ∧ b.cl < c + 1 + (n : Int) ∧ b.cl < x.cl)) = u.filter (fun b => decide (c ≤ b.cl ∧ b.cl < c + ((n + 1 : Nat) : Int) ∧ b.cl < x.cl)) := by
          rw [filter_split (key := Ss.cl) ordI (fun a b ha hb => by simp only [decide_eq_true_eq] at ha hb; omega) hu]
          refine List.filter_congr fun b _ => ?_
          rw [Bool.eq_iff_iff]
          simp only [Bool.or_eq_true, decide_eq_true_eq]
          omega
        have e2 : u.filter (fun b => decide (c + 1 ≤ b.cl ∧ b.cl < c + 1 + (n : Int) ∧ x.cl < b.cl)) = u.filter (fun b => decide (c ≤ b.cl ∧ b.cl < c + ((n + 1 : Nat) : Int) ∧ x.cl < b.cl)) := by
          refine List.filter_congr fun b _ => ?_
          simp only [decide_eq_decide]
          omega
        have e3 : (c + 1 ≤ x.cl ∧ x.cl < c + 1 + (n : Int)) = (c ≤ x.cl ∧ x.cl < c + ((n + 1 : Nat) : Int)) := propext (by omega)
        rw [← e1, e2]
        simp only [e3, List.append_assoc]
      · have e1 : u.filter (fun b => decide (b.cl = c)) ++ u.filter (fun b => decide (c + 1 ≤ b.cl ∧ b.cl < c + 1 + (n : Int) ∧ x.cl < b.cl)) = u.filter (fun b => decide (c ≤ b.cl ∧ b.cl < c + ((n + 1 : Nat) : Int) ∧ x.cl < b.cl)) := by
          rw [filter_split (key := Ss.cl) ordI (fun a b ha hb => by simp only [decide_eq_true_eq] at ha hb; omega) hu]
          refine List.filter_congr fun b _ => ?_
          rw [Bool.eq_iff_iff]
          simp only [Bool.or_eq_true, decide_eq_true_eq]
          omega
        rw [← e1, if_neg (by omega), if_neg (by omega), filter_none (f := fun b : Ss => decide (c + 1 ≤ b.cl ∧ b.cl < c + 1 + (n : Int) ∧ b.cl < x.cl)) (fun b => by simp; omega), filter_none (f := fun b : Ss => decide (c ≤ b.cl ∧ b.cl < c + ((n + 1 : Nat) : Int) ∧ b.cl < x.cl)) (fun b => by simp; omega)]
        simp
theorem wsF_eq {u : List Ss} {x : Ss} (hu : Sorted Ss.cl (fun x y : Int => x < y) u) (hk : ∀ s, s ∈ u → 1 ≤ s.cl ∧ s.cl ≤ 8) (h1 : 1 ≤ x.cl) (h2 : x.cl ≤ 8) : wsF u x = u.filter (fun b => decide (b.cl < x.cl)) ++ [x] ++ u.filter (fun b => decide (x.cl < b.cl)) := by
  unfold wsF
  rw [wsGo_gen hu, if_pos (by omega)]
  congr 1
  · congr 1
    refine List.filter_congr fun b hb => ?_
    have := hk b hb
    simp only [decide_eq_decide]
    omega
  · refine List.filter_congr fun b hb => ?_
    have := hk b hb
    simp only [decide_eq_decide]
    omega
theorem tset_len {α : Type} {f : α → Bool} {a : α} : ∀ l : List α, (tset f a l).length = if (l.find? f).isSome = true then l.length else l.length + 1
  | [] => rfl
  | b :: l => by
    rw [tset, List.find?_cons]
    by_cases hb : f b = true
    · rw [if_pos hb, hb]; simp
    · have hb' : f b = false := by simpa using hb
      rw [if_neg hb, hb']
      simp only [List.length_cons, tset_len l]
      split <;> rfl
theorem withF_mem {s : List Pr} {k v : ByteArray} {b : Bool} {p : Pr} (h : p ∈ withF s k b v) : p ∈ s ∨ p.k = k := by
  unfold withF at h
  rcases List.mem_append.1 h with h | h
  · rcases List.mem_append.1 h with h | h
    · exact .inl (List.mem_filter.1 h).1
    · split at h
      · exact .inr (by rw [List.mem_singleton.1 h])
      · cases h
  · exact .inl (List.mem_filter.1 h).1
theorem set_ok {l s : List Pr} (h : RpP l s) (k v : ByteArray) : RpP (setP ⟨k, v⟩ l) (withF s k true v) := by
  have := h.set ordT ⟨k, v⟩
  exact this
theorem del_ok {l s : List Pr} (h : RpP l s) (k v : ByteArray) : RpP (delP k l) (withF s k false v) := by
  have := h.del ordT k
  unfold withF
  rw [if_neg (by simp), List.append_nil]
  exact this
theorem chg_ok {l s : List Pr} {c : Cm} (h : RpP l s) (hn : s.length ≤ 256) (hk : ∀ p, p ∈ s → p.k.size ≤ 64) (hc : c.k.size ≤ 64) (ho : 1 ≤ c.op ∧ c.op ≤ 4) :
    (chgF l c).1 = (chS s c).1 ∧ RpP (chgF l c).2 (chS s c).2 ∧ (chS s c).2.length ≤ 256 ∧ ∀ p, p ∈ (chS s c).2 → p.k.size ≤ 64 := by
  obtain ⟨a, q, o, x, y, z⟩ := c
  simp only at hc ho
  have hg : getP x l = getP x s := h.find ordT x
  have hl : l.length = s.length := h.perm.length_eq
  have hs := set_ok h x y
  have hd := del_ok h x y
  have hsl : (withF s x true y).length = if (getP x l).isSome = true then l.length else l.length + 1 := by
    rw [← hs.perm.length_eq]
    exact tset_len l
  have hdl : (withF s x false y).length ≤ s.length := by
    unfold withF
    rw [if_neg (by simp), List.append_nil, ← split_srt ordT h.srt x]
    exact List.length_filter_le _ _
  have hm : ∀ b p, p ∈ withF s x b y → p.k.size ≤ 64 := fun b p hp => (withF_mem hp).elim (hk p) (fun e => by rw [e]; exact hc)
  have e2 : ∀ p, getP x s = some p → valF s x = p.v := fun p hp => by unfold valF; rw [hp]; rfl
  have e3 : getP x s = none → valF s x = ⟨#[]⟩ := fun hp => by unfold valF; rw [hp]; rfl
  by_cases h1 : o = 1
  · subst h1
    cases hx : getP x s with
    | none => simp [chgF, chS, hg, hx, e3 hx]; exact ⟨h, hn, hk⟩
    | some p => simp [chgF, chS, hg, hx, e2 p hx]; exact ⟨h, hn, hk⟩
  by_cases h2 : o = 2
  · subst h2
    cases hx : getP x s with
    | none =>
      by_cases h256 : s.length < 256
      · have : ¬ s.length = 256 := by omega
        rw [hg, hx] at hsl
        simp [chgF, chS, hg, hx, hl, h256, this]
        exact ⟨hs, by rw [hsl]; simp; omega, hm true⟩
      · have : s.length = 256 := by omega
        simp [chgF, chS, hg, hx, hl, this]
        exact ⟨h, hk⟩
    | some p =>
      rw [hg, hx] at hsl
      simp [chgF, chS, hg, hx]
      exact ⟨hs, by rw [hsl]; simp; omega, hm true⟩
  by_cases h3 : o = 3
  · subst h3
    cases hx : getP x s with
    | none => simp [chgF, chS, hg, hx, e3 hx]; exact ⟨h, hn, hk⟩
    | some p => simp [chgF, chS, hg, hx, e2 p hx]; exact ⟨hd, by omega, hm false⟩
  have h4 : o = 4 := by omega
  subst h4
  cases hx : getP x s with
  | none => simp [chgF, chS, hg, hx]; exact ⟨h, hn, hk⟩
  | some p =>
    by_cases hv : p.v = z
    · rw [hg, hx] at hsl
      simp [chgF, chS, hg, hx, e2 p hx, hv]
      exact ⟨hs, by rw [hsl]; simp; omega, hm true⟩
    · simp [chgF, chS, hg, hx, e2 p hx, hv]
      exact ⟨h, hn, hk⟩
theorem cm_ok {c : Cm} (h : cmF c = 0) (h0 : c.op ≠ 0) : (1 ≤ c.op ∧ c.op ≤ 4) ∧ (1 ≤ c.cl ∧ c.cl ≤ 8) ∧ c.k.size ≤ 64 := by
  unfold cmF at h
  rw [if_neg h0] at h
  (repeat' split at h) <;> omega
theorem car_ok {l : List Pr} {m : List Ss} {t : Tb} {c : Cm} (h : Inv l m t) (hc : cmF c = 0) :
    (carF l m c).1 = ((refF t c).co, (refF t c).re, (refF t c).v) ∧ Inv (carF l m c).2.1 (carF l m c).2.2 (refF t c).t := by
  have hg : (getS c.cl m).getD ⟨0, 0, 0, ⟨#[]⟩⟩ = sesF t.ss c.cl := by
    unfold sesF
    rw [show getS c.cl m = getS c.cl t.ss from h.s.find ordI c.cl]
  unfold carF refF
  rw [hg]
  by_cases h0 : c.op = 0
  · rw [if_pos h0, if_pos h0]; exact ⟨rfl, h⟩
  rw [if_neg h0, if_neg h0]
  by_cases h1 : c.sq < (sesF t.ss c.cl).sq
  · rw [if_pos h1, if_pos h1]; exact ⟨rfl, h⟩
  rw [if_neg h1, if_neg h1]
  by_cases h2 : (sesF t.ss c.cl).sq = c.sq
  · rw [if_pos h2, if_pos h2]; exact ⟨rfl, h⟩
  rw [if_neg h2, if_neg h2]
  obtain ⟨c1, c2, c3⟩ := cm_ok hc h0
  obtain ⟨g1, g2, g3, g4⟩ := chg_ok (c := c) h.p h.np h.kp c3 c1
  rw [g1]
  refine ⟨rfl, g2, ?_, g4, g3, fun s hs => ?_⟩
  · have := h.s.set ordI (⟨c.cl, c.sq, (chS t.ps c).1.1, (chS t.ps c).1.2⟩ : Ss)
    show RpS (setS _ m) (wsF t.ss _)
    rw [wsF_eq h.s.srt h.ks c2.1 c2.2]
    exact this
  · have hs' : s ∈ wsF t.ss ⟨c.cl, c.sq, (chS t.ps c).1.1, (chS t.ps c).1.2⟩ := hs
    rw [wsF_eq h.s.srt h.ks c2.1 c2.2] at hs'
    rcases List.mem_append.1 hs' with hs' | hs'
    · rcases List.mem_append.1 hs' with hs' | hs'
      · exact h.ks s (List.mem_filter.1 hs').1
      · rw [List.mem_singleton.1 hs']; exact c2
    · exact h.ks s (List.mem_filter.1 hs').1
end Go.Proofs.YthnpbfljoghbmaaA
