/- The code of a module that can be compiled is valid, plainly -/
import Derived.Test.YtlcfoiapkblheaaGreatDoorGkz
import Derived.Test.YtlcfoiapkblheaaGreatDoorVfl
namespace Go.Proofs.YtlcfoiapkblheaaGreatDoor
open Go.RowKit Go.Proofs Go.Shelf

/-- An instruction is as required, apart from the block that it names; E: where the code ends. -/
structure InsW (E : Nat) (x : Ins) : Prop where
  op : 1 ≤ x.op ∧ x.op ≤ 16
  fa : fldA x.op = false → x.a = 0
  fb : fldB x.op = false → x.b = 0
  fn : fldN x.op = false → x.nm = ⟨#[]⟩
  n4 : x.op = 4 → labelB x.nm = true
  n10 : x.op = 10 → opB x.nm = true
  i1 : x.op = 1 → -999999999 ≤ x.a ∧ x.a ≤ 999999999
  i2 : x.op = 2 → x.a = 0 ∨ x.a = 1
  i3 : x.op = 3 → 0 ≤ x.a ∧ x.a ≤ 800
  i4 : x.op = 4 → 1 ≤ x.a ∧ x.a ≤ 999999
  i8 : x.op = 8 ∨ x.op = 9 ∨ x.op = 13 → 0 ≤ x.a ∧ x.a ≤ E
  i15 : x.op = 15 → x.a = 1 ∨ x.a = 2
  i16 : x.op = 16 → 1 ≤ x.b ∧ x.b ≤ 999999 ∧ 0 ≤ x.a ∧ x.a ≤ x.b
theorem InsW.mono {E E' : Nat} {x : Ins} (h : InsW E x) (he : E ≤ E') : InsW E' x :=
  ⟨h.op, h.fa, h.fb, h.fn, h.n4, h.n10, h.i1, h.i2, h.i3, h.i4, fun e => ⟨(h.i8 e).1, by have := (h.i8 e).2; omega⟩, h.i15, h.i16⟩
/-- Blocks are those of a list, from an index on. -/
def AtB (BL : List Blk) (ix : Nat) (bs : List Blk) : Prop := ∀ (j : Nat) (b : Blk), bs[j]? = some b → BL[ix + j]? = some b
theorem AtB.left {BL : List Blk} {ix : Nat} {a b : List Blk} (h : AtB BL ix (a ++ b)) : AtB BL ix a := fun j x hj => h j x (by
  rw [List.getElem?_append_left (List.getElem?_eq_some_iff.1 hj).1]; exact hj)
theorem AtB.right {BL : List Blk} {ix : Nat} {a b : List Blk} (h : AtB BL ix (a ++ b)) : AtB BL (ix + a.length) b := fun j x hj => by
  have := h (a.length + j) x (by rw [List.getElem?_append_right (by omega)]; simpa using hj)
  rwa [← Nat.add_assoc] at this
def InsV (BL : List Blk) (len : Nat) (x : Ins) : Prop := (∃ E, E < len ∧ InsW E x) ∧ (x.op = 5 → ∃ k : Nat, x.a = k ∧ ∃ b, BL[k]? = some b ∧ b.par = true)
def BlkV (BL : List Blk) (b : Blk) : Prop := (0 ≤ b.cap ∧ b.cap ≤ 400) ∧ (∃ x, b.l[b.l.length - 1]? = some x ∧ x.op = 7) ∧ ∀ x ∈ b.l, InsV BL b.l.length x
def HeadP (f : FnE) : Prop := ∀ ix, ∃ b r, f.mks ix = b :: r ∧ b.par = true
def MkV (f : FnE) : Prop := HeadP f ∧ ∀ ix BL, AtB BL ix (f.mks ix) → ∀ b ∈ f.mks ix, BlkV BL b
theorem setA_get (l : List Ins) (p j : Nat) (v : Int) : (setA l p v)[j]? = if p = j then l[j]?.map (fun x => { x with a := v }) else l[j]? := by
  unfold setA
  rw [List.getElem?_modify]
  split
  · rfl
  · simp
theorem fns_l : ∀ (F : List FnE) (l : List Ins) (ix : Nat) (BL : List Blk), AtB BL ix (fnsOf F l ix).2 → (∀ f ∈ F, HeadP f) → (∀ f ∈ F, ∃ x, l[f.place]? = some x ∧ x.op = 5) →
    ∀ (j : Nat) (x' : Ins), (fnsOf F l ix).1[j]? = some x' → ∃ x : Ins, l[j]? = some x ∧ x'.op = x.op ∧ x'.b = x.b ∧ x'.nm = x.nm ∧ ((x' = x ∧ ∀ f ∈ F, f.place ≠ j) ∨ (x.op = 5 ∧ ∃ k : Nat, x'.a = k ∧ ∃ b, BL[k]? = some b ∧ b.par = true))
  | [], l, ix, BL, _, _, _, j, x', hx => ⟨x', hx, rfl, rfl, rfl, .inl ⟨rfl, fun f hf => by simp at hf⟩⟩
  | f :: r, l, ix, BL, hA, hH, hop, j, x', hx => by
    simp only [fnsOf] at hx hA
    obtain ⟨xf, hxf, hxo⟩ := hop f (List.mem_cons_self ..)
    have hop' : ∀ g ∈ r, ∃ x, (setA l f.place ix)[g.place]? = some x ∧ x.op = 5 := fun g hg => by
      obtain ⟨x, h1, h2⟩ := hop g (List.mem_cons_of_mem _ hg)
      rw [setA_get, h1]
      split
      · exact ⟨_, rfl, h2⟩
      · exact ⟨_, rfl, h2⟩
    obtain ⟨x1, h1, e1, e2, e3, h4⟩ := fns_l r (setA l f.place ix) _ BL hA.right (fun g hg => hH g (List.mem_cons_of_mem _ hg)) hop' j x' hx
    rw [setA_get] at h1
    by_cases hp : f.place = j
    · rw [if_pos hp] at h1
      subst hp
      rw [hxf] at h1
      simp only [Option.map_some, Option.some.injEq] at h1
      subst h1
      refine ⟨xf, hxf, e1, e2, e3, .inr ⟨hxo, ?_⟩⟩
      rcases h4 with ⟨rfl, _⟩ | ⟨_, h⟩
      · obtain ⟨b, t, hb, hbp⟩ := hH f (List.mem_cons_self ..) ix
        exact ⟨ix, rfl, b, by have := hA 0 b (by rw [hb]; rfl); simpa using this, hbp⟩
      · exact h
    · rw [if_neg hp] at h1
      refine ⟨x1, h1, e1, e2, e3, ?_⟩
      rcases h4 with ⟨rfl, h⟩ | h
      · refine .inl ⟨rfl, fun g hg => ?_⟩
        rcases List.mem_cons.1 hg with rfl | hg
        · exact hp
        · exact h g hg
      · exact .inr h
theorem fns_b : ∀ (F : List FnE) (l : List Ins) (ix : Nat) (BL : List Blk), AtB BL ix (fnsOf F l ix).2 → (∀ f ∈ F, MkV f) → ∀ b ∈ (fnsOf F l ix).2, BlkV BL b
  | [], l, ix, BL, _, _, b, hb => by simp [fnsOf] at hb
  | f :: r, l, ix, BL, hA, hM, b, hb => by
    simp only [fnsOf] at hb hA
    rcases List.mem_append.1 hb with hb | hb
    · exact (hM f (List.mem_cons_self ..)).2 ix BL hA.left b hb
    · exact fns_b r _ _ BL hA.right (fun g hg => hM g (List.mem_cons_of_mem _ hg)) b hb
/-- A piece of code is as required; E: where the code ends. -/
def Pc (E st : Nat) (L : List Ins) (F : List FnE) : Prop :=
  (∀ x ∈ L, InsW E x) ∧ (∀ f ∈ F, MkV f ∧ ∃ j x, f.place = st + j ∧ L[j]? = some x ∧ x.op = 5) ∧ (∀ j x, L[j]? = some x → x.op = 5 → ∃ f ∈ F, f.place = st + j)
theorem Pc.nil (E st : Nat) : Pc E st [] [] := ⟨by simp, by simp, by simp⟩
theorem Pc.mono {E E' st : Nat} {L : List Ins} {F : List FnE} (h : Pc E st L F) (he : E ≤ E') : Pc E' st L F := ⟨fun x hx => (h.1 x hx).mono he, h.2⟩
theorem Pc.ins {E st : Nat} {x : Ins} (h : InsW E x) (h5 : x.op ≠ 5) : Pc E st [x] [] := ⟨fun y hy => by rw [List.mem_singleton.1 hy]; exact h, by simp, fun j y hj e => by
  cases j with
  | zero => simp at hj; subst hj; exact absurd e h5
  | succ j => simp at hj⟩
theorem Pc.append {E st : Nat} {L L' : List Ins} {F F' : List FnE} (h : Pc E st L F) (g : Pc E (st + L.length) L' F') : Pc E st (L ++ L') (F ++ F') := by
  refine ⟨fun x hx => ?_, fun f hf => ?_, fun j x hj e => ?_⟩
  · rcases List.mem_append.1 hx with hx | hx
    · exact h.1 x hx
    · exact g.1 x hx
  · rcases List.mem_append.1 hf with hf | hf
    · obtain ⟨h1, j, x, h2, h3, h4⟩ := h.2.1 f hf
      exact ⟨h1, j, x, h2, by rw [List.getElem?_append_left (List.getElem?_eq_some_iff.1 h3).1]; exact h3, h4⟩
    · obtain ⟨h1, j, x, h2, h3, h4⟩ := g.2.1 f hf
      exact ⟨h1, L.length + j, x, by omega, by rw [List.getElem?_append_right (by omega)]; simpa using h3, h4⟩
  · by_cases hl : j < L.length
    · rw [List.getElem?_append_left hl] at hj
      obtain ⟨f, hf, hp⟩ := h.2.2 j x hj e
      exact ⟨f, List.mem_append_left _ hf, hp⟩
    · rw [List.getElem?_append_right (by omega)] at hj
      obtain ⟨f, hf, hp⟩ := g.2.2 _ x hj e
      exact ⟨f, List.mem_append_right _ hf, by omega⟩
/-- Code is as required wherever it stands, with not too many variables. -/
def CV (C : Nat) (P : Comp) : Prop := ∀ (vars : List ByteArray) (st : Nat), vars.length + C ≤ 400 → Pc (st + (P vars st).1.length) st (P vars st).1 (P vars st).2
theorem insW_ret (E : Nat) : InsW E retI := by
  constructor <;> simp [retI, fldA, fldB, fldN]
theorem insW_five {E : Nat} {x : Ins} (h : x.op = 5) (hb : x.b = 0) (hn : x.nm = ⟨#[]⟩) : InsW E x := by
  constructor <;> simp [h, hb, hn, fldA]
theorem blkOf_v {C : Nat} {P : Comp} (h : CV C P) (vars : List ByteArray) (hv : vars.length + C ≤ 400) (cap : Int) (hc0 : 0 ≤ cap) (hc : cap ≤ 400) (par : Bool) (ix : Nat) (BL : List Blk) (hA : AtB BL ix (blkOf P vars cap par ix)) : ∀ b ∈ blkOf P vars cap par ix, BlkV BL b := by
  have hp := h vars 0 hv
  unfold blkOf at hA ⊢
  generalize (P vars 0).1 = L at hA hp ⊢
  generalize (P vars 0).2 = F at hA hp ⊢
  rw [Nat.zero_add] at hp
  obtain ⟨p1, p2, p3⟩ := hp
  have hA2 : AtB BL (ix + 1) (fnsOf F (L ++ [retI]) (ix + 1)).2 := fun j b hj => by
    have := hA (j + 1) b (by simpa using hj)
    rwa [show ix + (j + 1) = ix + 1 + j by omega] at this
  have hop : ∀ f ∈ F, ∃ x, (L ++ [retI])[f.place]? = some x ∧ x.op = 5 := fun f hf => by
    obtain ⟨_, j, x, e, hx, ho⟩ := p2 f hf
    refine ⟨x, ?_, ho⟩
    rw [e, Nat.zero_add, List.getElem?_append_left (List.getElem?_eq_some_iff.1 hx).1]
    exact hx
  have key := fns_l F (L ++ [retI]) (ix + 1) BL hA2 (fun f hf => (p2 f hf).1.1) hop
  have hlen := fnsOf_len1 F (L ++ [retI]) (ix + 1)
  rw [List.length_append, List.length_singleton] at hlen
  intro b hb
  rcases List.mem_cons.1 hb with rfl | hb
  · refine ⟨⟨hc0, hc⟩, ?_, ?_⟩
    · show ∃ x, (fnsOf F (L ++ [retI]) (ix + 1)).1[(fnsOf F (L ++ [retI]) (ix + 1)).1.length - 1]? = some x ∧ x.op = 7
      rw [hlen]
      have hx : (fnsOf F (L ++ [retI]) (ix + 1)).1[L.length + 1 - 1]? = some ((fnsOf F (L ++ [retI]) (ix + 1)).1[L.length + 1 - 1]'(by omega)) := List.getElem?_eq_getElem (by omega)
      obtain ⟨x, h1, h2, _⟩ := key _ _ hx
      refine ⟨_, hx, h2.trans ?_⟩
      rw [Nat.add_sub_cancel, List.getElem?_append_right (Nat.le_refl _), Nat.sub_self] at h1
      simp at h1
      rw [← h1]
      rfl
    · show ∀ x ∈ (fnsOf F (L ++ [retI]) (ix + 1)).1, InsV BL (fnsOf F (L ++ [retI]) (ix + 1)).1.length x
      rw [hlen]
      intro x' hx'
      obtain ⟨j, hj⟩ := List.mem_iff_getElem?.1 hx'
      obtain ⟨x, h1, h2, h3, h4, h5⟩ := key j x' hj
      have hw : InsW L.length x := by
        by_cases hl : j < L.length
        · rw [List.getElem?_append_left hl] at h1
          exact p1 x (List.mem_of_getElem? h1)
        · rw [List.getElem?_append_right (by omega)] at h1
          have : x = retI := by
            have := List.mem_of_getElem? h1
            simpa using this
          rw [this]
          exact insW_ret _
      rcases h5 with ⟨rfl, hno⟩ | ⟨ho, k, hk, b, hb, hbp⟩
      · refine ⟨⟨L.length, by omega, hw⟩, fun e5 => ?_⟩
        exfalso
        by_cases hl : j < L.length
        · rw [List.getElem?_append_left hl] at h1
          obtain ⟨f, hf, hfp⟩ := p3 j _ h1 e5
          exact hno f hf (by omega)
        · rw [List.getElem?_append_right (by omega)] at h1
          have : x' = retI := by
            have := List.mem_of_getElem? h1
            simpa using this
          rw [this] at e5
          simp [retI] at e5
      · refine ⟨⟨L.length, by omega, insW_five (h2.trans ho) ?_ ?_⟩, fun _ => ⟨k, hk, b, hb, hbp⟩⟩
        · rw [h3]; exact hw.fb (by rw [ho]; rfl)
        · rw [h4]; exact hw.fn (by rw [ho]; rfl)
  · exact fns_b F _ _ BL hA2 (fun f hf => (p2 f hf).1) b hb
theorem CV.no (C : Nat) : CV C noComp := fun _ _ _ => Pc.nil _ _
theorem CV.two {C A B : Nat} {P Q : Comp} {x : Ins} (h : CV A P) (g : CV B Q) (ha : A ≤ C) (hb : B ≤ C) (hx : ∀ E, InsW E x) (h5 : x.op ≠ 5) : CV C (twoC P Q x) := by
  intro vars st hv
  have p := h vars st (by omega)
  have q := g vars (st + (P vars st).1.length) (by omega)
  simp only [twoC]
  generalize (P vars st).1 = L at *
  generalize (P vars st).2 = F at *
  generalize (Q vars (st + L.length)).1 = L' at *
  generalize (Q vars (st + L.length)).2 = F' at *
  have r := ((p.mono (E' := st + (L.length + (L'.length + 1))) (by omega)).append (q.mono (by omega))).append (Pc.ins (hx _) h5)
  simp only [List.append_nil] at r
  refine r.mono ?_
  simp only [List.length_append, List.length_singleton]
  omega
theorem CV.lets {C A B : Nat} {P Q : Comp} {n : ByteArray} (h : CV A P) (g : CV B Q) (ha : A ≤ C) (hb : B + 1 ≤ C) : CV C (letC P Q n) := by
  intro vars st hv
  have p := h vars st (by omega)
  have q := g (vars ++ [n]) (st + (P vars st).1.length + 1) (by simp only [List.length_append, List.length_singleton]; omega)
  have w1 : ∀ E, InsW E (⟨14, 0, 0, ⟨#[]⟩⟩ : Ins) := fun E => by constructor <;> simp [fldA, fldB, fldN]
  have w2 : ∀ E, InsW E (⟨15, 1, 0, ⟨#[]⟩⟩ : Ins) := fun E => by constructor <;> simp [fldA, fldB, fldN]
  simp only [letC]
  generalize (P vars st).1 = L at *
  generalize (P vars st).2 = F at *
  generalize (Q (vars ++ [n]) (st + L.length + 1)).1 = L' at *
  generalize (Q (vars ++ [n]) (st + L.length + 1)).2 = F' at *
  have r := (((p.mono (E' := st + (L.length + (1 + (L'.length + 1)))) (by omega)).append (Pc.ins (w1 _) (by simp))).append (L' := L') (F' := F') (by
    rw [List.length_append, List.length_singleton, ← Nat.add_assoc]
    exact q.mono (by omega))).append (Pc.ins (w2 _) (by simp))
  simp only [List.append_nil] at r
  refine r.mono ?_
  simp only [List.length_append, List.length_singleton]
  omega
theorem CV.ifs {C A B D : Nat} {P Q R : Comp} (h : CV A P) (g : CV B Q) (f : CV D R) (ha : A ≤ C) (hb : B ≤ C) (hd : D ≤ C) : CV C (ifC P Q R) := by
  intro vars st hv
  have p := h vars st (by omega)
  have q := g vars (st + (P vars st).1.length + 1) (by omega)
  have r := f vars (st + (P vars st).1.length + 1 + (Q vars (st + (P vars st).1.length + 1)).1.length + 1) (by omega)
  simp only [ifC]
  generalize (P vars st).1 = L at *
  generalize (P vars st).2 = F at *
  generalize (Q vars (st + L.length + 1)).1 = L' at *
  generalize (Q vars (st + L.length + 1)).2 = F' at *
  generalize (R vars (st + L.length + 1 + L'.length + 1)).1 = L2 at *
  generalize (R vars (st + L.length + 1 + L'.length + 1)).2 = F2 at *
  have w1 : ∀ a E : Nat, a ≤ E → InsW E ⟨9, (a : Nat), 0, ⟨#[]⟩⟩ := fun a E he => by constructor <;> simp [fldA, fldB, fldN]; omega
  have w2 : ∀ a E : Nat, a ≤ E → InsW E ⟨8, (a : Nat), 0, ⟨#[]⟩⟩ := fun a E he => by constructor <;> simp [fldA, fldB, fldN]; omega
  have s := ((((p.mono (E' := st + (L.length + (1 + (L'.length + (1 + L2.length))))) (by omega)).append (Pc.ins (w1 (st + L.length + 1 + L'.length + 1) _ (by omega)) (by simp))).append (L' := L') (F' := F') (by
    rw [List.length_append, List.length_singleton, ← Nat.add_assoc]
    exact q.mono (by omega))).append (Pc.ins (w2 (st + L.length + 1 + L'.length + 1 + L2.length) _ (by omega)) (by simp))).append (L' := L2) (F' := F2) (by
    simp only [List.length_append, List.length_singleton]
    rw [show st + (L.length + 1 + L'.length + 1) = st + L.length + 1 + L'.length + 1 by omega]
    exact r.mono (by omega))
  simp only [List.append_nil] at s
  refine s.mono ?_
  simp only [List.length_append, List.length_singleton]
  omega
theorem CV.cases {C A B D : Nat} {P Q R : Comp} {n m : ByteArray} (h : CV A P) (g : CV B Q) (f : CV D R) (ha : A ≤ C) (hb : B ≤ C) (hd : D + 2 ≤ C) : CV C (caseC P Q R n m) := by
  intro vars st hv
  have p := h vars st (by omega)
  have r := f (vars ++ [n, m]) (st + (P vars st).1.length + 1) (by simp only [List.length_append, List.length_cons, List.length_nil]; omega)
  have q := g vars (st + (P vars st).1.length + 2 + (R (vars ++ [n, m]) (st + (P vars st).1.length + 1)).1.length + 1) (by omega)
  simp only [caseC]
  generalize (P vars st).1 = L at *
  generalize (P vars st).2 = F at *
  generalize (R (vars ++ [n, m]) (st + L.length + 1)).1 = L' at *
  generalize (R (vars ++ [n, m]) (st + L.length + 1)).2 = F' at *
  generalize (Q vars (st + L.length + 2 + L'.length + 1)).1 = L2 at *
  generalize (Q vars (st + L.length + 2 + L'.length + 1)).2 = F2 at *
  have w1 : ∀ a E : Nat, a ≤ E → InsW E ⟨13, (a : Nat), 0, ⟨#[]⟩⟩ := fun a E he => by constructor <;> simp [fldA, fldB, fldN]; omega
  have w2 : ∀ a E : Nat, a ≤ E → InsW E ⟨8, (a : Nat), 0, ⟨#[]⟩⟩ := fun a E he => by constructor <;> simp [fldA, fldB, fldN]; omega
  have w3 : ∀ E, InsW E ⟨15, 2, 0, ⟨#[]⟩⟩ := fun E => by constructor <;> simp [fldA, fldB, fldN]
  have s := ((((p.mono (E' := st + (L.length + (1 + (L'.length + (2 + L2.length))))) (by omega)).append (Pc.ins (w1 (st + L.length + 2 + L'.length + 1) _ (by omega)) (by simp))).append (L' := L') (F' := F') (by
    rw [List.length_append, List.length_singleton, ← Nat.add_assoc]
    exact r.mono (by omega))).append ((Pc.ins (w3 _) (by simp)).append (Pc.ins (w2 (st + L.length + 2 + L'.length + 1 + L2.length) _ (by omega)) (by simp)))).append (L' := L2) (F' := F2) (by
    simp only [List.length_append, List.length_singleton]
    rw [show st + (L.length + 1 + L'.length + (1 + 1)) = st + L.length + 2 + L'.length + 1 by omega]
    exact q.mono (by omega))
  simp only [List.append_nil] at s
  refine s.mono ?_
  simp only [List.length_append, List.length_cons, List.length_nil]
  omega

theorem err_parts {k : Int} {n m : ByteArray} {i d : Int} {len : Nat} (h : nodeE k n m i d len = 0) : numB k i d = true ∧ nmB k n (shapeZ k).1 = true := by
  unfold nodeE at h
  obtain ⟨⟨a, b, c, ok⟩, hs⟩ : ∃ t, shapeZ k = t := ⟨_, rfl⟩
  rw [hs] at h ⊢
  cases ok
  · simp at h
  · simp only at h ⊢
    cases ha : argB a b c n m i d len
    · rw [ha] at h
      simp only [Bool.false_eq_true, if_false] at h
      by_cases hn : namesE k n m a = 0
      · rw [if_pos hn] at h
        refine ⟨?_, ?_⟩
        · cases hb : numB k i d
          · simp [numE, hb] at h
          · rfl
        · cases hb : nmB k n a
          · simp [namesE, hb] at hn
          · rfl
      · rw [if_neg hn] at h; exact absurd h hn
    · rw [ha] at h; simp at h
theorem lastV_lt (n : ByteArray) : ∀ (l : List ByteArray) (j : Nat), lastV n l = some j → j < l.length
  | [], j, h => by simp [lastV] at h
  | x :: r, j, h => by
    unfold lastV at h
    cases hr : lastV n r with
    | some q =>
      rw [hr] at h
      simp at h
      have := lastV_lt n r q hr
      simp only [List.length_cons]
      omega
    | none =>
      rw [hr] at h
      simp only at h
      split at h
      · simp at h; simp only [List.length_cons]; omega
      · simp at h
theorem simple_v (label : ByteArray) (hl : labelB label = true) {k : Int} {n m : ByteArray} {i d : Int} {len : Nat} (h : nodeE k n m i d len = 0) (vars : List ByteArray) (hv : vars.length ≤ 400) (E : Nat) : InsW E (simpleI label k n i d vars) ∧ (simpleI label k n i d vars).op ≠ 5 := by
  obtain ⟨h1, h2⟩ := err_parts h
  have e11 : InsW E ⟨11, 0, 0, ⟨#[]⟩⟩ := by constructor <;> simp [fldA, fldB, fldN]
  unfold simpleI
  split
  · rename_i e
    subst e
    simp [numB] at h1
    refine ⟨?_, by simp⟩
    constructor <;> simp [fldA, fldB, fldN]
    exact h1
  split
  · rename_i e
    subst e
    simp [numB] at h1
    refine ⟨?_, by simp⟩
    constructor <;> simp [fldA, fldB, fldN]
    exact h1
  split
  · rename_i e
    subst e
    simp [numB] at h1
    refine ⟨?_, by simp⟩
    constructor <;> simp [fldA, fldB, fldN]
    omega
  split
  · rename_i e
    subst e
    simp [numB] at h1
    simp only [nmB, if_true, Bool.or_eq_true] at h2
    split
    · refine ⟨?_, by simp⟩
      constructor <;> simp [fldA, fldB, fldN]
      · exact hl
      · exact h1
    · rename_i hne
      have hn := h2.resolve_left hne
      refine ⟨?_, by simp⟩
      constructor <;> simp [fldA, fldB, fldN]
      · exact hn
      · exact h1
  split
  · split
    · rename_i j hj
      have := lastV_lt n vars j hj
      refine ⟨?_, by simp⟩
      constructor <;> simp [fldA, fldB, fldN]
      omega
    · exact ⟨e11, by simp⟩
  · exact ⟨e11, by simp⟩
theorem Fo.cnt_pos : ∀ (s : Fo) (j : Nat), j < s.len → 1 ≤ s.cnt j
  | .nil, j, h => by simp [Fo.len] at h
  | .cons k n m i d A c s r, 0, _ => by rw [(Fo.cnt_cons k n m i d A c s r).1]; omega
  | .cons k n m i d A c s r, j + 1, h => by
    rw [(Fo.cnt_cons k n m i d A c s r).2]
    exact Fo.cnt_pos r j (by simp [Fo.len] at h; omega)
theorem nodeC_cv (label : ByteArray) (hl : labelB label = true) (k : Int) (n m : ByteArray) (i d : Int) (A : Option Addr) (c : Nat) (s : Fo) (hg : gdC k s.len) (he : nodeE k n m i d s.len = 0) (h : ∀ j, CV (s.cnt j) ((s.comp label).getD j noComp)) : CV (1 + s.count) (nodeC label k n m i d A c s (s.comp label)) := by
  have c3 := s.cnt_three
  obtain ⟨g1, g2, g3, g4⟩ := hg
  have hz : ∀ (o : Int) (E : Nat), o = 6 ∨ o = 12 → InsW E ⟨o, 0, 0, ⟨#[]⟩⟩ := fun o E ho => by rcases ho with rfl | rfl <;> constructor <;> simp [fldA, fldB, fldN]
  intro vars st hv
  unfold nodeC
  split
  · rename_i e
    subst e
    have hb := fun (ix : Nat) (BL : List Blk) hA => blkOf_v (h 0) (vars ++ [n]) (by simp only [List.length_append, List.length_singleton]; omega) (vars.length : Int) (by omega) (by omega) true ix BL hA
    refine ⟨?_, ?_, ?_⟩
    · intro x hx
      rw [List.mem_singleton.1 hx]
      exact insW_five rfl rfl rfl
    · intro f hf
      rw [List.mem_singleton.1 hf]
      exact ⟨⟨fun ix => ⟨_, _, rfl, rfl⟩, hb⟩, 0, _, rfl, rfl, rfl⟩
    · intro j x hj _
      cases j with
      | zero => exact ⟨_, List.mem_singleton.2 rfl, rfl⟩
      | succ j => simp at hj
  split
  · exact (h 0).two (h 1) (C := 1 + s.count) (by omega) (by omega) (fun E => hz 6 E (.inl rfl)) (by simp) vars st hv
  split
  · rename_i e
    subst e
    have hop : opB n = true := by
      have := (err_parts he).2
      simpa [nmB] using this
    exact (h 0).two (h 1) (C := 1 + s.count) (by omega) (by omega) (fun E => by constructor <;> simp [fldA, fldB, fldN]; exact hop) (by simp) vars st hv
  split
  · exact (h 0).two (h 1) (C := 1 + s.count) (by omega) (by omega) (fun E => hz 12 E (.inr rfl)) (by simp) vars st hv
  split
  · exact (h 0).lets (h 1) (C := 1 + s.count) (by omega) (by omega) vars st hv
  split
  · exact (h 0).ifs (h 1) (h 2) (C := 1 + s.count) (by omega) (by omega) (by omega) vars st hv
  split
  · have hlen := g3 (by omega)
    have q0 := s.cnt_pos 0 (by omega)
    have q1 := s.cnt_pos 1 (by omega)
    exact (h 0).cases (h 1) (h 2) (C := 1 + s.count) (by omega) (by omega) (by omega) vars st hv
  · obtain ⟨a1, a2⟩ := simple_v label hl he vars (by omega) (st + 1)
    exact Pc.ins a1 a2
theorem Fo.comp_cv (label : ByteArray) (hl : labelB label = true) : ∀ s : Fo, s.Gd → (∀ y ∈ s.vis, y.err = 0) → ∀ j, CV (s.cnt j) ((s.comp label).getD j noComp)
  | .nil, _, _, j => by simp only [Fo.comp, List.getD_nil]; exact CV.no _
  | .cons k n m i d A c s r, hg, he, 0 => by
    simp only [Fo.vis, List.mem_append, List.mem_cons] at he
    rw [(Fo.cnt_cons k n m i d A c s r).1]
    exact nodeC_cv label hl k n m i d A c s hg.1 (he ⟨0, k, n, m, i, d, A, s.len, c⟩ (.inr (.inl rfl))) (Fo.comp_cv label hl s hg.2.1 fun y hy => he y (.inr (.inr hy)))
  | .cons k n m i d A c s r, hg, he, j + 1 => by
    simp only [Fo.vis, List.mem_append, List.mem_cons] at he
    rw [(Fo.cnt_cons k n m i d A c s r).2]
    have := Fo.comp_cv label hl r hg.2.2 (fun y hy => he y (.inl hy)) j
    simpa [Fo.comp] using this
theorem dc_cv {label : ByteArray} (hl : labelB label = true) {x : Dc} (hv : DcV label x) (hs : (x.k == 15 || x.s.sum) = false) : CV 400 (x.comp label) := by
  obtain ⟨g1, g2⟩ := dc_gd hv hs
  have he := hv.err
  simp only [Dc.body, Fo.vis, List.nil_append, List.mem_cons] at he
  have h := nodeC_cv label hl x.k x.n x.m x.i x.d x.A x.c x.s g1 (he ⟨0, x.k, x.n, x.m, x.i, x.d, x.A, x.s.len, x.c⟩ (.inl rfl)) (Fo.comp_cv label hl x.s g2 fun y hy => he y (.inr hy))
  have hc := hv.cnt
  intro vars st hvs
  exact h vars st (by omega)
theorem modGo_v {label : ByteArray} (BL : List Blk) : ∀ (l : List Dc) (ix : Nat), (∀ x ∈ l, CV 400 (x.comp label)) → AtB BL ix (modGo label ix l).1 →
    (∀ b ∈ (modGo label ix l).1, BlkV BL b) ∧ (∀ j t, (modGo label ix l).2[j]? = some t → ∃ x b, l[j]? = some x ∧ t.1 = x.id ∧ t.2.1 = x.kind ∧ ix ≤ t.2.2 ∧ (j = 0 → t.2.2 = ix) ∧ BL[t.2.2]? = some b ∧ b.cap = 0 ∧ b.par = false) ∧
    (∀ j t t', (modGo label ix l).2[j]? = some t → (modGo label ix l).2[j + 1]? = some t' → t.2.2 < t'.2.2)
  | [], ix, _, _ => ⟨by simp [modGo], by simp [modGo], by simp [modGo]⟩
  | x :: r, ix, h, hA => by
    simp only [modGo] at hA ⊢
    obtain ⟨i1, i2, i3⟩ := modGo_v BL r _ (fun y hy => h y (List.mem_cons_of_mem _ hy)) hA.right
    have hbl := blkOf_v (h x (List.mem_cons_self ..)) [] (by simp) 0 (by omega) (by omega) false ix BL hA.left
    have hpos : 0 < (blkOf (x.comp label) [] 0 false ix).length := by simp [blkOf]
    refine ⟨?_, ?_, ?_⟩
    · intro b hb
      rcases List.mem_append.1 hb with hb | hb
      · exact hbl b hb
      · exact i1 b hb
    · intro j t ht
      cases j with
      | zero =>
        simp at ht
        subst ht
        exact ⟨x, _, rfl, rfl, rfl, Nat.le_refl _, fun _ => rfl, hA.left 0 _ rfl, rfl, rfl⟩
      | succ j =>
        obtain ⟨y, b, h1, h2, h3, h4, _, h6⟩ := i2 j t (by simpa using ht)
        exact ⟨y, b, by simpa using h1, h2, h3, by omega, by simp, h6⟩
    · intro j t t' ht ht'
      cases j with
      | zero =>
        simp at ht
        subst ht
        obtain ⟨_, _, _, _, _, h4, _⟩ := i2 0 t' (by simpa using ht')
        show ix < t'.2.2
        omega
      | succ j => exact i3 j t t' (by simpa using ht) (by simpa using ht')
theorem declsE_rise (label : ByteArray) : ∀ (l : List Dc) (p : Option Int), declsE label p l = 0 → ∀ j x y, l[j]? = some x → l[j + 1]? = some y → x.id < y.id
  | [], _, _, j, x, y, hx, _ => by simp at hx
  | z :: r, p, h, j, x, y, hx, hy => by
    have key : declsE label (some z.id) r = 0 := by
      cases p with
      | none =>
        unfold declsE at h
        by_cases hz : declE label z = 0
        · rw [if_pos hz] at h; exact h
        · rw [if_neg hz] at h; exact absurd h hz
      | some p =>
        unfold declsE at h
        by_cases hz : declE label z = 0
        · rw [if_pos hz] at h
          by_cases hp : z.id ≤ p
          · rw [if_pos hp] at h; simp at h
          · rw [if_neg hp] at h; exact h
        · rw [if_neg hz] at h; exact absurd h hz
    cases j with
    | succ j => exact declsE_rise label r _ key j x y (by simpa using hx) (by simpa using hy)
    | zero =>
      simp at hx
      subst hx
      cases r with
      | nil => simp at hy
      | cons y' r =>
        simp at hy
        subst hy
        unfold declsE at key
        by_cases hz : declE label y' = 0
        · rw [if_pos hz] at key
          by_cases hp : y'.id ≤ z.id
          · rw [if_pos hp] at key; simp at key
          · omega
        · rw [if_neg hz] at key; exact absurd key hz
theorem checkE_decls {label : ByteArray} {uses : List ByteArray} {decls : List Dc} (h : checkE label uses decls = 0) : declsE label none decls = 0 := by
  unfold checkE at h
  cases h0 : labelB label
  · rw [h0] at h; simp at h
  rw [h0] at h
  simp only [Bool.true_eq_false, if_false] at h
  by_cases h1 : srcE uses ≠ 0
  · rw [if_pos h1] at h; exact absurd h h1
  rw [if_neg h1] at h
  by_cases h2 : useAll label uses uses.length 0 ≠ 0
  · rw [if_pos h2] at h; exact absurd h h2
  rw [if_neg h2] at h
  by_cases h3 : 100 < decls.length
  · rw [if_pos h3] at h; simp at h
  rw [if_neg h3] at h
  exact h
/-- The code of a module that can be compiled is valid. -/
structure CodeV (label : ByteArray) (BL : List Blk) (DS : List (Int × Int × Nat)) (decls : List Dc) : Prop where
  lab : labelB label = true
  blocks : ∀ b ∈ BL, BlkV BL b
  len : DS.length = decls.length
  dec : ∀ (j : Nat) (t : Int × Int × Nat), DS[j]? = some t → ∃ (x : Dc) (b : Blk), decls[j]? = some x ∧ t.1 = x.id ∧ t.2.1 = x.kind ∧ (1 ≤ t.1 ∧ t.1 ≤ 999999) ∧ (t.2.1 = 1 ∨ t.2.1 = 2 ∨ t.2.1 = 3) ∧ (j = 0 → t.2.2 = 0) ∧ BL[t.2.2]? = some b ∧ b.cap = 0 ∧ b.par = false
  rise : ∀ (j : Nat) (t t' : Int × Int × Nat), DS[j]? = some t → DS[j + 1]? = some t' → t.1 < t'.1 ∧ t.2.2 < t'.2.2
theorem mod_valid {label : ByteArray} {uses : List ByteArray} {decls : List Dc} (h : modE label uses decls = 0) : CodeV label (modGo label 0 decls).1 (modGo label 0 decls).2 decls := by
  obtain ⟨h1, h2, _⟩ := modE_zero h
  obtain ⟨hl, _, hv⟩ := checkE_zero h1
  obtain ⟨a1, a2, a3⟩ := modGo_v (label := label) (modGo label 0 decls).1 decls 0 (fun x hx => dc_cv hl (hv x hx) (conf_sum decls [] h2 x hx)) fun j b hj => by rw [Nat.zero_add]; exact hj
  refine ⟨hl, a1, modGo_ds label decls 0, fun j t ht => ?_, fun j t t' ht ht' => ⟨?_, a3 j t t' ht ht'⟩⟩
  · obtain ⟨x, b, hx, e1, e2, _, h0, hb⟩ := a2 j t ht
    have hx2 := hv x (List.mem_of_getElem? hx)
    exact ⟨x, b, hx, e1, e2, by rw [e1]; exact hx2.id, by rw [e2]; exact hx2.kind, h0, hb⟩
  · obtain ⟨x, _, hx, e1, _⟩ := a2 j t ht
    obtain ⟨y, _, hy, e2, _⟩ := a2 (j + 1) t' ht'
    rw [e1, e2]
    exact declsE_rise label decls none (checkE_decls h1) j x y hx hy
end Go.Proofs.YtlcfoiapkblheaaGreatDoor
