/- The reference's code of an expression, plainly; the program's is the same -/
import Derived.Test.YtlcfoiapkblheaaGreatDoorGkz
import Derived.IntWalk
import Derived.Test.YtlcfoiapkblheaaGreatDoorYfw
import Derived.Test.YtlcfoiapkblheaaGreatDoorGky
import Derived.Deep.RegionHeld3
namespace Go.Proofs.YtlcfoiapkblheaaGreatDoor
open Go.RowKit Go.Proofs Go.Shelf

/-- Instructions at another place: the targets of jumps are greater. -/
def jmpB (op : Int) : Bool := op == 8 || op == 9 || op == 13
def mvI (by_ : Int) (x : Ins) : Ins := if jmpB x.op = true then { x with a := wrap64 (x.a + by_) } else x
def mv (k : Nat) (l : List Ins) : List Ins := l.map (mvI k)
theorem mv_len (k : Nat) (l : List Ins) : (mv k l).length = l.length := by simp [mv]
theorem mv_app (k : Nat) (a b : List Ins) : mv k (a ++ b) = mv k a ++ mv k b := by simp [mv]
theorem mvI_mvI (a b : Nat) (x : Ins) : mvI (a : Int) (mvI (b : Int) x) = mvI ((b + a : Nat) : Int) x := by
  unfold mvI
  cases h : jmpB x.op
  · simp [h]
  · simp only [if_true, h]
    congr 1
    unfold wrap64
    omega
theorem mv_mv (a b : Nat) (l : List Ins) : mv a (mv b l) = mv (b + a) l := by
  unfold mv
  rw [List.map_map]
  exact List.map_congr_left fun x _ => mvI_mvI a b x
theorem mv_no (k : Nat) (x : Ins) (h : jmpB x.op = false) : mv k [x] = [x] := by simp [mv, mvI, h]
theorem mvI_jmp (k : Nat) (op : Int) (a : Nat) (b : Int) (n : ByteArray) (h : jmpB op = true) (hk : a + k ≤ 9000000) : mvI (k : Int) ⟨op, (a : Int), b, n⟩ = ⟨op, ((a + k : Nat) : Int), b, n⟩ := by
  unfold mvI
  simp only [h, if_true]
  congr 1
  unfold wrap64
  omega
theorem mv_jmp (k : Nat) (op : Int) (a : Nat) (b : Int) (n : ByteArray) (h : jmpB op = true) (hk : a + k ≤ 9000000) : mv k [⟨op, (a : Int), b, n⟩] = [⟨op, ((a + k : Nat) : Int), b, n⟩] := by
  unfold mv
  rw [List.map_singleton, mvI_jmp k op a b n h hk]
def joinL : Nat → List (List Ins) → List Ins
  | _, [] => []
  | k, l :: r => mv k l ++ joinL (k + l.length) r

/-- The reference's code: the instructions, from place 0 on, and the blocks of the functions, by the first one's index. -/
def RComp : Type := List ByteArray → Nat → List Ins × List Blk
def noR : RComp := fun _ _ => ([], [])
def localN (vars : List ByteArray) (n : ByteArray) : Nat := (lastV n vars).getD 0
def rSimple (label : ByteArray) (k : Int) (n : ByteArray) (i d : Int) (vars : List ByteArray) : Ins :=
  if k = 1 then ⟨1, i, 0, ⟨#[]⟩⟩ else if k = 2 then ⟨2, i, 0, ⟨#[]⟩⟩ else if k = 14 then ⟨16, i, d, ⟨#[]⟩⟩ else
  if k = 5 then (if n.toList.isEmpty = true then ⟨4, i, 0, label⟩ else ⟨4, i, 0, n⟩) else
  if k = 3 then ⟨3, localN vars n, 0, ⟨#[]⟩⟩ else ⟨11, 0, 0, ⟨#[]⟩⟩
def rTwo (P Q : RComp) (x : Ins) : RComp := fun vars ix =>
  (joinL 0 [(P vars ix).1, (Q vars (ix + (P vars ix).2.length)).1, [x]], (P vars ix).2 ++ (Q vars (ix + (P vars ix).2.length)).2)
def rLet (P Q : RComp) (n : ByteArray) : RComp := fun vars ix =>
  (joinL 0 [(P vars ix).1, [⟨14, 0, 0, ⟨#[]⟩⟩], (Q (vars ++ [n]) (ix + (P vars ix).2.length)).1, [⟨15, 1, 0, ⟨#[]⟩⟩]], (P vars ix).2 ++ (Q (vars ++ [n]) (ix + (P vars ix).2.length)).2)
def ifL (a b c : List Ins) : List Ins :=
  mv 0 a ++ [⟨9, (a.length + b.length + 2 : Nat), 0, ⟨#[]⟩⟩] ++ mv (a.length + 1) b ++ [⟨8, (a.length + b.length + c.length + 2 : Nat), 0, ⟨#[]⟩⟩] ++ mv (a.length + b.length + 2) c
def rIf (P Q R : RComp) : RComp := fun vars ix =>
  (ifL (P vars ix).1 (Q vars (ix + (P vars ix).2.length)).1 (R vars (ix + (P vars ix).2.length + (Q vars (ix + (P vars ix).2.length)).2.length)).1,
    (P vars ix).2 ++ (Q vars (ix + (P vars ix).2.length)).2 ++ (R vars (ix + (P vars ix).2.length + (Q vars (ix + (P vars ix).2.length)).2.length)).2)
def caseL (a b c : List Ins) : List Ins :=
  a ++ [⟨13, (a.length + c.length + 3 : Nat), 0, ⟨#[]⟩⟩] ++ mv (a.length + 1) c ++ [⟨15, 2, 0, ⟨#[]⟩⟩, ⟨8, (a.length + b.length + c.length + 3 : Nat), 0, ⟨#[]⟩⟩] ++ mv (a.length + c.length + 3) b
def rCase (P Q R : RComp) (n m : ByteArray) : RComp := fun vars ix =>
  (caseL (P vars ix).1 (Q vars (ix + (P vars ix).2.length + (R (vars ++ [n, m]) (ix + (P vars ix).2.length)).2.length)).1 (R (vars ++ [n, m]) (ix + (P vars ix).2.length)).1,
    (P vars ix).2 ++ (R (vars ++ [n, m]) (ix + (P vars ix).2.length)).2 ++ (Q vars (ix + (P vars ix).2.length + (R (vars ++ [n, m]) (ix + (P vars ix).2.length)).2.length)).2)
/-- The blocks of a function or a declaration. -/
def rBlk (P : RComp) (vars : List ByteArray) (cap : Int) (par : Bool) (ix : Nat) : List Blk :=
  ⟨cap, par, joinL 0 [(P vars (ix + 1)).1, [retI]]⟩ :: (P vars (ix + 1)).2
def nodeR (label : ByteArray) (k : Int) (n m : ByteArray) (i d : Int) (rs : List RComp) : RComp := fun vars ix =>
  if k = 6 then ([⟨5, ix, 0, ⟨#[]⟩⟩], rBlk (rs.getD 0 noR) (vars ++ [n]) vars.length true ix) else
  if k = 7 then rTwo (rs.getD 0 noR) (rs.getD 1 noR) ⟨6, 0, 0, ⟨#[]⟩⟩ vars ix else
  if k = 10 then rTwo (rs.getD 0 noR) (rs.getD 1 noR) ⟨10, 0, 0, n⟩ vars ix else
  if k = 12 then rTwo (rs.getD 0 noR) (rs.getD 1 noR) ⟨12, 0, 0, ⟨#[]⟩⟩ vars ix else
  if k = 8 then rLet (rs.getD 0 noR) (rs.getD 1 noR) n vars ix else
  if k = 9 then rIf (rs.getD 0 noR) (rs.getD 1 noR) (rs.getD 2 noR) vars ix else
  if k = 13 then rCase (rs.getD 0 noR) (rs.getD 1 noR) (rs.getD 2 noR) n m vars ix else
  ([rSimple label k n i d vars], [])
def Fo.rcomp (label : ByteArray) : Fo → List RComp
  | .nil => []
  | .cons k n m i d _ _ s r => nodeR label k n m i d (s.rcomp label) :: r.rcomp label
def Tr.rcomp (label : ByteArray) (t : Tr) : RComp := nodeR label t.k t.n t.m t.i t.d (t.s.rcomp label)
theorem Fo.rcomp_tree (label : ByteArray) : ∀ {s : Fo} {j : Nat} {t : Tr}, s.tree j = some t → (s.rcomp label).getD j noR = t.rcomp label
  | .nil, _, _, h => by simp [Fo.tree] at h
  | .cons _ _ _ _ _ _ _ _ r, 0, t, h => by simp only [Fo.tree, Option.some.injEq] at h; subst h; rfl
  | .cons _ _ _ _ _ _ _ _ r, j + 1, t, h => by have := Fo.rcomp_tree label (s := r) h; simpa [Fo.rcomp] using this

/-- A part of a forest has a free variable. -/
def Fo.frAt (s : Fo) (j : Nat) (bd : List ByteArray) : Bool := match s.tree j with
  | some t => nodeFree t.k t.n t.m t.s bd
  | none => false
theorem Fo.frAt_of : ∀ (s : Fo) (bd : Nat → List ByteArray) (q : Nat), s.free bd q = false → ∀ j, s.frAt j (bd (q + j)) = false
  | .nil, _, _, _, j => by simp [Fo.frAt, Fo.tree]
  | .cons k n m i d A c s r, bd, q, h, j => by
    rw [Fo.free_cons, Bool.or_eq_false_iff] at h
    cases j with
    | zero => simpa [Fo.frAt, Fo.tree] using h.1
    | succ j =>
      have := Fo.frAt_of r bd (q + 1) h.2 j
      rw [show q + (j + 1) = q + 1 + j by omega]
      simpa [Fo.frAt, Fo.tree] using this

/-- The program's code of a node and the reference's: the same, wherever it stands. -/
def Rel (N : Nat) (fr : List ByteArray → Bool) (P : Comp) (R : RComp) : Prop := ∀ (vars : List ByteArray) (st ix : Nat) (X Z : List Ins), fr vars = false → X.length = st → st + 3 * N ≤ 1000000 →
  (R vars ix).1.length = (P vars st).1.length ∧ fnsOf (P vars st).2 (X ++ (P vars st).1 ++ Z) ix = (X ++ mv st (R vars ix).1 ++ Z, (R vars ix).2)
theorem Rel.no (N : Nat) (fr : List ByteArray → Bool) : Rel N fr noComp noR := fun vars st ix X Z _ _ _ => ⟨rfl, by simp [noComp, noR, fnsOf, mv]⟩
theorem lastV_has (n : ByteArray) : ∀ (vars : List ByteArray), hasS vars n = true → ∃ j, lastV n vars = some j
  | [], h => by simp [hasS] at h
  | x :: r, h => by
    unfold lastV
    cases hr : lastV n r with
    | some j => exact ⟨_, rfl⟩
    | none =>
      simp only
      by_cases hx : (x.toList == n.toList) = true
      · exact ⟨0, by rw [if_pos hx]⟩
      · exfalso
        have h2 : hasS r n = true := by
          simp only [hasS, List.any_cons, Bool.or_eq_true] at h
          rcases h with h | h
          · exact absurd (by simpa using (by simpa using h : n.toList = x.toList).symm) hx
          · exact h
        obtain ⟨j, hj⟩ := lastV_has n r h2
        rw [hr] at hj
        cases hj
theorem simple_rel (label : ByteArray) (k : Int) (n m : ByteArray) (i d : Int) (s : Fo) (vars : List ByteArray) (hf : nodeFree k n m s vars = false) : rSimple label k n i d vars = simpleI label k n i d vars := by
  unfold rSimple simpleI
  by_cases h3 : k = 3
  · subst h3
    have h : hasS vars n = true := by simpa [nodeFree] using hf
    obtain ⟨j, hj⟩ := lastV_has n vars h
    simp [localN, hj]
  · simp only [if_neg h3]
theorem jmp_simple (label : ByteArray) (k : Int) (n : ByteArray) (i d : Int) (vars : List ByteArray) : jmpB (rSimple label k n i d vars).op = false := by
  unfold rSimple
  repeat' split
  all_goals rfl
theorem Rel.blk {N : Nat} {fr : List ByteArray → Bool} {P : Comp} {R : RComp} (h : Rel N fr P R) (hN : 3 * N ≤ 1000000) (vars : List ByteArray) (hv : fr vars = false) (cap : Int) (par : Bool) (ix : Nat) : blkOf P vars cap par ix = rBlk R vars cap par ix := by
  obtain ⟨h1, h2⟩ := h vars 0 (ix + 1) [] [retI] hv rfl (by omega)
  rw [List.nil_append, List.nil_append] at h2
  unfold blkOf rBlk
  rw [h2]
  simp [joinL, mv_no _ retI rfl]
theorem Rel.two {N A B : Nat} {fr f1 f2 : List ByteArray → Bool} {P Q : Comp} {P' Q' : RComp} {x : Ins} (h : Rel A f1 P P') (g : Rel B f2 Q Q') (hl : LenOK P A) (hN : A + B + 1 ≤ N) (hx : jmpB x.op = false)
    (hf : ∀ v, fr v = false → f1 v = false ∧ f2 v = false) : Rel N fr (twoC P Q x) (rTwo P' Q' x) := by
  intro vars st ix X Z hv hX hst
  obtain ⟨v1, v2⟩ := hf vars hv
  have l1 := (hl vars st).1
  simp only [twoC, rTwo, joinL]
  rw [fnsOf_append]
  obtain ⟨a1, a2⟩ := h vars st ix X ((Q vars (st + (P vars st).1.length)).1 ++ [x] ++ Z) v1 hX (by omega)
  have e1 : X ++ ((P vars st).1 ++ (Q vars (st + (P vars st).1.length)).1 ++ [x]) ++ Z = X ++ (P vars st).1 ++ ((Q vars (st + (P vars st).1.length)).1 ++ [x] ++ Z) := by simp
  rw [e1, a2]
  obtain ⟨b1, b2⟩ := g vars (st + (P vars st).1.length) (ix + (P' vars ix).2.length) (X ++ mv st (P' vars ix).1) ([x] ++ Z) v2 (by rw [List.length_append, mv_len]; omega) (by omega)
  have e2 : X ++ mv st (P' vars ix).1 ++ ((Q vars (st + (P vars st).1.length)).1 ++ [x] ++ Z) = X ++ mv st (P' vars ix).1 ++ (Q vars (st + (P vars st).1.length)).1 ++ ([x] ++ Z) := by simp
  simp only [e2, b2]
  refine ⟨by simp [mv_len, a1, b1], ?_⟩
  simp only [mv_app, mv_mv, mv_no _ x hx, Nat.zero_add, List.append_nil, Prod.mk.injEq, and_true]
  rw [a1, Nat.add_comm (P vars st).1.length st]
  simp
theorem Rel.lets {N A B : Nat} {n : ByteArray} {fr f1 f2 : List ByteArray → Bool} {P Q : Comp} {P' Q' : RComp} (h : Rel A f1 P P') (g : Rel B f2 Q Q') (hl : LenOK P A) (hN : A + B + 1 ≤ N)
    (hf : ∀ v, fr v = false → f1 v = false ∧ f2 (v ++ [n]) = false) : Rel N fr (letC P Q n) (rLet P' Q' n) := by
  intro vars st ix X Z hv hX hst
  obtain ⟨v1, v2⟩ := hf vars hv
  have l1 := (hl vars st).1
  simp only [letC, rLet, joinL]
  rw [fnsOf_append]
  obtain ⟨a1, a2⟩ := h vars st ix X ([⟨14, 0, 0, ⟨#[]⟩⟩] ++ (Q (vars ++ [n]) (st + (P vars st).1.length + 1)).1 ++ [⟨15, 1, 0, ⟨#[]⟩⟩] ++ Z) v1 hX (by omega)
  have e1 : X ++ ((P vars st).1 ++ [⟨14, 0, 0, ⟨#[]⟩⟩] ++ (Q (vars ++ [n]) (st + (P vars st).1.length + 1)).1 ++ [⟨15, 1, 0, ⟨#[]⟩⟩]) ++ Z = X ++ (P vars st).1 ++ ([⟨14, 0, 0, ⟨#[]⟩⟩] ++ (Q (vars ++ [n]) (st + (P vars st).1.length + 1)).1 ++ [⟨15, 1, 0, ⟨#[]⟩⟩] ++ Z) := by simp
  rw [e1, a2]
  obtain ⟨b1, b2⟩ := g (vars ++ [n]) (st + (P vars st).1.length + 1) (ix + (P' vars ix).2.length) (X ++ mv st (P' vars ix).1 ++ [⟨14, 0, 0, ⟨#[]⟩⟩]) ([⟨15, 1, 0, ⟨#[]⟩⟩] ++ Z) v2 (by simp only [List.length_append, mv_len, List.length_singleton]; omega) (by omega)
  have e2 : X ++ mv st (P' vars ix).1 ++ ([⟨14, 0, 0, ⟨#[]⟩⟩] ++ (Q (vars ++ [n]) (st + (P vars st).1.length + 1)).1 ++ [⟨15, 1, 0, ⟨#[]⟩⟩] ++ Z) = X ++ mv st (P' vars ix).1 ++ [⟨14, 0, 0, ⟨#[]⟩⟩] ++ (Q (vars ++ [n]) (st + (P vars st).1.length + 1)).1 ++ ([⟨15, 1, 0, ⟨#[]⟩⟩] ++ Z) := by simp
  simp only [e2, b2]
  refine ⟨by simp [mv_len, a1, b1]; omega, ?_⟩
  simp only [mv_app, mv_mv, mv_no _ (⟨14, 0, 0, ⟨#[]⟩⟩ : Ins) rfl, mv_no _ (⟨15, 1, 0, ⟨#[]⟩⟩ : Ins) rfl, Nat.zero_add, List.append_nil, Prod.mk.injEq, and_true, List.length_singleton]
  rw [a1, show (P vars st).1.length + 1 + st = st + (P vars st).1.length + 1 by omega]
  simp
theorem Rel.ifs {N A B D : Nat} {fr f1 f2 f3 : List ByteArray → Bool} {P Q S : Comp} {P' Q' S' : RComp} (h : Rel A f1 P P') (g : Rel B f2 Q Q') (k : Rel D f3 S S') (hl : LenOK P A) (hm : LenOK Q B) (hs : LenOK S D) (hN : A + B + D + 1 ≤ N)
    (hf : ∀ v, fr v = false → f1 v = false ∧ f2 v = false ∧ f3 v = false) : Rel N fr (ifC P Q S) (rIf P' Q' S') := by
  intro vars st ix X Z hv hX hst
  obtain ⟨v1, v2, v3⟩ := hf vars hv
  have l1 := (hl vars st).1
  have a := fun Z => h vars st ix X Z v1 hX (by omega)
  simp only [ifC, rIf]
  generalize (P' vars ix).1 = p' at *
  generalize (P' vars ix).2 = pb at *
  generalize (P vars st).1 = p at *
  generalize (P vars st).2 = F at *
  have l2 := (hm vars (st + p.length + 1)).1
  have b := fun X Z hX => g vars (st + p.length + 1) (ix + pb.length) X Z v2 hX (by omega)
  generalize (Q' vars (ix + pb.length)).1 = q' at *
  generalize (Q' vars (ix + pb.length)).2 = qb at *
  generalize (Q vars (st + p.length + 1)).1 = q at *
  generalize (Q vars (st + p.length + 1)).2 = G at *
  have l3 := (hs vars (st + p.length + 1 + q.length + 1)).1
  have c := fun X Z hX => k vars (st + p.length + 1 + q.length + 1) (ix + pb.length + qb.length) X Z v3 hX (by omega)
  generalize (S' vars (ix + pb.length + qb.length)).1 = s' at *
  generalize (S' vars (ix + pb.length + qb.length)).2 = sb at *
  generalize (S vars (st + p.length + 1 + q.length + 1)).1 = s at *
  generalize (S vars (st + p.length + 1 + q.length + 1)).2 = H at *
  have e1 := (a []).1
  have e2 := (b (X ++ mv st p' ++ [⟨9, 0, 0, ⟨#[]⟩⟩]) [] (by simp only [List.length_append, mv_len, List.length_singleton]; omega)).1
  have e3 := (c (X ++ mv st p' ++ [⟨9, 0, 0, ⟨#[]⟩⟩] ++ mv (st + p.length + 1) q' ++ [⟨8, 0, 0, ⟨#[]⟩⟩]) [] (by simp only [List.length_append, mv_len, List.length_singleton]; omega)).1
  refine ⟨by simp [ifL, mv_len, e1, e2, e3], ?_⟩
  generalize ht1 : (⟨9, ((st + p.length + 1 + q.length + 1 : Nat) : Int), 0, ⟨#[]⟩⟩ : Ins) = t1
  generalize ht2 : (⟨8, ((st + p.length + 1 + q.length + 1 + s.length : Nat) : Int), 0, ⟨#[]⟩⟩ : Ins) = t2
  rw [List.append_assoc F G H, fnsOf_append]
  rw [show X ++ (p ++ [t1] ++ q ++ [t2] ++ s) ++ Z = X ++ p ++ ([t1] ++ q ++ [t2] ++ s ++ Z) by simp, (a _).2]
  simp only
  rw [fnsOf_append, show X ++ mv st p' ++ ([t1] ++ q ++ [t2] ++ s ++ Z) = X ++ mv st p' ++ [t1] ++ q ++ ([t2] ++ s ++ Z) by simp]
  rw [(b (X ++ mv st p' ++ [t1]) ([t2] ++ s ++ Z) (by simp only [List.length_append, mv_len, List.length_singleton]; omega)).2]
  simp only
  rw [show X ++ mv st p' ++ [t1] ++ mv (st + p.length + 1) q' ++ ([t2] ++ s ++ Z) = X ++ mv st p' ++ [t1] ++ mv (st + p.length + 1) q' ++ [t2] ++ s ++ Z by simp]
  rw [(c (X ++ mv st p' ++ [t1] ++ mv (st + p.length + 1) q' ++ [t2]) Z (by simp only [List.length_append, mv_len, List.length_singleton]; omega)).2]
  unfold ifL
  simp only [mv_app, mv_mv, Nat.zero_add]
  rw [mv_jmp st 9 _ 0 _ rfl (by omega), mv_jmp st 8 _ 0 _ rfl (by omega), e1, e2, e3]
  rw [show p.length + q.length + 2 + st = st + p.length + 1 + q.length + 1 by omega, show p.length + q.length + s.length + 2 + st = st + p.length + 1 + q.length + 1 + s.length by omega, show p.length + 1 + st = st + p.length + 1 by omega, ht1, ht2]
  simp
theorem Rel.cases {N A B D : Nat} {n m : ByteArray} {fr f1 f2 f3 : List ByteArray → Bool} {P Q S : Comp} {P' Q' S' : RComp} (h : Rel A f1 P P') (g : Rel B f2 Q Q') (k : Rel D f3 S S') (hl : LenOK P A) (hm : LenOK Q B) (hs : LenOK S D) (hN : A + B + D + 1 ≤ N)
    (hf : ∀ v, fr v = false → f1 v = false ∧ f2 v = false ∧ f3 (v ++ [n, m]) = false) : Rel N fr (caseC P Q S n m) (rCase P' Q' S' n m) := by
  intro vars st ix X Z hv hX hst
  obtain ⟨v1, v2, v3⟩ := hf vars hv
  have l1 := (hl vars st).1
  have a := fun Z => h vars st ix X Z v1 hX (by omega)
  simp only [caseC, rCase]
  generalize (P' vars ix).1 = p' at *
  generalize (P' vars ix).2 = pb at *
  generalize (P vars st).1 = p at *
  generalize (P vars st).2 = F at *
  have l2 := (hs (vars ++ [n, m]) (st + p.length + 1)).1
  have b := fun X Z hX => k (vars ++ [n, m]) (st + p.length + 1) (ix + pb.length) X Z v3 hX (by omega)
  generalize (S' (vars ++ [n, m]) (ix + pb.length)).1 = s' at *
  generalize (S' (vars ++ [n, m]) (ix + pb.length)).2 = sb at *
  generalize (S (vars ++ [n, m]) (st + p.length + 1)).1 = s at *
  generalize (S (vars ++ [n, m]) (st + p.length + 1)).2 = H at *
  have l3 := (hm vars (st + p.length + 2 + s.length + 1)).1
  have c := fun X Z hX => g vars (st + p.length + 2 + s.length + 1) (ix + pb.length + sb.length) X Z v2 hX (by omega)
  generalize (Q' vars (ix + pb.length + sb.length)).1 = q' at *
  generalize (Q' vars (ix + pb.length + sb.length)).2 = qb at *
  generalize (Q vars (st + p.length + 2 + s.length + 1)).1 = q at *
  generalize (Q vars (st + p.length + 2 + s.length + 1)).2 = G at *
  have e1 := (a []).1
  have e2 := (b (X ++ mv st p' ++ [⟨9, 0, 0, ⟨#[]⟩⟩]) [] (by simp only [List.length_append, mv_len, List.length_singleton]; omega)).1
  have e3 := (c (X ++ mv st p' ++ [⟨9, 0, 0, ⟨#[]⟩⟩] ++ mv (st + p.length + 1) s' ++ [⟨8, 0, 0, ⟨#[]⟩⟩, ⟨8, 0, 0, ⟨#[]⟩⟩]) [] (by simp only [List.length_append, mv_len, List.length_cons, List.length_nil]; omega)).1
  refine ⟨by simp [caseL, mv_len, e1, e2, e3], ?_⟩
  generalize ht1 : (⟨13, ((st + p.length + 2 + s.length + 1 : Nat) : Int), 0, ⟨#[]⟩⟩ : Ins) = t1
  generalize ht2 : (⟨8, ((st + p.length + 2 + s.length + 1 + q.length : Nat) : Int), 0, ⟨#[]⟩⟩ : Ins) = t2
  generalize ht3 : (⟨15, 2, 0, ⟨#[]⟩⟩ : Ins) = t3
  rw [List.append_assoc F H G, fnsOf_append]
  rw [show X ++ (p ++ [t1] ++ s ++ [t3, t2] ++ q) ++ Z = X ++ p ++ ([t1] ++ s ++ [t3, t2] ++ q ++ Z) by simp, (a _).2]
  simp only
  rw [fnsOf_append, show X ++ mv st p' ++ ([t1] ++ s ++ [t3, t2] ++ q ++ Z) = X ++ mv st p' ++ [t1] ++ s ++ ([t3, t2] ++ q ++ Z) by simp]
  rw [(b (X ++ mv st p' ++ [t1]) ([t3, t2] ++ q ++ Z) (by simp only [List.length_append, mv_len, List.length_singleton]; omega)).2]
  simp only
  rw [show X ++ mv st p' ++ [t1] ++ mv (st + p.length + 1) s' ++ ([t3, t2] ++ q ++ Z) = X ++ mv st p' ++ [t1] ++ mv (st + p.length + 1) s' ++ [t3, t2] ++ q ++ Z by simp]
  rw [(c (X ++ mv st p' ++ [t1] ++ mv (st + p.length + 1) s' ++ [t3, t2]) Z (by simp only [List.length_append, mv_len, List.length_cons, List.length_nil]; omega)).2]
  unfold caseL
  have e4 : mv st [(⟨15, 2, 0, ⟨#[]⟩⟩ : Ins), ⟨8, ((p'.length + q'.length + s'.length + 3 : Nat) : Int), 0, ⟨#[]⟩⟩] = [t3, t2] := by
    show mv st ([_] ++ [_]) = _
    rw [mv_app, mv_no _ _ rfl, mv_jmp st 8 _ 0 _ rfl (by omega), e1, e2, e3, show p.length + q.length + s.length + 3 + st = st + p.length + 2 + s.length + 1 + q.length by omega, ht2, ht3]
    rfl
  simp only [mv_app, mv_mv, e4]
  rw [mv_jmp st 13 _ 0 _ rfl (by omega), e1, e2]
  rw [show p.length + s.length + 3 + st = st + p.length + 2 + s.length + 1 by omega, show p.length + 1 + st = st + p.length + 1 by omega, ht1]
  simp
theorem setA_mid (X Z : List Ins) (x : Ins) (v : Int) : setA (X ++ [x] ++ Z) X.length v = X ++ [{ x with a := v }] ++ Z := by
  unfold setA
  induction X with
  | nil => rfl
  | cons y X ih => simpa [List.modify] using ih
theorem nodeC_rel (label : ByteArray) (k : Int) (n m : ByteArray) (i d : Int) (A : Option Addr) (c : Nat) (s : Fo) (hg : gdC k s.len) (hc : s.count ≤ 10000)
    (h : ∀ j, Rel (s.cnt j) (s.frAt j) ((s.comp label).getD j noComp) ((s.rcomp label).getD j noR)) :
    Rel (1 + s.count) (nodeFree k n m s) (nodeC label k n m i d A c s (s.comp label)) (nodeR label k n m i d (s.rcomp label)) := by
  have c3 := s.cnt_three
  have hl := s.comp_len label
  have hfr : ∀ v j, k ≠ 3 → nodeFree k n m s v = false → s.frAt j (v ++ boundBy k n m j) = false := by
    intro v j h3 hv
    unfold nodeFree at hv
    rw [if_neg h3] at hv
    have := s.frAt_of _ 0 hv j
    rwa [Nat.zero_add] at this
  intro vars st ix X Z hv hX hst
  unfold nodeC nodeR
  by_cases h6 : k = 6
  · subst h6
    rw [if_pos rfl, if_pos rfl]
    have hv0 : s.frAt 0 (vars ++ [n]) = false := hfr vars 0 (by decide) hv
    have hb := (h 0).blk (by omega) (vars ++ [n]) hv0 (vars.length : Int) true ix
    refine ⟨rfl, ?_⟩
    simp only [fnsOf, List.append_nil, hb]
    rw [← hX, setA_mid, mv_no _ _ rfl]
  rw [if_neg h6, if_neg h6]
  by_cases h7 : k = 7
  · subst h7
    rw [if_pos rfl, if_pos rfl]
    exact (h 0).two (h 1) (N := 1 + s.count) (x := ⟨6, 0, 0, ⟨#[]⟩⟩) (hl 0) (by omega) rfl (fun v hv => ⟨by have := hfr v 0 (by decide) hv; simpa [boundBy] using this, by have := hfr v 1 (by decide) hv; simpa [boundBy] using this⟩) vars st ix X Z hv hX hst
  rw [if_neg h7, if_neg h7]
  by_cases h10 : k = 10
  · subst h10
    rw [if_pos rfl, if_pos rfl]
    exact (h 0).two (h 1) (N := 1 + s.count) (x := ⟨10, 0, 0, n⟩) (hl 0) (by omega) rfl (fun v hv => ⟨by have := hfr v 0 (by decide) hv; simpa [boundBy] using this, by have := hfr v 1 (by decide) hv; simpa [boundBy] using this⟩) vars st ix X Z hv hX hst
  rw [if_neg h10, if_neg h10]
  by_cases h12 : k = 12
  · subst h12
    rw [if_pos rfl, if_pos rfl]
    exact (h 0).two (h 1) (N := 1 + s.count) (x := ⟨12, 0, 0, ⟨#[]⟩⟩) (hl 0) (by omega) rfl (fun v hv => ⟨by have := hfr v 0 (by decide) hv; simpa [boundBy] using this, by have := hfr v 1 (by decide) hv; simpa [boundBy] using this⟩) vars st ix X Z hv hX hst
  rw [if_neg h12, if_neg h12]
  by_cases h8 : k = 8
  · subst h8
    rw [if_pos rfl, if_pos rfl]
    exact (h 0).lets (h 1) (N := 1 + s.count) (n := n) (hl 0) (by omega) (fun v hv => ⟨by have := hfr v 0 (by decide) hv; simpa [boundBy] using this, by have := hfr v 1 (by decide) hv; simpa [boundBy] using this⟩) vars st ix X Z hv hX hst
  rw [if_neg h8, if_neg h8]
  by_cases h9 : k = 9
  · subst h9
    rw [if_pos rfl, if_pos rfl]
    exact (h 0).ifs (h 1) (h 2) (N := 1 + s.count) (hl 0) (hl 1) (hl 2) (by omega) (fun v hv => ⟨by have := hfr v 0 (by decide) hv; simpa [boundBy] using this, by have := hfr v 1 (by decide) hv; simpa [boundBy] using this, by have := hfr v 2 (by decide) hv; simpa [boundBy] using this⟩) vars st ix X Z hv hX hst
  rw [if_neg h9, if_neg h9]
  by_cases h13 : k = 13
  · subst h13
    rw [if_pos rfl, if_pos rfl]
    exact (h 0).cases (h 1) (h 2) (N := 1 + s.count) (n := n) (m := m) (hl 0) (hl 1) (hl 2) (by omega) (fun v hv => ⟨by have := hfr v 0 (by decide) hv; simpa [boundBy] using this, by have := hfr v 1 (by decide) hv; simpa [boundBy] using this, by have := hfr v 2 (by decide) hv; simpa [boundBy] using this⟩) vars st ix X Z hv hX hst
  rw [if_neg h13, if_neg h13]
  refine ⟨rfl, ?_⟩
  rw [mv_no _ _ (jmp_simple label k n i d vars), simple_rel label k n m i d s vars hv]
  rfl
theorem Fo.comp_rel (label : ByteArray) : ∀ s : Fo, s.Gd → s.count ≤ 10000 → ∀ j, Rel (s.cnt j) (s.frAt j) ((s.comp label).getD j noComp) ((s.rcomp label).getD j noR)
  | .nil, _, _, j => by simp only [Fo.comp, Fo.rcomp, List.getD_nil]; exact Rel.no _ _
  | .cons k n m i d A c s r, hg, hc, 0 => by
    rw [Fo.count] at hc
    rw [(Fo.cnt_cons k n m i d A c s r).1]
    exact nodeC_rel label k n m i d A c s hg.1 (by omega) (Fo.comp_rel label s hg.2.1 (by omega))
  | .cons k n m i d A c s r, hg, hc, j + 1 => by
    rw [Fo.count] at hc
    rw [(Fo.cnt_cons k n m i d A c s r).2]
    have := Fo.comp_rel label r hg.2.2 (by omega) j
    have e : (Fo.cons k n m i d A c s r).frAt (j + 1) = r.frAt j := rfl
    rw [e]
    simpa [Fo.comp, Fo.rcomp] using this
def Dc.rcomp (label : ByteArray) (x : Dc) : RComp := nodeR label x.k x.n x.m x.i x.d (x.s.rcomp label)
/-- The blocks of declarations, as the reference makes them. -/
def modR (label : ByteArray) : Nat → List Dc → List Blk × List (Int × Int × Nat)
  | _, [] => ([], [])
  | ix, x :: r => (rBlk (x.rcomp label) [] 0 false ix ++ (modR label (ix + (rBlk (x.rcomp label) [] 0 false ix).length) r).1, (x.id, x.kind, ix) :: (modR label (ix + (rBlk (x.rcomp label) [] 0 false ix).length) r).2)
theorem modR_eq (label : ByteArray) : ∀ (l : List Dc) (ix : Nat), (∀ x ∈ l, (gdC x.k x.s.len ∧ x.s.Gd) ∧ x.s.count ≤ 10000 ∧ nodeFree x.k x.n x.m x.s [] = false) → modR label ix l = modGo label ix l
  | [], _, _ => rfl
  | x :: r, ix, h => by
    obtain ⟨⟨h1, h2⟩, h3, h4⟩ := h x (List.mem_cons_self ..)
    have hr := nodeC_rel label x.k x.n x.m x.i x.d x.A x.c x.s h1 h3 (Fo.comp_rel label x.s h2 h3)
    have hb := hr.blk (by omega) [] h4 0 false ix
    have e : blkOf (x.comp label) [] 0 false ix = rBlk (x.rcomp label) [] 0 false ix := hb
    simp only [modR, modGo, e]
    rw [modR_eq label r _ fun y hy => h y (List.mem_cons_of_mem _ hy)]
end Go.Proofs.YtlcfoiapkblheaaGreatDoor
/- ref28: local, one, with -/
namespace Go.Proofs.YtlcfoiapkblheaaGreatDoor
open Go.RowKit Go.Proofs Go.Shelf

theorem lastV_snoc28 (n x : ByteArray) : ∀ l : List ByteArray, lastV n (l ++ [x]) = if (x.toList == n.toList) = true then some l.length else lastV n l
  | [] => by simp [lastV]
  | y :: r => by
    simp only [List.cons_append, lastV, lastV_snoc28 n x r, List.length_cons]
    by_cases h : (x.toList == n.toList) = true
    · rw [if_pos h, if_pos h]
    · rw [if_neg h, if_neg h]
theorem localN_snoc (n x : ByteArray) (l : List ByteArray) : localN (l ++ [x]) n = if (x.toList == n.toList) = true then l.length else localN l n := by
  unfold localN
  rw [lastV_snoc28]
  split <;> rfl

set_option maxHeartbeats 1000000 in
theorem local28_any (l : List ByteArray) (s : ByteArray) (A : Option Addr) (c : Nat) (w : World) (hs : SlS w w.heap.size A c l) :
    Calls Tryz.prog 136 #[.slice A l.length c, .string s] w fun e w' => e = .returned (.int .i64 (localN l s)) ∧ w = w' := by
  have hc1 := hs.1
  have hc2 := hs.2.1
  unfold maxLen at hc2
  have HS := Lib.hid hs
  clear hs
  obtain ⟨E, HE⟩ : ∃ E, Hid (localN l s = E) := ⟨_, Lib.hid rfl⟩
  rw [HE.out]
  obtain ⟨n, HN⟩ : ∃ n, Hid (l.length = n) := ⟨_, Lib.hid rfl⟩
  rw [HN.out] at hc1 ⊢
  go_enter Tryz.func136, Tryz.ntmps136
  go_wp2
  go_loop [5, 6] (fun ov ct => ∃ j q : Nat, j ≤ n ∧ ct = .int .i64 j ∧ ov = .int .i64 q ∧ localN (l.take j) s = q) (fun _ ct => n - (intOf ct).toNat)
  case atStart => exact ⟨0, 0, by omega, rfl, rfl, rfl⟩
  case round =>
    obtain ⟨j, q, hj, rfl, rfl, HA⟩ := hrel
    have HA' := Lib.hid HA
    clear HA
    by_cases hlt : j < n
    · have hjl : j < l.length := by rw [HN.out]; exact hlt
      obtain ⟨b, o, rfl, hb, hcell⟩ := HS.out.at_ hjl
      have HT := Lib.hid (show localN (l.take (j + 1)) s = if (l[j].toList == s.toList) = true then j else q by
        rw [List.take_succ_eq_append_getElem hjl, localN_snoc, HA'.out, List.length_take, Nat.min_eq_left (by omega)])
      generalize l[j] = v at hcell HT
      clear hjl
      cases hv : v.toList == s.toList
      · have HR := Lib.hid (show localN (l.take (j + 1)) s = q by rw [HT.out, hv]; rfl)
        go_wp2
        go_round
        case measure => simp [intOf]; omega
        case rel => exact ⟨j + 1, q, by omega, by go_num, rfl, HR.out⟩
      · have HR := Lib.hid (show localN (l.take (j + 1)) s = j by rw [HT.out, hv]; rfl)
        go_wp2
        go_round
        case measure => simp [intOf]; omega
        case rel => exact ⟨j + 1, j, by omega, by go_num, rfl, HR.out⟩
    · have HR := Lib.hid (show E = q by
        rw [← HE.out, ← HA'.out, List.take_of_length_le (by rw [HN.out]; omega)])
      go_wp2
      go_ret
      exact ⟨by rw [HR.out]; rfl, rfl⟩

/-- What a call that makes instructions hands back. -/
def InsP (L : List Ins) (w : World) (e : Ending) (w' : World) : Prop := ∃ v, e = .returned v ∧ InsAt w.heap.size w' v L ∧ Below w.heap.size w w'
theorem InsAt.form {B : Nat} {X : World} {v : Value} {l : List Ins} (h : InsAt B X v l) : ∃ A c, v = .slice A l.length c := own_form h
theorem InsAt.below {B : Nat} {X Y : World} {v : Value} {l : List Ins} (h : InsAt B X v l) (hb : Below X.heap.size X Y) : InsAt B Y v l := h.keep fun _ _ _ _ hk => hb.block _ (lt_of_block hk)
theorem InsAt.low {B B' : Nat} {X : World} {v : Value} {l : List Ins} (h : InsAt B X v l) (hB : B' ≤ B) : InsAt B' X v l := World.ownsRow.mono h hB
theorem insC_one (l : List Ins) : ∀ u ∈ insC l, u.oneCell' = true := by
  induction l with
  | nil => intro u hu; simp [insC] at hu
  | cons x l ih =>
    intro u hu
    simp only [insC, Ins.cells, List.mem_append, List.mem_cons, List.not_mem_nil, or_false] at hu
    rcases hu with (rfl | rfl | rfl | rfl) | hu
    · rfl
    · rfl
    · rfl
    · rfl
    · exact ih u hu
/-- The cells of instructions, for an append. -/
theorem InsAt.news {B : Nat} {X : World} {A : Option Addr} {n c : Nat} {l : List Ins} (h : InsAt B X (.slice A n c) l) : (A = none → l.length = 0) ∧ ∀ ad, A = some ad → ∀ q u, (insC l)[q]? = some u → X.cell? (ad.add q) = some u := by
  rcases h.2 with ⟨h1, h2⟩ | ⟨g, cap, cur, h1, h2, h3, h4⟩
  · simp only [Value.slice.injEq] at h1
    obtain ⟨rfl, _, _⟩ := h1
    exact ⟨fun _ => h2, fun ad e => by cases e⟩
  · simp only [Value.slice.injEq] at h1
    obtain ⟨rfl, rfl, rfl⟩ := h1
    refine ⟨fun e => (by cases e), fun ad e q u hu => ?_⟩
    cases e
    have hlt := (List.getElem?_eq_some_iff.1 hu).1
    rw [insC_length] at hlt
    have := (h.cellAt q hlt).trans hu
    cases q <;> simpa [Addr.add] using this
theorem InsAt.cells {B : Nat} {X : World} {v : Value} {l : List Ins} (h : InsAt B X v l) {j : Nat} {x : Ins} (hj : l[j]? = some x) :
    ∃ g c, v = .slice (some ⟨g, 0, none⟩) l.length c ∧ g < X.heap.size ∧ l.length ≤ c ∧ c ≤ 9223372036854775807 ∧ X.cell? ⟨g, j * 4, none⟩ = some (.int .i64 x.op) ∧ X.cell? ⟨g, j * 4 + 1, none⟩ = some (.int .i64 x.a) ∧ X.cell? ⟨g, j * 4 + 2, none⟩ = some (.int .i64 x.b) ∧ X.cell? ⟨g, j * 4 + 3, none⟩ = some (.string x.nm) := by
  obtain ⟨hjl, _⟩ := List.getElem?_eq_some_iff.1 hj
  obtain ⟨g, c, rfl, h1, h2⟩ := own_pos h (by omega)
  have hic : ∀ q u, q < 4 → x.cells[q]? = some u → X.cell? ⟨g, j * 4 + q, none⟩ = some u := fun q u hq hu => (h.cellAt _ (by omega)).trans (insC_at x l j hj q u hu)
  exact ⟨g, c, rfl, (h.lt g rfl).2, h1, h2, hic 0 _ (by omega) rfl, hic 1 _ (by omega) rfl, hic 2 _ (by omega) rfl, hic 3 _ (by omega) rfl⟩

set_option maxRecDepth 100000 in
set_option maxHeartbeats 1000000 in
theorem one28_any (op a b : Int) (nm : ByteArray) (w : World) : Calls Tryz.prog 61 #[.int .i64 op, .int .i64 a, .int .i64 b, .string nm] w (InsP [⟨op, a, b, nm⟩] w) := by
  have HR := Lib.hid (show InsP [⟨op, a, b, nm⟩] w (.returned (.slice (some ⟨w.heap.size, 0, none⟩) 1 1)) (w.alloc (.cells #[.int .i64 op, .int .i64 a, .int .i64 b, .string nm] 90)) from
    ⟨_, rfl, World.ownsRow_lit (base := w.heap.size) (e := 90) (size := 4) w #[.int .i64 op, .int .i64 a, .int .i64 b, .string nm] 1 (Nat.le_refl _) (by simp [maxLen]) rfl, (Below.refl _ _).alloc (Nat.le_refl _) _⟩)
  go_enter Tryz.func61, Tryz.ntmps61
  go_wp2
  go_ret
  exact HR.out

def With28P (L : List ByteArray) (w : World) (e : Ending) (w' : World) : Prop := ∃ A c, e = .returned (.slice A L.length c) ∧ SlS w' w'.heap.size A c L ∧ Below w.heap.size w w'
set_option maxRecDepth 100000 in
set_option maxHeartbeats 2000000 in
theorem with28_any (l m : List ByteArray) (A A2 : Option Addr) (c c2 : Nat) (w : World) (h1 : SlS w w.heap.size A c l) (h2 : SlS w w.heap.size A2 c2 m) (hl : l.length + m.length ≤ 1000000) :
    Calls Tryz.prog 137 #[.slice A l.length c, .slice A2 m.length c2] w (With28P (l ++ m) w) := by
  obtain ⟨i0, hi, hz0, hz1, hz2⟩ := info_parts Tryz.infoString
  obtain ⟨n, HN⟩ : ∃ n, Hid (l.length = n) := ⟨_, Lib.hid rfl⟩
  obtain ⟨n2, HN2⟩ : ∃ n, Hid (m.length = n) := ⟨_, Lib.hid rfl⟩
  have hL1 : (l.map Value.string).length = n * 1 := by rw [List.length_map, HN.out, Nat.mul_one]
  have hL2 : (m.map Value.string).length = n2 * 1 := by rw [List.length_map, HN2.out, Nat.mul_one]
  have HL := Lib.hid (And.intro hL1 hL2)
  clear hL1 hL2
  rw [HN.out, HN2.out] at hl ⊢
  have HK : Hid (∀ X, Below w.heap.size w X → SlS X X.heap.size A c l ∧ SlS X X.heap.size A2 c2 m) := fun X hX => ⟨h1.keep hX.size fun p hp => hX.cell hp, h2.keep hX.size fun p hp => hX.cell hp⟩
  have HW := Lib.hid (World.ownsRow_lit (base := w.heap.size) (e := 9) (size := 1) w #[] 0 (Nat.le_refl _) (by simp) rfl)
  have HB0 := Lib.hid ((Below.refl w.heap.size w).alloc (Nat.le_refl _) (.cells #[] 9))
  clear h1 h2
  go_enter Tryz.func137, Tryz.ntmps137
  go_wp2_with (first
    | (at_builtin; refine wpList_append_own_any _ rfl (.tmp 5) (.tmp 6) 22 rfl w.heap.size 9 i0 _ 1 16 Tryz.underlying22 hi hz0 hz1 hz2 rfl (by decide) _ 0 [] rfl HW.out A n c (l.map Value.string) rfl HL.out.1 (fun h => by rw [← HN.out]; exact (HK.out _ HB0.out).1.news.1 h) (HK.out _ HB0.out).1.news.2 (strs_one _) (by unfold maxLen; omega) (by omega) (by simp) ?_; intro v1 w1 hown1 hg1; have hb1 := HB0.out.grown hg1 (by simp) (fun q hq => (HW.out.lt q hq).1); have hz1' := hb1.size)
    | (at_builtin; refine wpList_append_own_any _ rfl (.tmp 7) (.tmp 8) 22 rfl w.heap.size 9 i0 _ 1 16 Tryz.underlying22 hi hz0 hz1 hz2 rfl (by decide) v1 _ _ rfl hown1 A2 n2 c2 (m.map Value.string) rfl HL.out.2 (fun h => by rw [← HN2.out]; exact (HK.out _ hb1).2.news.1 h) (HK.out _ hb1).2.news.2 (strs_one _) (by unfold maxLen; omega) (by omega) (by omega) ?_; intro v2 w2 hown2 hg2; have hb2 := hb1.grown hg2 hz1' (fun q hq => (hown1.lt q hq).1)))
  go_ret
  have hf : w2.ownsRow w.heap.size 9 1 v2 (l ++ m).length ((l ++ m).map .string) := by
    have e1 : (l ++ m).length = 0 + n + n2 := by rw [List.length_append, HN.out, HN2.out, Nat.zero_add]
    rw [e1, List.map_append]
    simpa using hown2
  obtain ⟨A', c', rfl, ho⟩ := VarsAt.of hf
  exact ⟨A', c', rfl, ho.sls.1, hb2⟩
end Go.Proofs.YtlcfoiapkblheaaGreatDoor
/- ref28: moved, join -/
namespace Go.Proofs.YtlcfoiapkblheaaGreatDoor
open Go.RowKit Go.Proofs Go.Shelf

theorem mv_take {k : Nat} {l : List Ins} {j : Nat} (h : j < l.length) : mv k (l.take (j + 1)) = mv k (l.take j) ++ [mvI k l[j]] := by
  rw [List.take_succ_eq_append_getElem h, mv_app]
  rfl

set_option maxRecDepth 100000 in
set_option maxHeartbeats 4000000 in
theorem moved28_any (l : List Ins) (v : Value) (k B : Nat) (w : World) (h : InsAt B w v l) (hl : l.length ≤ 1000000) (_hk : k ≤ 1000000) :
    Calls Tryz.prog 138 #[v, .int .i64 k] w (InsP (mv k l) w) := by
  obtain ⟨i0, hi, hz0, hz1, hz2⟩ := info_parts Tryz.infoInstr
  obtain ⟨A, c, rfl⟩ := h.form
  obtain ⟨n, HN⟩ : ∃ q, Hid (l.length = q) := ⟨_, Lib.hid rfl⟩
  have HI : Hid (∀ X, Below w.heap.size w X → InsAt B X (.slice A n c) l) := fun X hX => by
    have := h.below hX
    rwa [HN.out] at this
  rw [HN.out] at hl ⊢
  clear h
  go_enter Tryz.func138, Tryz.ntmps138
  go_wp2
  go_loopg [5, 6] n (fun g ov ct wr => ∃ (j : Nat) (oA : Option Addr) (oc : Nat), g = n - j ∧ j ≤ n ∧ ct = .int .i64 j ∧ ov = .slice oA j oc ∧ wr.ownsRow w.heap.size 90 4 (.slice oA j oc) j (insC (mv k (l.take j))) ∧ Below w.heap.size w wr)
  case atStart => exact ⟨0, none, 0, rfl, by omega, rfl, rfl, World.ownsRow_nil _ _ _ _, Below.refl _ _⟩
  case round =>
    obtain ⟨j, oA, oc, HG, hj, rfl, rfl, hown, hB⟩ := hrel
    have HG' := Lib.hid (And.intro HG (And.intro hown hB))
    have hzr := hB.size
    clear HG
    by_cases hlt : j < n
    · have hjl : j < l.length := by rw [HN.out]; exact hlt
      obtain ⟨g, c', hA, hgl, hc1, hc2, x0, x1, x2, x3⟩ := (HI.out wr hB).cells (List.getElem?_eq_getElem hjl)
      simp only [Value.slice.injEq] at hA
      obtain ⟨rfl, hnn, rfl⟩ := hA
      clear hnn
      rw [HN.out] at hc1
      have HT := Lib.hid (mv_take (k := k) hjl)
      generalize l[j] = x at x0 x1 x2 x3 HT
      clear hjl hown hB
      obtain ⟨op, a, b, nm⟩ := x
      simp only at x0 x1 x2 x3
      have i0' : (0 : Int) ≤ (j : Int) := by omega
      have i1' : (j : Int) < (n : Int) := by omega
      obtain ⟨W1, hW1⟩ : ∃ W1, wr.alloc (.cells #[.int .i64 op, .int .i64 a, .int .i64 b, .string nm] 90) = W1 := ⟨_, rfl⟩
      have hz1' : wr.heap.size < W1.heap.size := by rw [← hW1]; simp
      have HB1 := Lib.hid (show Below w.heap.size w W1 by rw [← hW1]; exact HG'.out.2.2.alloc hzr _)
      have HX1 := Lib.hid (show W1.heap[wr.heap.size]? = some (.cells #[.int .i64 op, .int .i64 a, .int .i64 b, .string nm] 90 (0, 0)) by rw [← hW1]; exact heap_alloc_new wr _)
      have HO1 := Lib.hid (show W1.ownsRow w.heap.size 90 4 (.slice oA j oc) j (insC (mv k (l.take j))) by rw [← hW1]; exact HG'.out.2.1.alloc _)
      have HNE := Lib.hid (show (Value.slice oA j oc).ownBlock ≠ some wr.heap.size from fun e => by have := (HG'.out.2.1.lt _ e).2; omega)
      have y0 := cell_of_row W1 wr.heap.size 0 _ _ (0, 0) HX1.out
      have y1 := cell_of_row W1 wr.heap.size 1 _ _ (0, 0) HX1.out
      have y2 := cell_of_row W1 wr.heap.size 2 _ _ (0, 0) HX1.out
      have y3 := cell_of_row W1 wr.heap.size 3 _ _ (0, 0) HX1.out
      have y4 := frozen_of_row W1 wr.heap.size 1 _ _ HX1.out
      simp at y0 y1 y2 y3
      by_cases hop : op = 8 ∨ op = 9 ∨ op = 13
      · have HM := Lib.hid (show mvI (k : Int) ⟨op, a, b, nm⟩ = ⟨op, wrap64 (a + k), b, nm⟩ by rcases hop with rfl | rfl | rfl <;> rfl)
        have HO2 := Lib.hid (show (W1.setCell ⟨wr.heap.size, 1, none⟩ (.int .i64 (wrap64 (a + k)))).ownsRow w.heap.size 90 4 (.slice oA j oc) j (insC (mv k (l.take j))) from ownsRow_setCell_other HO1.out HNE.out _)
        have HCN := Lib.hid (show ∀ q u, (Ins.cells ⟨op, wrap64 (a + k), b, nm⟩)[q]? = some u → ((W1.setCell ⟨wr.heap.size, 1, none⟩ (.int .i64 (wrap64 (a + k)))).alloc (.cells #[.int .i64 op, .int .i64 (wrap64 (a + k)), .int .i64 b, .string nm] 90)).cell? ((⟨W1.heap.size, 0, none⟩ : Addr).add q) = some u from fun q u hu => by
          have h := cells_new (W1.setCell ⟨wr.heap.size, 1, none⟩ (.int .i64 (wrap64 (a + k)))) (Ins.cells ⟨op, wrap64 (a + k), b, nm⟩) 90 q u hu
          have e : (W1.setCell ⟨wr.heap.size, 1, none⟩ (.int .i64 (wrap64 (a + k)))).heap.size = W1.heap.size := by simp [World.setCell]
          rw [e] at h
          exact h)
        rcases hop with rfl | rfl | rfl
        all_goals (
          go_wp2_with (at_builtin; refine wpList_append_own _ rfl (.tmp 36) (.tmp 38) 50 rfl w.heap.size 90 i0 _ 4 40 Tryz.underlying50 hi hz0 hz1 hz2 rfl (by decide) _ j _ rfl (HO2.out.alloc _) ⟨W1.heap.size, 0, none⟩ 1 1 (Ins.cells ⟨_, wrap64 (a + k), b, nm⟩) rfl rfl HCN.out (by simp [Ins.cells, Value.oneCell']) (by unfold maxLen; omega) (by omega) (by simp; omega) ?_; intro v' w2 hown2 hg2 _; obtain ⟨qA, qc, rfl⟩ := own_form hown2; have hb2 := ((HB1.out.setCell (p := ⟨wr.heap.size, 1, none⟩) hzr (.int .i64 (wrap64 (a + k)))).alloc (by simp; omega) _).grown hg2 (by simp; omega) (fun q hq => (HO1.out.lt q hq).1))
          go_roundg (n - (j + 1))
          case measure => rw [HG'.out.1]; omega
          case rel => exact ⟨j + 1, qA, qc, rfl, by omega, by go_num, rfl, by rw [HT.out, insC_append, HM.out]; exact hown2, hb2⟩)
      · have hop8 : (op == 8) = false := by simp; omega
        have hop9 : (op == 9) = false := by simp; omega
        have hop13 : (op == 13) = false := by simp; omega
        have HM := Lib.hid (show mvI (k : Int) ⟨op, a, b, nm⟩ = ⟨op, a, b, nm⟩ by simp [mvI, jmpB, hop8, hop9, hop13])
        clear hop
        go_wp2_with (at_builtin; refine wpList_append_own _ rfl (.tmp 36) (.tmp 38) 50 rfl w.heap.size 90 i0 _ 4 40 Tryz.underlying50 hi hz0 hz1 hz2 rfl (by decide) _ j _ rfl (HO1.out.alloc _) ⟨W1.heap.size, 0, none⟩ 1 1 (Ins.cells ⟨op, a, b, nm⟩) rfl rfl (cells_new _ _ _) (by simp [Ins.cells, Value.oneCell']) (by unfold maxLen; omega) (by omega) (by simp; omega) ?_; intro v' w2 hown2 hg2 _; obtain ⟨qA, qc, rfl⟩ := own_form hown2; have hb2 := (HB1.out.alloc (by omega) _).grown hg2 (by simp; omega) (fun q hq => (HO1.out.lt q hq).1))
        go_roundg (n - (j + 1))
        case measure => rw [HG'.out.1]; omega
        case rel => exact ⟨j + 1, qA, qc, rfl, by omega, by go_num, rfl, by rw [HT.out, insC_append, HM.out]; exact hown2, hb2⟩
    · have HR := Lib.hid (show InsP (mv k l) w (.returned (.slice oA j oc)) wr from ⟨_, rfl, by
        have h1 := HG'.out.2.1
        obtain rfl : j = n := by omega
        rw [List.take_of_length_le (by rw [HN.out]; exact Nat.le_refl _)] at h1
        unfold InsAt
        rw [mv_len, HN.out]
        exact h1, HG'.out.2.2⟩)
      clear hown hB
      go_wp2
      go_ret
      exact HR.out

theorem le_sum {x : Nat} : ∀ {l : List Nat}, x ∈ l → x ≤ l.sum
  | [], h => by cases h
  | y :: r, h => by
    rcases List.mem_cons.1 h with rfl | h
    · simp
    · have := le_sum h; simp; omega
theorem joinL_len : ∀ (ls : List (List Ins)) (k : Nat), (joinL k ls).length = (ls.map List.length).sum
  | [], _ => rfl
  | l :: r, k => by simp [joinL, mv_len, joinL_len r]
theorem joinL_snoc (x : List Ins) : ∀ (ls : List (List Ins)) (k : Nat), joinL k (ls ++ [x]) = joinL k ls ++ mv (k + (joinL k ls).length) x
  | [], k => by simp [joinL]
  | l :: r, k => by
    simp only [List.cons_append, joinL, joinL_snoc x r, List.append_assoc, List.length_append, mv_len, Nat.add_assoc]

set_option maxRecDepth 100000 in
set_option maxHeartbeats 4000000 in
theorem join28_any (ls : List (Value × List Ins)) (B g c : Nat) (w : World) (hg : g < w.heap.size) (hc1 : ls.length ≤ c) (hc2 : c ≤ 9223372036854775807) (hi : ∀ j x, ls[j]? = some x → w.cell? ⟨g, j, none⟩ = some x.1 ∧ InsAt B w x.1 x.2) (hl : ((ls.map Prod.snd).map List.length).sum ≤ 1000000) :
    Calls Tryz.prog 60 #[.slice (some ⟨g, 0, none⟩) ls.length c] w (InsP (joinL 0 (ls.map Prod.snd)) w) := by
  obtain ⟨i0, hii, hz0, hz1, hz2⟩ := info_parts Tryz.infoInstr
  obtain ⟨n, HN⟩ : ∃ q, Hid (ls.length = q) := ⟨_, Lib.hid rfl⟩
  have HI : Hid (∀ X, Below w.heap.size w X → ∀ j x, ls[j]? = some x → X.cell? ⟨g, j, none⟩ = some x.1 ∧ InsAt B X x.1 x.2) := fun X hX j x hj => ⟨(hX.cell (p := ⟨g, j, none⟩) hg).trans (hi j x hj).1, (hi j x hj).2.below hX⟩
  have HSum : Hid (∀ j, (joinL 0 ((ls.map Prod.snd).take j)).length ≤ 1000000 ∧ ∀ x ∈ ls, x.2.length ≤ 1000000) := fun j => by
    have hsub : ((((ls.map Prod.snd).take j).map List.length)).sum ≤ ((ls.map Prod.snd).map List.length).sum := by
      have := List.take_append_drop j ((ls.map Prod.snd).map List.length)
      rw [← this, List.sum_append, List.map_take]
      omega
    refine ⟨by rw [joinL_len]; omega, fun x hx => ?_⟩
    have : x.2.length ∈ (ls.map Prod.snd).map List.length := List.mem_map.2 ⟨x.2, List.mem_map.2 ⟨x, hx, rfl⟩, rfl⟩
    have := le_sum this
    omega
  have HJ : Hid (∀ j x, ls[j]? = some x → joinL 0 ((ls.map Prod.snd).take (j + 1)) = joinL 0 ((ls.map Prod.snd).take j) ++ mv (joinL 0 ((ls.map Prod.snd).take j)).length x.2) := fun j x hx => by
    obtain ⟨hjl, he⟩ := List.getElem?_eq_some_iff.1 hx
    rw [List.take_succ_eq_append_getElem (by simpa using hjl), joinL_snoc]
    simp [he]
  rw [HN.out] at hc1 ⊢
  clear hi hl
  go_enter Tryz.func60, Tryz.ntmps60
  go_wp2
  go_loopg [3, 4] n (fun gg ov ct wr => ∃ (j : Nat) (L : List Ins) (A : Option Addr) (cc : Nat), gg = n - j ∧ j ≤ n ∧ ct = .int .i64 j ∧ ov = .slice A L.length cc ∧ wr.ownsRow w.heap.size 90 4 (.slice A L.length cc) L.length (insC L) ∧ L = joinL 0 ((ls.map Prod.snd).take j) ∧ Below w.heap.size w wr)
  case atStart => exact ⟨0, [], none, 0, rfl, by omega, rfl, rfl, World.ownsRow_nil _ _ _ _, rfl, Below.refl _ _⟩
  case round =>
    obtain ⟨j, L, A, cc, HG, hj, rfl, rfl, hown, hL, hB⟩ := hrel
    have hz := hB.size
    obtain ⟨hs1, hs2⟩ := HSum.out j
    rw [← hL] at hs1
    obtain ⟨m, HM⟩ : ∃ q, Hid (L.length = q) := ⟨_, Lib.hid rfl⟩
    rw [HM.out] at hs1 hown
    have HG' := Lib.hid (And.intro HG (And.intro hown (And.intro hL hB)))
    clear HG hown hL
    rw [HM.out]
    by_cases hlt : j < n
    · have hjl : j < ls.length := by rw [HN.out]; exact hlt
      have hj3 : ls[j]? = some ls[j] := List.getElem?_eq_getElem hjl
      obtain ⟨x0, hx⟩ := HI.out wr hB j _ hj3
      have hxl := hs2 _ (List.getElem_mem hjl)
      have HJ' := Lib.hid (HJ.out j _ hj3)
      clear hj3 hs2
      generalize ls[j] = x at x0 hx hxl HJ'
      clear hjl
      obtain ⟨xv, xl⟩ := x
      simp only at x0 hx hxl HJ'
      obtain ⟨xA, xc, rfl⟩ := hx.form
      obtain ⟨xn, HXN⟩ : ∃ q, Hid (xl.length = q) := ⟨_, Lib.hid rfl⟩
      have HMV := Lib.hid (moved28_any xl (.slice xA xl.length xc) m B wr hx hxl hs1)
      rw [HXN.out] at x0 HMV hxl
      have i0' : (0 : Int) ≤ (j : Int) := by omega
      have i1' : (j : Int) < (n : Int) := by omega
      clear hx hB
      go_wp2_with fail
      refine HMV.out.mono ?_
      rintro e w2 ⟨v2, rfl, hv2, hb2⟩
      obtain ⟨A2, c2, rfl⟩ := hv2.form
      have HL2 := Lib.hid (show (insC (mv m xl)).length = xn * 4 by rw [insC_length, mv_len, HXN.out])
      have hml : (mv m xl).length = xn := by rw [mv_len, HXN.out]
      rw [hml] at hv2 ⊢
      have HV2 := Lib.hid (And.intro hv2 (And.intro hb2 hml))
      have HO2 := Lib.hid (show w2.ownsRow w.heap.size 90 4 (.slice A m cc) m (insC L) from own_keep HG'.out.2.1 fun q _ _ hq => hb2.block q (lt_of_block hq))
      have HB2 := Lib.hid (HG'.out.2.2.2.trans (hb2.mono hz))
      clear hv2 hb2 hml x0
      go_wp2_with (at_builtin; refine wpList_append_own_any _ rfl (.tmp 11) (.tmp 18) 50 rfl w.heap.size 90 i0 _ 4 40 Tryz.underlying50 hii hz0 hz1 hz2 rfl (by decide) _ m _ rfl HO2.out A2 xn c2 (insC (mv m xl)) rfl HL2.out (fun h => by rw [← HV2.out.2.2]; exact HV2.out.1.news.1 h) HV2.out.1.news.2 (insC_one _) (by unfold maxLen; omega) (by omega) HB2.out.size ?_; intro v3 w3 hown3 hg3; have hb3 := HB2.out.grown hg3 HB2.out.size (fun q hq => (HO2.out.lt q hq).1))
      obtain ⟨A3, c3, rfl⟩ := own_form hown3
      have HR := Lib.hid (show (∃ (L3 : List Ins), L3.length = m + xn ∧ w3.ownsRow w.heap.size 90 4 (.slice A3 (m + xn) c3) (m + xn) (insC L3) ∧ L3 = joinL 0 ((ls.map Prod.snd).take (j + 1))) from
        ⟨L ++ mv m xl, by rw [List.length_append, HM.out, HV2.out.2.2], by rw [insC_append]; exact hown3, by rw [HJ'.out, ← HG'.out.2.2.1, HM.out]⟩)
      have HB3 := Lib.hid hb3
      clear hown3 hg3 hb3
      go_roundg (n - (j + 1))
      case measure => rw [HG'.out.1]; omega
      case rel =>
        obtain ⟨L3, e1, e2, e3⟩ := HR.out
        exact ⟨j + 1, L3, A3, c3, rfl, by omega, by go_num, by rw [e1], by rw [e1]; exact e2, e3, HB3.out⟩
    · have HR := Lib.hid (show InsP (joinL 0 (ls.map Prod.snd)) w (.returned (.slice A m cc)) wr from ⟨_, rfl, by
        obtain ⟨_, h1, h2, _⟩ := HG'.out
        obtain rfl : j = n := by omega
        rw [List.take_of_length_le (by rw [List.length_map, HN.out]; exact Nat.le_refl _)] at h2
        unfold InsAt
        rw [← h2, HM.out]
        exact h1, hB⟩)
      clear hB
      go_wp2
      go_ret
      exact HR.out
end Go.Proofs.YtlcfoiapkblheaaGreatDoor
/- ref28.expr: words -/
namespace Go.Proofs.YtlcfoiapkblheaaGreatDoor
open Go.RowKit Go.Proofs Go.Shelf

theorem BlksAt.below {B : Nat} {X Y : World} {l : List Bg} {m : List Blk} (h : BlksAt B X l m) (hb : Below X.heap.size X Y) : BlksAt B Y l m := h.keep fun _ _ _ _ hk => hb.block _ (lt_of_block hk)
/-- Blocks in memory, as the reference keeps them: a row of the call's own from n₀ on. -/
def BkAt (n₀ : Nat) (X : World) (bv : Value) (bl : List Blk) : Prop := ∃ BS, X.ownsRow n₀ 52 3 bv BS.length (bgC BS) ∧ BlksAt 0 X BS bl
theorem BkAt.below {n₀ : Nat} {X Y : World} {bv : Value} {bl : List Blk} (h : BkAt n₀ X bv bl) (hb : Below X.heap.size X Y) : BkAt n₀ Y bv bl := by
  obtain ⟨BS, h1, h2⟩ := h
  exact ⟨BS, own_keep h1 fun _ _ _ hk => hb.block _ (lt_of_block hk), h2.below hb⟩
theorem BkAt.form {n₀ : Nat} {X : World} {bv : Value} {bl : List Blk} (h : BkAt n₀ X bv bl) : ∃ A c, bv = .slice A bl.length c := by
  obtain ⟨BS, h1, h2⟩ := h
  rw [h2.length] at h1
  exact own_form h1
theorem BkAt.low {n₀ n₁ : Nat} {X : World} {bv : Value} {bl : List Blk} (h : BkAt n₀ X bv bl) (hn : n₁ ≤ n₀) : BkAt n₁ X bv bl := by
  obtain ⟨BS, h1, h2⟩ := h
  exact ⟨BS, World.ownsRow.mono h1 hn, h2⟩
theorem BkAt.nil (n₀ : Nat) (X : World) : BkAt n₀ X (.slice none 0 0) [] := ⟨[], World.ownsRow_nil _ _ _ _, trivial⟩
theorem BkAt.blocks {n₀ : Nat} {X : World} {bv : Value} {bl : List Blk} (h : BkAt n₀ X bv bl) : BlocksAt X bv bl := by
  obtain ⟨BS, h1, h2⟩ := h
  exact ⟨0, BS, World.ownsRow.mono h1 (Nat.zero_le _), h2⟩
theorem bgC_one {B : Nat} {X : World} : ∀ {l : List Bg} {m : List Blk}, BlksAt B X l m → ∀ u ∈ bgC l, u.oneCell' = true
  | [], [], _, u, hu => by simp [bgC] at hu
  | g :: l, b :: m, ⟨_, _, h3, h4⟩, u, hu => by
    simp only [bgC, Bg.cells, List.mem_append, List.mem_cons, List.not_mem_nil, or_false] at hu
    rcases hu with (rfl | rfl | rfl) | hu
    · rfl
    · rfl
    · obtain ⟨A, c, e⟩ := h3.form
      rw [e]
      rfl
    · exact bgC_one h4 u hu
  | [], _ :: _, h, _, _ => h.elim
  | _ :: _, [], h, _, _ => h.elim
/-- The cells of a row of one's own, for an append. -/
theorem own_news {B size n m c : Nat} {X : World} {e : TypeId} {A : Option Addr} {xs : List Value} (h : X.ownsRow B e size (.slice A n c) m xs) : (A = none → m = 0) ∧ ∀ ad, A = some ad → ∀ q u, xs[q]? = some u → X.cell? (ad.add q) = some u := by
  have hl := h.1
  rcases h.2 with ⟨h1, h2⟩ | ⟨g, cap, cur, h1, h2, h3, h4⟩
  · simp only [Value.slice.injEq] at h1
    obtain ⟨rfl, _, _⟩ := h1
    exact ⟨fun _ => h2, fun ad e => by cases e⟩
  · simp only [Value.slice.injEq] at h1
    obtain ⟨rfl, rfl, rfl⟩ := h1
    refine ⟨fun e => (by cases e), fun ad e q u hu => ?_⟩
    cases e
    have hlt := (List.getElem?_eq_some_iff.1 hu).1
    have := (h.cellAt q (by omega)).trans hu
    cases q <;> simpa [Addr.add] using this
/-- Slices of instructions in a block of their own. -/
theorem ins_row {B g : Nat} {W : World} {t : TypeId} {ls : List (Value × List Ins)} (h : W.heap[g]? = some (.cells (ls.map Prod.fst).toArray t (0, 0))) (hi : ∀ x ∈ ls, InsAt B W x.1 x.2) :
    ∀ j x, ls[j]? = some x → W.cell? ⟨g, j, none⟩ = some x.1 ∧ InsAt B W x.1 x.2 := fun j x hj =>
  ⟨by rw [cell_of_row W g j _ _ (0, 0) h]; simp [hj], hi x (List.mem_of_getElem? hj)⟩

theorem bgC_fill (l r : List Bg) (b : Bg) (u0 u1 u2 : Value) (cap : Int) (par : Bool) (h0 : u0 = .int .i64 cap) (h1 : u1 = .bool par) :
    (((bgC (l ++ b :: r)).set (l.length * 3) u0).set (l.length * 3 + 1) u1).set (l.length * 3 + 2) u2 = bgC (l ++ ⟨cap, par, u2⟩ :: r) := by
  subst h0 h1
  induction l with
  | nil => rfl
  | cons x l ih =>
    simp only [List.cons_append, bgC, Bg.cells, List.length_cons]
    rw [show (l.length + 1) * 3 = (l.length * 3) + 1 + 1 + 1 by omega, show l.length * 3 + 1 + 1 + 1 + 1 = (l.length * 3 + 1) + 1 + 1 + 1 by omega, show l.length * 3 + 1 + 1 + 1 + 2 = (l.length * 3 + 2) + 1 + 1 + 1 by omega]
    simp only [List.nil_append, List.set_cons_succ, ih]
theorem BlksAt.split {B : Nat} {X : World} {b : Blk} {r : List Blk} : ∀ {m : List Blk} {l : List Bg}, BlksAt B X l (m ++ b :: r) → ∃ (l1 : List Bg) (g : Bg) (l2 : List Bg), l = l1 ++ g :: l2 ∧ l1.length = m.length ∧ BlksAt B X l1 m ∧ BlksAt B X l2 r
  | [], g :: l, ⟨_, _, _, h⟩ => ⟨[], g, l, rfl, rfl, trivial, h⟩
  | x :: m, g :: l, ⟨h1, h2, h3, h⟩ => by
    obtain ⟨l1, g', l2, e, hl, h4, h5⟩ := BlksAt.split (m := m) h
    exact ⟨g :: l1, g', l2, by rw [e]; rfl, by simp [hl], ⟨h1, h2, h3, h4⟩, h5⟩
  | [], [], h => h.elim
  | _ :: _, [], h => h.elim
theorem own_len {B size n m c : Nat} {X : World} {e : TypeId} {A : Option Addr} {xs : List Value} (h : X.ownsRow B e size (.slice A n c) m xs) : n = m := by
  rcases h.2 with ⟨h1, h2⟩ | ⟨g, cap, cur, h1, _⟩
  · simp only [Value.slice.injEq] at h1; omega
  · simp only [Value.slice.injEq] at h1; exact h1.2.1
/-- A block in the midst is written. -/
theorem bk_fill {n₀ g n c : Nat} {X : World} {bl B1 : List Blk} {hole : Blk} {cap : Int} {par : Bool} {iv : Value} {J : List Ins} {k : Nat} (h : BkAt n₀ X (.slice (some ⟨g, 0, none⟩) n c) (bl ++ hole :: B1)) (hi : InsAt 0 X iv J) (hk : k = bl.length * 3) :
    BkAt n₀ (((X.setCell ⟨g, k, none⟩ (.int .i64 cap)).setCell ⟨g, k + 1, none⟩ (.bool par)).setCell ⟨g, k + 2, none⟩ iv) (.slice (some ⟨g, 0, none⟩) n c) (bl ++ ⟨cap, par, J⟩ :: B1) := by
  subst hk
  obtain ⟨BS, h1, h2⟩ := h
  obtain ⟨l1, hg, l2, rfl, hl, h3, h4⟩ := h2.split
  have hnl := own_len h1
  subst hnl
  have s1 := (h1.stored (bl.length * 3) (.int .i64 cap)).1
  have s2 := (s1.stored (bl.length * 3 + 1) (.bool par)).1
  have s3 := (s2.stored (bl.length * 3 + 2) iv).1
  obtain ⟨cg, fg, hgt⟩ := Lib.ownsRow_kind h1 g rfl
  have hset : ∀ (q : Nat) (cur : Array Value) (fz : Nat × Nat), X.heap[q]? = some (.cells cur 90 fz) → (((X.setCell ⟨g, bl.length * 3, none⟩ (.int .i64 cap)).setCell ⟨g, bl.length * 3 + 1, none⟩ (.bool par)).setCell ⟨g, bl.length * 3 + 2, none⟩ iv).heap[q]? = X.heap[q]? := fun q cur fz hq => by
    have hne := tag_ne hq hgt (by decide)
    rw [Below.heap_setCell _ _ _ _ hne, Below.heap_setCell _ _ _ _ hne, Below.heap_setCell _ _ _ _ hne]
  refine ⟨l1 ++ ⟨cap, par, iv⟩ :: l2, ?_, ?_⟩
  · rw [← bgC_fill l1 l2 hg (.int .i64 cap) (.bool par) iv cap par rfl rfl, hl]
    have e : (l1 ++ (⟨cap, par, iv⟩ : Bg) :: l2).length = (l1 ++ hg :: l2).length := by simp
    rw [e]
    exact s3
  · exact BlksAt.append (l' := ⟨cap, par, iv⟩ :: l2) (m' := ⟨cap, par, J⟩ :: B1) ⟨rfl, rfl, hi.keep fun q cur fz _ hq => hset q cur fz hq, h4.keep fun q cur fz _ hq => hset q cur fz hq⟩ (h3.keep fun q cur fz _ hq => hset q cur fz hq)
theorem below_fill {B g k : Nat} {w X : World} {u0 u1 u2 : Value} (h : Below B w X) (hg : B ≤ g) : Below B w (((X.setCell ⟨g, k, none⟩ u0).setCell ⟨g, k + 1, none⟩ u1).setCell ⟨g, k + 2, none⟩ u2) := ((h.setCell hg _).setCell hg _).setCell hg _
/-- What a walk reads of a block that it will write. -/
theorem bk_cells {n₀ : Nat} {X : World} {A : Option Addr} {n c j : Nat} {bl : List Blk} (h : BkAt n₀ X (.slice A n c) bl) (hj : j < bl.length) : ∃ g v0 v1 v2, A = some ⟨g, 0, none⟩ ∧ n₀ ≤ g ∧ g < X.heap.size ∧ n = bl.length ∧ n ≤ c ∧ c ≤ 9223372036854775807 ∧
    (X.cell? ⟨g, j * 3, none⟩ = some v0 ∧ X.cell? ⟨g, j * 3 + 1, none⟩ = some v1 ∧ X.cell? ⟨g, j * 3 + 2, none⟩ = some v2) ∧ (X.frozen? ⟨g, j * 3, none⟩ = false ∧ X.frozen? ⟨g, j * 3 + 1, none⟩ = false ∧ X.frozen? ⟨g, j * 3 + 2, none⟩ = false) := by
  obtain ⟨BS, h1, h2⟩ := h
  have hl := h2.length
  obtain ⟨g, c', he, hc1, hc2⟩ := own_pos h1 (by omega)
  simp only [Value.slice.injEq] at he
  obtain ⟨rfl, rfl, rfl⟩ := he
  have hcl := bgC_length BS
  have hq : ∀ q, q < 3 → ∃ u, X.cell? ⟨g, j * 3 + q, none⟩ = some u := fun q hq => ⟨_, (h1.cellAt (j * 3 + q) (by omega)).trans (List.getElem?_eq_getElem (by omega))⟩
  obtain ⟨v0, e0⟩ := hq 0 (by omega)
  obtain ⟨v1, e1⟩ := hq 1 (by omega)
  obtain ⟨v2, e2⟩ := hq 2 (by omega)
  exact ⟨g, v0, v1, v2, rfl, (h1.lt g rfl).1, (h1.lt g rfl).2, hl, hc1, hc2, ⟨e0, e1, e2⟩, h1.frozenAt _, h1.frozenAt _, h1.frozenAt _⟩
theorem ins_set {B g n c j : Nat} {X : World} {L : List Ins} (h : InsAt B X (.slice (some ⟨g, 0, none⟩) n c) L) (hj : j < L.length) (v : Int) : InsAt B (X.setCell ⟨g, j * 4 + 1, none⟩ (.int .i64 v)) (.slice (some ⟨g, 0, none⟩) n c) (setA L j v) := by
  have hnl := own_len h
  subst hnl
  unfold InsAt
  rw [insC_setA _ _ _ hj, setA_length]
  exact (h.stored (j * 4 + 1) (.int .i64 v)).1
theorem ins_cell {B j n c : Nat} {X : World} {A : Option Addr} {L : List Ins} (h : InsAt B X (.slice A n c) L) (hj : j < L.length) : ∃ g u, A = some ⟨g, 0, none⟩ ∧ n = L.length ∧ n ≤ c ∧ c ≤ 9223372036854775807 ∧ B ≤ g ∧ g < X.heap.size ∧ X.cell? ⟨g, j * 4 + 1, none⟩ = some u ∧ X.frozen? ⟨g, j * 4 + 1, none⟩ = false := by
  obtain ⟨g, c', he, hc1, hc2⟩ := own_pos h (by omega)
  simp only [Value.slice.injEq] at he
  obtain ⟨rfl, rfl, rfl⟩ := he
  have hcl := insC_length L
  exact ⟨g, _, rfl, rfl, hc1, hc2, (h.lt g rfl).1, (h.lt g rfl).2, (h.cellAt (j * 4 + 1) (by omega)).trans (List.getElem?_eq_getElem (by omega)), h.frozenAt _⟩
theorem if_set (L0 : List Ins) (a v : Int) (n : ByteArray) : setA (joinL 0 [L0, [⟨9, a, 0, n⟩]]) L0.length v = mv 0 L0 ++ [⟨9, v, 0, n⟩] := by
  have h := setA_mid (mv 0 L0) [] (mvI ((0 + L0.length : Nat) : Int) ⟨9, a, 0, n⟩) v
  rw [mv_len, List.append_nil, List.append_nil] at h
  exact h
theorem if_fin {B NL0 NL1 NL2 NO1 NO2 NO3 NO4 : Nat} {X : World} {v : Value} {L0 L1 L2 : List Ins} (h0 : L0.length = NL0) (h1 : L1.length = NL1) (h2 : L2.length = NL2) (e1 : NL0 + 1 = NO1) (e2 : NO1 + NL1 = NO2) (e3 : NO2 + 1 = NO3) (e4 : NO3 + NL2 = NO4)
    (h : X.ownsRow B 90 4 v NO4 (insC (mv 0 L0 ++ [⟨9, ((NL0 : Int) + NL1 + 2), 0, ⟨#[]⟩⟩]) ++ insC (mv NO1 L1) ++ Ins.cells ⟨8, ((NL0 : Int) + NL1 + NL2 + 2), 0, ⟨#[]⟩⟩ ++ insC (mv NO3 L2))) : InsAt B X v (ifL L0 L1 L2) := by
  have e : ifL L0 L1 L2 = mv 0 L0 ++ [⟨9, ((NL0 : Int) + NL1 + 2), 0, ⟨#[]⟩⟩] ++ mv NO1 L1 ++ [⟨8, ((NL0 : Int) + NL1 + NL2 + 2), 0, ⟨#[]⟩⟩] ++ mv NO3 L2 := by
    unfold ifL
    rw [h0, h1, h2, e1, show NL0 + NL1 + 2 = NO3 by omega]
    have c1 : ((NO3 : Nat) : Int) = (NL0 : Int) + NL1 + 2 := by omega
    have c2 : ((NL0 + NL1 + NL2 + 2 : Nat) : Int) = (NL0 : Int) + NL1 + NL2 + 2 := by omega
    rw [c1, c2]
  unfold InsAt
  have hl : (ifL L0 L1 L2).length = NO4 := by rw [e]; simp [mv_len, h0, h1, h2]; omega
  rw [hl, e, insC_append, insC_append, insC_append]
  simpa [insC] using h
theorem case_fin {B NL0 NL1 NL2 NO1 NO2 NO3 NO4 : Nat} {X : World} {v : Value} {L0 L1 L2 : List Ins} (h0 : L0.length = NL0) (h1 : L1.length = NL1) (h2 : L2.length = NL2) (e1 : NL0 + 1 = NO1) (e2 : NO1 + NL2 = NO2) (e3 : NO2 + 2 = NO3) (e4 : NO3 + NL1 = NO4)
    (h : X.ownsRow B 90 4 v NO4 (insC L0 ++ Ins.cells ⟨13, ((NL0 : Int) + NL2 + 3), 0, ⟨#[]⟩⟩ ++ insC (mv NO1 L2) ++ (Ins.cells ⟨15, 2, 0, ⟨#[]⟩⟩ ++ Ins.cells ⟨8, ((NL0 : Int) + NL1 + NL2 + 3), 0, ⟨#[]⟩⟩) ++ insC (mv NO3 L1))) : InsAt B X v (caseL L0 L1 L2) := by
  have e : caseL L0 L1 L2 = L0 ++ [⟨13, ((NL0 : Int) + NL2 + 3), 0, ⟨#[]⟩⟩] ++ mv NO1 L2 ++ [⟨15, 2, 0, ⟨#[]⟩⟩, ⟨8, ((NL0 : Int) + NL1 + NL2 + 3), 0, ⟨#[]⟩⟩] ++ mv NO3 L1 := by
    unfold caseL
    rw [h0, h1, h2, e1, show NL0 + NL2 + 3 = NO3 by omega]
    have c1 : ((NO3 : Nat) : Int) = (NL0 : Int) + NL2 + 3 := by omega
    have c2 : ((NL0 + NL1 + NL2 + 3 : Nat) : Int) = (NL0 : Int) + NL1 + NL2 + 3 := by omega
    rw [c1, c2]
  unfold InsAt
  have hl : (caseL L0 L1 L2).length = NO4 := by rw [e]; simp [mv_len, h0, h1, h2]; omega
  rw [hl, e, insC_append, insC_append, insC_append, insC_append]
  simpa [insC] using h
/-- How many instructions and blocks a node has. -/
def RLen (N : Nat) (R : RComp) : Prop := ∀ vars ix, (R vars ix).1.length ≤ 3 * N ∧ (R vars ix).2.length ≤ N
theorem nodeR_len (label : ByteArray) (k : Int) (n m : ByteArray) (i d : Int) (s : Fo) (h : ∀ j, RLen (s.cnt j) ((s.rcomp label).getD j noR)) : RLen (1 + s.count) (nodeR label k n m i d (s.rcomp label)) := by
  have c3 := s.cnt_three
  intro vars ix
  unfold nodeR
  have h0 := h 0
  have h1 := h 1
  have h2 := h 2
  generalize (s.rcomp label).getD 0 noR = P at *
  generalize (s.rcomp label).getD 1 noR = Q at *
  generalize (s.rcomp label).getD 2 noR = S at *
  split
  · obtain ⟨a1, a2⟩ := h0 (vars ++ [n]) (ix + 1)
    exact ⟨by simp; omega, by simp only [rBlk, List.length_cons]; omega⟩
  have two : ∀ x, (rTwo P Q x vars ix).1.length ≤ 3 * (1 + s.count) ∧ (rTwo P Q x vars ix).2.length ≤ 1 + s.count := fun x => by
    obtain ⟨a1, a2⟩ := h0 vars ix
    obtain ⟨b1, b2⟩ := h1 vars (ix + (P vars ix).2.length)
    simp only [rTwo, joinL_len, List.map_cons, List.map_nil, List.sum_cons, List.sum_nil, List.length_append, List.length_singleton]
    omega
  split
  · exact two _
  split
  · exact two _
  split
  · exact two _
  split
  · obtain ⟨a1, a2⟩ := h0 vars ix
    obtain ⟨b1, b2⟩ := h1 (vars ++ [n]) (ix + (P vars ix).2.length)
    simp only [rLet, joinL_len, List.map_cons, List.map_nil, List.sum_cons, List.sum_nil, List.length_append, List.length_singleton]
    omega
  split
  · obtain ⟨a1, a2⟩ := h0 vars ix
    obtain ⟨b1, b2⟩ := h1 vars (ix + (P vars ix).2.length)
    obtain ⟨e1, e2⟩ := h2 vars (ix + (P vars ix).2.length + (Q vars (ix + (P vars ix).2.length)).2.length)
    simp only [rIf, ifL, mv_len, List.length_append, List.length_singleton]
    omega
  split
  · obtain ⟨a1, a2⟩ := h0 vars ix
    obtain ⟨e1, e2⟩ := h2 (vars ++ [n, m]) (ix + (P vars ix).2.length)
    obtain ⟨b1, b2⟩ := h1 vars (ix + (P vars ix).2.length + (S (vars ++ [n, m]) (ix + (P vars ix).2.length)).2.length)
    simp only [rCase, caseL, mv_len, List.length_append, List.length_cons, List.length_nil]
    omega
  · exact ⟨by simp; omega, by simp⟩
theorem Fo.rcomp_len (label : ByteArray) : ∀ (s : Fo) (j : Nat), RLen (s.cnt j) ((s.rcomp label).getD j noR)
  | .nil, j => by simp only [Fo.rcomp, List.getD_nil]; exact fun _ _ => ⟨Nat.zero_le _, Nat.zero_le _⟩
  | .cons k n m i d A c s r, 0 => by
    rw [(Fo.cnt_cons k n m i d A c s r).1]
    exact nodeR_len label k n m i d s (Fo.rcomp_len label s)
  | .cons k n m i d A c s r, j + 1 => by
    rw [(Fo.cnt_cons k n m i d A c s r).2]
    have := Fo.rcomp_len label r j
    simpa [Fo.rcomp] using this

/-- The kinds of a valid module without conflicts, and their parts. -/
def knC (k : Int) (len : Nat) : Prop := (k = 1 ∨ k = 2 ∨ k = 14 ∨ k = 5 ∨ k = 3 ∨ k = 11) ∨ (k = 6 ∧ len = 1) ∨ ((k = 7 ∨ k = 10 ∨ k = 12 ∨ k = 8) ∧ len = 2) ∨ ((k = 9 ∨ k = 13) ∧ len = 3)
def Fo.Kn : Fo → Prop
  | .nil => True
  | .cons k _ _ _ _ _ _ s r => knC k s.len ∧ s.Kn ∧ r.Kn
theorem Fo.Kn.tree : ∀ {s : Fo} {j : Nat} {t : Tr}, s.Kn → s.tree j = some t → knC t.k t.s.len ∧ t.s.Kn
  | .nil, _, _, _, h => by cases h
  | .cons .., 0, _, ⟨h1, h2, _⟩, h => by cases h; exact ⟨h1, h2⟩
  | .cons _ _ _ _ _ _ _ _ r, j + 1, t, ⟨_, _, h3⟩, h => Fo.Kn.tree (s := r) h3 h
theorem Fo.tree_ex : ∀ (s : Fo) (j : Nat), j < s.len → ∃ t, s.tree j = some t
  | .nil, j, h => by simp [Fo.len] at h
  | .cons .., 0, _ => ⟨_, rfl⟩
  | .cons _ _ _ _ _ _ _ _ r, j + 1, h => Fo.tree_ex r j (by simp [Fo.len] at h; omega)
theorem Fo.tree_count : ∀ {s : Fo} {j : Nat} {t : Tr}, s.tree j = some t → t.s.count ≤ s.count
  | .nil, _, _, h => by cases h
  | .cons .., 0, _, h => by cases h; simp only [Fo.count]; omega
  | .cons _ _ _ _ _ _ _ _ r, j + 1, t, h => by have := Fo.tree_count (s := r) h; simp only [Fo.count]; omega
/-- What expr hands back: instructions, and the blocks with those of the functions. -/
def ExP (n₀ : Nat) (r : List Ins × List Blk) (bl : List Blk) (w : World) (e : Ending) (w' : World) : Prop :=
  ∃ iv bv, e = .returned (.tuple #[iv, bv]) ∧ InsAt 0 w' iv r.1 ∧ BkAt n₀ w' bv (bl ++ r.2) ∧ Below w.heap.size w w'
structure ExIn (s : Fo) (k : Int) (A : Option Addr) (c : Nat) (vars : List ByteArray) (vA : Option Addr) (vc : Nat) (bl : List Blk) (bv : Value) (n₀ : Nat) (w : World) : Prop where
  hs : s.Sl w w.heap.size A c
  kn : knC k s.len
  kns : s.Kn
  hv : SlS w w.heap.size vA vc vars
  hb : BkAt n₀ w bv bl
  hn : n₀ ≤ w.heap.size
  hvl : vars.length + 2 * (1 + s.count) ≤ 1000000
  hbl : bl.length + (1 + s.count) ≤ 1000000
  hct : s.count ≤ 100000
def ExOK (label : ByteArray) (s : Fo) : Prop := ∀ (k : Int) (n m : ByteArray) (i d : Int) (A : Option Addr) (c : Nat) (vars : List ByteArray) (vA : Option Addr) (vc : Nat) (bl : List Blk) (bv : Value) (n₀ : Nat) (w : World), ExIn s k A c vars vA vc bl bv n₀ w →
    Calls Tryz.prog 59 #[.agg #[.int .i64 k, .string n, .string m, .int .i64 i, .int .i64 d, .slice A s.len c], .string label, .slice vA vars.length vc, bv] w (ExP n₀ (nodeR label k n m i d (s.rcomp label) vars bl.length) bl w)
theorem ExP.mk {n₀ B : Nat} {L : List Ins} {Bs bl : List Blk} {w w2 w5 : World} {rv bv : Value} (hi : InsAt B w5 rv L) (hb : BkAt n₀ w2 bv (bl ++ Bs)) (h25 : Below w2.heap.size w2 w5) (hB : Below w.heap.size w w5) : ExP n₀ (L, Bs) bl w (.returned (.tuple #[rv, bv])) w5 :=
  ⟨rv, bv, rfl, hi.low (Nat.zero_le _), hb.below h25, hB⟩
/-- The same with letters for the lengths, from an older world on. -/
def ExQ (n₀ : Nat) (L : List Ins) (bl : List Blk) (NL NB : Nat) (u : World) (e : Ending) (w' : World) : Prop :=
  ∃ iA ic bA bc, e = .returned (.tuple #[.slice iA NL ic, .slice bA NB bc]) ∧ InsAt 0 w' (.slice iA NL ic) L ∧ BkAt n₀ w' (.slice bA NB bc) bl ∧ Below u.heap.size u w'
theorem ExP.q {n₀ NL NB : Nat} {L : List Ins} {Bs bl : List Blk} {u w w' : World} {e : Ending} (h : ExP n₀ (L, Bs) bl w e w') (h1 : L.length = NL) (h2 : (bl ++ Bs).length = NB) (hu : Below u.heap.size u w) : ExQ n₀ L (bl ++ Bs) NL NB u e w' := by
  obtain ⟨iv, bv, rfl, g1, g2, g3⟩ := h
  obtain ⟨iA, ic, rfl⟩ := g1.form
  obtain ⟨bA, bc, rfl⟩ := g2.form
  subst h1 h2
  exact ⟨iA, ic, bA, bc, rfl, g1, g2, hu.trans (g3.mono hu.size)⟩
def InsQ (L : List Ins) (N : Nat) (u : World) (e : Ending) (w' : World) : Prop := ∃ A c, e = .returned (.slice A N c) ∧ InsAt u.heap.size w' (.slice A N c) L ∧ Below u.heap.size u w'
theorem InsP.q {N : Nat} {L : List Ins} {u w w' : World} {e : Ending} (h : InsP L w e w') (h1 : L.length = N) (hu : Below u.heap.size u w) : InsQ L N u e w' := by
  obtain ⟨v, rfl, g1, g2⟩ := h
  obtain ⟨A, c, rfl⟩ := g1.form
  subst h1
  exact ⟨A, c, rfl, g1.low hu.size, hu.trans (g2.mono hu.size)⟩
theorem moved28_q (l : List Ins) (v : Value) (k B N : Nat) (u w : World) (h : InsAt B w v l) (hl : l.length ≤ 1000000) (hk : k ≤ 1000000) (hN : l.length = N) (hu : Below u.heap.size u w) : Calls Tryz.prog 138 #[v, .int .i64 k] w (InsQ (mv k l) N u) :=
  (moved28_any l v k B w h hl hk).mono fun _ _ h => h.q (by rw [mv_len, hN]) hu
theorem one28_q (op a b : Int) (nm : ByteArray) (u w : World) (hu : Below u.heap.size u w) : Calls Tryz.prog 61 #[.int .i64 op, .int .i64 a, .int .i64 b, .string nm] w (InsQ [⟨op, a, b, nm⟩] 1 u) :=
  (one28_any op a b nm w).mono fun _ _ h => h.q rfl hu
def WithQ (L : List ByteArray) (N : Nat) (u : World) (e : Ending) (w' : World) : Prop := ∃ A c, e = .returned (.slice A N c) ∧ SlS w' w'.heap.size A c L ∧ Below u.heap.size u w'
theorem with28_q (l m : List ByteArray) (A A2 : Option Addr) (c c2 n n2 N : Nat) (u w : World) (hu : Below u.heap.size u w) (h1 : SlS w w.heap.size A c l) (h2 : SlS w w.heap.size A2 c2 m) (hl : l.length + m.length ≤ 1000000) (e1 : l.length = n) (e2 : m.length = n2) (e3 : (l ++ m).length = N) :
    Calls Tryz.prog 137 #[.slice A n c, .slice A2 n2 c2] w (WithQ (l ++ m) N u) := by
  subst e1 e2 e3
  exact (with28_any l m A A2 c c2 w h1 h2 hl).mono fun _ _ ⟨A', c', he, h, hb⟩ => ⟨A', c', he, h, hu.trans (hb.mono hu.size)⟩
theorem slS_at {W : World} {g : Nat} {l : List ByteArray} (h : ∀ j s, l[j]? = some s → W.cell? ⟨g, j, none⟩ = some (.string s)) (hg : g < W.heap.size) (hl : l.length ≤ maxLen) : SlS W W.heap.size (some ⟨g, 0, none⟩) l.length l :=
  ⟨Nat.le_refl _, hl, fun _ => ⟨g, 0, rfl, hg, fun j s hj => by rw [Nat.zero_add]; exact h j s hj⟩⟩
theorem slS_one {W : World} {g : Nat} {n : ByteArray} (h : W.cell? ⟨g, 0, none⟩ = some (.string n)) (hg : g < W.heap.size) : SlS W W.heap.size (some ⟨g, 0, none⟩) 1 [n] :=
  slS_at (l := [n]) (fun j s hj => by
    cases j with
    | zero => simp at hj; subst hj; exact h
    | succ j => simp at hj) hg (by simp [maxLen])
theorem slS_two {W : World} {g : Nat} {n m : ByteArray} (h : W.cell? ⟨g, 0, none⟩ = some (.string n)) (h' : W.cell? ⟨g, 1, none⟩ = some (.string m)) (hg : g < W.heap.size) : SlS W W.heap.size (some ⟨g, 0, none⟩) 2 [n, m] :=
  slS_at (l := [n, m]) (fun j s hj => by
    match j, hj with
    | 0, hj => simp at hj; subst hj; exact h
    | 1, hj => simp at hj; subst hj; exact h'
    | j + 2, hj => simp at hj) hg (by simp [maxLen])
theorem balloc' {A X : World} {o : Obj} (h : Below A.heap.size A X) : Below A.heap.size A (X.alloc o) := h.alloc h.size o
/-- A part: its cells, and its call. -/
theorem ex_part (label : ByteArray) {s : Fo} {w : World} {A : Option Addr} {c : Nat} (hs : s.Sl w w.heap.size A c) (hk : s.Kn) (ih : s.All (ExOK label)) (j : Nat) (hj : j < s.len) (hct : s.count ≤ 100000) :
    ∃ (t : Tr) (b o : Nat), A = some ⟨b, o, none⟩ ∧ b < w.heap.size ∧ s.cnt j = 1 + t.s.count ∧ (s.rcomp label).getD j noR = t.rcomp label ∧ RLen (s.cnt j) (t.rcomp label) ∧
      ∀ X, Below w.heap.size w X → (X.cell? ⟨b, o + j * 6, none⟩ = some (.int .i64 t.k) ∧ X.cell? ⟨b, o + j * 6 + 1, none⟩ = some (.string t.n) ∧ X.cell? ⟨b, o + j * 6 + 2, none⟩ = some (.string t.m) ∧ X.cell? ⟨b, o + j * 6 + 3, none⟩ = some (.int .i64 t.i) ∧ X.cell? ⟨b, o + j * 6 + 4, none⟩ = some (.int .i64 t.d) ∧ X.cell? ⟨b, o + j * 6 + 5, none⟩ = some (.slice t.A t.s.len t.c)) ∧
        ∀ (vars : List ByteArray) (vA : Option Addr) (vc : Nat) (bl : List Blk) (bv : Value) (n₀ : Nat), SlS X X.heap.size vA vc vars → BkAt n₀ X bv bl → n₀ ≤ X.heap.size → vars.length + 2 * s.cnt j ≤ 1000000 → bl.length + s.cnt j ≤ 1000000 →
          Calls Tryz.prog 59 #[.agg #[.int .i64 t.k, .string t.n, .string t.m, .int .i64 t.i, .int .i64 t.d, .slice t.A t.s.len t.c], .string label, .slice vA vars.length vc, bv] X (ExP n₀ (t.rcomp label vars bl.length) bl X) := by
  obtain ⟨t, ht⟩ := s.tree_ex j hj
  obtain ⟨b, o, rfl, hb, hat⟩ := hs.2.2 (by intro e; subst e; simp [Fo.len] at hj)
  have hcn : s.cnt j = 1 + t.s.count := by simp [Fo.cnt, ht]
  have hcl : t.s.count ≤ s.count := Fo.tree_count ht
  refine ⟨t, b, o, rfl, hb, hcn, Fo.rcomp_tree label ht, by rw [← Fo.rcomp_tree label ht]; exact s.rcomp_len label j, fun X hX => ?_⟩
  have hat' : s.At X X.heap.size b o := hat.keep hX.size (fun p hp => hX.cell hp) hb
  obtain ⟨h0, h1, h2, h3, h4, h5, hsl⟩ := hat'.tree ht
  obtain ⟨k1, k2⟩ := hk.tree ht
  refine ⟨⟨h0, h1, h2, h3, h4, h5⟩, fun vars vA vc bl bv n₀ g1 g2 g3 g4 g5 => ?_⟩
  exact Fo.All.tree ih ht t.k t.n t.m t.i t.d t.A t.c vars vA vc bl bv n₀ X ⟨hsl, k1, k2, g1, g2, g3, by omega, by omega, by omega⟩
end Go.Proofs.YtlcfoiapkblheaaGreatDoor
/- ref28.expr: the kinds without parts (printed by gen_yxd.py) -/
namespace Go.Proofs.YtlcfoiapkblheaaGreatDoor
open Go.RowKit Go.Proofs Go.Shelf

set_option maxRecDepth 100000 in
set_option maxHeartbeats 2000000 in
theorem ex_simple (label : ByteArray) (s : Fo) (k : Int) (n m : ByteArray) (i d : Int) (A : Option Addr) (c : Nat) (vars : List ByteArray) (vA : Option Addr) (vc : Nat) (bl : List Blk) (bv : Value) (n₀ : Nat) (w : World) (h : ExIn s k A c vars vA vc bl bv n₀ w) (hk : k = 1 ∨ k = 2 ∨ k = 14 ∨ k = 11) : Calls Tryz.prog 59 #[.agg #[.int .i64 k, .string n, .string m, .int .i64 i, .int .i64 d, .slice A s.len c], .string label, .slice vA vars.length vc, bv] w (ExP n₀ (nodeR label k n m i d (s.rcomp label) vars bl.length) bl w) := by
  obtain ⟨hs, hkn, hks, hv, hb, hn, hvl, hbl, hct⟩ := h
  obtain ⟨bA, bc, rfl⟩ := hb.form
  obtain ⟨NB, HNB⟩ : ∃ q, Hid (bl.length = q) := ⟨_, Lib.hid rfl⟩
  obtain ⟨NV, HNV⟩ : ∃ q, Hid (vars.length = q) := ⟨_, Lib.hid rfl⟩
  have hcap : s.len ≤ 9223372036854775807 := by have := hs.1; have := hs.2.1; unfold maxLen at this; omega
  have hcp1 := hs.1
  have hcp2 := hs.2.1
  unfold maxLen at hcp2
  have hBL := hb.blocks.form
  rw [HNB.out] at hBL
  have hNB : NB ≤ 1000000 := by rw [← HNB.out]; omega
  clear hBL
  have HE : Hid (nodeR label k n m i d (s.rcomp label) vars bl.length = ([rSimple label k n i d vars], [])) := by rcases hk with rfl | rfl | rfl | rfl <;> rfl
  rw [HE.out, HNV.out, HNB.out]
  obtain ⟨W0, hW0⟩ : ∃ W0, w.alloc (.cells #[.int .i64 k, .string n, .string m, .int .i64 i, .int .i64 d, .slice A s.len c] 41) = W0 := ⟨_, rfl⟩
  have hzw : w.heap.size < W0.heap.size := by subst hW0; simp
  have hB0 : Below w.heap.size w W0 := by subst hW0; exact (Below.refl _ _).alloc (Nat.le_refl _) _
  have hx0 : W0.heap[w.heap.size]? = some (.cells #[.int .i64 k, .string n, .string m, .int .i64 i, .int .i64 d, .slice A s.len c] 41 (0, 0)) := by rw [← hW0]; exact heap_alloc_new w _
  have HC : Hid (∀ X, Below W0.heap.size W0 X → (Below w.heap.size w X ∧ w.heap.size < X.heap.size ∧ SlS X X.heap.size vA vc vars ∧ BkAt n₀ X (.slice bA bl.length bc) bl) ∧ (X.cell? ⟨w.heap.size, 0, none⟩ = some (.int .i64 k) ∧ X.cell? ⟨w.heap.size, 1, none⟩ = some (.string n) ∧ X.cell? ⟨w.heap.size, 2, none⟩ = some (.string m) ∧ X.cell? ⟨w.heap.size, 3, none⟩ = some (.int .i64 i) ∧ X.cell? ⟨w.heap.size, 4, none⟩ = some (.int .i64 d) ∧ X.cell? ⟨w.heap.size, 5, none⟩ = some (.slice A s.len c))) := fun X hX => by
    have h0 := (hX.block w.heap.size hzw).trans hx0
    have hb' := hB0.trans (hX.mono (Nat.le_of_lt hzw))
    exact ⟨⟨hb', Nat.lt_of_lt_of_le hzw hX.size, hv.keep hb'.size (fun p hp => hb'.cell hp), hb.below hb'⟩, cell_of_row X _ 0 _ _ (0, 0) h0, cell_of_row X _ 1 _ _ (0, 0) h0, cell_of_row X _ 2 _ _ (0, 0) h0, cell_of_row X _ 3 _ _ (0, 0) h0, cell_of_row X _ 4 _ _ (0, 0) h0, cell_of_row X _ 5 _ _ (0, 0) h0⟩
  obtain ⟨_, x0, x1, x2, x3, x4, x5⟩ := HC.out W0 (Below.refl _ _)
  obtain ⟨NL, HNL⟩ : ∃ q, Hid (s.len = q) := ⟨_, Lib.hid rfl⟩
  have HB := Lib.hid (And.intro hb hB0)
  clear hs hkn hks hv hb hB0 hx0 HC
  rcases hk with rfl | rfl | rfl | rfl
  all_goals (
    go_enter Tryz.func59, Tryz.ntmps59
    go_wp2_with fail
    with_reducible refine (one28_any _ _ _ _ _).mono ?_
    rintro e w1 ⟨v, rfl, hi, hb1⟩
    have HR := Lib.hid (ExP.mk (Bs := []) hi (by rw [List.append_nil]; exact HB.out.1) (HB.out.2.trans (hb1.mono (Nat.le_of_lt hzw))) (HB.out.2.trans (hb1.mono (Nat.le_of_lt hzw))))
    obtain ⟨vA', vc', rfl⟩ := hi.form
    rw [HNB.out] at HR
    clear hi hb1
    go_wp2
    go_ret2
    exact HR.out)
set_option maxRecDepth 100000 in
set_option maxHeartbeats 2000000 in
theorem ex_var (label : ByteArray) (s : Fo) (k : Int) (n m : ByteArray) (i d : Int) (A : Option Addr) (c : Nat) (vars : List ByteArray) (vA : Option Addr) (vc : Nat) (bl : List Blk) (bv : Value) (n₀ : Nat) (w : World) (h : ExIn s k A c vars vA vc bl bv n₀ w) (hk : k = 3) : Calls Tryz.prog 59 #[.agg #[.int .i64 k, .string n, .string m, .int .i64 i, .int .i64 d, .slice A s.len c], .string label, .slice vA vars.length vc, bv] w (ExP n₀ (nodeR label k n m i d (s.rcomp label) vars bl.length) bl w) := by
  subst hk
  obtain ⟨hs, hkn, hks, hv, hb, hn, hvl, hbl, hct⟩ := h
  obtain ⟨bA, bc, rfl⟩ := hb.form
  obtain ⟨NB, HNB⟩ : ∃ q, Hid (bl.length = q) := ⟨_, Lib.hid rfl⟩
  obtain ⟨NV, HNV⟩ : ∃ q, Hid (vars.length = q) := ⟨_, Lib.hid rfl⟩
  have hcap : s.len ≤ 9223372036854775807 := by have := hs.1; have := hs.2.1; unfold maxLen at this; omega
  have hcp1 := hs.1
  have hcp2 := hs.2.1
  unfold maxLen at hcp2
  have hBL := hb.blocks.form
  rw [HNB.out] at hBL
  have hNB : NB ≤ 1000000 := by rw [← HNB.out]; omega
  clear hBL
  have HE : Hid (nodeR label 3 n m i d (s.rcomp label) vars bl.length = ([⟨3, localN vars n, 0, ⟨#[]⟩⟩], [])) := Lib.hid rfl
  rw [HE.out, HNV.out, HNB.out]
  obtain ⟨W0, hW0⟩ : ∃ W0, w.alloc (.cells #[.int .i64 3, .string n, .string m, .int .i64 i, .int .i64 d, .slice A s.len c] 41) = W0 := ⟨_, rfl⟩
  have hzw : w.heap.size < W0.heap.size := by subst hW0; simp
  have hB0 : Below w.heap.size w W0 := by subst hW0; exact (Below.refl _ _).alloc (Nat.le_refl _) _
  have hx0 : W0.heap[w.heap.size]? = some (.cells #[.int .i64 3, .string n, .string m, .int .i64 i, .int .i64 d, .slice A s.len c] 41 (0, 0)) := by rw [← hW0]; exact heap_alloc_new w _
  have HC : Hid (∀ X, Below W0.heap.size W0 X → (Below w.heap.size w X ∧ w.heap.size < X.heap.size ∧ SlS X X.heap.size vA vc vars ∧ BkAt n₀ X (.slice bA bl.length bc) bl) ∧ (X.cell? ⟨w.heap.size, 0, none⟩ = some (.int .i64 3) ∧ X.cell? ⟨w.heap.size, 1, none⟩ = some (.string n) ∧ X.cell? ⟨w.heap.size, 2, none⟩ = some (.string m) ∧ X.cell? ⟨w.heap.size, 3, none⟩ = some (.int .i64 i) ∧ X.cell? ⟨w.heap.size, 4, none⟩ = some (.int .i64 d) ∧ X.cell? ⟨w.heap.size, 5, none⟩ = some (.slice A s.len c))) := fun X hX => by
    have h0 := (hX.block w.heap.size hzw).trans hx0
    have hb' := hB0.trans (hX.mono (Nat.le_of_lt hzw))
    exact ⟨⟨hb', Nat.lt_of_lt_of_le hzw hX.size, hv.keep hb'.size (fun p hp => hb'.cell hp), hb.below hb'⟩, cell_of_row X _ 0 _ _ (0, 0) h0, cell_of_row X _ 1 _ _ (0, 0) h0, cell_of_row X _ 2 _ _ (0, 0) h0, cell_of_row X _ 3 _ _ (0, 0) h0, cell_of_row X _ 4 _ _ (0, 0) h0, cell_of_row X _ 5 _ _ (0, 0) h0⟩
  obtain ⟨_, x0, x1, x2, x3, x4, x5⟩ := HC.out W0 (Below.refl _ _)
  have HV := Lib.hid (local28_any vars n vA vc W0 (hv.keep hB0.size fun p hp => hB0.cell hp))
  rw [HNV.out] at HV
  have HB := Lib.hid (And.intro hb hB0)
  clear hs hkn hks hv hb hB0 hx0 HC
  go_enter Tryz.func59, Tryz.ntmps59
  go_wp2_with fail
  refine HV.out.mono ?_
  rintro e w' ⟨rfl, rfl⟩
  go_wp2_with fail
  with_reducible refine (one28_any _ _ _ _ _).mono ?_
  rintro e w1 ⟨v, rfl, hi, hb1⟩
  have HR := Lib.hid (ExP.mk (Bs := []) hi (by rw [List.append_nil]; exact HB.out.1) (HB.out.2.trans (hb1.mono (Nat.le_of_lt hzw))) (HB.out.2.trans (hb1.mono (Nat.le_of_lt hzw))))
  obtain ⟨vA', vc', rfl⟩ := hi.form
  rw [HNB.out] at HR
  clear hi hb1
  go_wp2
  go_ret2
  exact HR.out
set_option maxRecDepth 100000 in
set_option maxHeartbeats 2000000 in
theorem ex_ref (label : ByteArray) (s : Fo) (k : Int) (n m : ByteArray) (i d : Int) (A : Option Addr) (c : Nat) (vars : List ByteArray) (vA : Option Addr) (vc : Nat) (bl : List Blk) (bv : Value) (n₀ : Nat) (w : World) (h : ExIn s k A c vars vA vc bl bv n₀ w) (hk : k = 5) : Calls Tryz.prog 59 #[.agg #[.int .i64 k, .string n, .string m, .int .i64 i, .int .i64 d, .slice A s.len c], .string label, .slice vA vars.length vc, bv] w (ExP n₀ (nodeR label k n m i d (s.rcomp label) vars bl.length) bl w) := by
  subst hk
  obtain ⟨hs, hkn, hks, hv, hb, hn, hvl, hbl, hct⟩ := h
  obtain ⟨bA, bc, rfl⟩ := hb.form
  obtain ⟨NB, HNB⟩ : ∃ q, Hid (bl.length = q) := ⟨_, Lib.hid rfl⟩
  obtain ⟨NV, HNV⟩ : ∃ q, Hid (vars.length = q) := ⟨_, Lib.hid rfl⟩
  have hcap : s.len ≤ 9223372036854775807 := by have := hs.1; have := hs.2.1; unfold maxLen at this; omega
  have hcp1 := hs.1
  have hcp2 := hs.2.1
  unfold maxLen at hcp2
  have hBL := hb.blocks.form
  rw [HNB.out] at hBL
  have hNB : NB ≤ 1000000 := by rw [← HNB.out]; omega
  clear hBL
  have HE : Hid (nodeR label 5 n m i d (s.rcomp label) vars bl.length = ([if n.toList.isEmpty = true then ⟨4, i, 0, label⟩ else ⟨4, i, 0, n⟩], [])) := Lib.hid rfl
  rw [HE.out, HNV.out, HNB.out]
  obtain ⟨W0, hW0⟩ : ∃ W0, w.alloc (.cells #[.int .i64 5, .string n, .string m, .int .i64 i, .int .i64 d, .slice A s.len c] 41) = W0 := ⟨_, rfl⟩
  have hzw : w.heap.size < W0.heap.size := by subst hW0; simp
  have hB0 : Below w.heap.size w W0 := by subst hW0; exact (Below.refl _ _).alloc (Nat.le_refl _) _
  have hx0 : W0.heap[w.heap.size]? = some (.cells #[.int .i64 5, .string n, .string m, .int .i64 i, .int .i64 d, .slice A s.len c] 41 (0, 0)) := by rw [← hW0]; exact heap_alloc_new w _
  have HC : Hid (∀ X, Below W0.heap.size W0 X → (Below w.heap.size w X ∧ w.heap.size < X.heap.size ∧ SlS X X.heap.size vA vc vars ∧ BkAt n₀ X (.slice bA bl.length bc) bl) ∧ (X.cell? ⟨w.heap.size, 0, none⟩ = some (.int .i64 5) ∧ X.cell? ⟨w.heap.size, 1, none⟩ = some (.string n) ∧ X.cell? ⟨w.heap.size, 2, none⟩ = some (.string m) ∧ X.cell? ⟨w.heap.size, 3, none⟩ = some (.int .i64 i) ∧ X.cell? ⟨w.heap.size, 4, none⟩ = some (.int .i64 d) ∧ X.cell? ⟨w.heap.size, 5, none⟩ = some (.slice A s.len c))) := fun X hX => by
    have h0 := (hX.block w.heap.size hzw).trans hx0
    have hb' := hB0.trans (hX.mono (Nat.le_of_lt hzw))
    exact ⟨⟨hb', Nat.lt_of_lt_of_le hzw hX.size, hv.keep hb'.size (fun p hp => hb'.cell hp), hb.below hb'⟩, cell_of_row X _ 0 _ _ (0, 0) h0, cell_of_row X _ 1 _ _ (0, 0) h0, cell_of_row X _ 2 _ _ (0, 0) h0, cell_of_row X _ 3 _ _ (0, 0) h0, cell_of_row X _ 4 _ _ (0, 0) h0, cell_of_row X _ 5 _ _ (0, 0) h0⟩
  obtain ⟨_, x0, x1, x2, x3, x4, x5⟩ := HC.out W0 (Below.refl _ _)
  have HB := Lib.hid (And.intro hb hB0)
  clear hs hkn hks hv hb hB0 hx0 HC
  cases hem : n.toList.isEmpty with
  | true =>
    have he2 : n.toList = [] := by simpa using hem
    rw [if_pos rfl]
    go_enter Tryz.func59, Tryz.ntmps59
    go_wp2_with fail
    with_reducible refine (one28_any _ _ _ _ _).mono ?_
    rintro e w1 ⟨v, rfl, hi, hb1⟩
    have HR := Lib.hid (ExP.mk (Bs := []) hi (by rw [List.append_nil]; exact HB.out.1) (HB.out.2.trans (hb1.mono (Nat.le_of_lt hzw))) (HB.out.2.trans (hb1.mono (Nat.le_of_lt hzw))))
    obtain ⟨vA', vc', rfl⟩ := hi.form
    rw [HNB.out] at HR
    clear hi hb1
    go_wp2
    go_ret2
    exact HR.out
  | false =>
    have he2 : (n.toList == []) = false := by simpa using hem
    rw [if_neg (by simp)]
    go_enter Tryz.func59, Tryz.ntmps59
    go_wp2_with fail
    with_reducible refine (one28_any _ _ _ _ _).mono ?_
    rintro e w1 ⟨v, rfl, hi, hb1⟩
    have HR := Lib.hid (ExP.mk (Bs := []) hi (by rw [List.append_nil]; exact HB.out.1) (HB.out.2.trans (hb1.mono (Nat.le_of_lt hzw))) (HB.out.2.trans (hb1.mono (Nat.le_of_lt hzw))))
    obtain ⟨vA', vc', rfl⟩ := hi.form
    rw [HNB.out] at HR
    clear hi hb1
    go_wp2
    go_ret2
    exact HR.out
end Go.Proofs.YtlcfoiapkblheaaGreatDoor
/- ref28.expr: the kinds with two parts (printed by gen_yxd.py) -/
namespace Go.Proofs.YtlcfoiapkblheaaGreatDoor
open Go.RowKit Go.Proofs Go.Shelf

set_option maxRecDepth 100000 in
set_option maxHeartbeats 4000000 in
theorem ex_call (label : ByteArray) (s : Fo) (ih : s.All (ExOK label)) (k : Int) (n m : ByteArray) (i d : Int) (A : Option Addr) (c : Nat) (vars : List ByteArray) (vA : Option Addr) (vc : Nat) (bl : List Blk) (bv : Value) (n₀ : Nat) (w : World) (h : ExIn s k A c vars vA vc bl bv n₀ w) (hk : k = 7) (hsl : s.len = 2) : Calls Tryz.prog 59 #[.agg #[.int .i64 k, .string n, .string m, .int .i64 i, .int .i64 d, .slice A s.len c], .string label, .slice vA vars.length vc, bv] w (ExP n₀ (nodeR label k n m i d (s.rcomp label) vars bl.length) bl w) := by
  subst hk
  obtain ⟨hs, hkn, hks, hv, hb, hn, hvl, hbl, hct⟩ := h
  obtain ⟨bA, bc, rfl⟩ := hb.form
  obtain ⟨NB, HNB⟩ : ∃ q, Hid (bl.length = q) := ⟨_, Lib.hid rfl⟩
  obtain ⟨NV, HNV⟩ : ∃ q, Hid (vars.length = q) := ⟨_, Lib.hid rfl⟩
  have hcap : s.len ≤ 9223372036854775807 := by have := hs.1; have := hs.2.1; unfold maxLen at this; omega
  have hcp1 := hs.1
  have hcp2 := hs.2.1
  unfold maxLen at hcp2
  have hBL := hb.blocks.form
  rw [HNB.out] at hBL
  have hNB : NB ≤ 1000000 := by rw [← HNB.out]; omega
  clear hBL
  obtain ⟨⟨t0k, t0n, t0m, t0i, t0d, t0A, t0c, t0s⟩, b0, o0, hA0, hb0, hc0, hr0, hl0, hp0⟩ := ex_part label hs hks ih 0 (by omega) hct
  subst hA0
  simp only at hc0 hr0 hl0 hp0
  obtain ⟨R0, HRR0⟩ : ∃ q, Hid (Tr.rcomp label ⟨t0k, t0n, t0m, t0i, t0d, t0A, t0c, t0s⟩ = q) := ⟨_, Lib.hid rfl⟩
  rw [HRR0.out] at hr0 hl0
  have HP0 : Hid (∀ X, Below w.heap.size w X → (X.cell? ⟨b0, o0, none⟩ = some (.int .i64 t0k) ∧ X.cell? ⟨b0, o0 + 1, none⟩ = some (.string t0n) ∧ X.cell? ⟨b0, o0 + 2, none⟩ = some (.string t0m) ∧ X.cell? ⟨b0, o0 + 3, none⟩ = some (.int .i64 t0i) ∧ X.cell? ⟨b0, o0 + 4, none⟩ = some (.int .i64 t0d) ∧ X.cell? ⟨b0, o0 + 5, none⟩ = some (.slice t0A t0s.len t0c)) ∧ ∀ (vars : List ByteArray) (vA : Option Addr) (vc : Nat) (bl : List Blk) (bv : Value) (n₀ : Nat), SlS X X.heap.size vA vc vars → BkAt n₀ X bv bl → n₀ ≤ X.heap.size → vars.length + 2 * s.cnt 0 ≤ 1000000 → bl.length + s.cnt 0 ≤ 1000000 →
      Calls Tryz.prog 59 #[.agg #[.int .i64 t0k, .string t0n, .string t0m, .int .i64 t0i, .int .i64 t0d, .slice t0A t0s.len t0c], .string label, .slice vA vars.length vc, bv] X (ExP n₀ (R0 vars bl.length) bl X)) := by
    rw [HRR0.out] at hp0
    exact Lib.hid hp0
  clear hp0 HRR0
  obtain ⟨⟨t1k, t1n, t1m, t1i, t1d, t1A, t1c, t1s⟩, b1, o1, hA1, hb1, hc1, hr1, hl1, hp1⟩ := ex_part label hs hks ih 1 (by omega) hct
  simp only [Option.some.injEq, Addr.mk.injEq, and_true] at hA1
  obtain ⟨rfl, rfl⟩ := hA1
  simp only at hc1 hr1 hl1 hp1
  obtain ⟨R1, HRR1⟩ : ∃ q, Hid (Tr.rcomp label ⟨t1k, t1n, t1m, t1i, t1d, t1A, t1c, t1s⟩ = q) := ⟨_, Lib.hid rfl⟩
  rw [HRR1.out] at hr1 hl1
  have HP1 : Hid (∀ X, Below w.heap.size w X → (X.cell? ⟨b0, o0 + 6, none⟩ = some (.int .i64 t1k) ∧ X.cell? ⟨b0, o0 + 7, none⟩ = some (.string t1n) ∧ X.cell? ⟨b0, o0 + 8, none⟩ = some (.string t1m) ∧ X.cell? ⟨b0, o0 + 9, none⟩ = some (.int .i64 t1i) ∧ X.cell? ⟨b0, o0 + 10, none⟩ = some (.int .i64 t1d) ∧ X.cell? ⟨b0, o0 + 11, none⟩ = some (.slice t1A t1s.len t1c)) ∧ ∀ (vars : List ByteArray) (vA : Option Addr) (vc : Nat) (bl : List Blk) (bv : Value) (n₀ : Nat), SlS X X.heap.size vA vc vars → BkAt n₀ X bv bl → n₀ ≤ X.heap.size → vars.length + 2 * s.cnt 1 ≤ 1000000 → bl.length + s.cnt 1 ≤ 1000000 →
      Calls Tryz.prog 59 #[.agg #[.int .i64 t1k, .string t1n, .string t1m, .int .i64 t1i, .int .i64 t1d, .slice t1A t1s.len t1c], .string label, .slice vA vars.length vc, bv] X (ExP n₀ (R1 vars bl.length) bl X)) := by
    rw [HRR1.out] at hp1
    exact Lib.hid hp1
  clear hp1 HRR1
  have c3 := s.cnt_two
  obtain ⟨⟨L0, B0⟩, HL0⟩ : ∃ q, Hid (R0 vars bl.length = q) := ⟨_, Lib.hid rfl⟩
  have hq0 := hl0 vars bl.length
  rw [HL0.out] at hq0
  obtain ⟨NL0, HNL0⟩ : ∃ q, Hid (L0.length = q) := ⟨_, Lib.hid rfl⟩
  simp only at hq0
  obtain ⟨⟨L1, B1⟩, HL1⟩ : ∃ q, Hid (R1 vars (bl ++ B0).length = q) := ⟨_, Lib.hid rfl⟩
  have hq1 := hl1 vars (bl ++ B0).length
  rw [HL1.out] at hq1
  obtain ⟨NL1, HNL1⟩ : ∃ q, Hid (L1.length = q) := ⟨_, Lib.hid rfl⟩
  simp only at hq1
  obtain ⟨N1, HN1⟩ : ∃ q, Hid ((bl ++ B0).length = q) := ⟨_, Lib.hid rfl⟩
  obtain ⟨N2, HN2⟩ : ∃ q, Hid ((bl ++ B0 ++ B1).length = q) := ⟨_, Lib.hid rfl⟩
  have HE : Hid (nodeR label 7 n m i d (s.rcomp label) vars bl.length = (joinL 0 [L0, L1, [⟨6, 0, 0, ⟨#[]⟩⟩]], B0 ++ B1)) := by
    have e : nodeR label 7 n m i d (s.rcomp label) vars bl.length = rTwo ((s.rcomp label).getD 0 noR) ((s.rcomp label).getD 1 noR) ⟨6, 0, 0, ⟨#[]⟩⟩ vars bl.length := rfl
    rw [e, hr0, hr1]
    unfold rTwo
    rw [HL0.out]
    simp only
    rw [← List.length_append, HL1.out]
    exact Lib.hid rfl
  rw [HE.out]
  obtain ⟨W0, hW0⟩ : ∃ W0, w.alloc (.cells #[.int .i64 7, .string n, .string m, .int .i64 i, .int .i64 d, .slice (some ⟨b0, o0, none⟩) 2 c] 41) = W0 := ⟨_, rfl⟩
  have hzw : w.heap.size < W0.heap.size := by subst hW0; simp
  have hB0 : Below w.heap.size w W0 := by subst hW0; exact (Below.refl _ _).alloc (Nat.le_refl _) _
  have hx0 : W0.heap[w.heap.size]? = some (.cells #[.int .i64 7, .string n, .string m, .int .i64 i, .int .i64 d, .slice (some ⟨b0, o0, none⟩) 2 c] 41 (0, 0)) := by rw [← hW0]; exact heap_alloc_new w _
  have HC : Hid (∀ X, Below W0.heap.size W0 X → (Below w.heap.size w X ∧ w.heap.size < X.heap.size ∧ SlS X X.heap.size vA vc vars ∧ BkAt n₀ X (.slice bA NB bc) bl) ∧ (X.cell? ⟨w.heap.size, 0, none⟩ = some (.int .i64 7) ∧ X.cell? ⟨w.heap.size, 1, none⟩ = some (.string n) ∧ X.cell? ⟨w.heap.size, 2, none⟩ = some (.string m) ∧ X.cell? ⟨w.heap.size, 3, none⟩ = some (.int .i64 i) ∧ X.cell? ⟨w.heap.size, 4, none⟩ = some (.int .i64 d) ∧ X.cell? ⟨w.heap.size, 5, none⟩ = some (.slice (some ⟨b0, o0, none⟩) 2 c))) := fun X hX => by
    have h0 := (hX.block w.heap.size hzw).trans hx0
    have hb' := hB0.trans (hX.mono (Nat.le_of_lt hzw))
    exact ⟨⟨hb', Nat.lt_of_lt_of_le hzw hX.size, hv.keep hb'.size (fun p hp => hb'.cell hp), by rw [← HNB.out]; exact hb.below hb'⟩, cell_of_row X _ 0 _ _ (0, 0) h0, cell_of_row X _ 1 _ _ (0, 0) h0, cell_of_row X _ 2 _ _ (0, 0) h0, cell_of_row X _ 3 _ _ (0, 0) h0, cell_of_row X _ 4 _ _ (0, 0) h0, cell_of_row X _ 5 _ _ (0, 0) h0⟩
  have HK0 : Hid (∀ (u X : World) (vA' : Option Addr) (vc' : Nat) (bA' : Option Addr) (bc' : Nat), Below W0.heap.size W0 X → Below u.heap.size u X → SlS X X.heap.size vA' vc' (vars) → BkAt n₀ X (.slice bA' NB bc') (bl) →
      Calls Tryz.prog 59 #[.agg #[.int .i64 t0k, .string t0n, .string t0m, .int .i64 t0i, .int .i64 t0d, .slice t0A t0s.len t0c], .string label, .slice vA' NV vc', .slice bA' NB bc'] X (ExQ n₀ L0 (bl ++ B0) NL0 N1 u)) := fun u X vA' vc' bA' bc' hX hu hv' hb' => by
    have h := (HP0.out X (HC.out X hX).1.1).2 (vars) vA' vc' (bl) (.slice bA' NB bc') n₀ hv' hb' (Nat.le_trans hn (HC.out X hX).1.1.size) (by (try simp only [List.length_append, List.length_cons, List.length_nil]); omega) (by (try simp only [List.length_append]); omega)
    rw [HL0.out, HNV.out] at h
    exact h.mono fun _ _ h => h.q HNL0.out HN1.out hu
  have HK1 : Hid (∀ (u X : World) (vA' : Option Addr) (vc' : Nat) (bA' : Option Addr) (bc' : Nat), Below W0.heap.size W0 X → Below u.heap.size u X → SlS X X.heap.size vA' vc' (vars) → BkAt n₀ X (.slice bA' N1 bc') (bl ++ B0) →
      Calls Tryz.prog 59 #[.agg #[.int .i64 t1k, .string t1n, .string t1m, .int .i64 t1i, .int .i64 t1d, .slice t1A t1s.len t1c], .string label, .slice vA' NV vc', .slice bA' N1 bc'] X (ExQ n₀ L1 (bl ++ B0 ++ B1) NL1 N2 u)) := fun u X vA' vc' bA' bc' hX hu hv' hb' => by
    have h := (HP1.out X (HC.out X hX).1.1).2 (vars) vA' vc' (bl ++ B0) (.slice bA' N1 bc') n₀ hv' hb' (Nat.le_trans hn (HC.out X hX).1.1.size) (by (try simp only [List.length_append, List.length_cons, List.length_nil]); omega) (by (try simp only [List.length_append]); omega)
    rw [HL1.out, HNV.out] at h
    exact h.mono fun _ _ h => h.q HNL1.out HN2.out hu
  rw [HNV.out, HNB.out]
  have hsum : NL0 + (NL1 + (1 + 0)) ≤ 1000000 := by rw [← HNL0.out, ← HNL1.out]; omega
  rw [hsl] at hcp1 hcap ⊢
  clear hs hkn hks hv hb hx0 hr0 hr1 hl0 hl1 hsl HE
  go_enter Tryz.func59, Tryz.ntmps59
  obtain ⟨_, x0, x1, x2, x3, x4, x5⟩ := HC.out W0 (Below.refl _ _)
  obtain ⟨⟨p0a, p0b, p0c, p0d, p0e, p0f⟩, _⟩ := HP0.out W0 (HC.out W0 (Below.refl _ _)).1.1
  go_wp2_with fail
  refine (HK0.out W0 W0 vA vc bA bc (Below.refl _ _) (Below.refl _ _) (HC.out W0 (Below.refl _ _)).1.2.2.1 (HC.out W0 (Below.refl _ _)).1.2.2.2).mono ?_
  rintro e w1 ⟨iA0, ic0, bA0, bc0, rfl, hi0, hbk0, hB0_⟩
  clear x0 x1 x2 x3 x4 x5 p0a p0b p0c p0d p0e p0f
  have HW1 := Lib.hid (And.intro hB0_ (And.intro hi0 hbk0))
  clear hi0 hbk0 hB0_ hW0
  obtain ⟨_, x0, x1, x2, x3, x4, x5⟩ := HC.out w1 HW1.out.1
  obtain ⟨⟨p1a, p1b, p1c, p1d, p1e, p1f⟩, _⟩ := HP1.out w1 (HC.out w1 HW1.out.1).1.1
  go_wp2_with fail
  refine (HK1.out w1 w1 vA vc bA0 bc0 HW1.out.1 (Below.refl _ _) (HC.out w1 HW1.out.1).1.2.2.1 HW1.out.2.2).mono ?_
  rintro e w2 ⟨iA1, ic1, bA1, bc1, rfl, hi1, hbk1, hB1⟩
  clear x0 x1 x2 x3 x4 x5 p1a p1b p1c p1d p1e p1f
  have HW2 := Lib.hid (And.intro (HW1.out.1.trans (hB1.mono HW1.out.1.size)) (And.intro hi1 (And.intro hbk1 (HW1.out.2.1.below hB1))))
  clear hi1 hbk1 hB1
  obtain ⟨_, x0, x1, x2, x3, x4, x5⟩ := HC.out w2 HW2.out.1
  go_wp2_with fail
  with_reducible refine (one28_q _ _ _ _ w2 _ (Below.refl _ _)).mono ?_
  rintro e w3 ⟨oA, oc, rfl, ho, hB3⟩
  obtain ⟨W4, hW4⟩ : ∃ W4, w3.alloc (.cells #[.slice iA0 NL0 ic0, .slice iA1 NL1 ic1, .slice oA 1 oc] 50) = W4 := ⟨_, rfl⟩
  have hB4 : Below w3.heap.size w3 W4 := by rw [← hW4]; exact (Below.refl _ _).alloc (Nat.le_refl _) _
  have hz4 : w3.heap.size < W4.heap.size := by rw [← hW4]; simp
  have hx4 : W4.heap[w3.heap.size]? = some (.cells #[.slice iA0 NL0 ic0, .slice iA1 NL1 ic1, .slice oA 1 oc] 50 (0, 0)) := by rw [← hW4]; exact heap_alloc_new w3 _
  have hB24 := hB3.trans (hB4.mono hB3.size)
  obtain ⟨NR, HNR⟩ : ∃ q, Hid ((joinL 0 [L0, L1, [⟨6, 0, 0, ⟨#[]⟩⟩]]).length = q) := ⟨_, Lib.hid rfl⟩
  have HJ := Lib.hid (join28_any [(.slice iA0 NL0 ic0, L0), (.slice iA1 NL1 ic1, L1), (.slice oA 1 oc, [⟨6, 0, 0, ⟨#[]⟩⟩])] 0 w3.heap.size 3 W4 hz4 (by simp) (by omega)
    (ins_row (t := 50) hx4 (by
      intro x hx
      simp only [List.mem_cons, List.not_mem_nil, or_false] at hx
      rcases hx with rfl | rfl | rfl
      · exact HW2.out.2.2.2.below hB24
      · exact HW2.out.2.1.below hB24
      · exact (ho.below hB4).low (Nat.zero_le _))) (by simp only [List.map_cons, List.map_nil, List.sum_cons, List.sum_nil, HNL0.out, HNL1.out, List.length_singleton]; exact hsum))
  have HB4 := Lib.hid hB24
  clear ho hB3 hB4 hx4 hB24 x0 x1 x2 x3 x4 x5
  go_wp2_with fail
  refine HJ.out.mono ?_
  rintro e w5 h5
  obtain ⟨rA, rc, rfl, hr, hB5⟩ := InsP.q (N := NR) (L := joinL 0 [L0, L1, [⟨6, 0, 0, ⟨#[]⟩⟩]]) (u := w2) h5 HNR.out HB4.out
  have HR := Lib.hid (ExP.mk (Bs := B0 ++ B1) (bl := bl) (w := w) (n₀ := n₀) hr (by rw [← List.append_assoc]; exact HW2.out.2.2.1) hB5 ((HC.out w2 HW2.out.1).1.1.trans (hB5.mono (HC.out w2 HW2.out.1).1.1.size)))
  clear h5 hr hB5 hW4
  go_wp2
  go_ret2
  exact HR.out
set_option maxRecDepth 100000 in
set_option maxHeartbeats 4000000 in
theorem ex_cons (label : ByteArray) (s : Fo) (ih : s.All (ExOK label)) (k : Int) (n m : ByteArray) (i d : Int) (A : Option Addr) (c : Nat) (vars : List ByteArray) (vA : Option Addr) (vc : Nat) (bl : List Blk) (bv : Value) (n₀ : Nat) (w : World) (h : ExIn s k A c vars vA vc bl bv n₀ w) (hk : k = 12) (hsl : s.len = 2) : Calls Tryz.prog 59 #[.agg #[.int .i64 k, .string n, .string m, .int .i64 i, .int .i64 d, .slice A s.len c], .string label, .slice vA vars.length vc, bv] w (ExP n₀ (nodeR label k n m i d (s.rcomp label) vars bl.length) bl w) := by
  subst hk
  obtain ⟨hs, hkn, hks, hv, hb, hn, hvl, hbl, hct⟩ := h
  obtain ⟨bA, bc, rfl⟩ := hb.form
  obtain ⟨NB, HNB⟩ : ∃ q, Hid (bl.length = q) := ⟨_, Lib.hid rfl⟩
  obtain ⟨NV, HNV⟩ : ∃ q, Hid (vars.length = q) := ⟨_, Lib.hid rfl⟩
  have hcap : s.len ≤ 9223372036854775807 := by have := hs.1; have := hs.2.1; unfold maxLen at this; omega
  have hcp1 := hs.1
  have hcp2 := hs.2.1
  unfold maxLen at hcp2
  have hBL := hb.blocks.form
  rw [HNB.out] at hBL
  have hNB : NB ≤ 1000000 := by rw [← HNB.out]; omega
  clear hBL
  obtain ⟨⟨t0k, t0n, t0m, t0i, t0d, t0A, t0c, t0s⟩, b0, o0, hA0, hb0, hc0, hr0, hl0, hp0⟩ := ex_part label hs hks ih 0 (by omega) hct
  subst hA0
  simp only at hc0 hr0 hl0 hp0
  obtain ⟨R0, HRR0⟩ : ∃ q, Hid (Tr.rcomp label ⟨t0k, t0n, t0m, t0i, t0d, t0A, t0c, t0s⟩ = q) := ⟨_, Lib.hid rfl⟩
  rw [HRR0.out] at hr0 hl0
  have HP0 : Hid (∀ X, Below w.heap.size w X → (X.cell? ⟨b0, o0, none⟩ = some (.int .i64 t0k) ∧ X.cell? ⟨b0, o0 + 1, none⟩ = some (.string t0n) ∧ X.cell? ⟨b0, o0 + 2, none⟩ = some (.string t0m) ∧ X.cell? ⟨b0, o0 + 3, none⟩ = some (.int .i64 t0i) ∧ X.cell? ⟨b0, o0 + 4, none⟩ = some (.int .i64 t0d) ∧ X.cell? ⟨b0, o0 + 5, none⟩ = some (.slice t0A t0s.len t0c)) ∧ ∀ (vars : List ByteArray) (vA : Option Addr) (vc : Nat) (bl : List Blk) (bv : Value) (n₀ : Nat), SlS X X.heap.size vA vc vars → BkAt n₀ X bv bl → n₀ ≤ X.heap.size → vars.length + 2 * s.cnt 0 ≤ 1000000 → bl.length + s.cnt 0 ≤ 1000000 →
      Calls Tryz.prog 59 #[.agg #[.int .i64 t0k, .string t0n, .string t0m, .int .i64 t0i, .int .i64 t0d, .slice t0A t0s.len t0c], .string label, .slice vA vars.length vc, bv] X (ExP n₀ (R0 vars bl.length) bl X)) := by
    rw [HRR0.out] at hp0
    exact Lib.hid hp0
  clear hp0 HRR0
  obtain ⟨⟨t1k, t1n, t1m, t1i, t1d, t1A, t1c, t1s⟩, b1, o1, hA1, hb1, hc1, hr1, hl1, hp1⟩ := ex_part label hs hks ih 1 (by omega) hct
  simp only [Option.some.injEq, Addr.mk.injEq, and_true] at hA1
  obtain ⟨rfl, rfl⟩ := hA1
  simp only at hc1 hr1 hl1 hp1
  obtain ⟨R1, HRR1⟩ : ∃ q, Hid (Tr.rcomp label ⟨t1k, t1n, t1m, t1i, t1d, t1A, t1c, t1s⟩ = q) := ⟨_, Lib.hid rfl⟩
  rw [HRR1.out] at hr1 hl1
  have HP1 : Hid (∀ X, Below w.heap.size w X → (X.cell? ⟨b0, o0 + 6, none⟩ = some (.int .i64 t1k) ∧ X.cell? ⟨b0, o0 + 7, none⟩ = some (.string t1n) ∧ X.cell? ⟨b0, o0 + 8, none⟩ = some (.string t1m) ∧ X.cell? ⟨b0, o0 + 9, none⟩ = some (.int .i64 t1i) ∧ X.cell? ⟨b0, o0 + 10, none⟩ = some (.int .i64 t1d) ∧ X.cell? ⟨b0, o0 + 11, none⟩ = some (.slice t1A t1s.len t1c)) ∧ ∀ (vars : List ByteArray) (vA : Option Addr) (vc : Nat) (bl : List Blk) (bv : Value) (n₀ : Nat), SlS X X.heap.size vA vc vars → BkAt n₀ X bv bl → n₀ ≤ X.heap.size → vars.length + 2 * s.cnt 1 ≤ 1000000 → bl.length + s.cnt 1 ≤ 1000000 →
      Calls Tryz.prog 59 #[.agg #[.int .i64 t1k, .string t1n, .string t1m, .int .i64 t1i, .int .i64 t1d, .slice t1A t1s.len t1c], .string label, .slice vA vars.length vc, bv] X (ExP n₀ (R1 vars bl.length) bl X)) := by
    rw [HRR1.out] at hp1
    exact Lib.hid hp1
  clear hp1 HRR1
  have c3 := s.cnt_two
  obtain ⟨⟨L0, B0⟩, HL0⟩ : ∃ q, Hid (R0 vars bl.length = q) := ⟨_, Lib.hid rfl⟩
  have hq0 := hl0 vars bl.length
  rw [HL0.out] at hq0
  obtain ⟨NL0, HNL0⟩ : ∃ q, Hid (L0.length = q) := ⟨_, Lib.hid rfl⟩
  simp only at hq0
  obtain ⟨⟨L1, B1⟩, HL1⟩ : ∃ q, Hid (R1 vars (bl ++ B0).length = q) := ⟨_, Lib.hid rfl⟩
  have hq1 := hl1 vars (bl ++ B0).length
  rw [HL1.out] at hq1
  obtain ⟨NL1, HNL1⟩ : ∃ q, Hid (L1.length = q) := ⟨_, Lib.hid rfl⟩
  simp only at hq1
  obtain ⟨N1, HN1⟩ : ∃ q, Hid ((bl ++ B0).length = q) := ⟨_, Lib.hid rfl⟩
  obtain ⟨N2, HN2⟩ : ∃ q, Hid ((bl ++ B0 ++ B1).length = q) := ⟨_, Lib.hid rfl⟩
  have HE : Hid (nodeR label 12 n m i d (s.rcomp label) vars bl.length = (joinL 0 [L0, L1, [⟨12, 0, 0, ⟨#[]⟩⟩]], B0 ++ B1)) := by
    have e : nodeR label 12 n m i d (s.rcomp label) vars bl.length = rTwo ((s.rcomp label).getD 0 noR) ((s.rcomp label).getD 1 noR) ⟨12, 0, 0, ⟨#[]⟩⟩ vars bl.length := rfl
    rw [e, hr0, hr1]
    unfold rTwo
    rw [HL0.out]
    simp only
    rw [← List.length_append, HL1.out]
    exact Lib.hid rfl
  rw [HE.out]
  obtain ⟨W0, hW0⟩ : ∃ W0, w.alloc (.cells #[.int .i64 12, .string n, .string m, .int .i64 i, .int .i64 d, .slice (some ⟨b0, o0, none⟩) 2 c] 41) = W0 := ⟨_, rfl⟩
  have hzw : w.heap.size < W0.heap.size := by subst hW0; simp
  have hB0 : Below w.heap.size w W0 := by subst hW0; exact (Below.refl _ _).alloc (Nat.le_refl _) _
  have hx0 : W0.heap[w.heap.size]? = some (.cells #[.int .i64 12, .string n, .string m, .int .i64 i, .int .i64 d, .slice (some ⟨b0, o0, none⟩) 2 c] 41 (0, 0)) := by rw [← hW0]; exact heap_alloc_new w _
  have HC : Hid (∀ X, Below W0.heap.size W0 X → (Below w.heap.size w X ∧ w.heap.size < X.heap.size ∧ SlS X X.heap.size vA vc vars ∧ BkAt n₀ X (.slice bA NB bc) bl) ∧ (X.cell? ⟨w.heap.size, 0, none⟩ = some (.int .i64 12) ∧ X.cell? ⟨w.heap.size, 1, none⟩ = some (.string n) ∧ X.cell? ⟨w.heap.size, 2, none⟩ = some (.string m) ∧ X.cell? ⟨w.heap.size, 3, none⟩ = some (.int .i64 i) ∧ X.cell? ⟨w.heap.size, 4, none⟩ = some (.int .i64 d) ∧ X.cell? ⟨w.heap.size, 5, none⟩ = some (.slice (some ⟨b0, o0, none⟩) 2 c))) := fun X hX => by
    have h0 := (hX.block w.heap.size hzw).trans hx0
    have hb' := hB0.trans (hX.mono (Nat.le_of_lt hzw))
    exact ⟨⟨hb', Nat.lt_of_lt_of_le hzw hX.size, hv.keep hb'.size (fun p hp => hb'.cell hp), by rw [← HNB.out]; exact hb.below hb'⟩, cell_of_row X _ 0 _ _ (0, 0) h0, cell_of_row X _ 1 _ _ (0, 0) h0, cell_of_row X _ 2 _ _ (0, 0) h0, cell_of_row X _ 3 _ _ (0, 0) h0, cell_of_row X _ 4 _ _ (0, 0) h0, cell_of_row X _ 5 _ _ (0, 0) h0⟩
  have HK0 : Hid (∀ (u X : World) (vA' : Option Addr) (vc' : Nat) (bA' : Option Addr) (bc' : Nat), Below W0.heap.size W0 X → Below u.heap.size u X → SlS X X.heap.size vA' vc' (vars) → BkAt n₀ X (.slice bA' NB bc') (bl) →
      Calls Tryz.prog 59 #[.agg #[.int .i64 t0k, .string t0n, .string t0m, .int .i64 t0i, .int .i64 t0d, .slice t0A t0s.len t0c], .string label, .slice vA' NV vc', .slice bA' NB bc'] X (ExQ n₀ L0 (bl ++ B0) NL0 N1 u)) := fun u X vA' vc' bA' bc' hX hu hv' hb' => by
    have h := (HP0.out X (HC.out X hX).1.1).2 (vars) vA' vc' (bl) (.slice bA' NB bc') n₀ hv' hb' (Nat.le_trans hn (HC.out X hX).1.1.size) (by (try simp only [List.length_append, List.length_cons, List.length_nil]); omega) (by (try simp only [List.length_append]); omega)
    rw [HL0.out, HNV.out] at h
    exact h.mono fun _ _ h => h.q HNL0.out HN1.out hu
  have HK1 : Hid (∀ (u X : World) (vA' : Option Addr) (vc' : Nat) (bA' : Option Addr) (bc' : Nat), Below W0.heap.size W0 X → Below u.heap.size u X → SlS X X.heap.size vA' vc' (vars) → BkAt n₀ X (.slice bA' N1 bc') (bl ++ B0) →
      Calls Tryz.prog 59 #[.agg #[.int .i64 t1k, .string t1n, .string t1m, .int .i64 t1i, .int .i64 t1d, .slice t1A t1s.len t1c], .string label, .slice vA' NV vc', .slice bA' N1 bc'] X (ExQ n₀ L1 (bl ++ B0 ++ B1) NL1 N2 u)) := fun u X vA' vc' bA' bc' hX hu hv' hb' => by
    have h := (HP1.out X (HC.out X hX).1.1).2 (vars) vA' vc' (bl ++ B0) (.slice bA' N1 bc') n₀ hv' hb' (Nat.le_trans hn (HC.out X hX).1.1.size) (by (try simp only [List.length_append, List.length_cons, List.length_nil]); omega) (by (try simp only [List.length_append]); omega)
    rw [HL1.out, HNV.out] at h
    exact h.mono fun _ _ h => h.q HNL1.out HN2.out hu
  rw [HNV.out, HNB.out]
  have hsum : NL0 + (NL1 + (1 + 0)) ≤ 1000000 := by rw [← HNL0.out, ← HNL1.out]; omega
  rw [hsl] at hcp1 hcap ⊢
  clear hs hkn hks hv hb hx0 hr0 hr1 hl0 hl1 hsl HE
  go_enter Tryz.func59, Tryz.ntmps59
  obtain ⟨_, x0, x1, x2, x3, x4, x5⟩ := HC.out W0 (Below.refl _ _)
  obtain ⟨⟨p0a, p0b, p0c, p0d, p0e, p0f⟩, _⟩ := HP0.out W0 (HC.out W0 (Below.refl _ _)).1.1
  go_wp2_with fail
  refine (HK0.out W0 W0 vA vc bA bc (Below.refl _ _) (Below.refl _ _) (HC.out W0 (Below.refl _ _)).1.2.2.1 (HC.out W0 (Below.refl _ _)).1.2.2.2).mono ?_
  rintro e w1 ⟨iA0, ic0, bA0, bc0, rfl, hi0, hbk0, hB0_⟩
  clear x0 x1 x2 x3 x4 x5 p0a p0b p0c p0d p0e p0f
  have HW1 := Lib.hid (And.intro hB0_ (And.intro hi0 hbk0))
  clear hi0 hbk0 hB0_ hW0
  obtain ⟨_, x0, x1, x2, x3, x4, x5⟩ := HC.out w1 HW1.out.1
  obtain ⟨⟨p1a, p1b, p1c, p1d, p1e, p1f⟩, _⟩ := HP1.out w1 (HC.out w1 HW1.out.1).1.1
  go_wp2_with fail
  refine (HK1.out w1 w1 vA vc bA0 bc0 HW1.out.1 (Below.refl _ _) (HC.out w1 HW1.out.1).1.2.2.1 HW1.out.2.2).mono ?_
  rintro e w2 ⟨iA1, ic1, bA1, bc1, rfl, hi1, hbk1, hB1⟩
  clear x0 x1 x2 x3 x4 x5 p1a p1b p1c p1d p1e p1f
  have HW2 := Lib.hid (And.intro (HW1.out.1.trans (hB1.mono HW1.out.1.size)) (And.intro hi1 (And.intro hbk1 (HW1.out.2.1.below hB1))))
  clear hi1 hbk1 hB1
  obtain ⟨_, x0, x1, x2, x3, x4, x5⟩ := HC.out w2 HW2.out.1
  go_wp2_with fail
  with_reducible refine (one28_q _ _ _ _ w2 _ (Below.refl _ _)).mono ?_
  rintro e w3 ⟨oA, oc, rfl, ho, hB3⟩
  obtain ⟨W4, hW4⟩ : ∃ W4, w3.alloc (.cells #[.slice iA0 NL0 ic0, .slice iA1 NL1 ic1, .slice oA 1 oc] 50) = W4 := ⟨_, rfl⟩
  have hB4 : Below w3.heap.size w3 W4 := by rw [← hW4]; exact (Below.refl _ _).alloc (Nat.le_refl _) _
  have hz4 : w3.heap.size < W4.heap.size := by rw [← hW4]; simp
  have hx4 : W4.heap[w3.heap.size]? = some (.cells #[.slice iA0 NL0 ic0, .slice iA1 NL1 ic1, .slice oA 1 oc] 50 (0, 0)) := by rw [← hW4]; exact heap_alloc_new w3 _
  have hB24 := hB3.trans (hB4.mono hB3.size)
  obtain ⟨NR, HNR⟩ : ∃ q, Hid ((joinL 0 [L0, L1, [⟨12, 0, 0, ⟨#[]⟩⟩]]).length = q) := ⟨_, Lib.hid rfl⟩
  have HJ := Lib.hid (join28_any [(.slice iA0 NL0 ic0, L0), (.slice iA1 NL1 ic1, L1), (.slice oA 1 oc, [⟨12, 0, 0, ⟨#[]⟩⟩])] 0 w3.heap.size 3 W4 hz4 (by simp) (by omega)
    (ins_row (t := 50) hx4 (by
      intro x hx
      simp only [List.mem_cons, List.not_mem_nil, or_false] at hx
      rcases hx with rfl | rfl | rfl
      · exact HW2.out.2.2.2.below hB24
      · exact HW2.out.2.1.below hB24
      · exact (ho.below hB4).low (Nat.zero_le _))) (by simp only [List.map_cons, List.map_nil, List.sum_cons, List.sum_nil, HNL0.out, HNL1.out, List.length_singleton]; exact hsum))
  have HB4 := Lib.hid hB24
  clear ho hB3 hB4 hx4 hB24 x0 x1 x2 x3 x4 x5
  go_wp2_with fail
  refine HJ.out.mono ?_
  rintro e w5 h5
  obtain ⟨rA, rc, rfl, hr, hB5⟩ := InsP.q (N := NR) (L := joinL 0 [L0, L1, [⟨12, 0, 0, ⟨#[]⟩⟩]]) (u := w2) h5 HNR.out HB4.out
  have HR := Lib.hid (ExP.mk (Bs := B0 ++ B1) (bl := bl) (w := w) (n₀ := n₀) hr (by rw [← List.append_assoc]; exact HW2.out.2.2.1) hB5 ((HC.out w2 HW2.out.1).1.1.trans (hB5.mono (HC.out w2 HW2.out.1).1.1.size)))
  clear h5 hr hB5 hW4
  go_wp2
  go_ret2
  exact HR.out
set_option maxRecDepth 100000 in
set_option maxHeartbeats 4000000 in
theorem ex_op (label : ByteArray) (s : Fo) (ih : s.All (ExOK label)) (k : Int) (n m : ByteArray) (i d : Int) (A : Option Addr) (c : Nat) (vars : List ByteArray) (vA : Option Addr) (vc : Nat) (bl : List Blk) (bv : Value) (n₀ : Nat) (w : World) (h : ExIn s k A c vars vA vc bl bv n₀ w) (hk : k = 10) (hsl : s.len = 2) : Calls Tryz.prog 59 #[.agg #[.int .i64 k, .string n, .string m, .int .i64 i, .int .i64 d, .slice A s.len c], .string label, .slice vA vars.length vc, bv] w (ExP n₀ (nodeR label k n m i d (s.rcomp label) vars bl.length) bl w) := by
  subst hk
  obtain ⟨hs, hkn, hks, hv, hb, hn, hvl, hbl, hct⟩ := h
  obtain ⟨bA, bc, rfl⟩ := hb.form
  obtain ⟨NB, HNB⟩ : ∃ q, Hid (bl.length = q) := ⟨_, Lib.hid rfl⟩
  obtain ⟨NV, HNV⟩ : ∃ q, Hid (vars.length = q) := ⟨_, Lib.hid rfl⟩
  have hcap : s.len ≤ 9223372036854775807 := by have := hs.1; have := hs.2.1; unfold maxLen at this; omega
  have hcp1 := hs.1
  have hcp2 := hs.2.1
  unfold maxLen at hcp2
  have hBL := hb.blocks.form
  rw [HNB.out] at hBL
  have hNB : NB ≤ 1000000 := by rw [← HNB.out]; omega
  clear hBL
  obtain ⟨⟨t0k, t0n, t0m, t0i, t0d, t0A, t0c, t0s⟩, b0, o0, hA0, hb0, hc0, hr0, hl0, hp0⟩ := ex_part label hs hks ih 0 (by omega) hct
  subst hA0
  simp only at hc0 hr0 hl0 hp0
  obtain ⟨R0, HRR0⟩ : ∃ q, Hid (Tr.rcomp label ⟨t0k, t0n, t0m, t0i, t0d, t0A, t0c, t0s⟩ = q) := ⟨_, Lib.hid rfl⟩
  rw [HRR0.out] at hr0 hl0
  have HP0 : Hid (∀ X, Below w.heap.size w X → (X.cell? ⟨b0, o0, none⟩ = some (.int .i64 t0k) ∧ X.cell? ⟨b0, o0 + 1, none⟩ = some (.string t0n) ∧ X.cell? ⟨b0, o0 + 2, none⟩ = some (.string t0m) ∧ X.cell? ⟨b0, o0 + 3, none⟩ = some (.int .i64 t0i) ∧ X.cell? ⟨b0, o0 + 4, none⟩ = some (.int .i64 t0d) ∧ X.cell? ⟨b0, o0 + 5, none⟩ = some (.slice t0A t0s.len t0c)) ∧ ∀ (vars : List ByteArray) (vA : Option Addr) (vc : Nat) (bl : List Blk) (bv : Value) (n₀ : Nat), SlS X X.heap.size vA vc vars → BkAt n₀ X bv bl → n₀ ≤ X.heap.size → vars.length + 2 * s.cnt 0 ≤ 1000000 → bl.length + s.cnt 0 ≤ 1000000 →
      Calls Tryz.prog 59 #[.agg #[.int .i64 t0k, .string t0n, .string t0m, .int .i64 t0i, .int .i64 t0d, .slice t0A t0s.len t0c], .string label, .slice vA vars.length vc, bv] X (ExP n₀ (R0 vars bl.length) bl X)) := by
    rw [HRR0.out] at hp0
    exact Lib.hid hp0
  clear hp0 HRR0
  obtain ⟨⟨t1k, t1n, t1m, t1i, t1d, t1A, t1c, t1s⟩, b1, o1, hA1, hb1, hc1, hr1, hl1, hp1⟩ := ex_part label hs hks ih 1 (by omega) hct
  simp only [Option.some.injEq, Addr.mk.injEq, and_true] at hA1
  obtain ⟨rfl, rfl⟩ := hA1
  simp only at hc1 hr1 hl1 hp1
  obtain ⟨R1, HRR1⟩ : ∃ q, Hid (Tr.rcomp label ⟨t1k, t1n, t1m, t1i, t1d, t1A, t1c, t1s⟩ = q) := ⟨_, Lib.hid rfl⟩
  rw [HRR1.out] at hr1 hl1
  have HP1 : Hid (∀ X, Below w.heap.size w X → (X.cell? ⟨b0, o0 + 6, none⟩ = some (.int .i64 t1k) ∧ X.cell? ⟨b0, o0 + 7, none⟩ = some (.string t1n) ∧ X.cell? ⟨b0, o0 + 8, none⟩ = some (.string t1m) ∧ X.cell? ⟨b0, o0 + 9, none⟩ = some (.int .i64 t1i) ∧ X.cell? ⟨b0, o0 + 10, none⟩ = some (.int .i64 t1d) ∧ X.cell? ⟨b0, o0 + 11, none⟩ = some (.slice t1A t1s.len t1c)) ∧ ∀ (vars : List ByteArray) (vA : Option Addr) (vc : Nat) (bl : List Blk) (bv : Value) (n₀ : Nat), SlS X X.heap.size vA vc vars → BkAt n₀ X bv bl → n₀ ≤ X.heap.size → vars.length + 2 * s.cnt 1 ≤ 1000000 → bl.length + s.cnt 1 ≤ 1000000 →
      Calls Tryz.prog 59 #[.agg #[.int .i64 t1k, .string t1n, .string t1m, .int .i64 t1i, .int .i64 t1d, .slice t1A t1s.len t1c], .string label, .slice vA vars.length vc, bv] X (ExP n₀ (R1 vars bl.length) bl X)) := by
    rw [HRR1.out] at hp1
    exact Lib.hid hp1
  clear hp1 HRR1
  have c3 := s.cnt_two
  obtain ⟨⟨L0, B0⟩, HL0⟩ : ∃ q, Hid (R0 vars bl.length = q) := ⟨_, Lib.hid rfl⟩
  have hq0 := hl0 vars bl.length
  rw [HL0.out] at hq0
  obtain ⟨NL0, HNL0⟩ : ∃ q, Hid (L0.length = q) := ⟨_, Lib.hid rfl⟩
  simp only at hq0
  obtain ⟨⟨L1, B1⟩, HL1⟩ : ∃ q, Hid (R1 vars (bl ++ B0).length = q) := ⟨_, Lib.hid rfl⟩
  have hq1 := hl1 vars (bl ++ B0).length
  rw [HL1.out] at hq1
  obtain ⟨NL1, HNL1⟩ : ∃ q, Hid (L1.length = q) := ⟨_, Lib.hid rfl⟩
  simp only at hq1
  obtain ⟨N1, HN1⟩ : ∃ q, Hid ((bl ++ B0).length = q) := ⟨_, Lib.hid rfl⟩
  obtain ⟨N2, HN2⟩ : ∃ q, Hid ((bl ++ B0 ++ B1).length = q) := ⟨_, Lib.hid rfl⟩
  have HE : Hid (nodeR label 10 n m i d (s.rcomp label) vars bl.length = (joinL 0 [L0, L1, [⟨10, 0, 0, n⟩]], B0 ++ B1)) := by
    have e : nodeR label 10 n m i d (s.rcomp label) vars bl.length = rTwo ((s.rcomp label).getD 0 noR) ((s.rcomp label).getD 1 noR) ⟨10, 0, 0, n⟩ vars bl.length := rfl
    rw [e, hr0, hr1]
    unfold rTwo
    rw [HL0.out]
    simp only
    rw [← List.length_append, HL1.out]
    exact Lib.hid rfl
  rw [HE.out]
  obtain ⟨W0, hW0⟩ : ∃ W0, w.alloc (.cells #[.int .i64 10, .string n, .string m, .int .i64 i, .int .i64 d, .slice (some ⟨b0, o0, none⟩) 2 c] 41) = W0 := ⟨_, rfl⟩
  have hzw : w.heap.size < W0.heap.size := by subst hW0; simp
  have hB0 : Below w.heap.size w W0 := by subst hW0; exact (Below.refl _ _).alloc (Nat.le_refl _) _
  have hx0 : W0.heap[w.heap.size]? = some (.cells #[.int .i64 10, .string n, .string m, .int .i64 i, .int .i64 d, .slice (some ⟨b0, o0, none⟩) 2 c] 41 (0, 0)) := by rw [← hW0]; exact heap_alloc_new w _
  have HC : Hid (∀ X, Below W0.heap.size W0 X → (Below w.heap.size w X ∧ w.heap.size < X.heap.size ∧ SlS X X.heap.size vA vc vars ∧ BkAt n₀ X (.slice bA NB bc) bl) ∧ (X.cell? ⟨w.heap.size, 0, none⟩ = some (.int .i64 10) ∧ X.cell? ⟨w.heap.size, 1, none⟩ = some (.string n) ∧ X.cell? ⟨w.heap.size, 2, none⟩ = some (.string m) ∧ X.cell? ⟨w.heap.size, 3, none⟩ = some (.int .i64 i) ∧ X.cell? ⟨w.heap.size, 4, none⟩ = some (.int .i64 d) ∧ X.cell? ⟨w.heap.size, 5, none⟩ = some (.slice (some ⟨b0, o0, none⟩) 2 c))) := fun X hX => by
    have h0 := (hX.block w.heap.size hzw).trans hx0
    have hb' := hB0.trans (hX.mono (Nat.le_of_lt hzw))
    exact ⟨⟨hb', Nat.lt_of_lt_of_le hzw hX.size, hv.keep hb'.size (fun p hp => hb'.cell hp), by rw [← HNB.out]; exact hb.below hb'⟩, cell_of_row X _ 0 _ _ (0, 0) h0, cell_of_row X _ 1 _ _ (0, 0) h0, cell_of_row X _ 2 _ _ (0, 0) h0, cell_of_row X _ 3 _ _ (0, 0) h0, cell_of_row X _ 4 _ _ (0, 0) h0, cell_of_row X _ 5 _ _ (0, 0) h0⟩
  have HK0 : Hid (∀ (u X : World) (vA' : Option Addr) (vc' : Nat) (bA' : Option Addr) (bc' : Nat), Below W0.heap.size W0 X → Below u.heap.size u X → SlS X X.heap.size vA' vc' (vars) → BkAt n₀ X (.slice bA' NB bc') (bl) →
      Calls Tryz.prog 59 #[.agg #[.int .i64 t0k, .string t0n, .string t0m, .int .i64 t0i, .int .i64 t0d, .slice t0A t0s.len t0c], .string label, .slice vA' NV vc', .slice bA' NB bc'] X (ExQ n₀ L0 (bl ++ B0) NL0 N1 u)) := fun u X vA' vc' bA' bc' hX hu hv' hb' => by
    have h := (HP0.out X (HC.out X hX).1.1).2 (vars) vA' vc' (bl) (.slice bA' NB bc') n₀ hv' hb' (Nat.le_trans hn (HC.out X hX).1.1.size) (by (try simp only [List.length_append, List.length_cons, List.length_nil]); omega) (by (try simp only [List.length_append]); omega)
    rw [HL0.out, HNV.out] at h
    exact h.mono fun _ _ h => h.q HNL0.out HN1.out hu
  have HK1 : Hid (∀ (u X : World) (vA' : Option Addr) (vc' : Nat) (bA' : Option Addr) (bc' : Nat), Below W0.heap.size W0 X → Below u.heap.size u X → SlS X X.heap.size vA' vc' (vars) → BkAt n₀ X (.slice bA' N1 bc') (bl ++ B0) →
      Calls Tryz.prog 59 #[.agg #[.int .i64 t1k, .string t1n, .string t1m, .int .i64 t1i, .int .i64 t1d, .slice t1A t1s.len t1c], .string label, .slice vA' NV vc', .slice bA' N1 bc'] X (ExQ n₀ L1 (bl ++ B0 ++ B1) NL1 N2 u)) := fun u X vA' vc' bA' bc' hX hu hv' hb' => by
    have h := (HP1.out X (HC.out X hX).1.1).2 (vars) vA' vc' (bl ++ B0) (.slice bA' N1 bc') n₀ hv' hb' (Nat.le_trans hn (HC.out X hX).1.1.size) (by (try simp only [List.length_append, List.length_cons, List.length_nil]); omega) (by (try simp only [List.length_append]); omega)
    rw [HL1.out, HNV.out] at h
    exact h.mono fun _ _ h => h.q HNL1.out HN2.out hu
  rw [HNV.out, HNB.out]
  have hsum : NL0 + (NL1 + (1 + 0)) ≤ 1000000 := by rw [← HNL0.out, ← HNL1.out]; omega
  rw [hsl] at hcp1 hcap ⊢
  clear hs hkn hks hv hb hx0 hr0 hr1 hl0 hl1 hsl HE
  go_enter Tryz.func59, Tryz.ntmps59
  obtain ⟨_, x0, x1, x2, x3, x4, x5⟩ := HC.out W0 (Below.refl _ _)
  obtain ⟨⟨p0a, p0b, p0c, p0d, p0e, p0f⟩, _⟩ := HP0.out W0 (HC.out W0 (Below.refl _ _)).1.1
  go_wp2_with fail
  refine (HK0.out W0 W0 vA vc bA bc (Below.refl _ _) (Below.refl _ _) (HC.out W0 (Below.refl _ _)).1.2.2.1 (HC.out W0 (Below.refl _ _)).1.2.2.2).mono ?_
  rintro e w1 ⟨iA0, ic0, bA0, bc0, rfl, hi0, hbk0, hB0_⟩
  clear x0 x1 x2 x3 x4 x5 p0a p0b p0c p0d p0e p0f
  have HW1 := Lib.hid (And.intro hB0_ (And.intro hi0 hbk0))
  clear hi0 hbk0 hB0_ hW0
  obtain ⟨_, x0, x1, x2, x3, x4, x5⟩ := HC.out w1 HW1.out.1
  obtain ⟨⟨p1a, p1b, p1c, p1d, p1e, p1f⟩, _⟩ := HP1.out w1 (HC.out w1 HW1.out.1).1.1
  go_wp2_with fail
  refine (HK1.out w1 w1 vA vc bA0 bc0 HW1.out.1 (Below.refl _ _) (HC.out w1 HW1.out.1).1.2.2.1 HW1.out.2.2).mono ?_
  rintro e w2 ⟨iA1, ic1, bA1, bc1, rfl, hi1, hbk1, hB1⟩
  clear x0 x1 x2 x3 x4 x5 p1a p1b p1c p1d p1e p1f
  have HW2 := Lib.hid (And.intro (HW1.out.1.trans (hB1.mono HW1.out.1.size)) (And.intro hi1 (And.intro hbk1 (HW1.out.2.1.below hB1))))
  clear hi1 hbk1 hB1
  obtain ⟨_, x0, x1, x2, x3, x4, x5⟩ := HC.out w2 HW2.out.1
  go_wp2_with fail
  with_reducible refine (one28_q _ _ _ _ w2 _ (Below.refl _ _)).mono ?_
  rintro e w3 ⟨oA, oc, rfl, ho, hB3⟩
  obtain ⟨W4, hW4⟩ : ∃ W4, w3.alloc (.cells #[.slice iA0 NL0 ic0, .slice iA1 NL1 ic1, .slice oA 1 oc] 50) = W4 := ⟨_, rfl⟩
  have hB4 : Below w3.heap.size w3 W4 := by rw [← hW4]; exact (Below.refl _ _).alloc (Nat.le_refl _) _
  have hz4 : w3.heap.size < W4.heap.size := by rw [← hW4]; simp
  have hx4 : W4.heap[w3.heap.size]? = some (.cells #[.slice iA0 NL0 ic0, .slice iA1 NL1 ic1, .slice oA 1 oc] 50 (0, 0)) := by rw [← hW4]; exact heap_alloc_new w3 _
  have hB24 := hB3.trans (hB4.mono hB3.size)
  obtain ⟨NR, HNR⟩ : ∃ q, Hid ((joinL 0 [L0, L1, [⟨10, 0, 0, n⟩]]).length = q) := ⟨_, Lib.hid rfl⟩
  have HJ := Lib.hid (join28_any [(.slice iA0 NL0 ic0, L0), (.slice iA1 NL1 ic1, L1), (.slice oA 1 oc, [⟨10, 0, 0, n⟩])] 0 w3.heap.size 3 W4 hz4 (by simp) (by omega)
    (ins_row (t := 50) hx4 (by
      intro x hx
      simp only [List.mem_cons, List.not_mem_nil, or_false] at hx
      rcases hx with rfl | rfl | rfl
      · exact HW2.out.2.2.2.below hB24
      · exact HW2.out.2.1.below hB24
      · exact (ho.below hB4).low (Nat.zero_le _))) (by simp only [List.map_cons, List.map_nil, List.sum_cons, List.sum_nil, HNL0.out, HNL1.out, List.length_singleton]; exact hsum))
  have HB4 := Lib.hid hB24
  clear ho hB3 hB4 hx4 hB24 x0 x1 x2 x3 x4 x5
  go_wp2_with fail
  refine HJ.out.mono ?_
  rintro e w5 h5
  obtain ⟨rA, rc, rfl, hr, hB5⟩ := InsP.q (N := NR) (L := joinL 0 [L0, L1, [⟨10, 0, 0, n⟩]]) (u := w2) h5 HNR.out HB4.out
  have HR := Lib.hid (ExP.mk (Bs := B0 ++ B1) (bl := bl) (w := w) (n₀ := n₀) hr (by rw [← List.append_assoc]; exact HW2.out.2.2.1) hB5 ((HC.out w2 HW2.out.1).1.1.trans (hB5.mono (HC.out w2 HW2.out.1).1.1.size)))
  clear h5 hr hB5 hW4
  go_wp2
  go_ret2
  exact HR.out
end Go.Proofs.YtlcfoiapkblheaaGreatDoor
/- ref28.expr: let (printed by gen_yxd.py) -/
namespace Go.Proofs.YtlcfoiapkblheaaGreatDoor
open Go.RowKit Go.Proofs Go.Shelf

set_option maxRecDepth 100000 in
set_option maxHeartbeats 8000000 in
theorem ex_let (label : ByteArray) (s : Fo) (ih : s.All (ExOK label)) (k : Int) (n m : ByteArray) (i d : Int) (A : Option Addr) (c : Nat) (vars : List ByteArray) (vA : Option Addr) (vc : Nat) (bl : List Blk) (bv : Value) (n₀ : Nat) (w : World) (h : ExIn s k A c vars vA vc bl bv n₀ w) (hk : k = 8) (hsl : s.len = 2) : Calls Tryz.prog 59 #[.agg #[.int .i64 k, .string n, .string m, .int .i64 i, .int .i64 d, .slice A s.len c], .string label, .slice vA vars.length vc, bv] w (ExP n₀ (nodeR label k n m i d (s.rcomp label) vars bl.length) bl w) := by
  subst hk
  obtain ⟨hs, hkn, hks, hv, hb, hn, hvl, hbl, hct⟩ := h
  obtain ⟨bA, bc, rfl⟩ := hb.form
  obtain ⟨NB, HNB⟩ : ∃ q, Hid (bl.length = q) := ⟨_, Lib.hid rfl⟩
  obtain ⟨NV, HNV⟩ : ∃ q, Hid (vars.length = q) := ⟨_, Lib.hid rfl⟩
  have hcap : s.len ≤ 9223372036854775807 := by have := hs.1; have := hs.2.1; unfold maxLen at this; omega
  have hcp1 := hs.1
  have hcp2 := hs.2.1
  unfold maxLen at hcp2
  have hBL := hb.blocks.form
  rw [HNB.out] at hBL
  have hNB : NB ≤ 1000000 := by rw [← HNB.out]; omega
  clear hBL
  obtain ⟨⟨t0k, t0n, t0m, t0i, t0d, t0A, t0c, t0s⟩, b0, o0, hA0, hb0, hc0, hr0, hl0, hp0⟩ := ex_part label hs hks ih 0 (by omega) hct
  subst hA0
  simp only at hc0 hr0 hl0 hp0
  obtain ⟨R0, HRR0⟩ : ∃ q, Hid (Tr.rcomp label ⟨t0k, t0n, t0m, t0i, t0d, t0A, t0c, t0s⟩ = q) := ⟨_, Lib.hid rfl⟩
  rw [HRR0.out] at hr0 hl0
  have HP0 : Hid (∀ X, Below w.heap.size w X → (X.cell? ⟨b0, o0, none⟩ = some (.int .i64 t0k) ∧ X.cell? ⟨b0, o0 + 1, none⟩ = some (.string t0n) ∧ X.cell? ⟨b0, o0 + 2, none⟩ = some (.string t0m) ∧ X.cell? ⟨b0, o0 + 3, none⟩ = some (.int .i64 t0i) ∧ X.cell? ⟨b0, o0 + 4, none⟩ = some (.int .i64 t0d) ∧ X.cell? ⟨b0, o0 + 5, none⟩ = some (.slice t0A t0s.len t0c)) ∧ ∀ (vars : List ByteArray) (vA : Option Addr) (vc : Nat) (bl : List Blk) (bv : Value) (n₀ : Nat), SlS X X.heap.size vA vc vars → BkAt n₀ X bv bl → n₀ ≤ X.heap.size → vars.length + 2 * s.cnt 0 ≤ 1000000 → bl.length + s.cnt 0 ≤ 1000000 →
      Calls Tryz.prog 59 #[.agg #[.int .i64 t0k, .string t0n, .string t0m, .int .i64 t0i, .int .i64 t0d, .slice t0A t0s.len t0c], .string label, .slice vA vars.length vc, bv] X (ExP n₀ (R0 vars bl.length) bl X)) := by
    rw [HRR0.out] at hp0
    exact Lib.hid hp0
  clear hp0 HRR0
  obtain ⟨⟨t1k, t1n, t1m, t1i, t1d, t1A, t1c, t1s⟩, b1, o1, hA1, hb1, hc1, hr1, hl1, hp1⟩ := ex_part label hs hks ih 1 (by omega) hct
  simp only [Option.some.injEq, Addr.mk.injEq, and_true] at hA1
  obtain ⟨rfl, rfl⟩ := hA1
  simp only at hc1 hr1 hl1 hp1
  obtain ⟨R1, HRR1⟩ : ∃ q, Hid (Tr.rcomp label ⟨t1k, t1n, t1m, t1i, t1d, t1A, t1c, t1s⟩ = q) := ⟨_, Lib.hid rfl⟩
  rw [HRR1.out] at hr1 hl1
  have HP1 : Hid (∀ X, Below w.heap.size w X → (X.cell? ⟨b0, o0 + 6, none⟩ = some (.int .i64 t1k) ∧ X.cell? ⟨b0, o0 + 7, none⟩ = some (.string t1n) ∧ X.cell? ⟨b0, o0 + 8, none⟩ = some (.string t1m) ∧ X.cell? ⟨b0, o0 + 9, none⟩ = some (.int .i64 t1i) ∧ X.cell? ⟨b0, o0 + 10, none⟩ = some (.int .i64 t1d) ∧ X.cell? ⟨b0, o0 + 11, none⟩ = some (.slice t1A t1s.len t1c)) ∧ ∀ (vars : List ByteArray) (vA : Option Addr) (vc : Nat) (bl : List Blk) (bv : Value) (n₀ : Nat), SlS X X.heap.size vA vc vars → BkAt n₀ X bv bl → n₀ ≤ X.heap.size → vars.length + 2 * s.cnt 1 ≤ 1000000 → bl.length + s.cnt 1 ≤ 1000000 →
      Calls Tryz.prog 59 #[.agg #[.int .i64 t1k, .string t1n, .string t1m, .int .i64 t1i, .int .i64 t1d, .slice t1A t1s.len t1c], .string label, .slice vA vars.length vc, bv] X (ExP n₀ (R1 vars bl.length) bl X)) := by
    rw [HRR1.out] at hp1
    exact Lib.hid hp1
  clear hp1 HRR1
  have c3 := s.cnt_two
  obtain ⟨⟨L0, B0⟩, HL0⟩ : ∃ q, Hid (R0 vars bl.length = q) := ⟨_, Lib.hid rfl⟩
  have hq0 := hl0 vars bl.length
  rw [HL0.out] at hq0
  obtain ⟨NL0, HNL0⟩ : ∃ q, Hid (L0.length = q) := ⟨_, Lib.hid rfl⟩
  simp only at hq0
  obtain ⟨⟨L1, B1⟩, HL1⟩ : ∃ q, Hid (R1 (vars ++ [n]) (bl ++ B0).length = q) := ⟨_, Lib.hid rfl⟩
  have hq1 := hl1 (vars ++ [n]) (bl ++ B0).length
  rw [HL1.out] at hq1
  obtain ⟨NL1, HNL1⟩ : ∃ q, Hid (L1.length = q) := ⟨_, Lib.hid rfl⟩
  simp only at hq1
  obtain ⟨N1, HN1⟩ : ∃ q, Hid ((bl ++ B0).length = q) := ⟨_, Lib.hid rfl⟩
  obtain ⟨N2, HN2⟩ : ∃ q, Hid ((bl ++ B0 ++ B1).length = q) := ⟨_, Lib.hid rfl⟩
  obtain ⟨NVX, HNVX⟩ : ∃ q, Hid ((vars ++ [n]).length = q) := ⟨_, Lib.hid rfl⟩
  have HE : Hid (nodeR label 8 n m i d (s.rcomp label) vars bl.length = (joinL 0 [L0, [⟨14, 0, 0, ⟨#[]⟩⟩], L1, [⟨15, 1, 0, ⟨#[]⟩⟩]], B0 ++ B1)) := by
    have e : nodeR label 8 n m i d (s.rcomp label) vars bl.length = rLet ((s.rcomp label).getD 0 noR) ((s.rcomp label).getD 1 noR) n vars bl.length := rfl
    rw [e, hr0, hr1]
    unfold rLet
    rw [HL0.out]
    simp only
    rw [← List.length_append, HL1.out]
    exact Lib.hid rfl
  rw [HE.out]
  obtain ⟨W0, hW0⟩ : ∃ W0, w.alloc (.cells #[.int .i64 8, .string n, .string m, .int .i64 i, .int .i64 d, .slice (some ⟨b0, o0, none⟩) 2 c] 41) = W0 := ⟨_, rfl⟩
  have hzw : w.heap.size < W0.heap.size := by subst hW0; simp
  have hB0 : Below w.heap.size w W0 := by subst hW0; exact (Below.refl _ _).alloc (Nat.le_refl _) _
  have hx0 : W0.heap[w.heap.size]? = some (.cells #[.int .i64 8, .string n, .string m, .int .i64 i, .int .i64 d, .slice (some ⟨b0, o0, none⟩) 2 c] 41 (0, 0)) := by rw [← hW0]; exact heap_alloc_new w _
  have HC : Hid (∀ X, Below W0.heap.size W0 X → (Below w.heap.size w X ∧ w.heap.size < X.heap.size ∧ SlS X X.heap.size vA vc vars ∧ BkAt n₀ X (.slice bA NB bc) bl) ∧ (X.cell? ⟨w.heap.size, 0, none⟩ = some (.int .i64 8) ∧ X.cell? ⟨w.heap.size, 1, none⟩ = some (.string n) ∧ X.cell? ⟨w.heap.size, 2, none⟩ = some (.string m) ∧ X.cell? ⟨w.heap.size, 3, none⟩ = some (.int .i64 i) ∧ X.cell? ⟨w.heap.size, 4, none⟩ = some (.int .i64 d) ∧ X.cell? ⟨w.heap.size, 5, none⟩ = some (.slice (some ⟨b0, o0, none⟩) 2 c))) := fun X hX => by
    have h0 := (hX.block w.heap.size hzw).trans hx0
    have hb' := hB0.trans (hX.mono (Nat.le_of_lt hzw))
    exact ⟨⟨hb', Nat.lt_of_lt_of_le hzw hX.size, hv.keep hb'.size (fun p hp => hb'.cell hp), by rw [← HNB.out]; exact hb.below hb'⟩, cell_of_row X _ 0 _ _ (0, 0) h0, cell_of_row X _ 1 _ _ (0, 0) h0, cell_of_row X _ 2 _ _ (0, 0) h0, cell_of_row X _ 3 _ _ (0, 0) h0, cell_of_row X _ 4 _ _ (0, 0) h0, cell_of_row X _ 5 _ _ (0, 0) h0⟩
  have HK0 : Hid (∀ (u X : World) (vA' : Option Addr) (vc' : Nat) (bA' : Option Addr) (bc' : Nat), Below W0.heap.size W0 X → Below u.heap.size u X → SlS X X.heap.size vA' vc' (vars) → BkAt n₀ X (.slice bA' NB bc') (bl) →
      Calls Tryz.prog 59 #[.agg #[.int .i64 t0k, .string t0n, .string t0m, .int .i64 t0i, .int .i64 t0d, .slice t0A t0s.len t0c], .string label, .slice vA' NV vc', .slice bA' NB bc'] X (ExQ n₀ L0 (bl ++ B0) NL0 N1 u)) := fun u X vA' vc' bA' bc' hX hu hv' hb' => by
    have h := (HP0.out X (HC.out X hX).1.1).2 (vars) vA' vc' (bl) (.slice bA' NB bc') n₀ hv' hb' (Nat.le_trans hn (HC.out X hX).1.1.size) (by (try simp only [List.length_append, List.length_cons, List.length_nil]); omega) (by (try simp only [List.length_append]); omega)
    rw [HL0.out, HNV.out] at h
    exact h.mono fun _ _ h => h.q HNL0.out HN1.out hu
  have HK1 : Hid (∀ (u X : World) (vA' : Option Addr) (vc' : Nat) (bA' : Option Addr) (bc' : Nat), Below W0.heap.size W0 X → Below u.heap.size u X → SlS X X.heap.size vA' vc' (vars ++ [n]) → BkAt n₀ X (.slice bA' N1 bc') (bl ++ B0) →
      Calls Tryz.prog 59 #[.agg #[.int .i64 t1k, .string t1n, .string t1m, .int .i64 t1i, .int .i64 t1d, .slice t1A t1s.len t1c], .string label, .slice vA' NVX vc', .slice bA' N1 bc'] X (ExQ n₀ L1 (bl ++ B0 ++ B1) NL1 N2 u)) := fun u X vA' vc' bA' bc' hX hu hv' hb' => by
    have h := (HP1.out X (HC.out X hX).1.1).2 (vars ++ [n]) vA' vc' (bl ++ B0) (.slice bA' N1 bc') n₀ hv' hb' (Nat.le_trans hn (HC.out X hX).1.1.size) (by (try simp only [List.length_append, List.length_cons, List.length_nil]); omega) (by (try simp only [List.length_append]); omega)
    rw [HL1.out, HNVX.out] at h
    exact h.mono fun _ _ h => h.q HNL1.out HN2.out hu
  rw [HNV.out, HNB.out]
  have hsum : NL0 + (1 + (NL1 + (1 + 0))) ≤ 1000000 := by rw [← HNL0.out, ← HNL1.out]; omega
  rw [hsl] at hcp1 hcap ⊢
  clear hs hkn hks hv hb hx0 hr0 hr1 hl0 hl1 hsl HE
  rw [HNV.out] at hvl
  go_enter Tryz.func59, Tryz.ntmps59
  obtain ⟨_, x0, x1, x2, x3, x4, x5⟩ := HC.out W0 (Below.refl _ _)
  obtain ⟨⟨p0a, p0b, p0c, p0d, p0e, p0f⟩, _⟩ := HP0.out W0 (HC.out W0 (Below.refl _ _)).1.1
  go_wp2_with fail
  refine (HK0.out W0 W0 vA vc bA bc (Below.refl _ _) (Below.refl _ _) (HC.out W0 (Below.refl _ _)).1.2.2.1 (HC.out W0 (Below.refl _ _)).1.2.2.2).mono ?_
  rintro e w1 ⟨iA0, ic0, bA0, bc0, rfl, hi0, hbk0, hB0_⟩
  clear x0 x1 x2 x3 x4 x5 p0a p0b p0c p0d p0e p0f
  have HW1 := Lib.hid (And.intro hB0_ (And.intro hi0 hbk0))
  clear hi0 hbk0 hB0_ hW0 hB0
  have HSX : Hid (∀ X, Below w1.heap.size w1 X → X.cell? ⟨w.heap.size, 1, none⟩ = some (.string n) ∧ X.cell? ⟨w.heap.size, 5, none⟩ = some (.slice (some ⟨b0, o0, none⟩) 2 c) ∧ X.cell? ⟨b0, o0 + 6, none⟩ = some (.int .i64 t1k) ∧ X.cell? ⟨b0, o0 + 7, none⟩ = some (.string t1n) ∧ X.cell? ⟨b0, o0 + 8, none⟩ = some (.string t1m) ∧ X.cell? ⟨b0, o0 + 9, none⟩ = some (.int .i64 t1i) ∧ X.cell? ⟨b0, o0 + 10, none⟩ = some (.int .i64 t1d) ∧ X.cell? ⟨b0, o0 + 11, none⟩ = some (.slice t1A t1s.len t1c)) := fun X hX => by
    have h := HC.out X (HW1.out.1.trans (hX.mono HW1.out.1.size))
    have g := (HP1.out X h.1.1).1
    exact ⟨h.2.2.1, h.2.2.2.2.2.2, g⟩
  have HWI : Hid (∀ (X : World) (g : Nat), Below w1.heap.size w1 X → X.cell? ⟨g, 0, none⟩ = some (.string n) → g < X.heap.size → Calls Tryz.prog 137 #[.slice vA NV vc, .slice (some ⟨g, 0, none⟩) 1 1] X (WithQ (vars ++ [n]) NVX w1)) := fun X g hX hg0 hgl =>
    with28_q vars [n] vA (some ⟨g, 0, none⟩) vc 1 NV 1 NVX w1 X hX (HC.out X (HW1.out.1.trans (hX.mono HW1.out.1.size))).1.2.2.1 (slS_one hg0 hgl) (by rw [HNV.out]; simp only [List.length_cons, List.length_nil]; omega) HNV.out rfl HNVX.out
  obtain ⟨_, x0, x1, x2, x3, x4, x5⟩ := HC.out w1 HW1.out.1
  obtain ⟨⟨p1a, p1b, p1c, p1d, p1e, p1f⟩, _⟩ := HP1.out w1 (HC.out w1 HW1.out.1).1.1
  go_wp2_with fail
  clear x0 x1 x2 x3 x4 x5 p1a p1b p1c p1d p1e p1f
  go_region_held3 (fun X => X.cell? ⟨w.heap.size, 1, none⟩ = some (.string n) ∧ X.cell? ⟨w.heap.size, 5, none⟩ = some (.slice (some ⟨b0, o0, none⟩) 2 c) ∧ X.cell? ⟨b0, o0 + 6, none⟩ = some (.int .i64 t1k) ∧ X.cell? ⟨b0, o0 + 7, none⟩ = some (.string t1n) ∧ X.cell? ⟨b0, o0 + 8, none⟩ = some (.string t1m) ∧ X.cell? ⟨b0, o0 + 9, none⟩ = some (.int .i64 t1i) ∧ X.cell? ⟨b0, o0 + 10, none⟩ = some (.int .i64 t1d) ∧ X.cell? ⟨b0, o0 + 11, none⟩ = some (.slice t1A t1s.len t1c))
    (first | exact HSX.out _ hB1 | exact HSX.out _ hbv | exact HSX.out _ (by repeat (first | with_reducible exact hbv | with_reducible refine balloc' ?_ | with_reducible refine Below.drew ?_ | with_reducible exact Below.refl _ _)))
    (first
      | (go_at_call 137; (refine Calls.mono (HWI.out _ w1.heap.size ?_ ?_ ?_) ?_); (focus (repeat (first | with_reducible exact hbv | with_reducible refine balloc' ?_ | with_reducible refine Below.drew ?_ | with_reducible exact Below.refl _ _))); (focus go_simp); (focus simp); rintro e wv ⟨vAX, vcX, rfl, hsv, hbv⟩)
      | (go_at_call 59; refine (HK1.out w1 _ vAX vcX bA0 bc0 (HW1.out.1.trans (hbv.mono HW1.out.1.size)) hbv hsv (HW1.out.2.2.below hbv)).mono ?_; rintro e w2 ⟨iA1, ic1, bA1, bc1, rfl, hi1, hbk1, hB1⟩))
  have HW2 := Lib.hid (And.intro (HW1.out.1.trans (hB1.mono HW1.out.1.size)) (And.intro hi1 (And.intro hbk1 (HW1.out.2.1.below hB1))))
  clear hi1 hbk1 hB1
  go_wp2_with fail
  with_reducible refine (one28_q _ _ _ _ w2 _ (Below.refl _ _)).mono ?_
  rintro e w3 ⟨oA, oc, rfl, ho, hB3⟩
  have HO3 := Lib.hid (And.intro ho hB3)
  clear ho hB3
  go_wp2_with fail
  with_reducible refine (one28_q _ _ _ _ w3 _ (Below.refl _ _)).mono ?_
  rintro e w4 ⟨pA, pc, rfl, hp, hB4⟩
  obtain ⟨W5, hW5⟩ : ∃ W5, w4.alloc (.cells #[.slice iA0 NL0 ic0, .slice oA 1 oc, .slice iA1 NL1 ic1, .slice pA 1 pc] 50) = W5 := ⟨_, rfl⟩
  have hB5 : Below w4.heap.size w4 W5 := by rw [← hW5]; exact (Below.refl _ _).alloc (Nat.le_refl _) _
  have hz5 : w4.heap.size < W5.heap.size := by rw [← hW5]; simp
  have hx5 : W5.heap[w4.heap.size]? = some (.cells #[.slice iA0 NL0 ic0, .slice oA 1 oc, .slice iA1 NL1 ic1, .slice pA 1 pc] 50 (0, 0)) := by rw [← hW5]; exact heap_alloc_new w4 _
  have hB35 := hB4.trans (hB5.mono hB4.size)
  have hB25 := HO3.out.2.trans (hB35.mono HO3.out.2.size)
  obtain ⟨NR, HNR⟩ : ∃ q, Hid ((joinL 0 [L0, [⟨14, 0, 0, ⟨#[]⟩⟩], L1, [⟨15, 1, 0, ⟨#[]⟩⟩]]).length = q) := ⟨_, Lib.hid rfl⟩
  have HJ := Lib.hid (join28_any [(.slice iA0 NL0 ic0, L0), (.slice oA 1 oc, [⟨14, 0, 0, ⟨#[]⟩⟩]), (.slice iA1 NL1 ic1, L1), (.slice pA 1 pc, [⟨15, 1, 0, ⟨#[]⟩⟩])] 0 w4.heap.size 4 W5 hz5 (by simp) (by omega)
    (ins_row (t := 50) hx5 (by
      intro x hx
      simp only [List.mem_cons, List.not_mem_nil, or_false] at hx
      rcases hx with rfl | rfl | rfl | rfl
      · exact HW2.out.2.2.2.below hB25
      · exact (HO3.out.1.below hB35).low (Nat.zero_le _)
      · exact HW2.out.2.1.below hB25
      · exact (hp.below hB5).low (Nat.zero_le _))) (by simp only [List.map_cons, List.map_nil, List.sum_cons, List.sum_nil, HNL0.out, HNL1.out, List.length_singleton]; exact hsum))
  have HB5 := Lib.hid hB25
  clear hp hB4 hB5 hx5 hB25 hB35
  go_wp2_with fail
  refine HJ.out.mono ?_
  rintro e w6 h6
  obtain ⟨rA, rc, rfl, hr, hB6⟩ := InsP.q (N := NR) (L := joinL 0 [L0, [⟨14, 0, 0, ⟨#[]⟩⟩], L1, [⟨15, 1, 0, ⟨#[]⟩⟩]]) (u := w2) h6 HNR.out HB5.out
  have HR := Lib.hid (ExP.mk (Bs := B0 ++ B1) (bl := bl) (w := w) (n₀ := n₀) hr (by rw [← List.append_assoc]; exact HW2.out.2.2.1) hB6 ((HC.out w2 HW2.out.1).1.1.trans (hB6.mono (HC.out w2 HW2.out.1).1.1.size)))
  clear h6 hr hB6 hW5
  go_wp2
  go_ret2
  exact HR.out
end Go.Proofs.YtlcfoiapkblheaaGreatDoor
/- ref28.expr: if (printed by gen_yxd.py) -/
namespace Go.Proofs.YtlcfoiapkblheaaGreatDoor
open Go.RowKit Go.Proofs Go.Shelf

set_option maxRecDepth 100000 in
set_option maxHeartbeats 8000000 in
theorem ex_if (label : ByteArray) (s : Fo) (ih : s.All (ExOK label)) (k : Int) (n m : ByteArray) (i d : Int) (A : Option Addr) (c : Nat) (vars : List ByteArray) (vA : Option Addr) (vc : Nat) (bl : List Blk) (bv : Value) (n₀ : Nat) (w : World) (h : ExIn s k A c vars vA vc bl bv n₀ w) (hk : k = 9) (hsl : s.len = 3) : Calls Tryz.prog 59 #[.agg #[.int .i64 k, .string n, .string m, .int .i64 i, .int .i64 d, .slice A s.len c], .string label, .slice vA vars.length vc, bv] w (ExP n₀ (nodeR label k n m i d (s.rcomp label) vars bl.length) bl w) := by
  subst hk
  obtain ⟨hs, hkn, hks, hv, hb, hn, hvl, hbl, hct⟩ := h
  obtain ⟨bA, bc, rfl⟩ := hb.form
  obtain ⟨NB, HNB⟩ : ∃ q, Hid (bl.length = q) := ⟨_, Lib.hid rfl⟩
  obtain ⟨NV, HNV⟩ : ∃ q, Hid (vars.length = q) := ⟨_, Lib.hid rfl⟩
  have hcap : s.len ≤ 9223372036854775807 := by have := hs.1; have := hs.2.1; unfold maxLen at this; omega
  have hcp1 := hs.1
  have hcp2 := hs.2.1
  unfold maxLen at hcp2
  have hBL := hb.blocks.form
  rw [HNB.out] at hBL
  have hNB : NB ≤ 1000000 := by rw [← HNB.out]; omega
  clear hBL
  obtain ⟨i0, hi, hz0, hz1, hz2⟩ := info_parts Tryz.infoInstr
  obtain ⟨⟨t0k, t0n, t0m, t0i, t0d, t0A, t0c, t0s⟩, b0, o0, hA0, hb0, hc0, hr0, hl0, hp0⟩ := ex_part label hs hks ih 0 (by omega) hct
  subst hA0
  simp only at hc0 hr0 hl0 hp0
  obtain ⟨R0, HRR0⟩ : ∃ q, Hid (Tr.rcomp label ⟨t0k, t0n, t0m, t0i, t0d, t0A, t0c, t0s⟩ = q) := ⟨_, Lib.hid rfl⟩
  rw [HRR0.out] at hr0 hl0
  have HP0 : Hid (∀ X, Below w.heap.size w X → (X.cell? ⟨b0, o0, none⟩ = some (.int .i64 t0k) ∧ X.cell? ⟨b0, o0 + 1, none⟩ = some (.string t0n) ∧ X.cell? ⟨b0, o0 + 2, none⟩ = some (.string t0m) ∧ X.cell? ⟨b0, o0 + 3, none⟩ = some (.int .i64 t0i) ∧ X.cell? ⟨b0, o0 + 4, none⟩ = some (.int .i64 t0d) ∧ X.cell? ⟨b0, o0 + 5, none⟩ = some (.slice t0A t0s.len t0c)) ∧ ∀ (vars : List ByteArray) (vA : Option Addr) (vc : Nat) (bl : List Blk) (bv : Value) (n₀ : Nat), SlS X X.heap.size vA vc vars → BkAt n₀ X bv bl → n₀ ≤ X.heap.size → vars.length + 2 * s.cnt 0 ≤ 1000000 → bl.length + s.cnt 0 ≤ 1000000 →
      Calls Tryz.prog 59 #[.agg #[.int .i64 t0k, .string t0n, .string t0m, .int .i64 t0i, .int .i64 t0d, .slice t0A t0s.len t0c], .string label, .slice vA vars.length vc, bv] X (ExP n₀ (R0 vars bl.length) bl X)) := by
    rw [HRR0.out] at hp0
    exact Lib.hid hp0
  clear hp0 HRR0
  obtain ⟨⟨t1k, t1n, t1m, t1i, t1d, t1A, t1c, t1s⟩, b1, o1, hA1, hb1, hc1, hr1, hl1, hp1⟩ := ex_part label hs hks ih 1 (by omega) hct
  simp only [Option.some.injEq, Addr.mk.injEq, and_true] at hA1
  obtain ⟨rfl, rfl⟩ := hA1
  simp only at hc1 hr1 hl1 hp1
  obtain ⟨R1, HRR1⟩ : ∃ q, Hid (Tr.rcomp label ⟨t1k, t1n, t1m, t1i, t1d, t1A, t1c, t1s⟩ = q) := ⟨_, Lib.hid rfl⟩
  rw [HRR1.out] at hr1 hl1
  have HP1 : Hid (∀ X, Below w.heap.size w X → (X.cell? ⟨b0, o0 + 6, none⟩ = some (.int .i64 t1k) ∧ X.cell? ⟨b0, o0 + 7, none⟩ = some (.string t1n) ∧ X.cell? ⟨b0, o0 + 8, none⟩ = some (.string t1m) ∧ X.cell? ⟨b0, o0 + 9, none⟩ = some (.int .i64 t1i) ∧ X.cell? ⟨b0, o0 + 10, none⟩ = some (.int .i64 t1d) ∧ X.cell? ⟨b0, o0 + 11, none⟩ = some (.slice t1A t1s.len t1c)) ∧ ∀ (vars : List ByteArray) (vA : Option Addr) (vc : Nat) (bl : List Blk) (bv : Value) (n₀ : Nat), SlS X X.heap.size vA vc vars → BkAt n₀ X bv bl → n₀ ≤ X.heap.size → vars.length + 2 * s.cnt 1 ≤ 1000000 → bl.length + s.cnt 1 ≤ 1000000 →
      Calls Tryz.prog 59 #[.agg #[.int .i64 t1k, .string t1n, .string t1m, .int .i64 t1i, .int .i64 t1d, .slice t1A t1s.len t1c], .string label, .slice vA vars.length vc, bv] X (ExP n₀ (R1 vars bl.length) bl X)) := by
    rw [HRR1.out] at hp1
    exact Lib.hid hp1
  clear hp1 HRR1
  obtain ⟨⟨t2k, t2n, t2m, t2i, t2d, t2A, t2c, t2s⟩, b2, o2, hA2, hb2, hc2, hr2, hl2, hp2⟩ := ex_part label hs hks ih 2 (by omega) hct
  simp only [Option.some.injEq, Addr.mk.injEq, and_true] at hA2
  obtain ⟨rfl, rfl⟩ := hA2
  simp only at hc2 hr2 hl2 hp2
  obtain ⟨R2, HRR2⟩ : ∃ q, Hid (Tr.rcomp label ⟨t2k, t2n, t2m, t2i, t2d, t2A, t2c, t2s⟩ = q) := ⟨_, Lib.hid rfl⟩
  rw [HRR2.out] at hr2 hl2
  have HP2 : Hid (∀ X, Below w.heap.size w X → (X.cell? ⟨b0, o0 + 12, none⟩ = some (.int .i64 t2k) ∧ X.cell? ⟨b0, o0 + 13, none⟩ = some (.string t2n) ∧ X.cell? ⟨b0, o0 + 14, none⟩ = some (.string t2m) ∧ X.cell? ⟨b0, o0 + 15, none⟩ = some (.int .i64 t2i) ∧ X.cell? ⟨b0, o0 + 16, none⟩ = some (.int .i64 t2d) ∧ X.cell? ⟨b0, o0 + 17, none⟩ = some (.slice t2A t2s.len t2c)) ∧ ∀ (vars : List ByteArray) (vA : Option Addr) (vc : Nat) (bl : List Blk) (bv : Value) (n₀ : Nat), SlS X X.heap.size vA vc vars → BkAt n₀ X bv bl → n₀ ≤ X.heap.size → vars.length + 2 * s.cnt 2 ≤ 1000000 → bl.length + s.cnt 2 ≤ 1000000 →
      Calls Tryz.prog 59 #[.agg #[.int .i64 t2k, .string t2n, .string t2m, .int .i64 t2i, .int .i64 t2d, .slice t2A t2s.len t2c], .string label, .slice vA vars.length vc, bv] X (ExP n₀ (R2 vars bl.length) bl X)) := by
    rw [HRR2.out] at hp2
    exact Lib.hid hp2
  clear hp2 HRR2
  have c3 := s.cnt_three
  obtain ⟨⟨L0, B0⟩, HL0⟩ : ∃ q, Hid (R0 vars bl.length = q) := ⟨_, Lib.hid rfl⟩
  have hq0 := hl0 vars bl.length
  rw [HL0.out] at hq0
  obtain ⟨NL0, HNL0⟩ : ∃ q, Hid (L0.length = q) := ⟨_, Lib.hid rfl⟩
  simp only at hq0
  obtain ⟨⟨L1, B1⟩, HL1⟩ : ∃ q, Hid (R1 vars (bl ++ B0).length = q) := ⟨_, Lib.hid rfl⟩
  have hq1 := hl1 vars (bl ++ B0).length
  rw [HL1.out] at hq1
  obtain ⟨NL1, HNL1⟩ : ∃ q, Hid (L1.length = q) := ⟨_, Lib.hid rfl⟩
  simp only at hq1
  obtain ⟨⟨L2, B2⟩, HL2⟩ : ∃ q, Hid (R2 vars (bl ++ B0 ++ B1).length = q) := ⟨_, Lib.hid rfl⟩
  have hq2 := hl2 vars (bl ++ B0 ++ B1).length
  rw [HL2.out] at hq2
  obtain ⟨NL2, HNL2⟩ : ∃ q, Hid (L2.length = q) := ⟨_, Lib.hid rfl⟩
  simp only at hq2
  obtain ⟨N1, HN1⟩ : ∃ q, Hid ((bl ++ B0).length = q) := ⟨_, Lib.hid rfl⟩
  obtain ⟨N2, HN2⟩ : ∃ q, Hid ((bl ++ B0 ++ B1).length = q) := ⟨_, Lib.hid rfl⟩
  obtain ⟨N3, HN3⟩ : ∃ q, Hid ((bl ++ B0 ++ B1 ++ B2).length = q) := ⟨_, Lib.hid rfl⟩
  have HE : Hid (nodeR label 9 n m i d (s.rcomp label) vars bl.length = (ifL L0 L1 L2, B0 ++ B1 ++ B2)) := by
    have e : nodeR label 9 n m i d (s.rcomp label) vars bl.length = rIf ((s.rcomp label).getD 0 noR) ((s.rcomp label).getD 1 noR) ((s.rcomp label).getD 2 noR) vars bl.length := rfl
    rw [e, hr0, hr1, hr2]
    unfold rIf
    rw [HL0.out]
    simp only
    rw [← List.length_append, HL1.out]
    simp only
    rw [← List.length_append, HL2.out]
    exact Lib.hid rfl
  rw [HE.out]
  obtain ⟨W0, hW0⟩ : ∃ W0, w.alloc (.cells #[.int .i64 9, .string n, .string m, .int .i64 i, .int .i64 d, .slice (some ⟨b0, o0, none⟩) 3 c] 41) = W0 := ⟨_, rfl⟩
  have hzw : w.heap.size < W0.heap.size := by subst hW0; simp
  have hB0 : Below w.heap.size w W0 := by subst hW0; exact (Below.refl _ _).alloc (Nat.le_refl _) _
  have hx0 : W0.heap[w.heap.size]? = some (.cells #[.int .i64 9, .string n, .string m, .int .i64 i, .int .i64 d, .slice (some ⟨b0, o0, none⟩) 3 c] 41 (0, 0)) := by rw [← hW0]; exact heap_alloc_new w _
  have HC : Hid (∀ X, Below W0.heap.size W0 X → (Below w.heap.size w X ∧ w.heap.size < X.heap.size ∧ SlS X X.heap.size vA vc vars ∧ BkAt n₀ X (.slice bA NB bc) bl) ∧ (X.cell? ⟨w.heap.size, 0, none⟩ = some (.int .i64 9) ∧ X.cell? ⟨w.heap.size, 1, none⟩ = some (.string n) ∧ X.cell? ⟨w.heap.size, 2, none⟩ = some (.string m) ∧ X.cell? ⟨w.heap.size, 3, none⟩ = some (.int .i64 i) ∧ X.cell? ⟨w.heap.size, 4, none⟩ = some (.int .i64 d) ∧ X.cell? ⟨w.heap.size, 5, none⟩ = some (.slice (some ⟨b0, o0, none⟩) 3 c))) := fun X hX => by
    have h0 := (hX.block w.heap.size hzw).trans hx0
    have hb' := hB0.trans (hX.mono (Nat.le_of_lt hzw))
    exact ⟨⟨hb', Nat.lt_of_lt_of_le hzw hX.size, hv.keep hb'.size (fun p hp => hb'.cell hp), by rw [← HNB.out]; exact hb.below hb'⟩, cell_of_row X _ 0 _ _ (0, 0) h0, cell_of_row X _ 1 _ _ (0, 0) h0, cell_of_row X _ 2 _ _ (0, 0) h0, cell_of_row X _ 3 _ _ (0, 0) h0, cell_of_row X _ 4 _ _ (0, 0) h0, cell_of_row X _ 5 _ _ (0, 0) h0⟩
  have HK0 : Hid (∀ (u X : World) (vA' : Option Addr) (vc' : Nat) (bA' : Option Addr) (bc' : Nat), Below W0.heap.size W0 X → Below u.heap.size u X → SlS X X.heap.size vA' vc' (vars) → BkAt n₀ X (.slice bA' NB bc') (bl) →
      Calls Tryz.prog 59 #[.agg #[.int .i64 t0k, .string t0n, .string t0m, .int .i64 t0i, .int .i64 t0d, .slice t0A t0s.len t0c], .string label, .slice vA' NV vc', .slice bA' NB bc'] X (ExQ n₀ L0 (bl ++ B0) NL0 N1 u)) := fun u X vA' vc' bA' bc' hX hu hv' hb' => by
    have h := (HP0.out X (HC.out X hX).1.1).2 (vars) vA' vc' (bl) (.slice bA' NB bc') n₀ hv' hb' (Nat.le_trans hn (HC.out X hX).1.1.size) (by (try simp only [List.length_append, List.length_cons, List.length_nil]); omega) (by (try simp only [List.length_append]); omega)
    rw [HL0.out, HNV.out] at h
    exact h.mono fun _ _ h => h.q HNL0.out HN1.out hu
  have HK1 : Hid (∀ (u X : World) (vA' : Option Addr) (vc' : Nat) (bA' : Option Addr) (bc' : Nat), Below W0.heap.size W0 X → Below u.heap.size u X → SlS X X.heap.size vA' vc' (vars) → BkAt n₀ X (.slice bA' N1 bc') (bl ++ B0) →
      Calls Tryz.prog 59 #[.agg #[.int .i64 t1k, .string t1n, .string t1m, .int .i64 t1i, .int .i64 t1d, .slice t1A t1s.len t1c], .string label, .slice vA' NV vc', .slice bA' N1 bc'] X (ExQ n₀ L1 (bl ++ B0 ++ B1) NL1 N2 u)) := fun u X vA' vc' bA' bc' hX hu hv' hb' => by
    have h := (HP1.out X (HC.out X hX).1.1).2 (vars) vA' vc' (bl ++ B0) (.slice bA' N1 bc') n₀ hv' hb' (Nat.le_trans hn (HC.out X hX).1.1.size) (by (try simp only [List.length_append, List.length_cons, List.length_nil]); omega) (by (try simp only [List.length_append]); omega)
    rw [HL1.out, HNV.out] at h
    exact h.mono fun _ _ h => h.q HNL1.out HN2.out hu
  have HK2 : Hid (∀ (u X : World) (vA' : Option Addr) (vc' : Nat) (bA' : Option Addr) (bc' : Nat), Below W0.heap.size W0 X → Below u.heap.size u X → SlS X X.heap.size vA' vc' (vars) → BkAt n₀ X (.slice bA' N2 bc') (bl ++ B0 ++ B1) →
      Calls Tryz.prog 59 #[.agg #[.int .i64 t2k, .string t2n, .string t2m, .int .i64 t2i, .int .i64 t2d, .slice t2A t2s.len t2c], .string label, .slice vA' NV vc', .slice bA' N2 bc'] X (ExQ n₀ L2 (bl ++ B0 ++ B1 ++ B2) NL2 N3 u)) := fun u X vA' vc' bA' bc' hX hu hv' hb' => by
    have h := (HP2.out X (HC.out X hX).1.1).2 (vars) vA' vc' (bl ++ B0 ++ B1) (.slice bA' N2 bc') n₀ hv' hb' (Nat.le_trans hn (HC.out X hX).1.1.size) (by (try simp only [List.length_append, List.length_cons, List.length_nil]); omega) (by (try simp only [List.length_append]); omega)
    rw [HL2.out, HNV.out] at h
    exact h.mono fun _ _ h => h.q HNL2.out HN3.out hu
  rw [HNV.out, HNB.out]
  have hN0 : NL0 ≤ 300000 := by rw [← HNL0.out]; omega
  have hN1 : NL1 ≤ 300000 := by rw [← HNL1.out]; omega
  have hN2 : NL2 ≤ 300000 := by rw [← HNL2.out]; omega
  obtain ⟨NO1, HNO1⟩ : ∃ q, Hid (NL0 + 1 = q) := ⟨_, Lib.hid rfl⟩
  obtain ⟨NO2, HNO2⟩ : ∃ q, Hid (NO1 + NL1 = q) := ⟨_, Lib.hid rfl⟩
  obtain ⟨NO3, HNO3⟩ : ∃ q, Hid (NO2 + 1 = q) := ⟨_, Lib.hid rfl⟩
  have hO1 : NO1 ≤ 300001 := by rw [← HNO1.out]; omega
  have hO2 : NO2 ≤ 600001 := by rw [← HNO2.out]; omega
  have hO3 : NO3 ≤ 600003 := by rw [← HNO3.out]; omega
  rw [hsl] at hcp1 hcap ⊢
  clear hs hkn hks hv hb hx0 hr0 hr1 hr2 hl0 hl1 hl2 hsl HE
  rw [HNV.out] at hvl
  go_enter Tryz.func59, Tryz.ntmps59
  obtain ⟨_, x0, x1, x2, x3, x4, x5⟩ := HC.out W0 (Below.refl _ _)
  obtain ⟨⟨p0a, p0b, p0c, p0d, p0e, p0f⟩, _⟩ := HP0.out W0 (HC.out W0 (Below.refl _ _)).1.1
  go_wp2_with fail
  refine (HK0.out W0 W0 vA vc bA bc (Below.refl _ _) (Below.refl _ _) (HC.out W0 (Below.refl _ _)).1.2.2.1 (HC.out W0 (Below.refl _ _)).1.2.2.2).mono ?_
  rintro e w1 ⟨iA0, ic0, bA0, bc0, rfl, hi0, hbk0, hB0_⟩
  clear x0 x1 x2 x3 x4 x5 p0a p0b p0c p0d p0e p0f
  have HW1 := Lib.hid (And.intro hB0_ (And.intro hi0 hbk0))
  clear hi0 hbk0 hB0_ hW0 hB0
  obtain ⟨_, x0, x1, x2, x3, x4, x5⟩ := HC.out w1 HW1.out.1
  obtain ⟨⟨p1a, p1b, p1c, p1d, p1e, p1f⟩, _⟩ := HP1.out w1 (HC.out w1 HW1.out.1).1.1
  go_wp2_with fail
  refine (HK1.out w1 w1 vA vc bA0 bc0 HW1.out.1 (Below.refl _ _) (HC.out w1 HW1.out.1).1.2.2.1 HW1.out.2.2).mono ?_
  rintro e w2 ⟨iA1, ic1, bA1, bc1, rfl, hi1, hbk1, hB1⟩
  clear x0 x1 x2 x3 x4 x5 p1a p1b p1c p1d p1e p1f
  have HW2 := Lib.hid (And.intro (HW1.out.1.trans (hB1.mono HW1.out.1.size)) (And.intro hbk1 (And.intro (HW1.out.2.1.below hB1) hi1)))
  clear hi1 hbk1 hB1
  obtain ⟨_, x0, x1, x2, x3, x4, x5⟩ := HC.out w2 HW2.out.1
  obtain ⟨⟨p2a, p2b, p2c, p2d, p2e, p2f⟩, _⟩ := HP2.out w2 (HC.out w2 HW2.out.1).1.1
  go_wp2_with fail
  refine (HK2.out w2 w2 vA vc bA1 bc1 HW2.out.1 (Below.refl _ _) (HC.out w2 HW2.out.1).1.2.2.1 HW2.out.2.1).mono ?_
  rintro e w3 ⟨iA2, ic2, bA2, bc2, rfl, hi2, hbk2, hB2⟩
  clear x0 x1 x2 x3 x4 x5 p2a p2b p2c p2d p2e p2f
  have HW3 := Lib.hid (And.intro (HW2.out.1.trans (hB2.mono HW2.out.1.size)) (And.intro hbk2 (And.intro (HW2.out.2.2.1.below hB2) (And.intro (HW2.out.2.2.2.below hB2) hi2))))
  clear hi2 hbk2 hB2
  go_wp2_with fail
  refine (one28_q 9 ((NL1 : Int) + 2) 0 ⟨#[]⟩ w3 _ (Below.refl _ _)).mono ?_
  rintro e w4 ⟨oA, oc, rfl, ho, hB4⟩
  obtain ⟨W5, hW5⟩ : ∃ W5, w4.alloc (.cells #[.slice iA0 NL0 ic0, .slice oA 1 oc] 50) = W5 := ⟨_, rfl⟩
  have hB5 : Below w4.heap.size w4 W5 := by rw [← hW5]; exact (Below.refl _ _).alloc (Nat.le_refl _) _
  have hz5 : w4.heap.size < W5.heap.size := by rw [← hW5]; simp
  have hx5 : W5.heap[w4.heap.size]? = some (.cells #[.slice iA0 NL0 ic0, .slice oA 1 oc] 50 (0, 0)) := by rw [← hW5]; exact heap_alloc_new w4 _
  have hB35 := hB4.trans (hB5.mono hB4.size)
  have hJl : (joinL 0 [L0, [(⟨9, ((NL1 : Int) + 2), 0, ⟨#[]⟩⟩ : Ins)]]).length = NO1 := by rw [joinL_len]; simp only [List.map_cons, List.map_nil, List.sum_cons, List.sum_nil, HNL0.out, List.length_singleton]; exact HNO1.out
  have HJ := Lib.hid (join28_any [(.slice iA0 NL0 ic0, L0), (.slice oA 1 oc, [⟨9, ((NL1 : Int) + 2), 0, ⟨#[]⟩⟩])] 0 w4.heap.size 2 W5 hz5 (by simp) (by omega)
    (ins_row (t := 50) hx5 (by
      intro x hx
      simp only [List.mem_cons, List.not_mem_nil, or_false] at hx
      rcases hx with rfl | rfl
      · exact HW3.out.2.2.1.below hB35
      · exact (ho.below hB5).low (Nat.zero_le _))) (by simp only [List.map_cons, List.map_nil, List.sum_cons, List.sum_nil, HNL0.out, List.length_singleton]; omega))
  have HB5 := Lib.hid (And.intro hB35 hJl)
  clear ho hB4 hB5 hx5 hB35 hJl
  go_wp2_with fail
  refine HJ.out.mono ?_
  rintro e w6 h6
  obtain ⟨qA, qc, rfl, hq6, hB6⟩ := InsP.q (N := NO1) (L := joinL 0 [L0, [(⟨9, ((NL1 : Int) + 2), 0, ⟨#[]⟩⟩ : Ins)]]) (u := w3) h6 HB5.out.2 HB5.out.1
  have hlt : NL0 < NO1 := by rw [← HNO1.out]; omega
  obtain ⟨qg, qu, rfl, hqn, hqc1, hqc2, hqg1, hqg2, hqcell, hqfz⟩ := ins_cell hq6 (j := NL0) (by rw [HB5.out.2]; exact hlt)
  clear hqn
  have hq7 := ins_set hq6 (j := L0.length) (by rw [HB5.out.2, HNL0.out]; exact hlt) ((NL0 : Int) + NL1 + 2)
  rw [if_set, HNL0.out] at hq7
  obtain ⟨W7, hW7⟩ : ∃ W7, w6.setCell ⟨qg, NL0 * 4 + 1, none⟩ (.int .i64 ((NL0 : Int) + NL1 + 2)) = W7 := ⟨_, rfl⟩
  have hB7 : Below w3.heap.size w3 W7 := by rw [← hW7]; exact hB6.setCell hqg1 _
  rw [hW7] at hq7
  have h0i : (0 : Int) ≤ (NL0 : Int) := by omega
  have hlti : (NL0 : Int) < (NO1 : Int) := by omega
  have HX1 : Hid ((mv 0 L0 ++ [(⟨9, (NL0 : Int) + NL1 + 2, 0, ⟨#[]⟩⟩ : Ins)]).length = NO1) := by
    rw [List.length_append, mv_len, HNL0.out, List.length_singleton]
    exact HNO1
  have HQ7 := Lib.hid (And.intro hB7 hq7)
  have HMV1 := Lib.hid (moved28_q L1 (.slice iA1 NL1 ic1) NO1 0 NL1 W7 W7 (HW3.out.2.2.2.1.below hB7) (by rw [HNL1.out]; omega) (by omega) HNL1.out (Below.refl _ _))
  clear h6 hq6 hB6 hq7 hB7 hW5
  go_wp2_with fail
  refine HMV1.out.mono ?_
  rintro e w8 ⟨mA, mc, rfl, hm8, hB8⟩
  have hm8l : (mv NO1 L1).length = NL1 := by rw [mv_len]; exact HNL1.out
  have HM8 := Lib.hid (And.intro (hm8.news) (And.intro (show (insC (mv NO1 L1)).length = NL1 * 4 by rw [insC_length, hm8l]) hm8l))
  have ho8 := HQ7.out.2.below hB8
  unfold InsAt at ho8
  rw [HX1.out] at ho8
  have HO8 := Lib.hid (And.intro ho8 (HQ7.out.1.trans (hB8.mono HQ7.out.1.size)))
  clear hm8 hB8 hm8l ho8 hqcell hqfz hW7 HMV1
  go_wp2_with (first | (at_builtin; refine wpList_append_own_any _ rfl (.tmp 201) (.tmp 205) 50 rfl w3.heap.size 90 i0 _ 4 40 Tryz.underlying50 hi hz0 hz1 hz2 rfl (by decide) _ NO1 _ rfl HO8.out.1 mA NL1 mc (insC (mv NO1 L1)) rfl HM8.out.2.1 (fun h => by rw [← HM8.out.2.2]; exact HM8.out.1.1 h) HM8.out.1.2 (insC_one _) (by unfold maxLen; omega) (by omega) HO8.out.2.size ?_; intro v9 w9 hown9 hg9; rw [HNO2.out] at hown9; have hB9 := HO8.out.2.grown hg9 HO8.out.2.size (fun q hq => (HO8.out.1.lt q hq).1); obtain ⟨A9, c9, rfl⟩ := own_form hown9; have HO9 := Lib.hid (And.intro hown9 hB9); clear hown9 hB9 hg9) | (at_builtin; refine wpList_append_own _ rfl (.tmp 207) (.tmp 218) 50 rfl w3.heap.size 90 i0 _ 4 40 Tryz.underlying50 hi hz0 hz1 hz2 rfl (by decide) _ NO2 _ rfl (HO9.out.1.alloc _) ⟨w9.heap.size, 0, none⟩ 1 1 (Ins.cells ⟨8, ((NL0 : Int) + NL1 + NL2 + 2), 0, ⟨#[]⟩⟩) rfl rfl (cells_new _ _ _) (by simp [Ins.cells, Value.oneCell']) (by unfold maxLen; omega) (by omega) (by have := HO9.out.2.size; simp; omega) ?_; intro v10 w10 hown10 hg10 _; rw [HNO3.out] at hown10; have hB10 := (HO9.out.2.alloc HO9.out.2.size _).grown hg10 (by have := HO9.out.2.size; simp; omega) (fun q hq => (HO9.out.1.lt q hq).1); obtain ⟨A10, c10, rfl⟩ := own_form hown10; have HO10 := Lib.hid (And.intro hown10 hB10); clear hown10 hB10 hg10))
  have HMV2 := Lib.hid (moved28_q L2 (.slice iA2 NL2 ic2) NO3 0 NL2 w10 w10 (HW3.out.2.2.2.2.below HO10.out.2) (by rw [HNL2.out]; omega) (by omega) HNL2.out (Below.refl _ _))
  go_wp2_with fail
  refine HMV2.out.mono ?_
  rintro e w11 ⟨kA, kc, rfl, hm11, hB11⟩
  have hm11l : (mv NO3 L2).length = NL2 := by rw [mv_len]; exact HNL2.out
  have HM11 := Lib.hid (And.intro (hm11.news) (And.intro (show (insC (mv NO3 L2)).length = NL2 * 4 by rw [insC_length, hm11l]) hm11l))
  have HO11 := Lib.hid (And.intro (own_keep HO10.out.1 fun _ _ _ hk => hB11.block _ (lt_of_block hk)) (HO10.out.2.trans (hB11.mono HO10.out.2.size)))
  clear hm11 hB11 hm11l HMV2
  go_wp2_with (at_builtin; refine wpList_append_own_any _ rfl (.tmp 220) (.tmp 224) 50 rfl w3.heap.size 90 i0 _ 4 40 Tryz.underlying50 hi hz0 hz1 hz2 rfl (by decide) _ NO3 _ rfl HO11.out.1 kA NL2 kc (insC (mv NO3 L2)) rfl HM11.out.2.1 (fun h => by rw [← HM11.out.2.2]; exact HM11.out.1.1 h) HM11.out.1.2 (insC_one _) (by unfold maxLen; omega) (by omega) HO11.out.2.size ?_; intro v12 w12 hown12 hg12; have hB12 := HO11.out.2.grown hg12 HO11.out.2.size (fun q hq => (HO11.out.1.lt q hq).1); obtain ⟨A12, c12, rfl⟩ := own_form hown12)
  have HR := Lib.hid (ExP.mk (Bs := B0 ++ B1 ++ B2) (bl := bl) (w := w) (n₀ := n₀) (if_fin HNL0.out HNL1.out HNL2.out HNO1.out HNO2.out HNO3.out rfl hown12) (by rw [← List.append_assoc, ← List.append_assoc]; exact HW3.out.2.1) hB12 ((HC.out w3 HW3.out.1).1.1.trans (hB12.mono (HC.out w3 HW3.out.1).1.1.size)))
  clear hown12 hg12 hB12
  go_ret2
  exact HR.out
end Go.Proofs.YtlcfoiapkblheaaGreatDoor
/- ref28.expr: case (printed by gen_yxd.py) -/
namespace Go.Proofs.YtlcfoiapkblheaaGreatDoor
open Go.RowKit Go.Proofs Go.Shelf

set_option maxRecDepth 100000 in
set_option maxHeartbeats 8000000 in
theorem ex_case (label : ByteArray) (s : Fo) (ih : s.All (ExOK label)) (k : Int) (n m : ByteArray) (i d : Int) (A : Option Addr) (c : Nat) (vars : List ByteArray) (vA : Option Addr) (vc : Nat) (bl : List Blk) (bv : Value) (n₀ : Nat) (w : World) (h : ExIn s k A c vars vA vc bl bv n₀ w) (hk : k = 13) (hsl : s.len = 3) : Calls Tryz.prog 59 #[.agg #[.int .i64 k, .string n, .string m, .int .i64 i, .int .i64 d, .slice A s.len c], .string label, .slice vA vars.length vc, bv] w (ExP n₀ (nodeR label k n m i d (s.rcomp label) vars bl.length) bl w) := by
  subst hk
  obtain ⟨hs, hkn, hks, hv, hb, hn, hvl, hbl, hct⟩ := h
  obtain ⟨bA, bc, rfl⟩ := hb.form
  obtain ⟨NB, HNB⟩ : ∃ q, Hid (bl.length = q) := ⟨_, Lib.hid rfl⟩
  obtain ⟨NV, HNV⟩ : ∃ q, Hid (vars.length = q) := ⟨_, Lib.hid rfl⟩
  have hcap : s.len ≤ 9223372036854775807 := by have := hs.1; have := hs.2.1; unfold maxLen at this; omega
  have hcp1 := hs.1
  have hcp2 := hs.2.1
  unfold maxLen at hcp2
  have hBL := hb.blocks.form
  rw [HNB.out] at hBL
  have hNB : NB ≤ 1000000 := by rw [← HNB.out]; omega
  clear hBL
  obtain ⟨i0, hi, hz0, hz1, hz2⟩ := info_parts Tryz.infoInstr
  obtain ⟨⟨t0k, t0n, t0m, t0i, t0d, t0A, t0c, t0s⟩, b0, o0, hA0, hb0, hc0, hr0, hl0, hp0⟩ := ex_part label hs hks ih 0 (by omega) hct
  subst hA0
  simp only at hc0 hr0 hl0 hp0
  obtain ⟨R0, HRR0⟩ : ∃ q, Hid (Tr.rcomp label ⟨t0k, t0n, t0m, t0i, t0d, t0A, t0c, t0s⟩ = q) := ⟨_, Lib.hid rfl⟩
  rw [HRR0.out] at hr0 hl0
  have HP0 : Hid (∀ X, Below w.heap.size w X → (X.cell? ⟨b0, o0, none⟩ = some (.int .i64 t0k) ∧ X.cell? ⟨b0, o0 + 1, none⟩ = some (.string t0n) ∧ X.cell? ⟨b0, o0 + 2, none⟩ = some (.string t0m) ∧ X.cell? ⟨b0, o0 + 3, none⟩ = some (.int .i64 t0i) ∧ X.cell? ⟨b0, o0 + 4, none⟩ = some (.int .i64 t0d) ∧ X.cell? ⟨b0, o0 + 5, none⟩ = some (.slice t0A t0s.len t0c)) ∧ ∀ (vars : List ByteArray) (vA : Option Addr) (vc : Nat) (bl : List Blk) (bv : Value) (n₀ : Nat), SlS X X.heap.size vA vc vars → BkAt n₀ X bv bl → n₀ ≤ X.heap.size → vars.length + 2 * s.cnt 0 ≤ 1000000 → bl.length + s.cnt 0 ≤ 1000000 →
      Calls Tryz.prog 59 #[.agg #[.int .i64 t0k, .string t0n, .string t0m, .int .i64 t0i, .int .i64 t0d, .slice t0A t0s.len t0c], .string label, .slice vA vars.length vc, bv] X (ExP n₀ (R0 vars bl.length) bl X)) := by
    rw [HRR0.out] at hp0
    exact Lib.hid hp0
  clear hp0 HRR0
  obtain ⟨⟨t1k, t1n, t1m, t1i, t1d, t1A, t1c, t1s⟩, b1, o1, hA1, hb1, hc1, hr1, hl1, hp1⟩ := ex_part label hs hks ih 1 (by omega) hct
  simp only [Option.some.injEq, Addr.mk.injEq, and_true] at hA1
  obtain ⟨rfl, rfl⟩ := hA1
  simp only at hc1 hr1 hl1 hp1
  obtain ⟨R1, HRR1⟩ : ∃ q, Hid (Tr.rcomp label ⟨t1k, t1n, t1m, t1i, t1d, t1A, t1c, t1s⟩ = q) := ⟨_, Lib.hid rfl⟩
  rw [HRR1.out] at hr1 hl1
  have HP1 : Hid (∀ X, Below w.heap.size w X → (X.cell? ⟨b0, o0 + 6, none⟩ = some (.int .i64 t1k) ∧ X.cell? ⟨b0, o0 + 7, none⟩ = some (.string t1n) ∧ X.cell? ⟨b0, o0 + 8, none⟩ = some (.string t1m) ∧ X.cell? ⟨b0, o0 + 9, none⟩ = some (.int .i64 t1i) ∧ X.cell? ⟨b0, o0 + 10, none⟩ = some (.int .i64 t1d) ∧ X.cell? ⟨b0, o0 + 11, none⟩ = some (.slice t1A t1s.len t1c)) ∧ ∀ (vars : List ByteArray) (vA : Option Addr) (vc : Nat) (bl : List Blk) (bv : Value) (n₀ : Nat), SlS X X.heap.size vA vc vars → BkAt n₀ X bv bl → n₀ ≤ X.heap.size → vars.length + 2 * s.cnt 1 ≤ 1000000 → bl.length + s.cnt 1 ≤ 1000000 →
      Calls Tryz.prog 59 #[.agg #[.int .i64 t1k, .string t1n, .string t1m, .int .i64 t1i, .int .i64 t1d, .slice t1A t1s.len t1c], .string label, .slice vA vars.length vc, bv] X (ExP n₀ (R1 vars bl.length) bl X)) := by
    rw [HRR1.out] at hp1
    exact Lib.hid hp1
  clear hp1 HRR1
  obtain ⟨⟨t2k, t2n, t2m, t2i, t2d, t2A, t2c, t2s⟩, b2, o2, hA2, hb2, hc2, hr2, hl2, hp2⟩ := ex_part label hs hks ih 2 (by omega) hct
  simp only [Option.some.injEq, Addr.mk.injEq, and_true] at hA2
  obtain ⟨rfl, rfl⟩ := hA2
  simp only at hc2 hr2 hl2 hp2
  obtain ⟨R2, HRR2⟩ : ∃ q, Hid (Tr.rcomp label ⟨t2k, t2n, t2m, t2i, t2d, t2A, t2c, t2s⟩ = q) := ⟨_, Lib.hid rfl⟩
  rw [HRR2.out] at hr2 hl2
  have HP2 : Hid (∀ X, Below w.heap.size w X → (X.cell? ⟨b0, o0 + 12, none⟩ = some (.int .i64 t2k) ∧ X.cell? ⟨b0, o0 + 13, none⟩ = some (.string t2n) ∧ X.cell? ⟨b0, o0 + 14, none⟩ = some (.string t2m) ∧ X.cell? ⟨b0, o0 + 15, none⟩ = some (.int .i64 t2i) ∧ X.cell? ⟨b0, o0 + 16, none⟩ = some (.int .i64 t2d) ∧ X.cell? ⟨b0, o0 + 17, none⟩ = some (.slice t2A t2s.len t2c)) ∧ ∀ (vars : List ByteArray) (vA : Option Addr) (vc : Nat) (bl : List Blk) (bv : Value) (n₀ : Nat), SlS X X.heap.size vA vc vars → BkAt n₀ X bv bl → n₀ ≤ X.heap.size → vars.length + 2 * s.cnt 2 ≤ 1000000 → bl.length + s.cnt 2 ≤ 1000000 →
      Calls Tryz.prog 59 #[.agg #[.int .i64 t2k, .string t2n, .string t2m, .int .i64 t2i, .int .i64 t2d, .slice t2A t2s.len t2c], .string label, .slice vA vars.length vc, bv] X (ExP n₀ (R2 vars bl.length) bl X)) := by
    rw [HRR2.out] at hp2
    exact Lib.hid hp2
  clear hp2 HRR2
  have c3 := s.cnt_three
  obtain ⟨⟨L0, B0⟩, HL0⟩ : ∃ q, Hid (R0 vars bl.length = q) := ⟨_, Lib.hid rfl⟩
  have hq0 := hl0 vars bl.length
  rw [HL0.out] at hq0
  obtain ⟨NL0, HNL0⟩ : ∃ q, Hid (L0.length = q) := ⟨_, Lib.hid rfl⟩
  simp only at hq0
  obtain ⟨⟨L2, B2⟩, HL2⟩ : ∃ q, Hid (R2 (vars ++ [n, m]) (bl ++ B0).length = q) := ⟨_, Lib.hid rfl⟩
  have hq2 := hl2 (vars ++ [n, m]) (bl ++ B0).length
  rw [HL2.out] at hq2
  obtain ⟨NL2, HNL2⟩ : ∃ q, Hid (L2.length = q) := ⟨_, Lib.hid rfl⟩
  simp only at hq2
  obtain ⟨⟨L1, B1⟩, HL1⟩ : ∃ q, Hid (R1 vars (bl ++ B0 ++ B2).length = q) := ⟨_, Lib.hid rfl⟩
  have hq1 := hl1 vars (bl ++ B0 ++ B2).length
  rw [HL1.out] at hq1
  obtain ⟨NL1, HNL1⟩ : ∃ q, Hid (L1.length = q) := ⟨_, Lib.hid rfl⟩
  simp only at hq1
  obtain ⟨N1, HN1⟩ : ∃ q, Hid ((bl ++ B0).length = q) := ⟨_, Lib.hid rfl⟩
  obtain ⟨N2, HN2⟩ : ∃ q, Hid ((bl ++ B0 ++ B2).length = q) := ⟨_, Lib.hid rfl⟩
  obtain ⟨N3, HN3⟩ : ∃ q, Hid ((bl ++ B0 ++ B2 ++ B1).length = q) := ⟨_, Lib.hid rfl⟩
  obtain ⟨NVX, HNVX⟩ : ∃ q, Hid ((vars ++ [n, m]).length = q) := ⟨_, Lib.hid rfl⟩
  have HE : Hid (nodeR label 13 n m i d (s.rcomp label) vars bl.length = (caseL L0 L1 L2, B0 ++ B2 ++ B1)) := by
    have e : nodeR label 13 n m i d (s.rcomp label) vars bl.length = rCase ((s.rcomp label).getD 0 noR) ((s.rcomp label).getD 1 noR) ((s.rcomp label).getD 2 noR) n m vars bl.length := rfl
    rw [e, hr0, hr1, hr2]
    unfold rCase
    rw [HL0.out]
    simp only
    rw [← List.length_append, HL2.out]
    simp only
    rw [← List.length_append, HL1.out]
    exact Lib.hid rfl
  rw [HE.out]
  obtain ⟨W0, hW0⟩ : ∃ W0, w.alloc (.cells #[.int .i64 13, .string n, .string m, .int .i64 i, .int .i64 d, .slice (some ⟨b0, o0, none⟩) 3 c] 41) = W0 := ⟨_, rfl⟩
  have hzw : w.heap.size < W0.heap.size := by subst hW0; simp
  have hB0 : Below w.heap.size w W0 := by subst hW0; exact (Below.refl _ _).alloc (Nat.le_refl _) _
  have hx0 : W0.heap[w.heap.size]? = some (.cells #[.int .i64 13, .string n, .string m, .int .i64 i, .int .i64 d, .slice (some ⟨b0, o0, none⟩) 3 c] 41 (0, 0)) := by rw [← hW0]; exact heap_alloc_new w _
  have HC : Hid (∀ X, Below W0.heap.size W0 X → (Below w.heap.size w X ∧ w.heap.size < X.heap.size ∧ SlS X X.heap.size vA vc vars ∧ BkAt n₀ X (.slice bA NB bc) bl) ∧ (X.cell? ⟨w.heap.size, 0, none⟩ = some (.int .i64 13) ∧ X.cell? ⟨w.heap.size, 1, none⟩ = some (.string n) ∧ X.cell? ⟨w.heap.size, 2, none⟩ = some (.string m) ∧ X.cell? ⟨w.heap.size, 3, none⟩ = some (.int .i64 i) ∧ X.cell? ⟨w.heap.size, 4, none⟩ = some (.int .i64 d) ∧ X.cell? ⟨w.heap.size, 5, none⟩ = some (.slice (some ⟨b0, o0, none⟩) 3 c))) := fun X hX => by
    have h0 := (hX.block w.heap.size hzw).trans hx0
    have hb' := hB0.trans (hX.mono (Nat.le_of_lt hzw))
    exact ⟨⟨hb', Nat.lt_of_lt_of_le hzw hX.size, hv.keep hb'.size (fun p hp => hb'.cell hp), by rw [← HNB.out]; exact hb.below hb'⟩, cell_of_row X _ 0 _ _ (0, 0) h0, cell_of_row X _ 1 _ _ (0, 0) h0, cell_of_row X _ 2 _ _ (0, 0) h0, cell_of_row X _ 3 _ _ (0, 0) h0, cell_of_row X _ 4 _ _ (0, 0) h0, cell_of_row X _ 5 _ _ (0, 0) h0⟩
  have HK0 : Hid (∀ (u X : World) (vA' : Option Addr) (vc' : Nat) (bA' : Option Addr) (bc' : Nat), Below W0.heap.size W0 X → Below u.heap.size u X → SlS X X.heap.size vA' vc' (vars) → BkAt n₀ X (.slice bA' NB bc') (bl) →
      Calls Tryz.prog 59 #[.agg #[.int .i64 t0k, .string t0n, .string t0m, .int .i64 t0i, .int .i64 t0d, .slice t0A t0s.len t0c], .string label, .slice vA' NV vc', .slice bA' NB bc'] X (ExQ n₀ L0 (bl ++ B0) NL0 N1 u)) := fun u X vA' vc' bA' bc' hX hu hv' hb' => by
    have h := (HP0.out X (HC.out X hX).1.1).2 (vars) vA' vc' (bl) (.slice bA' NB bc') n₀ hv' hb' (Nat.le_trans hn (HC.out X hX).1.1.size) (by (try simp only [List.length_append, List.length_cons, List.length_nil]); omega) (by (try simp only [List.length_append]); omega)
    rw [HL0.out, HNV.out] at h
    exact h.mono fun _ _ h => h.q HNL0.out HN1.out hu
  have HK2 : Hid (∀ (u X : World) (vA' : Option Addr) (vc' : Nat) (bA' : Option Addr) (bc' : Nat), Below W0.heap.size W0 X → Below u.heap.size u X → SlS X X.heap.size vA' vc' (vars ++ [n, m]) → BkAt n₀ X (.slice bA' N1 bc') (bl ++ B0) →
      Calls Tryz.prog 59 #[.agg #[.int .i64 t2k, .string t2n, .string t2m, .int .i64 t2i, .int .i64 t2d, .slice t2A t2s.len t2c], .string label, .slice vA' NVX vc', .slice bA' N1 bc'] X (ExQ n₀ L2 (bl ++ B0 ++ B2) NL2 N2 u)) := fun u X vA' vc' bA' bc' hX hu hv' hb' => by
    have h := (HP2.out X (HC.out X hX).1.1).2 (vars ++ [n, m]) vA' vc' (bl ++ B0) (.slice bA' N1 bc') n₀ hv' hb' (Nat.le_trans hn (HC.out X hX).1.1.size) (by (try simp only [List.length_append, List.length_cons, List.length_nil]); omega) (by (try simp only [List.length_append]); omega)
    rw [HL2.out, HNVX.out] at h
    exact h.mono fun _ _ h => h.q HNL2.out HN2.out hu
  have HK1 : Hid (∀ (u X : World) (vA' : Option Addr) (vc' : Nat) (bA' : Option Addr) (bc' : Nat), Below W0.heap.size W0 X → Below u.heap.size u X → SlS X X.heap.size vA' vc' (vars) → BkAt n₀ X (.slice bA' N2 bc') (bl ++ B0 ++ B2) →
      Calls Tryz.prog 59 #[.agg #[.int .i64 t1k, .string t1n, .string t1m, .int .i64 t1i, .int .i64 t1d, .slice t1A t1s.len t1c], .string label, .slice vA' NV vc', .slice bA' N2 bc'] X (ExQ n₀ L1 (bl ++ B0 ++ B2 ++ B1) NL1 N3 u)) := fun u X vA' vc' bA' bc' hX hu hv' hb' => by
    have h := (HP1.out X (HC.out X hX).1.1).2 (vars) vA' vc' (bl ++ B0 ++ B2) (.slice bA' N2 bc') n₀ hv' hb' (Nat.le_trans hn (HC.out X hX).1.1.size) (by (try simp only [List.length_append, List.length_cons, List.length_nil]); omega) (by (try simp only [List.length_append]); omega)
    rw [HL1.out, HNV.out] at h
    exact h.mono fun _ _ h => h.q HNL1.out HN3.out hu
  rw [HNV.out, HNB.out]
  have hN0 : NL0 ≤ 300000 := by rw [← HNL0.out]; omega
  have hN1 : NL1 ≤ 300000 := by rw [← HNL1.out]; omega
  have hN2 : NL2 ≤ 300000 := by rw [← HNL2.out]; omega
  obtain ⟨NO1, HNO1⟩ : ∃ q, Hid (NL0 + 1 = q) := ⟨_, Lib.hid rfl⟩
  obtain ⟨NO2, HNO2⟩ : ∃ q, Hid (NO1 + NL2 = q) := ⟨_, Lib.hid rfl⟩
  obtain ⟨NO3, HNO3⟩ : ∃ q, Hid (NO2 + 2 = q) := ⟨_, Lib.hid rfl⟩
  have hO1 : NO1 ≤ 300001 := by rw [← HNO1.out]; omega
  have hO2 : NO2 ≤ 600001 := by rw [← HNO2.out]; omega
  have hO3 : NO3 ≤ 600003 := by rw [← HNO3.out]; omega
  rw [hsl] at hcp1 hcap ⊢
  clear hs hkn hks hv hb hx0 hr0 hr1 hr2 hl0 hl1 hl2 hsl HE
  rw [HNV.out] at hvl
  go_enter Tryz.func59, Tryz.ntmps59
  obtain ⟨_, x0, x1, x2, x3, x4, x5⟩ := HC.out W0 (Below.refl _ _)
  obtain ⟨⟨p0a, p0b, p0c, p0d, p0e, p0f⟩, _⟩ := HP0.out W0 (HC.out W0 (Below.refl _ _)).1.1
  go_wp2_with fail
  refine (HK0.out W0 W0 vA vc bA bc (Below.refl _ _) (Below.refl _ _) (HC.out W0 (Below.refl _ _)).1.2.2.1 (HC.out W0 (Below.refl _ _)).1.2.2.2).mono ?_
  rintro e w1 ⟨iA0, ic0, bA0, bc0, rfl, hi0, hbk0, hB0_⟩
  clear x0 x1 x2 x3 x4 x5 p0a p0b p0c p0d p0e p0f
  have HW1 := Lib.hid (And.intro hB0_ (And.intro hi0 hbk0))
  clear hi0 hbk0 hB0_ hW0 hB0
  have HSX : Hid (∀ X, Below w1.heap.size w1 X → X.cell? ⟨w.heap.size, 1, none⟩ = some (.string n) ∧ X.cell? ⟨w.heap.size, 2, none⟩ = some (.string m) ∧ X.cell? ⟨w.heap.size, 5, none⟩ = some (.slice (some ⟨b0, o0, none⟩) 3 c) ∧ X.cell? ⟨b0, o0 + 12, none⟩ = some (.int .i64 t2k) ∧ X.cell? ⟨b0, o0 + 13, none⟩ = some (.string t2n) ∧ X.cell? ⟨b0, o0 + 14, none⟩ = some (.string t2m) ∧ X.cell? ⟨b0, o0 + 15, none⟩ = some (.int .i64 t2i) ∧ X.cell? ⟨b0, o0 + 16, none⟩ = some (.int .i64 t2d) ∧ X.cell? ⟨b0, o0 + 17, none⟩ = some (.slice t2A t2s.len t2c)) := fun X hX => by
    have h := HC.out X (HW1.out.1.trans (hX.mono HW1.out.1.size))
    have g := (HP2.out X h.1.1).1
    exact ⟨h.2.2.1, h.2.2.2.1, h.2.2.2.2.2.2, g⟩
  have HWI : Hid (∀ (X : World) (g : Nat), Below w1.heap.size w1 X → X.cell? ⟨g, 0, none⟩ = some (.string n) → X.cell? ⟨g, 1, none⟩ = some (.string m) → g < X.heap.size → Calls Tryz.prog 137 #[.slice vA NV vc, .slice (some ⟨g, 0, none⟩) 2 2] X (WithQ (vars ++ [n, m]) NVX w1)) := fun X g hX hg0 hg1 hgl =>
    with28_q vars [n, m] vA (some ⟨g, 0, none⟩) vc 2 NV 2 NVX w1 X hX (HC.out X (HW1.out.1.trans (hX.mono HW1.out.1.size))).1.2.2.1 (slS_two hg0 hg1 hgl) (by rw [HNV.out]; simp only [List.length_cons, List.length_nil]; omega) HNV.out rfl HNVX.out
  obtain ⟨_, x0, x1, x2, x3, x4, x5⟩ := HC.out w1 HW1.out.1
  obtain ⟨⟨p2a, p2b, p2c, p2d, p2e, p2f⟩, _⟩ := HP2.out w1 (HC.out w1 HW1.out.1).1.1
  go_wp2_with fail
  clear x0 x1 x2 x3 x4 x5 p2a p2b p2c p2d p2e p2f
  go_region_held3 (fun X => X.cell? ⟨w.heap.size, 1, none⟩ = some (.string n) ∧ X.cell? ⟨w.heap.size, 2, none⟩ = some (.string m) ∧ X.cell? ⟨w.heap.size, 5, none⟩ = some (.slice (some ⟨b0, o0, none⟩) 3 c) ∧ X.cell? ⟨b0, o0 + 12, none⟩ = some (.int .i64 t2k) ∧ X.cell? ⟨b0, o0 + 13, none⟩ = some (.string t2n) ∧ X.cell? ⟨b0, o0 + 14, none⟩ = some (.string t2m) ∧ X.cell? ⟨b0, o0 + 15, none⟩ = some (.int .i64 t2i) ∧ X.cell? ⟨b0, o0 + 16, none⟩ = some (.int .i64 t2d) ∧ X.cell? ⟨b0, o0 + 17, none⟩ = some (.slice t2A t2s.len t2c))
    (first | exact HSX.out _ hB2 | exact HSX.out _ hbv | exact HSX.out _ (by repeat (first | with_reducible exact hbv | with_reducible refine balloc' ?_ | with_reducible refine Below.drew ?_ | with_reducible exact Below.refl _ _)))
    (first
      | (go_at_call 137; (refine Calls.mono (HWI.out _ w1.heap.size ?_ ?_ ?_ ?_) ?_); (focus (repeat (first | with_reducible exact hbv | with_reducible refine balloc' ?_ | with_reducible refine Below.drew ?_ | with_reducible exact Below.refl _ _))); (focus go_simp); (focus go_simp); (focus simp); rintro e wv ⟨vAX, vcX, rfl, hsv, hbv⟩)
      | (go_at_call 59; refine (HK2.out w1 _ vAX vcX bA0 bc0 (HW1.out.1.trans (hbv.mono HW1.out.1.size)) hbv hsv (HW1.out.2.2.below hbv)).mono ?_; rintro e w2 ⟨iA2, ic2, bA2, bc2, rfl, hi2, hbk2, hB2⟩))
  have HW2 := Lib.hid (And.intro (HW1.out.1.trans (hB2.mono HW1.out.1.size)) (And.intro hbk2 (And.intro (HW1.out.2.1.below hB2) hi2)))
  clear hi2 hbk2 hB2 hsv hbv
  obtain ⟨_, x0, x1, x2, x3, x4, x5⟩ := HC.out w2 HW2.out.1
  obtain ⟨⟨p1a, p1b, p1c, p1d, p1e, p1f⟩, _⟩ := HP1.out w2 (HC.out w2 HW2.out.1).1.1
  go_wp2_with fail
  refine (HK1.out w2 w2 vA vc bA2 bc2 HW2.out.1 (Below.refl _ _) (HC.out w2 HW2.out.1).1.2.2.1 HW2.out.2.1).mono ?_
  rintro e w3 ⟨iA1, ic1, bA1, bc1, rfl, hi1, hbk1, hB1⟩
  clear x0 x1 x2 x3 x4 x5 p1a p1b p1c p1d p1e p1f
  have HW3 := Lib.hid (And.intro (HW2.out.1.trans (hB1.mono HW2.out.1.size)) (And.intro hbk1 (And.intro (HW2.out.2.2.1.below hB1) (And.intro hi1 (HW2.out.2.2.2.below hB1)))))
  clear hi1 hbk1 hB1
  have HA4 := Lib.hid (World.ownsRow_lit (base := w3.heap.size) (e := 90) (size := 4) w3 #[] 0 (Nat.le_refl _) (by simp) rfl)
  have HB4 := Lib.hid ((Below.refl w3.heap.size w3).alloc (Nat.le_refl _) (.cells #[] 90))
  have HI4 := Lib.hid (And.intro (HW3.out.2.2.1.below HB4.out).news (show (insC L0).length = NL0 * 4 by rw [insC_length, HNL0.out]))
  go_wp2_with (first | (at_builtin; refine wpList_append_own_any _ rfl (.tmp 268) (.tmp 269) 50 rfl w3.heap.size 90 i0 _ 4 40 Tryz.underlying50 hi hz0 hz1 hz2 rfl (by decide) _ 0 [] rfl HA4.out iA0 NL0 ic0 (insC L0) rfl HI4.out.2 (fun h => by rw [← HNL0.out]; exact HI4.out.1.1 h) HI4.out.1.2 (insC_one _) (by unfold maxLen; omega) (by omega) (by simp) ?_; intro v5 w5 hown5 hg5; rw [Nat.zero_add, List.nil_append] at hown5; have hB5 := HB4.out.grown hg5 (by simp) (fun q hq => (HA4.out.lt q hq).1); obtain ⟨A5, c5, rfl⟩ := own_form hown5; have HO5 := Lib.hid (And.intro hown5 hB5); clear hown5 hB5 hg5) | (at_builtin; refine wpList_append_own _ rfl (.tmp 270) (.tmp 278) 50 rfl w3.heap.size 90 i0 _ 4 40 Tryz.underlying50 hi hz0 hz1 hz2 rfl (by decide) _ NL0 _ rfl (HO5.out.1.alloc _) ⟨w5.heap.size, 0, none⟩ 1 1 (Ins.cells ⟨13, ((NL0 : Int) + NL2 + 3), 0, ⟨#[]⟩⟩) rfl rfl (cells_new _ _ _) (by simp [Ins.cells, Value.oneCell']) (by unfold maxLen; omega) (by omega) (by have := HO5.out.2.size; simp; omega) ?_; intro v6 w6 hown6 hg6 _; rw [HNO1.out] at hown6; have hB6 := (HO5.out.2.alloc HO5.out.2.size _).grown hg6 (by have := HO5.out.2.size; simp; omega) (fun q hq => (HO5.out.1.lt q hq).1); obtain ⟨A6, c6, rfl⟩ := own_form hown6; have HO6 := Lib.hid (And.intro hown6 hB6); clear hown6 hB6 hg6))
  have HMV2 := Lib.hid (moved28_q L2 (.slice iA2 NL2 ic2) NO1 0 NL2 w6 w6 (HW3.out.2.2.2.2.below HO6.out.2) (by rw [HNL2.out]; omega) (by omega) HNL2.out (Below.refl _ _))
  go_wp2_with fail
  refine HMV2.out.mono ?_
  rintro e w7 ⟨mA, mc, rfl, hm7, hB7⟩
  have hm7l : (mv NO1 L2).length = NL2 := by rw [mv_len]; exact HNL2.out
  have HM7 := Lib.hid (And.intro (hm7.news) (And.intro (show (insC (mv NO1 L2)).length = NL2 * 4 by rw [insC_length, hm7l]) hm7l))
  have HO7 := Lib.hid (And.intro (own_keep HO6.out.1 fun _ _ _ hk => hB7.block _ (lt_of_block hk)) (HO6.out.2.trans (hB7.mono HO6.out.2.size)))
  clear hm7 hB7 hm7l HMV2
  go_wp2_with (first | (at_builtin; refine wpList_append_own_any _ rfl (.tmp 280) (.tmp 284) 50 rfl w3.heap.size 90 i0 _ 4 40 Tryz.underlying50 hi hz0 hz1 hz2 rfl (by decide) _ NO1 _ rfl HO7.out.1 mA NL2 mc (insC (mv NO1 L2)) rfl HM7.out.2.1 (fun h => by rw [← HM7.out.2.2]; exact HM7.out.1.1 h) HM7.out.1.2 (insC_one _) (by unfold maxLen; omega) (by omega) HO7.out.2.size ?_; intro v8 w8 hown8 hg8; rw [HNO2.out] at hown8; have hB8 := HO7.out.2.grown hg8 HO7.out.2.size (fun q hq => (HO7.out.1.lt q hq).1); obtain ⟨A8, c8, rfl⟩ := own_form hown8; have HO8 := Lib.hid (And.intro hown8 hB8); clear hown8 hB8 hg8) | (at_builtin; refine wpList_append_own _ rfl (.tmp 286) (.tmp 298) 50 rfl w3.heap.size 90 i0 _ 4 40 Tryz.underlying50 hi hz0 hz1 hz2 rfl (by decide) _ NO2 _ rfl (HO8.out.1.alloc _) ⟨w8.heap.size, 0, none⟩ 2 2 (Ins.cells ⟨15, 2, 0, ⟨#[]⟩⟩ ++ Ins.cells ⟨8, ((NL0 : Int) + NL1 + NL2 + 3), 0, ⟨#[]⟩⟩) rfl rfl (cells_new _ _ _) (by simp [Ins.cells, Value.oneCell']) (by unfold maxLen; omega) (by omega) (by have := HO8.out.2.size; simp; omega) ?_; intro v9 w9 hown9 hg9 _; rw [HNO3.out] at hown9; have hB9 := (HO8.out.2.alloc HO8.out.2.size _).grown hg9 (by have := HO8.out.2.size; simp; omega) (fun q hq => (HO8.out.1.lt q hq).1); obtain ⟨A9, c9, rfl⟩ := own_form hown9; have HO9 := Lib.hid (And.intro hown9 hB9); clear hown9 hB9 hg9))
  have HMV1 := Lib.hid (moved28_q L1 (.slice iA1 NL1 ic1) NO3 0 NL1 w9 w9 (HW3.out.2.2.2.1.below HO9.out.2) (by rw [HNL1.out]; omega) (by omega) HNL1.out (Below.refl _ _))
  go_wp2_with fail
  refine HMV1.out.mono ?_
  rintro e w11 ⟨kA, kc, rfl, hm11, hB11⟩
  have hm11l : (mv NO3 L1).length = NL1 := by rw [mv_len]; exact HNL1.out
  have HM11 := Lib.hid (And.intro (hm11.news) (And.intro (show (insC (mv NO3 L1)).length = NL1 * 4 by rw [insC_length, hm11l]) hm11l))
  have HO11 := Lib.hid (And.intro (own_keep HO9.out.1 fun _ _ _ hk => hB11.block _ (lt_of_block hk)) (HO9.out.2.trans (hB11.mono HO9.out.2.size)))
  clear hm11 hB11 hm11l HMV1
  go_wp2_with (at_builtin; refine wpList_append_own_any _ rfl (.tmp 300) (.tmp 304) 50 rfl w3.heap.size 90 i0 _ 4 40 Tryz.underlying50 hi hz0 hz1 hz2 rfl (by decide) _ NO3 _ rfl HO11.out.1 kA NL1 kc (insC (mv NO3 L1)) rfl HM11.out.2.1 (fun h => by rw [← HM11.out.2.2]; exact HM11.out.1.1 h) HM11.out.1.2 (insC_one _) (by unfold maxLen; omega) (by omega) HO11.out.2.size ?_; intro v12 w12 hown12 hg12; have hB12 := HO11.out.2.grown hg12 HO11.out.2.size (fun q hq => (HO11.out.1.lt q hq).1); obtain ⟨A12, c12, rfl⟩ := own_form hown12)
  have HR := Lib.hid (ExP.mk (Bs := B0 ++ B2 ++ B1) (bl := bl) (w := w) (n₀ := n₀) (case_fin HNL0.out HNL1.out HNL2.out HNO1.out HNO2.out HNO3.out rfl hown12) (by rw [← List.append_assoc, ← List.append_assoc]; exact HW3.out.2.1) hB12 ((HC.out w3 HW3.out.1).1.1.trans (hB12.mono (HC.out w3 HW3.out.1).1.1.size)))
  clear hown12 hg12 hB12
  go_ret2
  exact HR.out
end Go.Proofs.YtlcfoiapkblheaaGreatDoor
/- ref28.expr: fun (printed by gen_yxd.py) -/
namespace Go.Proofs.YtlcfoiapkblheaaGreatDoor
open Go.RowKit Go.Proofs Go.Shelf

theorem bk_push {n₀ N : Nat} {X : World} {v : Value} {bl : List Blk} {BS : List Bg} (h : X.ownsRow n₀ 52 3 v N (bgC BS ++ [.int .i64 0, .bool false, .slice none 0 0])) (hN : BS.length + 1 = N) (hb : BlksAt 0 X BS bl) : BkAt n₀ X v (bl ++ [⟨0, false, []⟩]) := by
  refine ⟨BS ++ [⟨0, false, .slice none 0 0⟩], ?_, BlksAt.append (l' := [⟨0, false, .slice none 0 0⟩]) (m' := [⟨0, false, []⟩]) ⟨rfl, rfl, World.ownsRow_nil _ _ _ _, trivial⟩ hb⟩
  rw [List.length_append, List.length_singleton, hN, bgC_append]
  exact h
set_option maxRecDepth 100000 in
set_option maxHeartbeats 8000000 in
theorem ex_fun (label : ByteArray) (s : Fo) (ih : s.All (ExOK label)) (k : Int) (n m : ByteArray) (i d : Int) (A : Option Addr) (c : Nat) (vars : List ByteArray) (vA : Option Addr) (vc : Nat) (bl : List Blk) (bv : Value) (n₀ : Nat) (w : World) (h : ExIn s k A c vars vA vc bl bv n₀ w) (hk : k = 6) (hsl : s.len = 1) : Calls Tryz.prog 59 #[.agg #[.int .i64 k, .string n, .string m, .int .i64 i, .int .i64 d, .slice A s.len c], .string label, .slice vA vars.length vc, bv] w (ExP n₀ (nodeR label k n m i d (s.rcomp label) vars bl.length) bl w) := by
  subst hk
  obtain ⟨hs, hkn, hks, hv, hb, hn, hvl, hbl, hct⟩ := h
  obtain ⟨bA, bc, rfl⟩ := hb.form
  obtain ⟨NB, HNB⟩ : ∃ q, Hid (bl.length = q) := ⟨_, Lib.hid rfl⟩
  obtain ⟨NV, HNV⟩ : ∃ q, Hid (vars.length = q) := ⟨_, Lib.hid rfl⟩
  have hcap : s.len ≤ 9223372036854775807 := by have := hs.1; have := hs.2.1; unfold maxLen at this; omega
  have hcp1 := hs.1
  have hcp2 := hs.2.1
  unfold maxLen at hcp2
  have hBL := hb.blocks.form
  rw [HNB.out] at hBL
  have hNB : NB ≤ 1000000 := by rw [← HNB.out]; omega
  clear hBL
  obtain ⟨i0, hi, hz0, hz1, hz2⟩ := info_parts Tryz.infoBlock
  obtain ⟨⟨t0k, t0n, t0m, t0i, t0d, t0A, t0c, t0s⟩, b0, o0, hA0, hb0, hc0, hr0, hl0, hp0⟩ := ex_part label hs hks ih 0 (by omega) hct
  subst hA0
  simp only at hc0 hr0 hl0 hp0
  obtain ⟨R0, HRR0⟩ : ∃ q, Hid (Tr.rcomp label ⟨t0k, t0n, t0m, t0i, t0d, t0A, t0c, t0s⟩ = q) := ⟨_, Lib.hid rfl⟩
  rw [HRR0.out] at hr0 hl0
  have HP0 : Hid (∀ X, Below w.heap.size w X → (X.cell? ⟨b0, o0, none⟩ = some (.int .i64 t0k) ∧ X.cell? ⟨b0, o0 + 1, none⟩ = some (.string t0n) ∧ X.cell? ⟨b0, o0 + 2, none⟩ = some (.string t0m) ∧ X.cell? ⟨b0, o0 + 3, none⟩ = some (.int .i64 t0i) ∧ X.cell? ⟨b0, o0 + 4, none⟩ = some (.int .i64 t0d) ∧ X.cell? ⟨b0, o0 + 5, none⟩ = some (.slice t0A t0s.len t0c)) ∧ ∀ (vars : List ByteArray) (vA : Option Addr) (vc : Nat) (bl : List Blk) (bv : Value) (n₀ : Nat), SlS X X.heap.size vA vc vars → BkAt n₀ X bv bl → n₀ ≤ X.heap.size → vars.length + 2 * s.cnt 0 ≤ 1000000 → bl.length + s.cnt 0 ≤ 1000000 →
      Calls Tryz.prog 59 #[.agg #[.int .i64 t0k, .string t0n, .string t0m, .int .i64 t0i, .int .i64 t0d, .slice t0A t0s.len t0c], .string label, .slice vA vars.length vc, bv] X (ExP n₀ (R0 vars bl.length) bl X)) := by
    rw [HRR0.out] at hp0
    exact Lib.hid hp0
  clear hp0 HRR0
  have c3 := s.cnt_one
  obtain ⟨hole, HHO⟩ : ∃ q : Blk, Hid ((⟨0, false, []⟩ : Blk) = q) := ⟨_, Lib.hid rfl⟩
  obtain ⟨⟨L0, B0⟩, HL0⟩ : ∃ q, Hid (R0 (vars ++ [n]) (bl ++ [hole]).length = q) := ⟨_, Lib.hid rfl⟩
  have hq0 := hl0 (vars ++ [n]) (bl ++ [hole]).length
  rw [HL0.out] at hq0
  obtain ⟨NL0, HNL0⟩ : ∃ q, Hid (L0.length = q) := ⟨_, Lib.hid rfl⟩
  simp only at hq0
  obtain ⟨N1, HN1⟩ : ∃ q, Hid ((bl ++ [hole]).length = q) := ⟨_, Lib.hid rfl⟩
  obtain ⟨N2, HN2⟩ : ∃ q, Hid ((bl ++ [hole] ++ B0).length = q) := ⟨_, Lib.hid rfl⟩
  obtain ⟨NVX, HNVX⟩ : ∃ q, Hid ((vars ++ [n]).length = q) := ⟨_, Lib.hid rfl⟩
  obtain ⟨NR, HNR⟩ : ∃ q, Hid ((joinL 0 [L0, [retI]]).length = q) := ⟨_, Lib.hid rfl⟩
  have HE : Hid (nodeR label 6 n m i d (s.rcomp label) vars bl.length = ([⟨5, (NB : Int), 0, ⟨#[]⟩⟩], ⟨(NV : Int), true, joinL 0 [L0, [retI]]⟩ :: B0)) := by
    have e : nodeR label 6 n m i d (s.rcomp label) vars bl.length = ([⟨5, (bl.length : Int), 0, ⟨#[]⟩⟩], rBlk ((s.rcomp label).getD 0 noR) (vars ++ [n]) (vars.length : Int) true bl.length) := rfl
    rw [e, hr0]
    unfold rBlk
    have e2 : bl.length + 1 = (bl ++ [hole]).length := by simp
    rw [e2, HL0.out, HNB.out, HNV.out]
    exact Lib.hid rfl
  rw [HE.out]
  obtain ⟨W0, hW0⟩ : ∃ W0, w.alloc (.cells #[.int .i64 6, .string n, .string m, .int .i64 i, .int .i64 d, .slice (some ⟨b0, o0, none⟩) 1 c] 41) = W0 := ⟨_, rfl⟩
  have hzw : w.heap.size < W0.heap.size := by subst hW0; simp
  have hB0 : Below w.heap.size w W0 := by subst hW0; exact (Below.refl _ _).alloc (Nat.le_refl _) _
  have hx0 : W0.heap[w.heap.size]? = some (.cells #[.int .i64 6, .string n, .string m, .int .i64 i, .int .i64 d, .slice (some ⟨b0, o0, none⟩) 1 c] 41 (0, 0)) := by rw [← hW0]; exact heap_alloc_new w _
  have HC : Hid (∀ X, Below W0.heap.size W0 X → (Below w.heap.size w X ∧ w.heap.size < X.heap.size ∧ SlS X X.heap.size vA vc vars ∧ BkAt n₀ X (.slice bA NB bc) bl) ∧ (X.cell? ⟨w.heap.size, 0, none⟩ = some (.int .i64 6) ∧ X.cell? ⟨w.heap.size, 1, none⟩ = some (.string n) ∧ X.cell? ⟨w.heap.size, 2, none⟩ = some (.string m) ∧ X.cell? ⟨w.heap.size, 3, none⟩ = some (.int .i64 i) ∧ X.cell? ⟨w.heap.size, 4, none⟩ = some (.int .i64 d) ∧ X.cell? ⟨w.heap.size, 5, none⟩ = some (.slice (some ⟨b0, o0, none⟩) 1 c))) := fun X hX => by
    have h0 := (hX.block w.heap.size hzw).trans hx0
    have hb' := hB0.trans (hX.mono (Nat.le_of_lt hzw))
    exact ⟨⟨hb', Nat.lt_of_lt_of_le hzw hX.size, hv.keep hb'.size (fun p hp => hb'.cell hp), by rw [← HNB.out]; exact hb.below hb'⟩, cell_of_row X _ 0 _ _ (0, 0) h0, cell_of_row X _ 1 _ _ (0, 0) h0, cell_of_row X _ 2 _ _ (0, 0) h0, cell_of_row X _ 3 _ _ (0, 0) h0, cell_of_row X _ 4 _ _ (0, 0) h0, cell_of_row X _ 5 _ _ (0, 0) h0⟩
  have HK0 : Hid (∀ (u X : World) (vA' : Option Addr) (vc' : Nat) (bA' : Option Addr) (bc' : Nat), Below W0.heap.size W0 X → Below u.heap.size u X → SlS X X.heap.size vA' vc' (vars ++ [n]) → BkAt W0.heap.size X (.slice bA' N1 bc') (bl ++ [hole]) →
      Calls Tryz.prog 59 #[.agg #[.int .i64 t0k, .string t0n, .string t0m, .int .i64 t0i, .int .i64 t0d, .slice t0A t0s.len t0c], .string label, .slice vA' NVX vc', .slice bA' N1 bc'] X (ExQ W0.heap.size L0 (bl ++ [hole] ++ B0) NL0 N2 u)) := fun u X vA' vc' bA' bc' hX hu hv' hb' => by
    have h := (HP0.out X (HC.out X hX).1.1).2 (vars ++ [n]) vA' vc' (bl ++ [hole]) (.slice bA' N1 bc') W0.heap.size hv' hb' hX.size (by simp only [List.length_append, List.length_cons, List.length_nil]; omega) (by simp only [List.length_append, List.length_cons, List.length_nil]; omega)
    rw [HL0.out, HNVX.out] at h
    exact h.mono fun _ _ h => h.q HNL0.out HN2.out hu
  have hN1 : NB + 1 = N1 := by rw [← HN1.out, List.length_append, HNB.out]; rfl
  have hN2 : NB < N2 := by rw [← HN2.out, List.length_append, List.length_append, HNB.out]; simp only [List.length_cons, List.length_nil]; omega
  have hN2b : N2 ≤ 1000001 := by rw [← HN2.out]; simp only [List.length_append, List.length_cons, List.length_nil]; omega
  have HNN := Lib.hid hN1
  rw [HNV.out, HNB.out]
  have hL0 : NL0 ≤ 300000 := by rw [← HNL0.out]; omega
  rw [hsl] at hcp1 hcap ⊢
  have hb0' := (HC.out W0 (Below.refl _ _)).1.2.2.2
  obtain ⟨BS, hb1', hb2'⟩ := hb0'
  have hbl2 := hb2'.length
  rw [HNB.out] at hbl2
  rw [hbl2] at hb1'
  have HBS := Lib.hid (And.intro hb2' hbl2)
  have HNW := Lib.hid (And.intro (own_news hb1') (And.intro (bgC_one hb2') (show (bgC BS).length = NB * 3 by rw [bgC_length, hbl2])))
  have HA0 := Lib.hid (World.ownsRow_lit (base := W0.heap.size) (e := 52) (size := 3) W0 #[] 0 (Nat.le_refl _) (by simp) rfl)
  have HB0 := Lib.hid ((Below.refl W0.heap.size W0).alloc (Nat.le_refl _) (.cells #[] 52))
  have HNX := Lib.hid (show ∀ ad, bA = some ad → ∀ q u, (bgC BS)[q]? = some u → (W0.alloc (.cells #[] 52)).cell? (ad.add q) = some u from (own_news (own_keep hb1' fun _ _ _ hk => HB0.out.block _ (lt_of_block hk))).2)
  clear hs hkn hks hv hx0 hr0 hl0 hsl HE hN1 hb hb1' hb2' hbl2 hB0
  rw [HNV.out] at hvl
  obtain ⟨_, x0, x1, x2, x3, x4, x5⟩ := HC.out W0 (Below.refl _ _)
  go_enter Tryz.func59, Tryz.ntmps59
  go_wp2_with (first | (at_builtin; refine wpList_append_own_any _ rfl (.tmp 79) (.tmp 80) 28 rfl W0.heap.size 52 i0 _ 3 40 Tryz.underlying28 hi hz0 hz1 hz2 rfl (by decide) _ 0 [] rfl HA0.out bA NB bc (bgC BS) rfl HNW.out.2.2 HNW.out.1.1 HNX.out HNW.out.2.1 (by unfold maxLen; omega) (by omega) (by simp) ?_; intro v1 w1 hown1 hg1; rw [Nat.zero_add, List.nil_append] at hown1; have hB1 := HB0.out.grown hg1 (by simp) (fun q hq => (HA0.out.lt q hq).1); obtain ⟨A1, c1, rfl⟩ := own_form hown1; have HO1 := Lib.hid (And.intro hown1 hB1); clear hown1 hB1 hg1) | (at_builtin; refine wpList_append_own _ rfl (.tmp 81) (.tmp 83) 28 rfl W0.heap.size 52 i0 _ 3 40 Tryz.underlying28 hi hz0 hz1 hz2 rfl (by decide) _ NB _ rfl (HO1.out.1.alloc _) ⟨w1.heap.size, 0, none⟩ 1 1 [.int .i64 0, .bool false, .slice none 0 0] rfl rfl (cells_new _ _ _) (by simp [Value.oneCell']) (by unfold maxLen; omega) (by omega) (by have := HO1.out.2.size; simp; omega) ?_; intro v2 w2 hown2 hg2 _; rw [HNN.out] at hown2; have hB2 := (HO1.out.2.alloc HO1.out.2.size _).grown hg2 (by have := HO1.out.2.size; simp; omega) (fun q hq => (HO1.out.1.lt q hq).1); obtain ⟨A2, c2, rfl⟩ := own_form hown2; have HO2 := Lib.hid (And.intro hown2 hB2); clear hown2 hB2 hg2))
  have HW2 := Lib.hid (And.intro HO2.out.2 (show BkAt W0.heap.size w2 (.slice A2 N1 c2) (bl ++ [hole]) by rw [← HHO.out]; exact bk_push HO2.out.1 (by rw [HBS.out.2]; exact HNN.out) (HBS.out.1.below HO2.out.2)))
  clear x0 x1 x2 x3 x4 x5 HO1 HO2 HNX HNW HA0 HB0
  have HSX : Hid (∀ X, Below w2.heap.size w2 X → X.cell? ⟨w.heap.size, 1, none⟩ = some (.string n) ∧ X.cell? ⟨w.heap.size, 5, none⟩ = some (.slice (some ⟨b0, o0, none⟩) 1 c) ∧ X.cell? ⟨b0, o0, none⟩ = some (.int .i64 t0k) ∧ X.cell? ⟨b0, o0 + 1, none⟩ = some (.string t0n) ∧ X.cell? ⟨b0, o0 + 2, none⟩ = some (.string t0m) ∧ X.cell? ⟨b0, o0 + 3, none⟩ = some (.int .i64 t0i) ∧ X.cell? ⟨b0, o0 + 4, none⟩ = some (.int .i64 t0d) ∧ X.cell? ⟨b0, o0 + 5, none⟩ = some (.slice t0A t0s.len t0c)) := fun X hX => by
    have h := HC.out X (HW2.out.1.trans (hX.mono HW2.out.1.size))
    have g := (HP0.out X h.1.1).1
    exact ⟨h.2.2.1, h.2.2.2.2.2.2, g⟩
  have HWI : Hid (∀ (X : World) (g : Nat), Below w2.heap.size w2 X → X.cell? ⟨g, 0, none⟩ = some (.string n) → g < X.heap.size → Calls Tryz.prog 137 #[.slice vA NV vc, .slice (some ⟨g, 0, none⟩) 1 1] X (WithQ (vars ++ [n]) NVX w2)) := fun X g hX hg0 hgl =>
    with28_q vars [n] vA (some ⟨g, 0, none⟩) vc 1 NV 1 NVX w2 X hX (HC.out X (HW2.out.1.trans (hX.mono HW2.out.1.size))).1.2.2.1 (slS_one hg0 hgl) (by rw [HNV.out]; simp only [List.length_cons, List.length_nil]; omega) HNV.out rfl HNVX.out
  obtain ⟨_, x0, x1, x2, x3, x4, x5⟩ := HC.out w2 HW2.out.1
  obtain ⟨⟨p0a, p0b, p0c, p0d, p0e, p0f⟩, _⟩ := HP0.out w2 (HC.out w2 HW2.out.1).1.1
  go_wp2_with fail
  clear x0 x1 x2 x3 x4 x5 p0a p0b p0c p0d p0e p0f
  go_region_held3 (fun X => X.cell? ⟨w.heap.size, 1, none⟩ = some (.string n) ∧ X.cell? ⟨w.heap.size, 5, none⟩ = some (.slice (some ⟨b0, o0, none⟩) 1 c) ∧ X.cell? ⟨b0, o0, none⟩ = some (.int .i64 t0k) ∧ X.cell? ⟨b0, o0 + 1, none⟩ = some (.string t0n) ∧ X.cell? ⟨b0, o0 + 2, none⟩ = some (.string t0m) ∧ X.cell? ⟨b0, o0 + 3, none⟩ = some (.int .i64 t0i) ∧ X.cell? ⟨b0, o0 + 4, none⟩ = some (.int .i64 t0d) ∧ X.cell? ⟨b0, o0 + 5, none⟩ = some (.slice t0A t0s.len t0c))
    (first | exact HSX.out _ hB0 | exact HSX.out _ hbv | exact HSX.out _ (by repeat (first | with_reducible exact hbv | with_reducible refine balloc' ?_ | with_reducible refine Below.drew ?_ | with_reducible exact Below.refl _ _)))
    (first
      | (go_at_call 137; (refine Calls.mono (HWI.out _ w2.heap.size ?_ ?_ ?_) ?_); (focus (repeat (first | with_reducible exact hbv | with_reducible refine balloc' ?_ | with_reducible refine Below.drew ?_ | with_reducible exact Below.refl _ _))); (focus go_simp); (focus simp); rintro e wv ⟨vAX, vcX, rfl, hsv, hbv⟩)
      | (go_at_call 59; refine (HK0.out w2 _ vAX vcX A2 c2 (HW2.out.1.trans (hbv.mono HW2.out.1.size)) hbv hsv (HW2.out.2.below hbv)).mono ?_; rintro e w3 ⟨iA0, ic0, bA0, bc0, rfl, hi0, hbk0, hB0⟩))
  have HW3 := Lib.hid (And.intro (HW2.out.1.trans (hB0.mono HW2.out.1.size)) (And.intro hbk0 hi0))
  clear hi0 hbk0 hB0 hsv hbv
  go_wp2_with fail
  refine (one28_q 7 0 0 ⟨#[]⟩ w3 _ (Below.refl _ _)).mono ?_
  rintro e w4 ⟨oA, oc, rfl, ho, hB4⟩
  obtain ⟨W5, hW5⟩ : ∃ W5, w4.alloc (.cells #[.slice iA0 NL0 ic0, .slice oA 1 oc] 50) = W5 := ⟨_, rfl⟩
  have hB5 : Below w4.heap.size w4 W5 := by rw [← hW5]; exact (Below.refl _ _).alloc (Nat.le_refl _) _
  have hz5 : w4.heap.size < W5.heap.size := by rw [← hW5]; simp
  have hx5 : W5.heap[w4.heap.size]? = some (.cells #[.slice iA0 NL0 ic0, .slice oA 1 oc] 50 (0, 0)) := by rw [← hW5]; exact heap_alloc_new w4 _
  have hB35 := hB4.trans (hB5.mono hB4.size)
  have HJ := Lib.hid (join28_any [(.slice iA0 NL0 ic0, L0), (.slice oA 1 oc, [retI])] 0 w4.heap.size 2 W5 hz5 (by simp) (by omega)
    (ins_row (t := 50) hx5 (by
      intro x hx
      simp only [List.mem_cons, List.not_mem_nil, or_false] at hx
      rcases hx with rfl | rfl
      · exact HW3.out.2.2.below hB35
      · exact (ho.below hB5).low (Nat.zero_le _))) (by simp only [List.map_cons, List.map_nil, List.sum_cons, List.sum_nil, HNL0.out, List.length_singleton]; omega))
  have HB5 := Lib.hid hB35
  clear ho hB4 hB5 hx5 hB35
  go_wp2_with fail
  refine HJ.out.mono ?_
  rintro e w6 h6
  obtain ⟨qA, qc, rfl, hq6, hB6⟩ := InsP.q (N := NR) (L := joinL 0 [L0, [retI]]) (u := w3) h6 HNR.out HB5.out
  have hbk6 := HW3.out.2.1.below hB6
  obtain ⟨g, u0, u1, u2, rfl, hgn, hgs, hne, hgc1, hgc2, ⟨hc0', hc1', hc2'⟩, hf0, hf1, hf2⟩ := bk_cells hbk6 (j := NB) (by rw [HN2.out]; exact hN2)
  clear hne
  have HF6 := Lib.hid (show BkAt W0.heap.size (((w6.setCell ⟨g, NB * 3, none⟩ (.int .i64 (NV : Int))).setCell ⟨g, NB * 3 + 1, none⟩ (.bool true)).setCell ⟨g, NB * 3 + 2, none⟩ (.slice qA NR qc)) (.slice (some ⟨g, 0, none⟩) N2 bc0) (bl ++ ⟨(NV : Int), true, joinL 0 [L0, [retI]]⟩ :: B0) from
    bk_fill (hole := hole) (by rw [List.append_assoc] at hbk6; exact hbk6) (hq6.low (Nat.zero_le _)) (by rw [HNB.out]))
  have HBF := Lib.hid (show Below W0.heap.size W0 (((w6.setCell ⟨g, NB * 3, none⟩ (.int .i64 (NV : Int))).setCell ⟨g, NB * 3 + 1, none⟩ (.bool true)).setCell ⟨g, NB * 3 + 2, none⟩ (.slice qA NR qc)) from below_fill (HW3.out.1.trans (hB6.mono HW3.out.1.size)) hgn)
  have hi1' : (NB : Int) < (N2 : Int) := by omega
  have hi0' : (0 : Int) ≤ (NB : Int) := by omega
  obtain ⟨W7, hW7⟩ : ∃ W7, ((w6.setCell ⟨g, NB * 3, none⟩ (.int .i64 (NV : Int))).setCell ⟨g, NB * 3 + 1, none⟩ (.bool true)).setCell ⟨g, NB * 3 + 2, none⟩ (.slice qA NR qc) = W7 := ⟨_, rfl⟩
  rw [hW7] at HF6 HBF
  clear h6 hq6 hB6 hbk6 hW5 hgn hgs
  go_wp2_with fail
  refine (one28_q 5 (NB : Int) 0 ⟨#[]⟩ W7 _ (Below.refl _ _)).mono ?_
  rintro e w8 ⟨rA, rc, rfl, hr, hB8⟩
  have HR := Lib.hid (ExP.mk (Bs := ⟨(NV : Int), true, joinL 0 [L0, [retI]]⟩ :: B0) (bl := bl) (w := w) (n₀ := n₀) hr (HF6.out.low (Nat.le_trans hn (Nat.le_of_lt hzw))) hB8 ((HC.out W7 HBF.out).1.1.trans (hB8.mono (HC.out W7 HBF.out).1.1.size)))
  clear hr hB8 hW7
  go_wp2
  go_ret2
  exact HR.out
end Go.Proofs.YtlcfoiapkblheaaGreatDoor
/- ref28.expr -/
namespace Go.Proofs.YtlcfoiapkblheaaGreatDoor
open Go.RowKit Go.Proofs Go.Shelf

theorem ex_step (label : ByteArray) (s : Fo) (ih : s.All (ExOK label)) : ExOK label s := by
  intro k n m i d A c vars vA vc bl bv n₀ w h
  rcases h.kn with hk | ⟨hk, hl⟩ | ⟨hk, hl⟩ | ⟨hk, hl⟩
  · rcases hk with hk | hk | hk | hk | hk | hk
    · exact ex_simple label s k n m i d A c vars vA vc bl bv n₀ w h (.inl hk)
    · exact ex_simple label s k n m i d A c vars vA vc bl bv n₀ w h (.inr (.inl hk))
    · exact ex_simple label s k n m i d A c vars vA vc bl bv n₀ w h (.inr (.inr (.inl hk)))
    · exact ex_ref label s k n m i d A c vars vA vc bl bv n₀ w h hk
    · exact ex_var label s k n m i d A c vars vA vc bl bv n₀ w h hk
    · exact ex_simple label s k n m i d A c vars vA vc bl bv n₀ w h (.inr (.inr (.inr hk)))
  · exact ex_fun label s ih k n m i d A c vars vA vc bl bv n₀ w h hk hl
  · rcases hk with hk | hk | hk | hk
    · exact ex_call label s ih k n m i d A c vars vA vc bl bv n₀ w h hk hl
    · exact ex_op label s ih k n m i d A c vars vA vc bl bv n₀ w h hk hl
    · exact ex_cons label s ih k n m i d A c vars vA vc bl bv n₀ w h hk hl
    · exact ex_let label s ih k n m i d A c vars vA vc bl bv n₀ w h hk hl
  · rcases hk with hk | hk
    · exact ex_if label s ih k n m i d A c vars vA vc bl bv n₀ w h hk hl
    · exact ex_case label s ih k n m i d A c vars vA vc bl bv n₀ w h hk hl
theorem ex_any (label : ByteArray) (s : Fo) : ExOK label s := Fo.by_parts (ex_step label) s
end Go.Proofs.YtlcfoiapkblheaaGreatDoor
