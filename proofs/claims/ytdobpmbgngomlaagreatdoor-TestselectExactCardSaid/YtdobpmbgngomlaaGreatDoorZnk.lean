/- TestselectExact in plain words -/
import Derived.Test.YtdobpmbgngomlaaGreatDoorZnd
import Derived.Test.YtdobpmbgngomlaaGreatDoorZne
import Derived.Test.YtdobpmbgngomlaaGreatDoorZnj
import Derived.Test.YtdobpmbgngomlaaGreatDoorZln
namespace Go.Proofs.YtdobpmbgngomlaaGreatDoor
open Go.RowKit Go.Proofs Go.Shelf

/-- The text "renamed". -/
def renB : ByteArray := ⟨#[114, 101, 110, 97, 109, 101, 100]⟩
/-- y is x, with another body if it is the one that is meant, and renamed. -/
structure ExD (lab : ByteArray) (o : ByteArray × Int) (z : Int) (x y : Dc) : Prop where
  id : y.id = x.id
  kind : y.kind = x.kind
  names : y.names = if x.names.length = 1 then [renB] else x.names
  body : (lab = o.1 ∧ x.id = o.2 ∧ y.k = 1 ∧ y.n = ⟨#[]⟩ ∧ y.m = ⟨#[]⟩ ∧ y.i = z ∧ y.d = 0 ∧ y.s = .nil) ∨ (¬ (lab = o.1 ∧ x.id = o.2) ∧ y.k = x.k ∧ y.n = x.n ∧ y.m = x.m ∧ y.i = x.i ∧ y.d = x.d ∧ y.s = x.s ∧ y.A = x.A ∧ y.c = x.c)
def ExDs (lab : ByteArray) (o : ByteArray × Int) (z : Int) : List Dc → List Dc → Prop
  | [], [] => True
  | x :: r, y :: s => ExD lab o z x y ∧ ExDs lab o z r s
  | _, _ => False
structure ExM (o : ByteArray × Int) (z : Int) (m m' : Mo) : Prop where
  label : m'.label = m.label
  uses : m'.uses = m.uses
  ds : ExDs m.label o z m.ds m'.ds
def ExMs (o : ByteArray × Int) (z : Int) : List Mo → List Mo → Prop
  | [], [] => True
  | m :: r, m' :: s => ExM o z m m' ∧ ExMs o z r s
  | _, _ => False
theorem exDs_of {lab : ByteArray} {o : ByteArray × Int} {z : Int} : ∀ {ds es : List Dc}, es.length = ds.length → (∀ (j : Nat) (x y : Dc), ds[j]? = some x → es[j]? = some y → ExD lab o z x y) → ExDs lab o z ds es
  | [], [], _, _ => trivial
  | [], _ :: _, h, _ => by simp at h
  | _ :: _, [], h, _ => by simp at h
  | x :: r, y :: s, h, H => ⟨H 0 x y rfl rfl, exDs_of (by simpa using h) fun j a b ha hb => H (j + 1) a b (by simpa using ha) (by simpa using hb)⟩
theorem exMs_of {o : ByteArray × Int} {z : Int} : ∀ {l l' : List Mo}, l'.length = l.length → (∀ (j : Nat) (m m' : Mo), l[j]? = some m → l'[j]? = some m' → ExM o z m m') → ExMs o z l l'
  | [], [], _, _ => trivial
  | [], _ :: _, h, _ => by simp at h
  | _ :: _, [], h, _ => by simp at h
  | x :: r, y :: s, h, H => ⟨H 0 x y rfl rfl, exMs_of (by simpa using h) fun j a b ha hb => H (j + 1) a b (by simpa using ha) (by simpa using hb)⟩
theorem exDs_len {lab : ByteArray} {o : ByteArray × Int} {z : Int} : ∀ {ds es : List Dc}, ExDs lab o z ds es → es.length = ds.length
  | [], [], _ => rfl
  | [], _ :: _, h => h.elim
  | _ :: _, [], h => h.elim
  | x :: r, y :: s, h => by rw [List.length_cons, List.length_cons, exDs_len h.2]
theorem exMs_len {o : ByteArray × Int} {z : Int} : ∀ {l l' : List Mo}, ExMs o z l l' → l'.length = l.length
  | [], [], _ => rfl
  | [], _ :: _, h => h.elim
  | _ :: _, [], h => h.elim
  | x :: r, y :: s, h => by rw [List.length_cons, List.length_cons, exMs_len h.2]

theorem ren_dnE : dnE [renB] = 0 := by kernel_rfl
theorem int_err {z : Int} (hz : -999 ≤ z ∧ z ≤ 999) (dp : Nat) (A : Option Addr) (c : Nat) : (⟨dp, 1, ⟨#[]⟩, ⟨#[]⟩, z, 0, A, 0, c⟩ : Nd).err = 0 := by
  have hn : numE 1 z 0 = 0 := by
    unfold numE
    rw [if_pos]
    simp [numB]
    omega
  have hs : namesE 1 ⟨#[]⟩ ⟨#[]⟩ 0 = 0 := by kernel_rfl
  have ha : argB 0 1 0 ⟨#[]⟩ ⟨#[]⟩ z 0 0 = false := by simp [argB]
  show nodeE 1 ⟨#[]⟩ ⟨#[]⟩ z 0 0 = 0
  unfold nodeE
  rw [show shapeZ 1 = (0, 1, 0, true) from rfl]
  simp only [ha, hs, hn]
  rfl
theorem exD_declE {lab : ByteArray} {o : ByteArray × Int} {z : Int} {x y : Dc} (h : ExD lab o z x y) (hz : -999 ≤ z ∧ z ≤ 999) (hx : declE lab x = 0) : declE lab y = 0 := by
  have hdn : dnE y.names = 0 := by
    have := (declE_zero hx).names
    rw [h.names]
    split
    · exact ren_dnE
    · exact this
  unfold declE at hx ⊢
  rw [h.id, h.kind]
  split at hx
  · cases hx
  · rename_i h1
    rw [if_neg h1]
    split at hx
    · cases hx
    · rename_i h2
      rw [if_neg h2, if_neg (by simpa using hdn)]
      rcases h.body with ⟨_, _, hk, hn, hm, hi, hd, hs⟩ | ⟨_, hk, hn, hm, hi, hd, hs, hA, hc⟩
      · have hpre : y.pre = [⟨1, 1, ⟨#[]⟩, ⟨#[]⟩, z, 0, y.A, 0, y.c⟩] := by
          unfold Dc.pre
          rw [hk, hn, hm, hi, hd, hs]
          rfl
        have hvis : y.body.vis = [⟨1, 1, ⟨#[]⟩, ⟨#[]⟩, z, 0, y.A, 0, y.c⟩] ∨ True := .inr trivial
        have hE : exprE y.pre = 0 := by
          rw [hpre]
          have he := int_err hz 1 y.A y.c
          simp [exprE, limB, firstE, he]
        have hv1 : y.body.vis.any (fun q => q.k == 4) = false := by
          unfold Dc.body
          rw [hk, hn, hm, hi, hd, hs]
          rfl
        have hv2 : y.body.vis.any (isRefTo lab) = false := by
          unfold Dc.body
          rw [hk, hn, hm, hi, hd, hs]
          simp [Fo.vis, isRefTo]
        have hf : nodeFree y.k y.n y.m y.s [] = false := by
          rw [hk, hs]
          rfl
        rw [hE, hv1, hv2, hf]
        rfl
      · have hb : y.body = x.body := by unfold Dc.body; rw [hk, hn, hm, hi, hd, hs, hA, hc]
        have hp : y.pre = x.pre := by unfold Dc.pre; rw [hk, hn, hm, hi, hd, hs, hA, hc]
        rw [hb, hp, hk, hn, hm, hs]
        split at hx
        · rename_i h3
          exact absurd hx h3
        · exact hx
theorem exDs_declsE {lab : ByteArray} {o : ByteArray × Int} {z : Int} (hz : -999 ≤ z ∧ z ≤ 999) : ∀ {p : Option Int} {ds es : List Dc}, ExDs lab o z ds es → declsE lab p ds = 0 → declsE lab p es = 0
  | _, [], [], _, _ => by cases ‹Option Int› <;> rfl
  | _, [], _ :: _, h, _ => h.elim
  | _, _ :: _, [], h, _ => h.elim
  | none, x :: r, y :: s, h, hx => by
    unfold declsE at hx ⊢
    split at hx
    · rename_i h1
      rw [if_pos (exD_declE h.1 hz h1), h.1.id]
      exact exDs_declsE hz h.2 hx
    · rename_i h1
      exact absurd hx h1
  | some p, x :: r, y :: s, h, hx => by
    unfold declsE at hx ⊢
    split at hx
    · rename_i h1
      rw [if_pos (exD_declE h.1 hz h1), h.1.id]
      split at hx
      · cases hx
      · rename_i h2
        rw [if_neg h2]
        exact exDs_declsE hz h.2 hx
    · rename_i h1
      exact absurd hx h1
theorem exM_err {o : ByteArray × Int} {z : Int} {m m' : Mo} (h : ExM o z m m') (hz : -999 ≤ z ∧ z ≤ 999) (hx : m.err = 0) : m'.err = 0 := by
  unfold Mo.err checkE at hx ⊢
  rw [h.label, h.uses, exDs_len h.ds]
  split at hx
  · cases hx
  · rename_i h1
    rw [if_neg h1]
    split at hx
    · rename_i h2; exact absurd hx h2
    · rename_i h2
      rw [if_neg h2]
      split at hx
      · rename_i h3; exact absurd hx h3
      · rename_i h3
        rw [if_neg h3]
        split at hx
        · cases hx
        · rename_i h4
          rw [if_neg h4]
          exact exDs_declsE hz h.ds hx
theorem exMs_chk {o : ByteArray × Int} {z : Int} (hz : -999 ≤ z ∧ z ≤ 999) : ∀ {l l' : List Mo}, ExMs o z l l' → chkL l = 0 → chkL l' = 0
  | [], [], _, _ => rfl
  | [], _ :: _, h, _ => h.elim
  | _ :: _, [], h, _ => h.elim
  | m :: r, m' :: s, h, hx => by
    unfold chkL at hx ⊢
    split at hx
    · rename_i h1
      rw [if_pos (exM_err h.1 hz h1)]
      exact exMs_chk hz h.2 hx
    · rename_i h1
      exact absurd hx h1
theorem exD_great {lab : ByteArray} {o : ByteArray × Int} {z : Int} {x y : Dc} (h : ExD lab o z x y) (hx : greatD1 x = false) : greatD1 y = false := by
  unfold greatD1 at hx ⊢
  simp only [Bool.or_eq_false_iff, decide_eq_false_iff_not] at hx ⊢
  obtain ⟨⟨h1, h2⟩, h3⟩ := hx
  have hn : ¬ 5 < y.names.length ∧ greatN y.names = false := by
    rw [h.names]
    split
    · exact ⟨by simp, by kernel_rfl⟩
    · exact ⟨h1, h3⟩
  refine ⟨⟨hn.1, ?_⟩, hn.2⟩
  rcases h.body with ⟨_, _, hk, hn, hm, hi, hd, hs⟩ | ⟨_, hk, hn, hm, hi, hd, hs, _, _⟩
  · rw [hn, hm, hs]
    kernel_rfl
  · rw [hn, hm, hs]
    exact h2
theorem exDs_great {lab : ByteArray} {o : ByteArray × Int} {z : Int} : ∀ {ds es : List Dc}, ExDs lab o z ds es → ds.any greatD1 = false → es.any greatD1 = false
  | [], [], _, _ => rfl
  | [], _ :: _, h, _ => h.elim
  | _ :: _, [], h, _ => h.elim
  | x :: r, y :: s, h, hx => by
    simp only [List.any_cons, Bool.or_eq_false_iff] at hx ⊢
    exact ⟨exD_great h.1 hx.1, exDs_great h.2 hx.2⟩
theorem exMs_any {o : ByteArray × Int} {z : Int} : ∀ {l l' : List Mo}, ExMs o z l l' → l.any Mo.great = false → l'.any Mo.great = false
  | [], [], _, _ => rfl
  | [], _ :: _, h, _ => h.elim
  | _ :: _, [], h, _ => h.elim
  | m :: r, m' :: s, h, hx => by
    simp only [List.any_cons, Bool.or_eq_false_iff] at hx ⊢
    refine ⟨?_, exMs_any h.2 hx.2⟩
    have h1 := hx.1
    unfold Mo.great greatM greatD at h1 ⊢
    rw [h.1.label, h.1.uses, exDs_len h.1.ds]
    simp only [Bool.or_eq_false_iff] at h1 ⊢
    exact ⟨h1.1, h1.2.1, exDs_great h.1.ds h1.2.2⟩
theorem exMs_great {o : ByteArray × Int} {z : Int} {l l' : List Mo} (h : ExMs o z l l') (hx : greatL l = false) : greatL l' = false := by
  unfold greatL at hx ⊢
  rw [exMs_len h]
  simp only [Bool.or_eq_false_iff] at hx ⊢
  exact ⟨hx.1, exMs_any h hx.2⟩
theorem exDs_declAt {lab : ByteArray} {o : ByteArray × Int} {z : Int} (i : Int) : ∀ {ds es : List Dc}, ExDs lab o z ds es → (declAt ds i = none → declAt es i = none) ∧ ∀ x, declAt ds i = some x → ∃ y, declAt es i = some y ∧ ExD lab o z x y ∧ x.id = i
  | [], [], _ => ⟨fun _ => rfl, fun x h => by cases h⟩
  | [], _ :: _, h => h.elim
  | _ :: _, [], h => h.elim
  | x :: r, y :: s, h => by
    have ih := exDs_declAt i h.2
    unfold declAt at ih ⊢
    by_cases e : x.id = i
    · have e2 : y.id = i := h.1.id.trans e
      rw [List.find?_cons_of_pos (by simpa using e), List.find?_cons_of_pos (by simpa using e2)]
      exact ⟨fun h => by (cases h), fun q hq => by cases hq; exact ⟨y, rfl, h.1, e⟩⟩
    · have e2 : ¬ y.id = i := fun h2 => e (h.1.id.symm.trans h2)
      rw [List.find?_cons_of_neg (by simpa using e), List.find?_cons_of_neg (by simpa using e2)]
      exact ih
theorem exMs_body {o : ByteArray × Int} {z : Int} (n : ByteArray × Int) : ∀ {l l' : List Mo}, ExMs o z l l' → (bodyOf l n = none → bodyOf l' n = none) ∧ ∀ x, bodyOf l n = some x → ∃ y, bodyOf l' n = some y ∧ ExD n.1 o z x y ∧ x.id = n.2
  | [], [], _ => ⟨fun _ => rfl, fun x h => by cases h⟩
  | [], _ :: _, h => h.elim
  | _ :: _, [], h => h.elim
  | m :: r, m' :: s, h => by
    unfold bodyOf
    rw [h.1.label]
    by_cases e : m.label = n.1
    · rw [if_pos e, if_pos e]
      have := exDs_declAt n.2 h.1.ds
      rwa [e] at this
    · rw [if_neg e, if_neg e]
      exact exMs_body n h.2
theorem exMs_isT {o : ByteArray × Int} {z : Int} {l l' : List Mo} (h : ExMs o z l l') (n : ByteArray × Int) : isT l' n = isT l n := by
  obtain ⟨h1, h2⟩ := exMs_body n h
  unfold isT
  cases hb : bodyOf l n with
  | none => rw [h1 hb]
  | some x =>
    obtain ⟨y, hy, hxy, _⟩ := h2 x hb
    rw [hy]
    simp only [tstO, hxy.kind]
theorem exMs_same {o : ByteArray × Int} {z : Int} {l l' : List Mo} (h : ExMs o z l l') {n : ByteArray × Int} (hn : n ≠ o) (hb : (bodyOf l n).isSome = true) : sameB l l' n = true := by
  obtain ⟨x, hx⟩ := Option.isSome_iff_exists.1 hb
  obtain ⟨y, hy, hxy, hid⟩ := (exMs_body n h).2 x hx
  unfold sameB
  rw [hx, hy]
  rcases hxy.body with ⟨e1, e2, _⟩ | ⟨_, hk, hn, hm, hi, hd, hs, _, _⟩
  · exact absurd (Prod.ext e1 (hid.symm.trans e2)) hn
  · show eqD x y = true
    unfold eqD
    rw [hk, hn, hm, hi, hd, hs]
    exact eqD_refl x
/-- The certificate still verifies. -/
theorem ex_ver {o : ByteArray × Int} {z : Int} (hz : -999 ≤ z ∧ z ≤ 999) {l l' : List Mo} (h : ExMs o z l l') {n : ByteArray × Int} {L : List (ByteArray × Int)} {b : Bool} (hc : CertV l n 0 (some L)) (ho : o ∉ L) (hv : VerV l' n L (certT l n L) b) : b = true := by
  obtain ⟨h1, h2, h3⟩ := certV_ok hc
  have hsame : ∀ x ∈ L, sameB l l' x = true := fun x hx => by
    have hg := h3.2.2 x ((h3.2.1 x).1 hx)
    exact exMs_same h (fun e => ho (e ▸ hx)) (grf_some hg)
  have hl := loadE_zero h1
  have hlo : loadE l' n = 0 := by
    unfold loadE
    rw [exMs_chk hz h hl.1, if_neg (by simp)]
    obtain ⟨x, hx⟩ := Option.ne_none_iff_exists'.1 hl.2
    obtain ⟨y, hy, _⟩ := (exMs_body n h).2 x hx
    rw [if_neg (by rw [hy]; simp)]
  exact hv.2 ⟨certV_of hlo (by rw [exMs_isT h]; exact h2) (clo_same h3 hsame), (key_same n hsame).symm⟩
end Go.Proofs.YtdobpmbgngomlaaGreatDoor
/- TestselectExact: the memory of its loops -/
namespace Go.Proofs.YtdobpmbgngomlaaGreatDoor
open Go.RowKit Go.Proofs Go.Shelf

/-- What lies in the block of a list of one text. -/
def renO : Obj := .cells #[.string renB] 9 (0, 0)
/-- The names of the turned declaration: the old ones, or a new list of one. -/
def NmR (X : World) (x y : Dc) : Prop := (y.nA = x.nA ∧ y.nc = x.nc ∧ y.names = x.names) ∨ ∃ nb, X.heap[nb]? = some renO ∧ y.nA = some ⟨nb, 0, none⟩ ∧ y.nc = 1 ∧ y.names = [renB]
/-- Its parts: the old ones, or none. -/
def SubR (x y : Dc) : Prop := (y.A = x.A ∧ y.c = x.c ∧ y.s = x.s) ∨ (y.A = none ∧ y.c = 0 ∧ y.s = .nil)
theorem NmR.keep {X Y : World} {x y : Dc} (h : NmR X x y) (hk : ∀ nb : Nat, X.heap[nb]? = some renO → Y.heap[nb]? = some renO) : NmR Y x y := by
  rcases h with h | ⟨nb, h1, h2⟩
  · exact .inl h
  · exact .inr ⟨nb, hk nb h1, h2⟩
/-- A declaration of a clone's row: turned as it shall be. -/
def ExC (X : World) (cs : Array Value) (lab : ByteArray) (o : ByteArray × Int) (z : Int) (k : Nat) (x y : Dc) : Prop :=
  (∀ i v, y.cells[i]? = some v → cs[k * 11 + i]? = some v) ∧ ExD lab o z x y ∧ NmR X x y ∧ SubR x y
structure ExI (o : ByteArray × Int) (z : Int) (m : Mo) (N q : Nat) (X : World) (cs : Array Value) : Prop where
  rest : ∀ k x, q ≤ k → m.ds[k]? = some x → ∀ i v, x.cells[i]? = some v → cs[k * 11 + i]? = some v
  done : ∀ k x, k < q → m.ds[k]? = some x → ∃ y, ExC X cs m.label o z k x y
theorem ExI.step {o : ByteArray × Int} {z : Int} {m : Mo} {N q : Nat} {X Y : World} {cs cs' : Array Value} (h : ExI o z m N q X cs) {x y : Dc} (hx : m.ds[q]? = some x) (hk : ∀ nb : Nat, X.heap[nb]? = some renO → Y.heap[nb]? = some renO) (hout : ∀ i, i < q * 11 ∨ q * 11 + 11 ≤ i → cs'[i]? = cs[i]?) (hy : ExC Y cs' m.label o z q x y) : ExI o z m N (q + 1) Y cs' := by
  refine ⟨fun k x' hk' hx' i v hv => ?_, fun k x' hk' hx' => ?_⟩
  · rw [hout _ (.inr (by omega))]
    exact h.rest k x' (by omega) hx' i v hv
  · by_cases e : k = q
    · subst e
      rw [hx] at hx'
      cases hx'
      exact ⟨y, hy⟩
    · obtain ⟨y', h1, h2, h3, h4⟩ := h.done k x' (by omega) hx'
      refine ⟨y', fun i v hv => ?_, h2, h3.keep hk, h4⟩
      have hi : i < 11 := (Array.getElem?_eq_some_iff.1 hv).1
      rw [hout _ (.inl (by omega))]
      exact h1 i v hv
/-- A turned module: its declarations lie in a row of their own. -/
structure MoG (o : ByteArray × Int) (z : Int) (X : World) (m m' : Mo) : Prop where
  label : m'.label = m.label
  uA : m'.uA = m.uA
  uc : m'.uc = m.uc
  uses : m'.uses = m.uses
  len : m'.ds.length = m.ds.length
  cap : m'.ds.length ≤ m'.dc ∧ m'.dc ≤ maxLen
  row : m.ds ≠ [] → ∃ g cs, m'.dA = some ⟨g, 0, none⟩ ∧ X.heap[g]? = some (.cells cs 44 (0, 0)) ∧ ∀ j x, m.ds[j]? = some x → ∃ y, m'.ds[j]? = some y ∧ ExC X cs m.label o z j x y
theorem MoG.keep {o : ByteArray × Int} {z : Int} {X Y : World} {m m' : Mo} (h : MoG o z X m m') (hk : ∀ (k : Nat) (cs : Array Value) (t : TypeId), t ≠ 41 → X.heap[k]? = some (.cells cs t (0, 0)) → Y.heap[k]? = some (.cells cs t (0, 0))) : MoG o z Y m m' :=
  ⟨h.label, h.uA, h.uc, h.uses, h.len, h.cap, fun hne => by
    obtain ⟨g, cs, h1, h2, h3⟩ := h.row hne
    refine ⟨g, cs, h1, hk g cs _ (by decide) h2, fun j x hx => ?_⟩
    obtain ⟨y, h4, h5, h6, h7, h8⟩ := h3 j x hx
    exact ⟨y, h4, h5, h6, h7.keep fun nb hnb => hk nb _ _ (by decide) hnb, h8⟩⟩
theorem MoG.exM {o : ByteArray × Int} {z : Int} {X : World} {m m' : Mo} (h : MoG o z X m m') : ExM o z m m' := by
  refine ⟨h.label, h.uses, exDs_of h.len fun j x y hx hy => ?_⟩
  obtain ⟨g, cs, _, _, h3⟩ := h.row (by intro e; rw [e] at hx; simp at hx)
  obtain ⟨y', h4, _, h5, _⟩ := h3 j x hx
  rw [hy] at h4
  cases h4
  exact h5
theorem MoG.ok {o : ByteArray × Int} {z : Int} {w X : World} {m m' : Mo} (h : MoG o z X m m') (hm : m.Ok w w.heap.size) (hb : Below w.heap.size w X) : m'.Ok X X.heap.size := by
  have hsl : ∀ {A : Option Addr} {c : Nat} {l : List ByteArray}, SlS w w.heap.size A c l → SlS X X.heap.size A c l := fun h => h.keep hb.size fun p hp => hb.cell hp
  refine ⟨?_, ?_⟩
  · rw [h.uA, h.uc, h.uses]
    exact hsl hm.1
  · refine ⟨h.cap.1, h.cap.2, fun hne => ?_⟩
    have hne2 : m.ds ≠ [] := fun e => hne (List.length_eq_zero_iff.1 (by rw [h.len, e]; rfl))
    obtain ⟨g, cs, h1, h2, h3⟩ := h.row hne2
    refine ⟨g, 0, h1, (Array.getElem?_eq_some_iff.1 h2).1, fun j y hy => ?_⟩
    have hj : j < m.ds.length := by
      have := (List.getElem?_eq_some_iff.1 hy).1
      rwa [h.len] at this
    obtain ⟨x, hx⟩ : ∃ x, m.ds[j]? = some x := ⟨_, List.getElem?_eq_getElem hj⟩
    obtain ⟨y', h4, h5, h6, h7, h8⟩ := h3 j x hx
    rw [hy] at h4
    cases h4
    obtain ⟨bx, ox, _, _, hall⟩ := hm.2.2.2 (by intro e; rw [e] at hj; simp at hj)
    have hxok := (hall j x hx).2
    refine ⟨fun i v hv => ?_, ?_, ?_⟩
    · rw [Nat.zero_add, cell_of_row X _ _ _ _ _ h2]
      exact h5 i v hv
    · rcases h7 with ⟨e1, e2, e3⟩ | ⟨nb, e0, e1, e2, e3⟩
      · rw [e1, e2, e3]
        exact hsl hxok.1
      · rw [e1, e2, e3]
        have hn : X.cell? ⟨nb, 0, none⟩ = some (.string renB) := cell_of_row X _ 0 _ _ (0, 0) e0
        exact ⟨by simp, by simp [maxLen], fun _ => ⟨nb, 0, rfl, World.block_lt_of_cell? X ⟨nb, 0, none⟩ hn, fun i s hi => by
          match i, hi with
          | 0, hi =>
            simp only [List.getElem?_cons_zero, Option.some.injEq] at hi
            subst hi
            exact hn
          | i + 1, hi => simp at hi⟩⟩
    · rcases h8 with ⟨e1, e2, e3⟩ | ⟨e1, e2, e3⟩
      · rw [e1, e2, e3]
        exact hxok.2.keep hb.size fun p hp => hb.cell hp
      · rw [e1, e2, e3]
        exact ⟨by simp [Fo.len], by simp [maxLen], fun h => absurd rfl h⟩
/-- The turned modules, as a slice. -/
theorem slM_of_row {o : ByteArray × Int} {z : Int} {w X : World} {A : Option Addr} {c base : Nat} {l l' : List Mo} {A0 : Option Addr} {c0 : Nat} (hl : SlM w w.heap.size A0 c0 l) (hb : Below w.heap.size w X) (hrow : X.ownsRow base 41 3 (.slice A l'.length c) l'.length (moC l')) (hlen : l'.length = l.length) (hg : ∀ (j : Nat) (m m' : Mo), l[j]? = some m → l'[j]? = some m' → MoG o z X m m') : SlM X X.heap.size A c l' := by
  rcases hrow.2 with ⟨h1, h2⟩ | ⟨g, cap, cur, h1, _, h3, h4, h5, _⟩
  · simp only [Value.slice.injEq] at h1
    exact ⟨by omega, by rw [h1.2.2]; exact Nat.zero_le _, fun hne => absurd (List.length_eq_zero_iff.1 h2) hne⟩
  · simp only [Value.slice.injEq, true_and] at h1
    obtain ⟨rfl, rfl⟩ := h1
    refine ⟨h4, h5, fun _ => ⟨g, 0, rfl, (Array.getElem?_eq_some_iff.1 h3).1, fun j m' hj => ?_⟩⟩
    have hlt := (List.getElem?_eq_some_iff.1 hj).1
    refine ⟨fun q v hq => ?_, ?_⟩
    · have hq3 : q < 3 := (Array.getElem?_eq_some_iff.1 hq).1
      rw [Nat.zero_add]
      exact (hrow.cellAt _ (by omega)).trans (moC_at l' j m' hj q v hq)
    · obtain ⟨m, hm⟩ : ∃ m, l[j]? = some m := ⟨_, List.getElem?_eq_getElem (by omega)⟩
      exact (hg j m m' hm hj).ok (hl.at_ hm).choose_spec.choose_spec.2.2.2.2.2 hb
theorem exMs_of_moG {o : ByteArray × Int} {z : Int} {X : World} {l l' : List Mo} (hlen : l'.length = l.length) (hg : ∀ (j : Nat) (m m' : Mo), l[j]? = some m → l'[j]? = some m' → MoG o z X m m') : ExMs o z l l' := exMs_of hlen fun j m m' h1 h2 => (hg j m m' h1 h2).exM
end Go.Proofs.YtdobpmbgngomlaaGreatDoor
/- TestselectExact: a round of the inner loop, in plain words -/
namespace Go.Proofs.YtdobpmbgngomlaaGreatDoor
open Go.RowKit Go.Proofs Go.Shelf

def bodyD (x : Dc) (z : Int) : Dc := { x with k := 1, n := ⟨#[]⟩, m := ⟨#[]⟩, i := z, d := 0, A := none, c := 0, s := .nil }
def nameD (x : Dc) (nb : Nat) : Dc := { x with nA := some ⟨nb, 0, none⟩, nc := 1, names := [renB] }
def exY (z : Int) (nb : Nat) (b c : Bool) (x : Dc) : Dc := if c then nameD (if b then bodyD x z else x) nb else (if b then bodyD x z else x)
def bodyCs (cs : Array Value) (p : Nat) (z : Int) : Array Value :=
  (((((cs.setIfInBounds p (.int .i64 1)).setIfInBounds (p + 1) (.string ⟨#[]⟩)).setIfInBounds (p + 2) (.string ⟨#[]⟩)).setIfInBounds (p + 3) (.int .i64 z)).setIfInBounds (p + 4) (.int .i64 0)).setIfInBounds (p + 5) (.slice none 0 0)
theorem bodyCs_out (cs : Array Value) (p : Nat) (z : Int) (i : Nat) (h : i < p ∨ p + 6 ≤ i) : (bodyCs cs p z)[i]? = cs[i]? := by
  unfold bodyCs
  simp only [Array.getElem?_setIfInBounds]
  repeat rw [if_neg (by omega)]
theorem bodyCs_in (cs : Array Value) (p : Nat) (z : Int) (h : p + 5 < cs.size) : (bodyCs cs p z)[p]? = some (.int .i64 1) ∧ (bodyCs cs p z)[p + 1]? = some (.string ⟨#[]⟩) ∧ (bodyCs cs p z)[p + 2]? = some (.string ⟨#[]⟩) ∧ (bodyCs cs p z)[p + 3]? = some (.int .i64 z) ∧ (bodyCs cs p z)[p + 4]? = some (.int .i64 0) ∧ (bodyCs cs p z)[p + 5]? = some (.slice none 0 0) := by
  unfold bodyCs
  simp only [Array.getElem?_setIfInBounds, Array.size_setIfInBounds]
  refine ⟨?_, ?_, ?_, ?_, ?_, ?_⟩ <;> simp <;> omega
theorem ex_body {cs : Array Value} {q : Nat} {x : Dc} (z : Int) (h : ∀ i v, x.cells[i]? = some v → cs[q * 11 + i]? = some v) : ∀ i v, (bodyD x z).cells[i]? = some v → (bodyCs cs (q * 11 + 5) z)[q * 11 + i]? = some v := by
  intro i v hv
  have hs : q * 11 + 10 < cs.size := by
    obtain ⟨h1, _⟩ := Array.getElem?_eq_some_iff.1 (h 10 _ rfl)
    exact h1
  obtain ⟨b0, b1, b2, b3, b4, b5⟩ := bodyCs_in cs (q * 11 + 5) z (by omega)
  have hi : i < 11 := (Array.getElem?_eq_some_iff.1 hv).1
  have hlow : ∀ k, k < 5 → (bodyCs cs (q * 11 + 5) z)[q * 11 + k]? = cs[q * 11 + k]? := fun k hk => bodyCs_out _ _ _ _ (.inl (by omega))
  match i, hi, hv with
  | 0, _, hv => rw [hlow 0 (by omega)]; exact h 0 v hv
  | 1, _, hv => rw [hlow 1 (by omega)]; exact h 1 v hv
  | 2, _, hv => rw [hlow 2 (by omega)]; exact h 2 v hv
  | 3, _, hv => rw [hlow 3 (by omega)]; exact h 3 v hv
  | 4, _, hv => rw [hlow 4 (by omega)]; exact h 4 v hv
  | 5, _, hv => rw [← hv]; exact b0
  | 6, _, hv => rw [← hv]; exact b1
  | 7, _, hv => rw [← hv]; exact b2
  | 8, _, hv => rw [← hv]; exact b3
  | 9, _, hv => rw [← hv]; exact b4
  | 10, _, hv => rw [← hv]; exact b5
theorem ex_name {cs : Array Value} {q : Nat} {x : Dc} (nb : Nat) (h : ∀ i v, x.cells[i]? = some v → cs[q * 11 + i]? = some v) : ∀ i v, (nameD x nb).cells[i]? = some v → (cs.setIfInBounds (q * 11 + 3) (.slice (some ⟨nb, 0, none⟩) 1 1))[q * 11 + i]? = some v := by
  intro i v hv
  have hs : q * 11 + 3 < cs.size := by
    obtain ⟨h1, _⟩ := Array.getElem?_eq_some_iff.1 (h 3 _ rfl)
    exact h1
  have hi : i < 11 := (Array.getElem?_eq_some_iff.1 hv).1
  have hlow : ∀ k, k ≠ 3 → (cs.setIfInBounds (q * 11 + 3) (.slice (some ⟨nb, 0, none⟩) 1 1))[q * 11 + k]? = cs[q * 11 + k]? := fun k hk => by
    rw [Array.getElem?_setIfInBounds, if_neg (by omega)]
  match i, hi, hv with
  | 0, _, hv => rw [hlow 0 (by omega)]; exact h 0 v hv
  | 1, _, hv => rw [hlow 1 (by omega)]; exact h 1 v hv
  | 2, _, hv => rw [hlow 2 (by omega)]; exact h 2 v hv
  | 3, _, hv => rw [← hv, Array.getElem?_setIfInBounds, if_pos rfl, if_pos hs]; rfl
  | 4, _, hv => rw [hlow 4 (by omega)]; exact h 4 v hv
  | 5, _, hv => rw [hlow 5 (by omega)]; exact h 5 v hv
  | 6, _, hv => rw [hlow 6 (by omega)]; exact h 6 v hv
  | 7, _, hv => rw [hlow 7 (by omega)]; exact h 7 v hv
  | 8, _, hv => rw [hlow 8 (by omega)]; exact h 8 v hv
  | 9, _, hv => rw [hlow 9 (by omega)]; exact h 9 v hv
  | 10, _, hv => rw [hlow 10 (by omega)]; exact h 10 v hv
theorem exY_D {lab : ByteArray} {o : ByteArray × Int} {z : Int} {nb : Nat} {b c : Bool} {x : Dc} (hb : b = true ↔ lab = o.1 ∧ x.id = o.2) (hc : c = true ↔ x.names.length = 1) : ExD lab o z x (exY z nb b c x) := by
  have hbody : ∀ y : Dc, ((lab = o.1 ∧ x.id = o.2 ∧ y.k = 1 ∧ y.n = ⟨#[]⟩ ∧ y.m = ⟨#[]⟩ ∧ y.i = z ∧ y.d = 0 ∧ y.s = .nil) ∨ (¬ (lab = o.1 ∧ x.id = o.2) ∧ y.k = x.k ∧ y.n = x.n ∧ y.m = x.m ∧ y.i = x.i ∧ y.d = x.d ∧ y.s = x.s ∧ y.A = x.A ∧ y.c = x.c)) → True := fun _ _ => trivial
  cases b with
  | true =>
    obtain ⟨h1, h2⟩ := hb.1 rfl
    cases c with
    | true => exact ⟨rfl, rfl, by rw [if_pos (hc.1 rfl)]; rfl, .inl ⟨h1, h2, rfl, rfl, rfl, rfl, rfl, rfl⟩⟩
    | false => exact ⟨rfl, rfl, by rw [if_neg (fun h => by cases hc.2 h)]; rfl, .inl ⟨h1, h2, rfl, rfl, rfl, rfl, rfl, rfl⟩⟩
  | false =>
    have h1 : ¬ (lab = o.1 ∧ x.id = o.2) := fun h => by cases hb.2 h
    cases c with
    | true => exact ⟨rfl, rfl, by rw [if_pos (hc.1 rfl)]; rfl, .inr ⟨h1, rfl, rfl, rfl, rfl, rfl, rfl, rfl, rfl⟩⟩
    | false => exact ⟨rfl, rfl, by rw [if_neg (fun h => by cases hc.2 h)]; rfl, .inr ⟨h1, rfl, rfl, rfl, rfl, rfl, rfl, rfl, rfl⟩⟩
theorem exY_sub {z : Int} {nb : Nat} {b c : Bool} {x : Dc} : SubR x (exY z nb b c x) := by
  cases b <;> cases c <;> first | exact .inl ⟨rfl, rfl, rfl⟩ | exact .inr ⟨rfl, rfl, rfl⟩
theorem exY_nm {X : World} {z : Int} {nb : Nat} {b c : Bool} {x : Dc} (h : c = true → X.heap[nb]? = some renO) : NmR X x (exY z nb b c x) := by
  cases c with
  | true => cases b <;> exact .inr ⟨nb, h rfl, rfl, rfl, rfl⟩
  | false => cases b <;> exact .inl ⟨rfl, rfl, rfl⟩
/-- The cells of the row behind a round. -/
def exCs (cs : Array Value) (q : Nat) (z : Int) (nb : Nat) (b c : Bool) : Array Value :=
  if c then (if b then bodyCs cs (q * 11 + 5) z else cs).setIfInBounds (q * 11 + 3) (.slice (some ⟨nb, 0, none⟩) 1 1) else (if b then bodyCs cs (q * 11 + 5) z else cs)
theorem exCs_tt (cs : Array Value) (q : Nat) (z : Int) (nb : Nat) : exCs cs q z nb true true = (bodyCs cs (q * 11 + 5) z).setIfInBounds (q * 11 + 3) (.slice (some ⟨nb, 0, none⟩) 1 1) := by unfold exCs; rw [if_pos rfl, if_pos rfl]
theorem exCs_tf (cs : Array Value) (q : Nat) (z : Int) (nb : Nat) : exCs cs q z nb true false = bodyCs cs (q * 11 + 5) z := by unfold exCs; rw [if_neg (by decide), if_pos rfl]
theorem exCs_ft (cs : Array Value) (q : Nat) (z : Int) (nb : Nat) : exCs cs q z nb false true = cs.setIfInBounds (q * 11 + 3) (.slice (some ⟨nb, 0, none⟩) 1 1) := by unfold exCs; rw [if_pos rfl, if_neg (by decide)]
theorem exCs_ff (cs : Array Value) (q : Nat) (z : Int) (nb : Nat) : exCs cs q z nb false false = cs := by unfold exCs; rw [if_neg (by decide), if_neg (by decide)]
theorem exY_tt (z : Int) (nb : Nat) (x : Dc) : exY z nb true true x = nameD (bodyD x z) nb := by unfold exY; rw [if_pos rfl, if_pos rfl]
theorem exY_tf (z : Int) (nb : Nat) (x : Dc) : exY z nb true false x = bodyD x z := by unfold exY; rw [if_neg (by decide), if_pos rfl]
theorem exY_ft (z : Int) (nb : Nat) (x : Dc) : exY z nb false true x = nameD x nb := by unfold exY; rw [if_pos rfl, if_neg (by decide)]
theorem exY_ff (z : Int) (nb : Nat) (x : Dc) : exY z nb false false x = x := by unfold exY; rw [if_neg (by decide), if_neg (by decide)]
theorem bodyCs_size (cs : Array Value) (p : Nat) (z : Int) : (bodyCs cs p z).size = cs.size := by simp [bodyCs]
theorem exCs_size (cs : Array Value) (q : Nat) (z : Int) (nb : Nat) (b c : Bool) : (exCs cs q z nb b c).size = cs.size := by
  cases b
  · cases c
    · rw [exCs_ff]
    · rw [exCs_ft, Array.size_setIfInBounds]
  · cases c
    · rw [exCs_tf, bodyCs_size]
    · rw [exCs_tt, Array.size_setIfInBounds, bodyCs_size]
theorem exCs_out (cs : Array Value) (q : Nat) (z : Int) (nb : Nat) (b c : Bool) (i : Nat) (h : i < q * 11 ∨ q * 11 + 11 ≤ i) : (exCs cs q z nb b c)[i]? = cs[i]? := by
  have h1 := bodyCs_out cs (q * 11 + 5) z i (by omega)
  have h2 : ∀ (D : Array Value) (v : Value), (D.setIfInBounds (q * 11 + 3) v)[i]? = D[i]? := fun D v => by rw [Array.getElem?_setIfInBounds, if_neg (by omega)]
  cases b
  · cases c
    · rw [exCs_ff]
    · rw [exCs_ft, h2]
  · cases c
    · rw [exCs_tf, h1]
    · rw [exCs_tt, h2, h1]
theorem exCs_in {cs : Array Value} {q : Nat} {z : Int} {nb : Nat} {b c : Bool} {x : Dc} (h : ∀ i v, x.cells[i]? = some v → cs[q * 11 + i]? = some v) : ∀ i v, (exY z nb b c x).cells[i]? = some v → (exCs cs q z nb b c)[q * 11 + i]? = some v := by
  cases b
  · cases c
    · rw [exY_ff, exCs_ff]; exact h
    · rw [exY_ft, exCs_ft]; exact ex_name nb h
  · cases c
    · rw [exY_tf, exCs_tf]; exact ex_body z h
    · rw [exY_tt, exCs_tt]; exact ex_name nb (ex_body z h)
/-- A round of the inner loop. -/
theorem ExI.round {o : ByteArray × Int} {z : Int} {m : Mo} {N q : Nat} {X Y : World} {cs : Array Value} (h : ExI o z m N q X cs) {x : Dc} (hx : m.ds[q]? = some x) (nb : Nat) (b c : Bool) (hk : ∀ nb : Nat, X.heap[nb]? = some renO → Y.heap[nb]? = some renO) (hb : b = true ↔ m.label = o.1 ∧ x.id = o.2) (hc : c = true ↔ x.names.length = 1) (hn : c = true → Y.heap[nb]? = some renO) : ExI o z m N (q + 1) Y (exCs cs q z nb b c) :=
  h.step hx hk (exCs_out cs q z nb b c) ⟨exCs_in (h.rest q x (Nat.le_refl _) hx), exY_D hb hc, exY_nm hn, exY_sub⟩
end Go.Proofs.YtdobpmbgngomlaaGreatDoor
/- TestselectExact: the stores of a round of the inner loop -/
namespace Go.Proofs.YtdobpmbgngomlaaGreatDoor
open Go.RowKit Go.Proofs Go.Shelf

/-- The world behind the store of a new body. -/
def bodyW (X : World) (g p : Nat) (z : Int) : World :=
  (((((X.setCell ⟨g, p, none⟩ (.int .i64 1)).setCell ⟨g, p + 1, none⟩ (.string ⟨#[]⟩)).setCell ⟨g, p + 2, none⟩ (.string ⟨#[]⟩)).setCell ⟨g, p + 3, none⟩ (.int .i64 z)).setCell ⟨g, p + 4, none⟩ (.int .i64 0)).setCell ⟨g, p + 5, none⟩ (.slice none 0 0)
theorem StB.body {Wo X Y : World} {g : Nat} {cs : Array Value} (h : StB Wo X Y g cs) (hg : Wo.heap.size ≤ g) (p : Nat) (z : Int) : StB Wo X (bodyW Y g p z) g (bodyCs cs p z) :=
  (((((h.set hg p _).set hg (p + 1) _).set hg (p + 2) _).set hg (p + 3) _).set hg (p + 4) _).set hg (p + 5) _
theorem StB.name {Wo X Y : World} {g : Nat} {cs : Array Value} (h : StB Wo X Y g cs) (hg : Wo.heap.size ≤ g) (p : Nat) (v : Value) : StB Wo X ((Y.alloc (.cells #[.string renB] 9)).setCell ⟨g, p, none⟩ v) g (cs.setIfInBounds p v) ∧ ((Y.alloc (.cells #[.string renB] 9)).setCell ⟨g, p, none⟩ v).heap[Y.heap.size]? = some renO := by
  have hlt : g < Y.heap.size := (Array.getElem?_eq_some_iff.1 h.row).1
  have h1 : StB Wo X (Y.alloc (.cells #[.string renB] 9)) g cs := by
    refine ⟨(Below.heap_alloc _ _ _ hlt).trans h.row, h.below.alloc h.below.size _, ?_, fun k hk hkg => (Below.heap_alloc _ _ _ (Nat.lt_of_lt_of_le hk h.size)).trans (h.keep k hk hkg)⟩
    have := h.size
    simp
    omega
  refine ⟨h1.set hg p v, (heap_setCell_other _ _ _ _ (by simp; omega)).trans ?_⟩
  exact heap_alloc_new _ _
theorem StB.name2 {Wo X Y : World} {g : Nat} {cs : Array Value} (h : StB Wo X Y g cs) (hg : Wo.heap.size ≤ g) (p : Nat) (v : Value) : StB Wo X ((Y.setCell ⟨g, p, none⟩ v).alloc (.cells #[.string renB] 9)) g (cs.setIfInBounds p v) ∧ ((Y.setCell ⟨g, p, none⟩ v).alloc (.cells #[.string renB] 9)).heap[Y.heap.size]? = some renO := by
  have h1 := h.set hg p v
  have hs : (Y.setCell ⟨g, p, none⟩ v).heap.size = Y.heap.size := by simp
  have hlt : g < (Y.setCell ⟨g, p, none⟩ v).heap.size := (Array.getElem?_eq_some_iff.1 h1.row).1
  refine ⟨⟨(Below.heap_alloc _ _ _ hlt).trans h1.row, h1.below.alloc h1.below.size _, ?_, fun k hk hkg => (Below.heap_alloc _ _ _ (Nat.lt_of_lt_of_le hk h1.size)).trans (h1.keep k hk hkg)⟩, ?_⟩
  · have := h1.size
    simp only [World.size_alloc, hs] at this ⊢
    omega
  · have := heap_alloc_new (Y.setCell ⟨g, p, none⟩ v) (.cells #[.string renB] 9)
    rwa [hs] at this
theorem StB.round {Wo X Y : World} {g : Nat} {cs : Array Value} {o : ByteArray × Int} {z : Int} {m : Mo} {N q : Nat} {nb : Nat} {b c : Bool} (hS : StB Wo X Y g (exCs cs q z nb b c)) (hrow : X.heap[g]? = some (.cells cs 44 (0, 0))) (h : ExI o z m N q X cs) {x : Dc} (hx : m.ds[q]? = some x) (hb : b = true ↔ m.label = o.1 ∧ x.id = o.2) (hc : c = true ↔ x.names.length = 1) (hn : c = true → Y.heap[nb]? = some renO) : ExI o z m N (q + 1) Y (exCs cs q z nb b c) := by
  refine h.round hx nb b c (fun nb' h' => ?_) hb hc hn
  have hne : nb' ≠ g := fun e => by
    rw [e, hrow] at h'
    unfold renO at h'
    simp only [Option.some.injEq, Obj.cells.injEq] at h'
    exact absurd h'.2.1 (by decide)
  exact (hS.keep nb' (Array.getElem?_eq_some_iff.1 h').1 hne).trans h'
theorem exDs_mem {lab : ByteArray} {o : ByteArray × Int} {z : Int} : ∀ {ds es : List Dc}, ExDs lab o z ds es → ∀ y ∈ es, ∃ x ∈ ds, ExD lab o z x y
  | [], [], _, y, hy => by cases hy
  | [], _ :: _, h, _, _ => h.elim
  | _ :: _, [], h, _, _ => h.elim
  | x :: r, x' :: s, h, y, hy => by
    rcases List.mem_cons.1 hy with rfl | hy
    · exact ⟨x, List.mem_cons_self, h.1⟩
    · obtain ⟨x2, h2, h3⟩ := exDs_mem h.2 y hy
      exact ⟨x2, List.mem_cons_of_mem _ h2, h3⟩
theorem exMs_mow {o : ByteArray × Int} {z : Int} : ∀ {l l' : List Mo}, ExMs o z l l' → MoW l → MoW l'
  | [], [], _, _ => fun m hm => by cases hm
  | [], _ :: _, h, _ => h.elim
  | _ :: _, [], h, _ => h.elim
  | m :: r, m' :: s, h, hw => by
    intro x hx
    rcases List.mem_cons.1 hx with rfl | hx
    · refine ⟨by rw [h.1.label]; exact (hw m List.mem_cons_self).1, fun d hd => ?_⟩
      obtain ⟨d0, h0, h1⟩ := exDs_mem h.1.ds d hd
      rw [h1.id]
      exact (hw m List.mem_cons_self).2 d0 h0
    · exact exMs_mow h.2 (fun y hy => hw y (List.mem_cons_of_mem _ hy)) x hx
/-- The end of an outer round: the turned module behind the others. -/
theorem mo_round {o : ByteArray × Int} {z : Int} {l l' : List Mo} {Wo X w9 : World} {base j nd nu : Nat} {mA : Option Addr} {mc : Nat} {m : Mo} {cA : Option Addr} {cc : Nat} {O : Obj}
    (hrow : Wo.ownsRow base 41 3 (.slice mA j mc) j (moC l')) (hgood : ∀ (k : Nat) (m m' : Mo), l[k]? = some m → l'[k]? = some m' → MoG o z Wo m m') (hl' : l'.length = j) (hm : l[j]? = some m) (hnd : m.ds.length = nd) (hnu : m.uses.length = nu) (hcap : nd ≤ cc ∧ cc ≤ maxLen)
    (hBX : Below Wo.heap.size Wo X)
    (hE : 0 < nd → ∃ (g : Nat) (cs : Array Value), cA = some ⟨g, 0, none⟩ ∧ Wo.heap.size ≤ g ∧ X.heap[g]? = some (.cells cs 44 (0, 0)) ∧ ExI o z m nd nd X cs)
    (hg9 : (X.alloc O).grownBy w9 (Value.slice mA j mc).ownBlock) :
    ∃ m' : Mo, m'.cells.toList = [.string m.label, .slice m.uA nu m.uc, .slice cA nd cc] ∧ ∀ (k : Nat) (x x' : Mo), l[k]? = some x → (l' ++ [m'])[k]? = some x' → MoG o z w9 x x' := by
  have hblk : ∀ (k : Nat) (cs : Array Value) (t : TypeId), t ≠ 41 → X.heap[k]? = some (.cells cs t (0, 0)) → w9.heap[k]? = some (.cells cs t (0, 0)) := fun k cs t ht h => by
    have hlt := (Array.getElem?_eq_some_iff.1 h).1
    have hne : (Value.slice mA j mc).ownBlock ≠ some k := fun e => by
      rcases hrow.2 with ⟨h1, _⟩ | ⟨g, cap, cur, h1, _, hgb, _⟩
      · rw [h1] at e
        cases e
      · rw [h1] at e
        simp only [Value.ownBlock, Option.some.injEq] at e
        subst e
        have := (hBX.block _ (Array.getElem?_eq_some_iff.1 hgb).1).trans hgb
        rw [h] at this
        simp only [Option.some.injEq, Obj.cells.injEq] at this
        exact ht this.2.1
    exact ((hg9.block k (by simp; omega) (fun e => hne e.symm)).trans (Below.heap_alloc _ _ _ hlt)).trans h
  suffices h : ∃ m' : Mo, m'.cells.toList = [.string m.label, .slice m.uA nu m.uc, .slice cA nd cc] ∧ MoG o z w9 m m' by
    obtain ⟨m', h1, h2⟩ := h
    refine ⟨m', h1, fun k x x' hx hx' => ?_⟩
    by_cases hk : k < j
    · rw [List.getElem?_append_left (by omega)] at hx'
      exact (hgood k x x' hx hx').keep fun k cs t ht h => hblk k cs t ht ((hBX.block k (Array.getElem?_eq_some_iff.1 h).1).trans h)
    · have hk2 := (List.getElem?_eq_some_iff.1 hx').1
      simp at hk2
      obtain rfl : k = j := by omega
      rw [hm] at hx
      cases hx
      rw [List.getElem?_append_right (by omega), hl', Nat.sub_self] at hx'
      cases hx'
      exact h2
  rcases Nat.eq_zero_or_pos nd with h0 | hpos
  · have hd : m.ds = [] := List.length_eq_zero_iff.1 (by omega)
    refine ⟨⟨m.label, m.uA, m.uc, m.uses, cA, cc, []⟩, by rw [← hnu, h0]; rfl, ⟨rfl, rfl, rfl, rfl, by rw [hd], ⟨by simp, hcap.2⟩, fun h => absurd hd h⟩⟩
  · obtain ⟨g, cs, rfl, hgW, hgX, hI⟩ := hE hpos
    obtain ⟨ys, hyl, hys⟩ := list_of (P := fun (i : Nat) (y : Dc) => ∃ x, m.ds[i]? = some x ∧ ExC X cs m.label o z i x y) nd fun i hi => by
      obtain ⟨x, hx⟩ : ∃ x, m.ds[i]? = some x := ⟨_, List.getElem?_eq_getElem (by omega)⟩
      obtain ⟨y, hy⟩ := hI.done i x hi hx
      exact ⟨y, x, hx, hy⟩
    refine ⟨⟨m.label, m.uA, m.uc, m.uses, some ⟨g, 0, none⟩, cc, ys⟩, by rw [← hnu, ← hyl]; rfl, ⟨rfl, rfl, rfl, rfl, by rw [hnd]; exact hyl, ⟨by rw [← hyl] at hcap; exact hcap.1, hcap.2⟩, fun _ => ⟨g, cs, rfl, hblk g cs _ (by decide) hgX, fun i x hx => ?_⟩⟩⟩
    have hi := (List.getElem?_eq_some_iff.1 hx).1
    obtain ⟨y, hy⟩ : ∃ y, ys[i]? = some y := ⟨_, List.getElem?_eq_getElem (by omega)⟩
    obtain ⟨x', hx', h1, h2, h3, h4⟩ := hys i y hy
    rw [hx] at hx'
    cases hx'
    exact ⟨y, hy, h1, h2, h3.keep fun nb hnb => hblk nb _ _ (by decide) hnb, h4⟩
theorem tmod_small (z : Int) : -999 ≤ Int.tmod z 1000 ∧ Int.tmod z 1000 ≤ 999 := by
  rcases Int.le_total 0 z with h | h
  · rw [Int.tmod_eq_emod_of_nonneg h]
    omega
  · obtain ⟨y, rfl⟩ : ∃ y, z = -y := ⟨-z, by omega⟩
    rw [Int.neg_tmod, Int.tmod_eq_emod_of_nonneg (by omega)]
    omega
end Go.Proofs.YtdobpmbgngomlaaGreatDoor
