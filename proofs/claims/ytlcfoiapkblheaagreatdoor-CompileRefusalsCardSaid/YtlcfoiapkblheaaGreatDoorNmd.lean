/- CompileNames, plainly: the names of declarations do not matter to the code -/
import Derived.Test.YtlcfoiapkblheaaGreatDoorGkz
namespace Go.Proofs.YtlcfoiapkblheaaGreatDoor
open Go.RowKit Go.Proofs Go.Shelf

/-- A declaration without its names. -/
def Dc.core (x : Dc) : Dc := { x with nA := none, nc := 0, names := [] }
theorem Dc.core_comp (label : ByteArray) (x : Dc) : x.core.comp label = x.comp label := rfl
theorem modGo_core (label : ByteArray) : ∀ (l : List Dc) (ix : Nat), modGo label ix (l.map Dc.core) = modGo label ix l
  | [], ix => rfl
  | x :: r, ix => by
    simp only [List.map_cons, modGo, modGo_core label r, Dc.core_comp]
    rfl
theorem leads_core (ids : List Int) (uses : List ByteArray) (l : List Dc) : leadsB ids uses (l.map Dc.core) = leadsB ids uses l := by
  unfold leadsB
  rw [List.all_map]
  rfl
theorem ids_core (l : List Dc) : (l.map Dc.core).map Dc.id = l.map Dc.id := by
  rw [List.map_map]
  rfl
theorem set_core {l : List Dc} {q : Nat} {x y : Dc} (hx : l[q]? = some x) (h : y.core = x.core) : (l.set q y).map Dc.core = l.map Dc.core := by
  apply List.ext_getElem?
  intro j
  rw [List.getElem?_map, List.getElem?_map, List.getElem?_set]
  by_cases hj : q = j
  · subst hj
    have hlt : q < l.length := (List.getElem?_eq_some_iff.1 hx).1
    have hxe := (List.getElem?_eq_some_iff.1 hx).2
    simp [hlt, h, hxe]
  · simp [hj]
theorem declE_set {label : ByteArray} {x y : Dc} (h : declE label x = 0) (hc : y.core = x.core) (hn : dnE y.names = 0) : declE label y = 0 := by
  obtain ⟨xid, xkind, xpub, xnA, xnc, xnames, xdoubt, xk, xn, xm, xi, xd, xA, xc, xs⟩ := x
  obtain ⟨yid, ykind, ypub, ynA, ync, ynames, ydoubt, yk, yn, ym, yi, yd, yA, yc, ys⟩ := y
  simp only [Dc.core, Dc.mk.injEq, true_and] at hc
  obtain ⟨rfl, rfl, rfl, rfl, rfl, rfl, rfl, rfl, rfl, rfl, rfl, rfl⟩ := hc
  unfold declE at h ⊢
  simp only at h hn ⊢
  by_cases h1 : yid < 1 ∨ 999999 < yid
  · rw [if_pos h1] at h; simp at h
  rw [if_neg h1] at h ⊢
  by_cases h2 : ykind ≠ 1 ∧ ykind ≠ 2 ∧ ykind ≠ 3
  · rw [if_pos h2] at h; simp at h
  rw [if_neg h2] at h ⊢
  by_cases h3 : dnE xnames ≠ 0
  · rw [if_pos h3] at h; exact absurd h h3
  rw [if_neg h3] at h
  rw [if_neg (by simpa using hn)]
  exact h
theorem declsE_set (label : ByteArray) : ∀ (l : List Dc) (p : Option Int) (q : Nat) (x y : Dc), declsE label p l = 0 → l[q]? = some x → y.core = x.core → dnE y.names = 0 → declsE label p (l.set q y) = 0
  | [], _, q, x, y, _, hx, _, _ => by simp at hx
  | z :: r, none, 0, x, y, h, hx, hc, hn => by
    simp only [List.getElem?_cons_zero, Option.some.injEq] at hx
    subst hx
    have hid : y.id = z.id := by have := congrArg Dc.id hc; exact this
    simp only [declsE, List.set_cons_zero] at h ⊢
    by_cases hz : declE label z = 0
    · rw [if_pos hz] at h
      rw [if_pos (declE_set hz hc hn), hid]
      exact h
    · rw [if_neg hz] at h; exact absurd h hz
  | z :: r, some p, 0, x, y, h, hx, hc, hn => by
    simp only [List.getElem?_cons_zero, Option.some.injEq] at hx
    subst hx
    have hid : y.id = z.id := by have := congrArg Dc.id hc; exact this
    simp only [declsE, List.set_cons_zero] at h ⊢
    by_cases hz : declE label z = 0
    · rw [if_pos hz] at h
      rw [if_pos (declE_set hz hc hn), hid]
      exact h
    · rw [if_neg hz] at h; exact absurd h hz
  | z :: r, none, q + 1, x, y, h, hx, hc, hn => by
    simp only [List.getElem?_cons_succ] at hx
    simp only [declsE, List.set_cons_succ] at h ⊢
    by_cases hz : declE label z = 0
    · rw [if_pos hz] at h ⊢
      exact declsE_set label r _ q x y h hx hc hn
    · rw [if_neg hz] at h; exact absurd h hz
  | z :: r, some p, q + 1, x, y, h, hx, hc, hn => by
    simp only [List.getElem?_cons_succ] at hx
    simp only [declsE, List.set_cons_succ] at h ⊢
    by_cases hz : declE label z = 0
    · rw [if_pos hz] at h ⊢
      by_cases hp : z.id ≤ p
      · rw [if_pos hp] at h; simp at h
      · rw [if_neg hp] at h ⊢
        exact declsE_set label r _ q x y h hx hc hn
    · rw [if_neg hz] at h; exact absurd h hz
theorem checkE_set {label : ByteArray} {uses : List ByteArray} {l : List Dc} {q : Nat} {x y : Dc} (h : checkE label uses l = 0) (hx : l[q]? = some x) (hc : y.core = x.core) (hn : dnE y.names = 0) : checkE label uses (l.set q y) = 0 := by
  unfold checkE at h ⊢
  by_cases h1 : labelB label = false
  · rw [if_pos h1] at h; simp at h
  rw [if_neg h1] at h ⊢
  by_cases h2 : srcE uses ≠ 0
  · rw [if_pos h2] at h; exact absurd h h2
  rw [if_neg h2] at h ⊢
  by_cases h3 : useAll label uses uses.length 0 ≠ 0
  · rw [if_pos h3] at h; exact absurd h h3
  rw [if_neg h3] at h ⊢
  rw [List.length_set]
  by_cases h4 : 100 < l.length
  · rw [if_pos h4] at h; simp at h
  rw [if_neg h4] at h ⊢
  exact declsE_set label l none q x y h hx hc hn

theorem hasN_append (a b : List ByteArray) (s : ByteArray) : hasN (a ++ b) s = (hasN a s || hasN b s) := by
  unfold hasN
  rw [List.any_append]
/-- No conflict. -/
theorem confB_false : ∀ (l : List Dc) (met : List ByteArray), confB met l = false ↔ (∀ x ∈ l, x.doubt = false ∧ x.names.length = 1 ∧ (x.k == 15 || x.s.sum) = false ∧ hasN met (nameOf x) = false) ∧ l.Pairwise fun x y => (nameOf x).data.toList ≠ (nameOf y).data.toList
  | [], met => by simp [confB]
  | x :: r, met => by
    have ih := confB_false r (met ++ [nameOf x])
    have hone : ∀ y : Dc, hasN (met ++ [nameOf x]) (nameOf y) = false ↔ hasN met (nameOf y) = false ∧ (nameOf x).data.toList ≠ (nameOf y).data.toList := fun y => by
      rw [hasN_append]
      simp [hasN]
    by_cases hx : (x.doubt || x.names.length != 1 || (x.k == 15 || x.s.sum) || hasN met (nameOf x)) = true
    · rw [confB, if_pos hx]
      refine ⟨fun h => by simp at h, fun h => ?_⟩
      obtain ⟨h1, h2, h3, h4⟩ := h.1 x (List.mem_cons_self ..)
      rw [h1, h3, h4] at hx
      simp [h2] at hx
    · rw [confB, if_neg hx, ih, List.pairwise_cons]
      simp only [Bool.not_eq_true, Bool.or_eq_false_iff] at hx
      obtain ⟨⟨⟨h1, h2⟩, h3⟩, h4⟩ := hx
      have h2' : x.names.length = 1 := by simpa using h2
      constructor
      · rintro ⟨ha, hp⟩
        refine ⟨fun y hy => ?_, fun y hy => ((hone y).1 (ha y hy).2.2.2).2, hp⟩
        rcases List.mem_cons.1 hy with rfl | hy
        · exact ⟨h1, h2', by simpa using h3, h4⟩
        · exact ⟨(ha y hy).1, (ha y hy).2.1, (ha y hy).2.2.1, ((hone y).1 (ha y hy).2.2.2).1⟩
      · rintro ⟨ha, hn, hp⟩
        exact ⟨fun y hy => ⟨(ha y (List.mem_cons_of_mem _ hy)).1, (ha y (List.mem_cons_of_mem _ hy)).2.1, (ha y (List.mem_cons_of_mem _ hy)).2.2.1, (hone y).2 ⟨(ha y (List.mem_cons_of_mem _ hy)).2.2.2, hn y hy⟩⟩, hp⟩
theorem confB_set {l : List Dc} {q : Nat} {x y : Dc} {name : ByteArray} (h : confB [] l = false) (hx : l[q]? = some x) (hc : y.core = x.core) (hn : y.names = [name]) (hd : ∀ j z, j ≠ q → l[j]? = some z → (nameOf z).data.toList ≠ name.data.toList) : confB [] (l.set q y) = false := by
  rw [confB_false] at h ⊢
  obtain ⟨ha, hp⟩ := h
  have hyn : nameOf y = name := by unfold nameOf; rw [hn]; rfl
  have e1 : y.doubt = x.doubt := show y.core.doubt = x.core.doubt from congrArg Dc.doubt hc
  have e2 : y.k = x.k := show y.core.k = x.core.k from congrArg Dc.k hc
  have e3 : y.s = x.s := show y.core.s = x.core.s from congrArg Dc.s hc
  refine ⟨fun z hz => ?_, ?_⟩
  · rcases List.mem_or_eq_of_mem_set hz with hz | rfl
    · exact ha z hz
    · obtain ⟨h1, _, h3, _⟩ := ha x (List.mem_of_getElem? hx)
      exact ⟨e1.trans h1, by rw [hn]; rfl, by rw [e2, e3]; exact h3, rfl⟩
  · rw [List.pairwise_iff_getElem] at hp ⊢
    intro i j hi hj hij
    rw [List.length_set] at hi hj
    rw [List.getElem_set, List.getElem_set]
    by_cases h1 : q = i
    · rw [if_pos h1, if_neg (by omega), hyn]
      exact (hd j _ (by omega) (List.getElem?_eq_getElem hj)).symm
    · rw [if_neg h1]
      by_cases h2 : q = j
      · rw [if_pos h2, hyn]
        exact hd i _ (by omega) (List.getElem?_eq_getElem hi)
      · rw [if_neg h2]
        exact hp i j hi hj hij
/-- A change of a name changes nothing of the code. -/
theorem mod_set {label : ByteArray} {uses : List ByteArray} {l : List Dc} {q : Nat} {x y : Dc} {name : ByteArray} (h : modE label uses l = 0) (hx : l[q]? = some x) (hc : y.core = x.core) (hn : y.names = [name]) (hdn : dnE [name] = 0) (hd : ∀ j z, j ≠ q → l[j]? = some z → (nameOf z).data.toList ≠ name.data.toList) :
    modE label uses (l.set q y) = 0 ∧ modGo label 0 (l.set q y) = modGo label 0 l := by
  obtain ⟨h1, h2, h3⟩ := modE_zero h
  have hs := set_core hx hc
  constructor
  · unfold modE
    rw [if_neg (by simpa using checkE_set h1 hx hc (by rw [hn]; exact hdn)), confB_set h2 hx hc hn hd, ← leads_core, hs, leads_core, ← ids_core, hs, ids_core, h3]
    rfl
  · rw [← modGo_core, hs, modGo_core]
end Go.Proofs.YtlcfoiapkblheaaGreatDoor
