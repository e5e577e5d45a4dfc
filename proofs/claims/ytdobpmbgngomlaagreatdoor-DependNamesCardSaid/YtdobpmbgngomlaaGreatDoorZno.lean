/- DependNames in plain words: a declaration that is renamed changes no key -/
import Derived.Test.YtdobpmbgngomlaaGreatDoorRnm
import Derived.Test.YtdobpmbgngomlaaGreatDoorZnl
import Derived.Test.YtdobpmbgngomlaaGreatDoorZnj
import Derived.Test.YtdobpmbgngomlaaGreatDoorZlr
namespace Go.Proofs.YtdobpmbgngomlaaGreatDoor
open Go.RowKit Go.Proofs Go.Shelf

def renD (x : Dc) (nA : Option Addr) (name : ByteArray) : Dc := { x with nA := nA, nc := 1, names := [name] }
theorem ren_dn {name : ByteArray} (h : nameB name = true) : dnE [name] = 0 := by
  unfold dnE
  rw [if_neg (by simp), if_pos (by simp [dnB, h])]
theorem ren_declE {lab : ByteArray} {x : Dc} {nA : Option Addr} {name : ByteArray} (h : declE lab x = 0) (hn : nameB name = true) : declE lab (renD x nA name) = 0 := by
  obtain ⟨xid, xkind, xpub, xnA, xnc, xnames, xdoubt, xk, xn, xm, xi, xd, xA, xc, xs⟩ := x
  have hd := ren_dn hn
  unfold renD
  unfold declE at h ⊢
  simp only at h ⊢
  by_cases h1 : xid < 1 ∨ 999999 < xid
  · rw [if_pos h1] at h; simp at h
  rw [if_neg h1] at h ⊢
  by_cases h2 : xkind ≠ 1 ∧ xkind ≠ 2 ∧ xkind ≠ 3
  · rw [if_pos h2] at h; simp at h
  rw [if_neg h2] at h ⊢
  by_cases h3 : dnE xnames ≠ 0
  · rw [if_pos h3] at h; exact absurd h h3
  rw [if_neg h3] at h
  rw [if_neg (by simpa using hd)]
  exact h
theorem ren_declsE (lab : ByteArray) : ∀ (l : List Dc) (p : Option Int) (q : Nat) (x : Dc) (nA : Option Addr) (name : ByteArray), declsE lab p l = 0 → l[q]? = some x → nameB name = true → declsE lab p (l.set q (renD x nA name)) = 0
  | [], _, _, _, _, _, _, hx, _ => by simp at hx
  | z :: r, none, 0, x, nA, name, h, hx, hn => by
    simp only [List.getElem?_cons_zero, Option.some.injEq] at hx
    subst hx
    simp only [declsE, List.set_cons_zero] at h ⊢
    by_cases hz : declE lab z = 0
    · rw [if_pos hz] at h
      rw [if_pos (ren_declE hz hn)]
      exact h
    · rw [if_neg hz] at h; exact absurd h hz
  | z :: r, some p, 0, x, nA, name, h, hx, hn => by
    simp only [List.getElem?_cons_zero, Option.some.injEq] at hx
    subst hx
    simp only [declsE, List.set_cons_zero] at h ⊢
    by_cases hz : declE lab z = 0
    · rw [if_pos hz] at h
      rw [if_pos (ren_declE hz hn)]
      exact h
    · rw [if_neg hz] at h; exact absurd h hz
  | z :: r, none, q + 1, x, nA, name, h, hx, hn => by
    simp only [declsE, List.set_cons_succ, List.getElem?_cons_succ] at h hx ⊢
    by_cases hz : declE lab z = 0
    · rw [if_pos hz] at h ⊢
      exact ren_declsE lab r _ q x nA name h hx hn
    · rw [if_neg hz] at h; exact absurd h hz
  | z :: r, some p, q + 1, x, nA, name, h, hx, hn => by
    simp only [declsE, List.set_cons_succ, List.getElem?_cons_succ] at h hx ⊢
    by_cases hz : declE lab z = 0
    · rw [if_pos hz] at h ⊢
      by_cases hp : z.id ≤ p
      · rw [if_pos hp] at h; cases h
      · rw [if_neg hp] at h ⊢
        exact ren_declsE lab r _ q x nA name h hx hn
    · rw [if_neg hz] at h; exact absurd h hz
/-- The module with a renamed declaration. -/
def renM (m : Mo) (A : Option Addr) (c q : Nat) (x : Dc) (nA : Option Addr) (name : ByteArray) : Mo := ⟨m.label, m.uA, m.uc, m.uses, A, c, m.ds.set q (renD x nA name)⟩
theorem renM_err {m : Mo} {A : Option Addr} {c q : Nat} {x : Dc} {nA : Option Addr} {name : ByteArray} (h : m.err = 0) (hx : m.ds[q]? = some x) (hn : nameB name = true) : (renM m A c q x nA name).err = 0 := by
  unfold Mo.err checkE at h ⊢
  simp only [renM, List.length_set]
  by_cases h1 : labelB m.label = false
  · rw [if_pos h1] at h; cases h
  rw [if_neg h1] at h ⊢
  by_cases h2 : srcE m.uses ≠ 0
  · rw [if_pos h2] at h; exact absurd h h2
  rw [if_neg h2] at h ⊢
  by_cases h3 : useAll m.label m.uses m.uses.length 0 ≠ 0
  · rw [if_pos h3] at h; exact absurd h h3
  rw [if_neg h3] at h ⊢
  by_cases h4 : 100 < m.ds.length
  · rw [if_pos h4] at h; cases h
  rw [if_neg h4] at h ⊢
  exact ren_declsE _ _ _ _ _ _ _ h hx hn
theorem renM_st {m : Mo} {A : Option Addr} {c q : Nat} {x : Dc} {nA : Option Addr} {name : ByteArray} (hx : m.ds[q]? = some x) : StM (fun _ => True) m (renM m A c q x nA name) := by
  refine ⟨rfl, stDs_of (by simp [renM]) fun j y z hy hz => ?_⟩
  simp only [renM] at hz
  by_cases hj : q = j
  · subst hj
    rw [List.getElem?_set_self (List.getElem?_eq_some_iff.1 hx).1] at hz
    rw [hx] at hy
    cases hy
    cases hz
    exact ⟨rfl, fun _ => ⟨rfl, rfl, rfl, rfl, rfl, rfl⟩⟩
  · rw [List.getElem?_set_ne hj, hy] at hz
    cases hz
    exact ⟨rfl, fun _ => ⟨rfl, rfl, rfl, rfl, rfl, rfl⟩⟩
theorem chkL_set : ∀ {l : List Mo} {k : Nat} {m m' : Mo}, l[k]? = some m → m.err = 0 → m'.err = 0 → chkL (l.set k m') = chkL l
  | [], _, _, _, h, _, _ => by simp at h
  | z :: r, 0, m, m', h, h1, h2 => by
    simp only [List.getElem?_cons_zero, Option.some.injEq] at h
    subst h
    simp only [List.set_cons_zero, chkL]
    rw [if_pos h1, if_pos h2]
  | z :: r, k + 1, m, m', h, h1, h2 => by
    simp only [List.getElem?_cons_succ] at h
    simp only [List.set_cons_succ, chkL]
    rw [chkL_set h h1 h2]
theorem stMs_set {S : ByteArray × Int → Prop} {l : List Mo} {k : Nat} {m m' : Mo} (h : l[k]? = some m) (hs : StM S m m') : StMs S l (l.set k m') := by
  refine stMs_of (by simp) fun j a b ha hb => ?_
  by_cases hj : k = j
  · subst hj
    rw [List.getElem?_set_self (List.getElem?_eq_some_iff.1 h).1] at hb
    rw [h] at ha
    cases ha
    cases hb
    exact hs
  · rw [List.getElem?_set_ne hj, ha] at hb
    cases hb
    exact StM.refl _ _
/-- What a key is: a text and an error. -/
def KeyU (l : List Mo) (n : ByteArray × Int) (s : ByteArray) (er : Int) : Prop :=
  (loadE l n ≠ 0 ∧ s = ⟨#[]⟩ ∧ er = loadE l n) ∨ (loadE l n = 0 ∧ Clo (grf l) n none ∧ s = ⟨#[]⟩ ∧ er = 21) ∨ (loadE l n = 0 ∧ ∃ L, Clo (grf l) n (some L) ∧ s = ⟨(keyL l n L).toArray⟩ ∧ er = 0)
theorem KeyP.u {l : List Mo} {n : ByteArray × Int} {w w' : World} {e : Ending} (h : KeyP l n w e w') : Below w.heap.size w w' ∧ ∃ s er, e = .returned (.tuple #[.string s, .int .i64 er]) ∧ KeyU l n s er := by
  refine ⟨h.1, ?_⟩
  rcases h.2 with ⟨h1, h2⟩ | ⟨h1, h2, h3⟩ | ⟨h1, L, h2, h3⟩
  · exact ⟨_, _, h2, .inl ⟨h1, rfl, rfl⟩⟩
  · exact ⟨_, _, h3, .inr (.inl ⟨h1, h2, rfl, rfl⟩)⟩
  · exact ⟨_, _, h3, .inr (.inr ⟨h1, L, h2, rfl, rfl⟩)⟩
theorem KeyU.unique {l : List Mo} {n : ByteArray × Int} {s s' : ByteArray} {er er' : Int} (h : KeyU l n s er) (k : KeyU l n s' er') : s = s' ∧ er = er' := by
  rcases h with ⟨h1, rfl, rfl⟩ | ⟨h1, h2, rfl, rfl⟩ | ⟨h1, L, h2, rfl, rfl⟩ <;> rcases k with ⟨k1, rfl, rfl⟩ | ⟨k1, k2, rfl, rfl⟩ | ⟨k1, L', k2, rfl, rfl⟩
  · exact ⟨rfl, rfl⟩
  · exact absurd k1 h1
  · exact absurd k1 h1
  · exact absurd h1 k1
  · exact ⟨rfl, rfl⟩
  · have := h2.unique k2; cases this
  · exact absurd h1 k1
  · have := h2.unique k2; cases this
  · have := h2.unique k2
    cases this
    exact ⟨rfl, rfl⟩
/-- Where all bodies stay, the key stays. -/
theorem st_key {l l' : List Mo} (h : StMs (fun _ => True) l l') (hc : chkL l' = chkL l) {n : ByteArray × Int} {s : ByteArray} {er : Int} (hk : KeyU l n s er) : KeyU l' n s er := by
  have hb : ∀ x : ByteArray × Int, (bodyOf l' x = none ↔ bodyOf l x = none) := fun x => by
    refine ⟨fun h1 => ?_, fun h1 => (stMs_body x h).1 h1⟩
    cases hx : bodyOf l x with
    | none => rfl
    | some y =>
      obtain ⟨z, hz, _⟩ := (stMs_body x h).2 y hx
      rw [hz] at h1
      cases h1
  have hg : grf l' = grf l := by
    funext x
    cases hx : bodyOf l x with
    | none =>
      unfold grf
      rw [hx, (hb x).2 hx]
    | some y => exact (sameB_grf (stMs_same h trivial (by rw [hx]; rfl))).symm
  have hl : loadE l' n = loadE l n := by
    unfold loadE
    rw [hc]
    by_cases h1 : bodyOf l n = none
    · rw [if_pos h1, if_pos ((hb n).2 h1)]
    · rw [if_neg h1, if_neg (fun h2 => h1 ((hb n).1 h2))]
  unfold KeyU
  rw [hl, hg]
  rcases hk with h1 | h1 | ⟨h1, L, h2, h3, h4⟩
  · exact .inl h1
  · exact .inr (.inl h1)
  · refine .inr (.inr ⟨h1, L, h2, ?_, h4⟩)
    have hsame : ∀ x ∈ L, sameB l l' x = true := fun x hx => by
      have hg2 := h2.2.2 x ((h2.2.1 x).1 hx)
      exact stMs_same h trivial (grf_some hg2)
    rw [h3]
    unfold keyL
    rw [catE_same L hsame]
end Go.Proofs.YtdobpmbgngomlaaGreatDoor
/- DependNames: the memory of the list with the renamed module -/
namespace Go.Proofs.YtdobpmbgngomlaaGreatDoor
open Go.RowKit Go.Proofs Go.Shelf

theorem addr_plain (b o j : Nat) : (⟨b, o, none⟩ : Addr).add j = ⟨b, o + j, none⟩ := by unfold Addr.add; split <;> simp_all
theorem SlM.cellAt {Y : World} {B b o c : Nat} {l : List Mo} (h : SlM Y B (some ⟨b, o, none⟩) c l) {j : Nat} {u : Value} (hj : (moC l)[j]? = some u) : Y.cell? ⟨b, o + j, none⟩ = some u := by
  obtain ⟨k, x, q, h1, h2, rfl⟩ := moC_back l j u hj
  obtain ⟨b', o', e, hb, hcell⟩ := h.2.2 (by intro e; subst e; simp at h1)
  cases e
  rw [← Nat.add_assoc]
  exact (hcell k x h1).1 q u h2
theorem SlM.newsT {Y : World} {B b o c : Nat} {l : List Mo} (h : SlM Y B (some ⟨b, o, none⟩) c l) (k : Nat) :
    ∀ ad, (some ⟨b, o, none⟩ : Option Addr) = some ad → ∀ j u, (moC (l.take k))[j]? = some u → Y.cell? (ad.add j) = some u := by
  intro ad e j u hu
  cases e
  rw [addr_plain]
  refine h.cellAt ?_
  have e1 : moC l = moC (l.take k) ++ moC (l.drop k) := by rw [← moC_append, List.take_append_drop]
  rw [e1, List.getElem?_append_left (List.getElem?_eq_some_iff.1 hu).1]
  exact hu
theorem SlM.newsD {Y : World} {B b o c : Nat} {l : List Mo} (h : SlM Y B (some ⟨b, o, none⟩) c l) {k : Nat} (hk : k ≤ l.length) :
    ∀ ad, (some ⟨b, o + k * 3, none⟩ : Option Addr) = some ad → ∀ j u, (moC (l.drop k))[j]? = some u → Y.cell? (ad.add j) = some u := by
  intro ad e j u hu
  cases e
  rw [addr_plain, Nat.add_assoc]
  refine h.cellAt ?_
  have e1 : moC l = moC (l.take k) ++ moC (l.drop k) := by rw [← moC_append, List.take_append_drop]
  have e2 : (moC (l.take k)).length = k * 3 := by rw [moC_length, List.length_take, Nat.min_eq_left hk]
  rw [e1, List.getElem?_append_right (by omega), e2, Nat.add_sub_cancel_left]
  exact hu
theorem newsM_at {W : World} {k : Nat} {a b d : Value} (h : W.heap[k]? = some (.cells #[a, b, d] 41 (0, 0))) :
    ∀ ad, (some ⟨k, 0, none⟩ : Option Addr) = some ad → ∀ q u, ([a, b, d] : List Value)[q]? = some u → W.cell? (ad.add q) = some u := by
  intro ad e q u hu
  cases e
  exact World.news_of_block (cs := #[a, b, d]) (t := 41) (fr := (0, 0)) h q u hu
theorem newsM_new (W : World) (a b d : Value) :
    ∀ ad, (some ⟨W.heap.size, 0, none⟩ : Option Addr) = some ad → ∀ q u, ([a, b, d] : List Value)[q]? = some u → (W.alloc (.cells #[a, b, d] 41)).cell? (ad.add q) = some u := newsM_at (heap_alloc_new W _)
/-- A row of modules is a slice of modules. -/
theorem slM_of_own {X : World} {base : Nat} {v : Value} {l' : List Mo} {N : Nat} (hN : l'.length = N) (hrow : X.ownsRow base 41 3 v N (moC l')) (hok : ∀ m ∈ l', m.Ok X X.heap.size) : ∃ A c, v = .slice A N c ∧ SlM X X.heap.size A c l' := by
  subst hN
  rcases hrow.2 with ⟨h1, h2⟩ | ⟨g, cap, cur, h1, _, h3, h4, h5, _⟩
  · exact ⟨none, 0, by rw [h1, h2], by omega, Nat.zero_le _, fun hne => absurd (List.length_eq_zero_iff.1 h2) hne⟩
  · subst h1
    refine ⟨_, _, rfl, h4, h5, fun _ => ⟨g, 0, rfl, (Array.getElem?_eq_some_iff.1 h3).1, fun j m' hj => ⟨fun q v hq => ?_, hok m' (List.mem_of_getElem? hj)⟩⟩⟩
    have hlt := (List.getElem?_eq_some_iff.1 hj).1
    have hq3 : q < 3 := (Array.getElem?_eq_some_iff.1 hq).1
    rw [Nat.zero_add]
    exact (hrow.cellAt _ (by omega)).trans (moC_at l' j m' hj q v hq)
theorem set_parts {l : List Mo} {k : Nat} {m' : Mo} (hk : k < l.length) : l.set k m' = l.take k ++ m' :: l.drop (k + 1) := List.set_eq_take_append_cons_drop.trans (if_pos hk)
theorem moC_set {l : List Mo} {k : Nat} {m' : Mo} (hk : k < l.length) : moC (l.set k m') = (moC (l.take k) ++ m'.cells.toList) ++ moC (l.drop (k + 1)) := by
  rw [set_parts hk, moC_append, moC, List.append_assoc]
/-- The new list as it lies. -/
theorem ren_ok {w X : World} {A : Option Addr} {c : Nat} {l : List Mo} (hl : SlM w w.heap.size A c l) (hb : Below w.heap.size w X) {k : Nat} {m' : Mo} (hm : m'.Ok X X.heap.size) : ∀ x ∈ l.set k m', x.Ok X X.heap.size := by
  intro x hx
  rcases List.mem_or_eq_of_mem_set hx with h | h
  · obtain ⟨j, hj⟩ := List.getElem?_of_mem h
    obtain ⟨_, _, _, _, _, _, _, hok⟩ := hl.at_ hj
    exact ⟨hok.1.keep hb.size fun p hp => hb.cell hp, hok.2.keep hb.size fun p hp => hb.cell hp⟩
  · rw [h]
    exact hm
end Go.Proofs.YtdobpmbgngomlaaGreatDoor
