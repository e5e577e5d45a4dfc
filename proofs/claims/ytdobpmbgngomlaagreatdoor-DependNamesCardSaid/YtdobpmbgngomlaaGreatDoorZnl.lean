/- Modules of which some bodies stay: the closure and the key over these stay -/
import Derived.Test.YtdobpmbgngomlaaGreatDoorZne
namespace Go.Proofs.YtdobpmbgngomlaaGreatDoor
open Go.RowKit Go.Proofs Go.Shelf

/-- y is x, with the same body if S. -/
structure StD (S : ByteArray × Int → Prop) (lab : ByteArray) (x y : Dc) : Prop where
  id : y.id = x.id
  body : S (lab, x.id) → y.k = x.k ∧ y.n = x.n ∧ y.m = x.m ∧ y.i = x.i ∧ y.d = x.d ∧ y.s = x.s
def StDs (S : ByteArray × Int → Prop) (lab : ByteArray) : List Dc → List Dc → Prop
  | [], [] => True
  | x :: r, y :: s => StD S lab x y ∧ StDs S lab r s
  | _, _ => False
structure StM (S : ByteArray × Int → Prop) (m m' : Mo) : Prop where
  label : m'.label = m.label
  ds : StDs S m.label m.ds m'.ds
def StMs (S : ByteArray × Int → Prop) : List Mo → List Mo → Prop
  | [], [] => True
  | m :: r, m' :: s => StM S m m' ∧ StMs S r s
  | _, _ => False
theorem stDs_of {S : ByteArray × Int → Prop} {lab : ByteArray} : ∀ {ds es : List Dc}, es.length = ds.length → (∀ (j : Nat) (x y : Dc), ds[j]? = some x → es[j]? = some y → StD S lab x y) → StDs S lab ds es
  | [], [], _, _ => trivial
  | [], _ :: _, h, _ => by simp at h
  | _ :: _, [], h, _ => by simp at h
  | x :: r, y :: s, h, H => ⟨H 0 x y rfl rfl, stDs_of (by simpa using h) fun j a b ha hb => H (j + 1) a b (by simpa using ha) (by simpa using hb)⟩
theorem stMs_of {S : ByteArray × Int → Prop} : ∀ {l l' : List Mo}, l'.length = l.length → (∀ (j : Nat) (m m' : Mo), l[j]? = some m → l'[j]? = some m' → StM S m m') → StMs S l l'
  | [], [], _, _ => trivial
  | [], _ :: _, h, _ => by simp at h
  | _ :: _, [], h, _ => by simp at h
  | x :: r, y :: s, h, H => ⟨H 0 x y rfl rfl, stMs_of (by simpa using h) fun j a b ha hb => H (j + 1) a b (by simpa using ha) (by simpa using hb)⟩
theorem StM.refl (S : ByteArray × Int → Prop) (m : Mo) : StM S m m := ⟨rfl, stDs_of rfl fun j x y hx hy => by
  rw [hx] at hy
  cases hy
  exact ⟨rfl, fun _ => ⟨rfl, rfl, rfl, rfl, rfl, rfl⟩⟩⟩
theorem stDs_len {S : ByteArray × Int → Prop} {lab : ByteArray} : ∀ {ds es : List Dc}, StDs S lab ds es → es.length = ds.length
  | [], [], _ => rfl
  | [], _ :: _, h => h.elim
  | _ :: _, [], h => h.elim
  | x :: r, y :: s, h => by rw [List.length_cons, List.length_cons, stDs_len h.2]
theorem stMs_len {S : ByteArray × Int → Prop} : ∀ {l l' : List Mo}, StMs S l l' → l'.length = l.length
  | [], [], _ => rfl
  | [], _ :: _, h => h.elim
  | _ :: _, [], h => h.elim
  | x :: r, y :: s, h => by rw [List.length_cons, List.length_cons, stMs_len h.2]
theorem stDs_mem {S : ByteArray × Int → Prop} {lab : ByteArray} : ∀ {ds es : List Dc}, StDs S lab ds es → ∀ y ∈ es, ∃ x ∈ ds, StD S lab x y
  | [], [], _, y, hy => by cases hy
  | [], _ :: _, h, _, _ => h.elim
  | _ :: _, [], h, _, _ => h.elim
  | x :: r, x' :: s, h, y, hy => by
    rcases List.mem_cons.1 hy with rfl | hy
    · exact ⟨x, List.mem_cons_self, h.1⟩
    · obtain ⟨x2, h2, h3⟩ := stDs_mem h.2 y hy
      exact ⟨x2, List.mem_cons_of_mem _ h2, h3⟩
theorem stMs_mem {S : ByteArray × Int → Prop} : ∀ {l l' : List Mo}, StMs S l l' → ∀ y ∈ l', ∃ x ∈ l, StM S x y
  | [], [], _, y, hy => by cases hy
  | [], _ :: _, h, _, _ => h.elim
  | _ :: _, [], h, _, _ => h.elim
  | x :: r, x' :: s, h, y, hy => by
    rcases List.mem_cons.1 hy with rfl | hy
    · exact ⟨x, List.mem_cons_self, h.1⟩
    · obtain ⟨x2, h2, h3⟩ := stMs_mem h.2 y hy
      exact ⟨x2, List.mem_cons_of_mem _ h2, h3⟩
theorem stMs_mow {S : ByteArray × Int → Prop} {l l' : List Mo} (h : StMs S l l') (hw : MoW l) : MoW l' := by
  intro m' hm'
  obtain ⟨m, hm, hst⟩ := stMs_mem h m' hm'
  refine ⟨by rw [hst.label]; exact (hw m hm).1, fun d hd => ?_⟩
  obtain ⟨d0, h0, h1⟩ := stDs_mem hst.ds d hd
  rw [h1.id]
  exact (hw m hm).2 d0 h0
theorem stMs_tot {S : ByteArray × Int → Prop} : ∀ {l l' : List Mo}, StMs S l l' → totD l' = totD l
  | [], [], _ => rfl
  | [], _ :: _, h => h.elim
  | _ :: _, [], h => h.elim
  | x :: r, y :: s, h => by
    have h1 := stDs_len h.1.ds
    have h2 := stMs_tot h.2
    unfold totD at h2 ⊢
    simp only [List.map_cons, List.sum_cons]
    omega
theorem stDs_declAt {S : ByteArray × Int → Prop} {lab : ByteArray} (i : Int) : ∀ {ds es : List Dc}, StDs S lab ds es → (declAt ds i = none → declAt es i = none) ∧ ∀ x, declAt ds i = some x → ∃ y, declAt es i = some y ∧ StD S lab x y ∧ x.id = i
  | [], [], _ => ⟨fun _ => rfl, fun x h => by cases h⟩
  | [], _ :: _, h => h.elim
  | _ :: _, [], h => h.elim
  | x :: r, y :: s, h => by
    have ih := stDs_declAt i h.2
    unfold declAt at ih ⊢
    by_cases e : x.id = i
    · have e2 : y.id = i := h.1.id.trans e
      rw [List.find?_cons_of_pos (by simpa using e), List.find?_cons_of_pos (by simpa using e2)]
      exact ⟨fun h => by (cases h), fun q hq => by cases hq; exact ⟨y, rfl, h.1, e⟩⟩
    · have e2 : ¬ y.id = i := fun h2 => e (h.1.id.symm.trans h2)
      rw [List.find?_cons_of_neg (by simpa using e), List.find?_cons_of_neg (by simpa using e2)]
      exact ih
theorem stMs_body {S : ByteArray × Int → Prop} (n : ByteArray × Int) : ∀ {l l' : List Mo}, StMs S l l' → (bodyOf l n = none → bodyOf l' n = none) ∧ ∀ x, bodyOf l n = some x → ∃ y, bodyOf l' n = some y ∧ StD S n.1 x y ∧ x.id = n.2
  | [], [], _ => ⟨fun _ => rfl, fun x h => by cases h⟩
  | [], _ :: _, h => h.elim
  | _ :: _, [], h => h.elim
  | m :: r, m' :: s, h => by
    unfold bodyOf
    rw [h.1.label]
    by_cases e : m.label = n.1
    · rw [if_pos e, if_pos e]
      have := stDs_declAt n.2 h.1.ds
      rwa [e] at this
    · rw [if_neg e, if_neg e]
      exact stMs_body n h.2
theorem stMs_same {S : ByteArray × Int → Prop} {l l' : List Mo} (h : StMs S l l') {n : ByteArray × Int} (hn : S n) (hb : (bodyOf l n).isSome = true) : sameB l l' n = true := by
  obtain ⟨x, hx⟩ := Option.isSome_iff_exists.1 hb
  obtain ⟨y, hy, hxy, hid⟩ := (stMs_body n h).2 x hx
  unfold sameB
  rw [hx, hy]
  obtain ⟨hk, hn, hm, hi, hd, hs⟩ := hxy.body (by rw [hid]; exact hn)
  show eqD x y = true
  unfold eqD
  rw [hk, hn, hm, hi, hd, hs]
  exact eqD_refl x
theorem chkL_of : ∀ {l : List Mo}, (∀ m ∈ l, m.err = 0) → chkL l = 0
  | [], _ => rfl
  | m :: r, h => by
    unfold chkL
    rw [if_pos (h m List.mem_cons_self)]
    exact chkL_of fun x hx => h x (List.mem_cons_of_mem _ hx)
theorem usL_len4 {l : List Mo} (h : chkL l = 0) (g1 : l.length ≤ 4) (g2 : ∀ m ∈ l, m.ds.length ≤ 8) : (usL l).length ≤ 12800 := by
  unfold usL
  rw [List.length_flatMap]
  have h1 := sum_le8 (fun m : Mo => (m.ds.flatMap fun d => usesOf m.label d.body).length) 3200 l (fun m hm => by
    rw [List.length_flatMap]
    have h2 := sum_le8 (fun d : Dc => (usesOf m.label d.body).length) 400 m.ds (fun d hd => by
      refine Nat.le_trans (usesOf_len _ _) ?_
      have := ((checkE_zero (chkL_zero h m hm)).2.2 d hd).cnt
      simp only [Dc.body, Fo.count]
      omega)
    have := g2 m hm
    omega)
  omega
theorem uok_of4 {l : List Mo} {n : ByteArray × Int} (h : chkL l = 0) (g1 : l.length ≤ 4) (g2 : ∀ m ∈ l, m.ds.length ≤ 8) : UOk l n (n :: usL l) :=
  ⟨List.mem_cons_self .., by have := usL_len4 h g1 g2; simp only [List.length_cons]; omega, fun x us hx u hu => ⟨List.mem_cons_of_mem _ (usL_ok h hx u hu).1, (usL_ok h hx u hu).2⟩, fun x y hy => Nat.le_trans (body_cnt h x y hy) (by omega)⟩
/-- The closure and the key over it stay. -/
theorem st_clo {S : ByteArray × Int → Prop} {l l' : List Mo} (h : StMs S l l') {n : ByteArray × Int} {L : List (ByteArray × Int)} (h1 : loadE l n = 0) (hc : chkL l' = 0) (h3 : Clo (grf l) n (some L)) (hS : ∀ x ∈ L, S x) : loadE l' n = 0 ∧ Clo (grf l') n (some L) ∧ keyL l' n L = keyL l n L := by
  have hsame : ∀ x ∈ L, sameB l l' x = true := fun x hx => by
    have hg := h3.2.2 x ((h3.2.1 x).1 hx)
    refine stMs_same h (hS x hx) ?_
    unfold grf at hg
    cases hb : bodyOf l x with
    | none => rw [hb] at hg; exact absurd rfl hg
    | some _ => rfl
  have hl := loadE_zero h1
  refine ⟨?_, clo_same h3 hsame, ?_⟩
  · unfold loadE
    rw [hc, if_neg (by simp)]
    obtain ⟨x, hx⟩ := Option.ne_none_iff_exists'.1 hl.2
    obtain ⟨y, hy, _⟩ := (stMs_body n h).2 x hx
    rw [if_neg (by rw [hy]; simp)]
  · unfold keyL
    rw [catE_same L hsame]
/-- A key is no empty text. -/
theorem keyL_ne {l : List Mo} {n : ByteArray × Int} (h : loadE l n = 0) (L : List (ByteArray × Int)) : keyL l n L ≠ [] := by
  have hl := loadE_zero h
  obtain ⟨x, hx⟩ := Option.ne_none_iff_exists'.1 hl.2
  obtain ⟨m, hm, _, hlab, _⟩ := bodyOf_mem hx
  obtain ⟨v1, _, _⟩ := checkE_zero (chkL_zero hl.1 m hm)
  have hs : n.1.size ≤ 90 := by rw [← hlab]; exact labelB_size v1
  unfold keyL txtL
  rw [if_pos (by omega)]
  intro e
  have h1 : encL n.1.size = [] := (List.append_eq_nil_iff.1 (List.append_eq_nil_iff.1 e).1).1
  rw [encL_small (by omega)] at h1
  simp at h1
end Go.Proofs.YtdobpmbgngomlaaGreatDoor
