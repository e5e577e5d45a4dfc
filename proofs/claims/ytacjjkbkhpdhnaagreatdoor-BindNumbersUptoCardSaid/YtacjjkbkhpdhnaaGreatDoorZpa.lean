/- compile.checkRefs -/
import Derived.Test.YtacjjkbkhpdhnaaGreatDoorZlp
import Derived.Test.YtacjjkbkhpdhnaaGreatDoorZlq
import Derived.Test.YtacjjkbkhpdhnaaGreatDoorZlr
import Derived.BigQuiet
import Derived.Deep.QuietTactic
namespace Go.Proofs.YtacjjkbkhpdhnaaGreatDoor
open Go.RowKit Go.Proofs Go.Shelf
theorem SlD.cells_at {w wr : World} {B : Nat} {A : Option Addr} {c : Nat} {l : List Dc} (h : SlD w B A c l) (hb : ∀ p : Addr, p.block < B → wr.cell? p = w.cell? p) {j : Nat} {x : Dc} (hx : l[j]? = some x) : ∃ b o, A = some ⟨b, o, none⟩ ∧ b < B ∧
    wr.cell? ⟨b, o + j * 11, none⟩ = some (.int .i64 x.id) ∧ wr.cell? ⟨b, o + j * 11 + 1, none⟩ = some (.int .i64 x.kind) ∧ wr.cell? ⟨b, o + j * 11 + 2, none⟩ = some (.bool x.pub) ∧ wr.cell? ⟨b, o + j * 11 + 3, none⟩ = some (.slice x.nA x.names.length x.nc) ∧ wr.cell? ⟨b, o + j * 11 + 4, none⟩ = some (.bool x.doubt) ∧
    wr.cell? ⟨b, o + j * 11 + 5, none⟩ = some (.int .i64 x.k) ∧ wr.cell? ⟨b, o + j * 11 + 6, none⟩ = some (.string x.n) ∧ wr.cell? ⟨b, o + j * 11 + 7, none⟩ = some (.string x.m) ∧ wr.cell? ⟨b, o + j * 11 + 8, none⟩ = some (.int .i64 x.i) ∧ wr.cell? ⟨b, o + j * 11 + 9, none⟩ = some (.int .i64 x.d) ∧ wr.cell? ⟨b, o + j * 11 + 10, none⟩ = some (.slice x.A x.s.len x.c) ∧ x.Ok w B := by
  obtain ⟨b, o, e, hB, hall⟩ := h.2.2 (by intro e; subst e; simp at hx)
  obtain ⟨hcs, hok⟩ := hall j x hx
  have q : ∀ q v, x.cells[q]? = some v → wr.cell? ⟨b, o + j * 11 + q, none⟩ = some v := fun q v hq => (hb _ hB).trans (hcs q v hq)
  exact ⟨b, o, e, hB, q 0 _ rfl, q 1 _ rfl, q 2 _ rfl, q 3 _ rfl, q 4 _ rfl, q 5 _ rfl, q 6 _ rfl, q 7 _ rfl, q 8 _ rfl, q 9 _ rfl, q 10 _ rfl, hok⟩
theorem own_pos2 {X : World} {base : Nat} {e : TypeId} {size : Nat} {v : Value} {n : Nat} {xs : List Value} (h : X.ownsRow base e size v n xs) (hn : 0 < n) : ∃ g c, v = .slice (some ⟨g, 0, none⟩) n c ∧ n ≤ c ∧ c ≤ 9223372036854775807 := by
  rcases h.2 with ⟨_, h0⟩ | ⟨g, cap, cur, h1, _, _, hle, hmx, _⟩
  · omega
  · unfold maxLen at hmx; exact ⟨g, cap, h1, hle, hmx⟩
def keyI (i : Int) : Lit := .int .i64 i
theorem keyI_of {i : Int} (h : (Lit.int .i64 i).wf = true) : keyOf Tryz.prog 3 (.int .i64 i) = some (keyI i) := Maps.keyOf_int_mk Tryz.underlying3 h
def hasI (l : List Int) (i : Int) : Bool := l.any fun x => decide (x = i)
theorem keyI_has (l : List Int) (i : Int) : ((l.map keyI).any fun x => x.sameKey (keyI i)) = hasI l i := by
  unfold hasI
  rw [List.any_map]
  congr 1
  funext x
  simp [keyI, Lit.sameKey]
end Go.Proofs.YtacjjkbkhpdhnaaGreatDoor
/- What a valid module is like -/
namespace Go.Proofs.YtacjjkbkhpdhnaaGreatDoor
open Go.RowKit Go.Proofs Go.Shelf
theorem err_len {k : Int} {n m : ByteArray} {i d : Int} {len : Nat} (h : nodeE k n m i d len = 0) : (len : Int) = (shapeZ k).2.2.1 := by
  unfold nodeE at h
  obtain ⟨⟨a, b, c, ok⟩, hs⟩ : ∃ t, shapeZ k = t := ⟨_, rfl⟩
  rw [hs] at h ⊢
  cases ok
  · simp at h
  · simp only at h
    cases ha : argB a b c n m i d len
    · unfold argB at ha
      simp only [Bool.or_eq_false_iff] at ha
      have := ha.2
      simpa using this
    · rw [ha] at h; simp at h
theorem okC_of_err {k : Int} {n m : ByteArray} {i d : Int} {len : Nat} (h : nodeE k n m i d len = 0) : okC k len := by
  have hl := err_len h
  refine ⟨?_, ?_, ?_⟩
  · rintro rfl
    have : (shapeZ 6).2.2.1 = 1 := rfl
    omega
  · rintro (rfl | rfl | rfl | rfl)
    · have : (shapeZ 7).2.2.1 = 2 := rfl
      omega
    · have : (shapeZ 10).2.2.1 = 2 := rfl
      omega
    · have : (shapeZ 12).2.2.1 = 2 := rfl
      omega
    · have : (shapeZ 8).2.2.1 = 2 := rfl
      omega
  · rintro (rfl | rfl)
    · have : (shapeZ 9).2.2.1 = 3 := rfl
      omega
    · have : (shapeZ 13).2.2.1 = 3 := rfl
      omega
theorem Fo.cok_of_err : ∀ (f : Fo) (dp : Nat), (∀ x ∈ f.pre dp, x.err = 0) → f.Cok
  | .nil, _, _ => trivial
  | .cons k n m i d A c s r, dp, h => by
    simp only [Fo.pre, List.mem_cons, List.mem_append] at h
    exact ⟨okC_of_err (h ⟨dp, k, n, m, i, d, A, s.len, c⟩ (.inl rfl)), s.cok_of_err (dp + 1) (fun x hx => h x (.inr (.inl hx))), r.cok_of_err dp (fun x hx => h x (.inr (.inr hx)))⟩
theorem Fo.vis_err : ∀ (f : Fo) (dp : Nat), (∀ x ∈ f.pre dp, x.err = 0) → ∀ x ∈ f.vis, x.err = 0
  | .nil, _, _, x, hx => by simp [Fo.vis] at hx
  | .cons k n m i d A c s r, dp, h, x, hx => by
    simp only [Fo.pre, List.mem_cons, List.mem_append] at h
    simp only [Fo.vis, List.mem_append, List.mem_cons] at hx
    rcases hx with hx | rfl | hx
    · exact r.vis_err dp (fun x hx => h x (.inr (.inr hx))) x hx
    · exact h ⟨dp, k, n, m, i, d, A, s.len, c⟩ (.inl rfl)
    · exact s.vis_err (dp + 1) (fun x hx => h x (.inr (.inl hx))) x hx
structure DcV (label : ByteArray) (x : Dc) : Prop where
  id : 1 ≤ x.id ∧ x.id ≤ 999999
  kind : x.kind = 1 ∨ x.kind = 2 ∨ x.kind = 3
  names : dnE x.names = 0
  cnt : x.s.count ≤ 399
  okc : okC x.k x.s.len
  cok : x.s.Cok
  err : ∀ y ∈ x.body.vis, y.err = 0
  nodot : x.body.vis.any (fun y => y.k == 4) = false
  nofree : nodeFree x.k x.n x.m x.s [] = false
  noref : x.body.vis.any (isRefTo label) = false
theorem declE_zero {label : ByteArray} {x : Dc} (h : declE label x = 0) : DcV label x := by
  unfold declE at h
  by_cases h1 : x.id < 1 ∨ 999999 < x.id
  · rw [if_pos h1] at h; simp at h
  rw [if_neg h1] at h
  by_cases h2 : x.kind ≠ 1 ∧ x.kind ≠ 2 ∧ x.kind ≠ 3
  · rw [if_pos h2] at h; simp at h
  rw [if_neg h2] at h
  by_cases h3 : dnE x.names ≠ 0
  · rw [if_pos h3] at h; exact absurd h h3
  rw [if_neg h3] at h
  by_cases h4 : exprE x.pre ≠ 0
  · rw [if_pos h4] at h; exact absurd h h4
  rw [if_neg h4] at h
  have h4' : exprE x.pre = 0 := by omega
  by_cases h5 : x.body.vis.any (fun y => y.k == 4) = true
  · rw [if_pos h5] at h; simp at h
  rw [if_neg h5] at h
  by_cases h6 : nodeFree x.k x.n x.m x.s [] = true
  · rw [if_pos h6] at h; simp at h
  rw [if_neg h6] at h
  by_cases h7 : x.body.vis.any (isRefTo label) = true
  · rw [if_pos h7] at h; simp at h
  obtain ⟨_, _, h8⟩ := exprE_zero h4'
  have hpre : ∀ y ∈ x.body.pre 1, y.err = 0 := by
    intro y hy
    refine h8 y ?_
    simpa [Dc.body, Dc.pre, Fo.pre] using hy
  exact ⟨by omega, by omega, by omega, (Dc.valid h4').2.2, okC_of_err (h8 _ (List.mem_cons_self ..)), x.s.cok_of_err 2 fun y hy => h8 y (List.mem_cons_of_mem _ hy), x.body.vis_err 1 hpre, by simpa using h5, by simpa using h6, by simpa using h7⟩
theorem declsE_zero (label : ByteArray) : ∀ (l : List Dc) (p : Option Int), declsE label p l = 0 → ∀ x ∈ l, declE label x = 0
  | [], _, _, x, hx => by simp at hx
  | y :: r, p, h, x, hx => by
    have key : declE label y = 0 ∧ declsE label (some y.id) r = 0 := by
      cases p with
      | none =>
        unfold declsE at h
        by_cases hy : declE label y = 0
        · rw [if_pos hy] at h; exact ⟨hy, h⟩
        · rw [if_neg hy] at h; exact absurd h hy
      | some p =>
        unfold declsE at h
        by_cases hy : declE label y = 0
        · rw [if_pos hy] at h
          by_cases hp : y.id ≤ p
          · rw [if_pos hp] at h; simp at h
          · rw [if_neg hp] at h; exact ⟨hy, h⟩
        · rw [if_neg hy] at h; exact absurd h hy
    rcases List.mem_cons.1 hx with rfl | hx
    · exact key.1
    · exact declsE_zero label r _ key.2 x hx
theorem checkE_zero {label : ByteArray} {uses : List ByteArray} {decls : List Dc} (h : checkE label uses decls = 0) : labelB label = true ∧ decls.length ≤ 100 ∧ ∀ x ∈ decls, DcV label x := by
  unfold checkE at h
  cases h0 : labelB label
  · rw [h0] at h; simp at h
  rw [h0] at h
  simp only [Bool.true_eq_false, if_false] at h
  by_cases h1 : srcE uses ≠ 0
  · rw [if_pos h1] at h; exact absurd h h1
  rw [if_neg h1] at h
  by_cases h2 : useAll label uses uses.length 0 ≠ 0
  · rw [if_pos h2] at h; exact absurd h h2
  rw [if_neg h2] at h
  by_cases h3 : 100 < decls.length
  · rw [if_pos h3] at h; simp at h
  rw [if_neg h3] at h
  exact ⟨rfl, by omega, fun x hx => declE_zero (declsE_zero label decls none h x hx)⟩
end Go.Proofs.YtacjjkbkhpdhnaaGreatDoor
/- Names in order; what is reached from a name -/
namespace Go.Proofs.YtacjjkbkhpdhnaaGreatDoor
open Go.RowKit Go.Proofs Go.Shelf
theorem eqN_iff {x y : ByteArray × Int} : eqN x y = true ↔ x = y := by
  obtain ⟨a, i⟩ := x
  obtain ⟨b, j⟩ := y
  simp only [eqN, Bool.and_eq_true, beq_iff_eq, Prod.mk.injEq]
  refine and_congr_left fun _ => ⟨fun h => ?_, fun h => by rw [h]⟩
  rw [ByteArray.toList_eq, ByteArray.toList_eq] at h
  exact ByteArray.ext (Array.ext' h)
/-! ### closures -/
inductive Reach (f : ByteArray × Int → Option (List (ByteArray × Int))) (n : ByteArray × Int) : ByteArray × Int → Prop
  | refl : Reach f n n
  | step {x u : ByteArray × Int} {us : List (ByteArray × Int)} : Reach f n x → f x = some us → u ∈ us → Reach f n u
theorem Reach.trans {f : ByteArray × Int → Option (List (ByteArray × Int))} {a b c : ByteArray × Int} (h : Reach f a b) (k : Reach f b c) : Reach f a c := by
  induction k with
  | refl => exact h
  | step _ h2 h3 ih => exact ih.step h2 h3
end Go.Proofs.YtacjjkbkhpdhnaaGreatDoor
/- Slices of names that can be read; slices.Equal at names, ref24.SameNames -/
namespace Go.Proofs.YtacjjkbkhpdhnaaGreatDoor
open Go.RowKit Go.Proofs Go.Shelf
def SlN (w : World) (B : Nat) (A : Option Addr) (c : Nat) (l : List (ByteArray × Int)) : Prop :=
  l.length ≤ c ∧ c ≤ maxLen ∧ (l ≠ [] → ∃ b o, A = some ⟨b, o, none⟩ ∧ b < B ∧ ∀ j x, l[j]? = some x → w.cell? ⟨b, o + j * 2, none⟩ = some (.string x.1) ∧ w.cell? ⟨b, o + j * 2 + 1, none⟩ = some (.int .i64 x.2))
theorem SlN.keep {w w' : World} {B B' : Nat} {A : Option Addr} {c : Nat} {l : List (ByteArray × Int)} (h : SlN w B A c l) (hB : B ≤ B') (hk : ∀ p : Addr, p.block < B → w'.cell? p = w.cell? p) : SlN w' B' A c l :=
  ⟨h.1, h.2.1, fun hne => by
    obtain ⟨b, o, e, hb, hs⟩ := h.2.2 hne
    exact ⟨b, o, e, Nat.lt_of_lt_of_le hb hB, fun j x hj => ⟨(hk _ hb).trans (hs j x hj).1, (hk _ hb).trans (hs j x hj).2⟩⟩⟩
theorem SlN.below {w w' : World} {A : Option Addr} {c : Nat} {l : List (ByteArray × Int)} (h : SlN w w.heap.size A c l) (hb : Below w.heap.size w w') : SlN w' w'.heap.size A c l := h.keep hb.size fun _ hp => hb.cell hp
theorem SlN.of_own {w : World} {base : Nat} {A : Option Addr} {c : Nat} {l : List (ByteArray × Int)} (h : w.ownsRow base 71 2 (.slice A l.length c) l.length (namesC l)) : SlN w w.heap.size A c l := by
  rcases h.2 with ⟨h1, h2⟩ | ⟨g, cap, cur, h1, hb, hg, h3, h4, _⟩
  · simp only [Value.slice.injEq] at h1
    exact ⟨by omega, by rw [h1.2.2]; exact Nat.zero_le _, fun hne => absurd (List.length_eq_zero_iff.1 h2) hne⟩
  · simp only [Value.slice.injEq, true_and] at h1
    obtain ⟨rfl, rfl⟩ := h1
    refine ⟨h3, h4, fun _ => ⟨g, 0, rfl, (Array.getElem?_eq_some_iff.1 hg).1, fun j x hj => ?_⟩⟩
    have hlt := (List.getElem?_eq_some_iff.1 hj).1
    obtain ⟨n0, n1⟩ := namesC_at x l j hj
    rw [Nat.zero_add]
    exact ⟨(h.cellAt _ (by omega)).trans n0, (h.cellAt _ (by omega)).trans n1⟩
theorem eq_take {l l' : List (ByteArray × Int)} (h : l.length = l'.length) (hall : ∀ k < l.length, l[k]? = l'[k]?) : l = l' := by
  apply List.ext_getElem?
  intro k
  by_cases hk : k < l.length
  · exact hall k hk
  · rw [List.getElem?_eq_none (by omega), List.getElem?_eq_none (by omega)]
set_option maxRecDepth 100000 in
set_option maxHeartbeats 2000000 in
theorem slcEqualSl_any (l l' : List (ByteArray × Int)) (A : Option Addr) (c : Nat) (A' : Option Addr) (c' : Nat) (w : World) (hs : SlN w w.heap.size A c l) (hs' : SlN w w.heap.size A' c' l') :
    Calls Tryz.prog 45 #[.slice A l.length c, .slice A' l'.length c'] w fun e w' => e = .returned (.bool (decide (l = l'))) ∧ ∃ q, w' = w.drewN q := by
  have h1 := hs.1
  have h2 := hs.2.1
  have h1' := hs'.1
  have h2' := hs'.2.1
  unfold maxLen at h2 h2'
  obtain ⟨N, HN⟩ : ∃ Q, Hid (l.length = Q) := ⟨_, Lib.hid rfl⟩
  obtain ⟨N', HN'⟩ : ∃ Q, Hid (l'.length = Q) := ⟨_, Lib.hid rfl⟩
  have HO := Lib.hid (And.intro hs hs')
  obtain ⟨E, HE⟩ : ∃ Q, Hid (decide (l = l') = Q) := ⟨_, Lib.hid rfl⟩
  rw [HN.out] at h1 ⊢
  rw [HN'.out] at h1' ⊢
  rw [HE.out]
  clear hs hs'
  go_enter Tryz.func45, Tryz.ntmps45
  by_cases hne : N = N'
  · subst hne
    go_wp2
    go_loopg [5, 13] N (fun gg _ ct wr => ∃ j : Nat, gg = N - j ∧ j ≤ N ∧ ct = .int .i64 j ∧ (∀ k < j, l[k]? = l'[k]?) ∧ ∃ q, wr = w.drewN q)
    case atStart => exact ⟨0, rfl, by omega, rfl, fun k hk => absurd hk (Nat.not_lt_zero _), 0, rfl⟩
    case round =>
      obtain ⟨j, HG, hj, rfl, hall, q, rfl⟩ := hrel
      by_cases hlt : j < N
      · have hlt1 : j < l.length := by rw [HN.out]; exact hlt
        have hlt2 : j < l'.length := by rw [HN'.out]; exact hlt
        obtain ⟨y, hy⟩ : ∃ y, l[j]? = some y := ⟨_, List.getElem?_eq_getElem hlt1⟩
        obtain ⟨z, hz⟩ : ∃ y, l'[j]? = some y := ⟨_, List.getElem?_eq_getElem hlt2⟩
        obtain ⟨b, o, rfl, hb, hc⟩ := HO.out.1.2.2 (by intro e; rw [e] at hlt1; simp at hlt1)
        obtain ⟨b', o', rfl, hb', hc'⟩ := HO.out.2.2.2 (by intro e; rw [e] at hlt2; simp at hlt2)
        obtain ⟨c0, c1⟩ := hc j y hy
        obtain ⟨d0, d1⟩ := hc' j z hz
        have hE := run_neqN y.1 z.1 y.2 z.2
        have hj0 : (0 : Int) ≤ (j : Int) := by omega
        have hj1 : (j : Int) < (N : Int) := by omega
        have HM := Lib.hid (And.intro HG (And.intro hall (And.intro hy hz)))
        clear HG hall hy hz hc hc'
        cases he : eqN y z with
        | true =>
          have HEQ := Lib.hid (eqN_iff.1 he)
          have he2 : ((y.1.toList == z.1.toList) && (y.2 == z.2)) = true := he
          rw [he2] at hE
          clear he he2
          go_wp2_with fail
          go_quiet (fail)
          clear c0 c1 d0 d1 hE
          go_wp2
          go_roundg (N - (j + 1))
          case measure => rw [HM.out.1]; omega
          case rel =>
            refine ⟨j + 1, rfl, by omega, by go_num, fun k hk => ?_, q + nq, by simp [World.drewN]⟩
            by_cases e : k = j
            · rw [e, HM.out.2.2.1, HM.out.2.2.2, HEQ.out]
            · exact HM.out.2.1 k (by omega)
        | false =>
          have HEQ := Lib.hid (show E = false by
            rw [← HE.out, decide_eq_false_iff_not]
            intro e
            have h3 := HM.out.2.2.1
            rw [e, HM.out.2.2.2] at h3
            cases h3
            rw [eqN_iff.2 rfl] at he
            cases he)
          have he2 : ((y.1.toList == z.1.toList) && (y.2 == z.2)) = false := he
          rw [he2] at hE
          clear he he2
          go_wp2_with fail
          go_quiet (fail)
          clear c0 c1 d0 d1 hE
          go_wp2
          go_ret
          exact ⟨by rw [HEQ.out]; rfl, q + nq, by simp [World.drewN, Nat.add_assoc]⟩
      · obtain rfl : j = N := by omega
        have HEQ := Lib.hid (show E = true by
          rw [← HE.out, decide_eq_true_iff]
          exact eq_take (by rw [HN.out, HN'.out]) (by rw [HN.out]; exact hall))
        clear hall HG
        go_wp2
        go_ret
        exact ⟨by rw [HEQ.out]; rfl, _, rfl⟩
  · have HEQ := Lib.hid (show E = false by
      rw [← HE.out, decide_eq_false_iff_not]
      intro e
      exact hne (by rw [← HN.out, ← HN'.out, e]))
    have hn1 : ((N : Int) != (N' : Int)) = true := by simpa using (by omega : ¬ (N : Int) = (N' : Int))
    have hn2 : (N != N') = true := by simpa using hne
    go_wp2
    go_ret
    exact ⟨by rw [HEQ.out]; rfl, 0, rfl⟩
end Go.Proofs.YtacjjkbkhpdhnaaGreatDoor
