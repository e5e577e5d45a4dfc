/- ref40.check; what a module is like that is not great -/
import Derived.Test.YtdobpmbgngomlaaGreatDoorZmb
import Derived.Test.YtdobpmbgngomlaaGreatDoorZmg
import Derived.Test.YtdobpmbgngomlaaGreatDoorZlz
import Derived.Maps.AppendAt
import Derived.Deep.RegionLaw
namespace Go.Proofs.YtdobpmbgngomlaaGreatDoor
open Go.RowKit Go.Proofs Go.Shelf

theorem short_of' : ∀ s : Fo, s.longB = false → s.Short
  | .nil, _ => trivial
  | .cons _ n m _ _ _ _ s r, h => by
    simp only [Fo.longB, Bool.or_eq_false_iff, decide_eq_false_iff_not] at h
    exact ⟨⟨by omega, by omega⟩, short_of' s h.1.2, short_of' r h.2⟩
/-- What a module is like that is not great. -/
theorem small_mod' {label : ByteArray} {uses : List ByteArray} {decls : List Dc} (hg : greatM label uses decls = false) (hc : ∀ x ∈ decls, x.s.count ≤ 2000000) : ModS label uses decls ∧ ∀ x ∈ decls, x.s.count ≤ 39 := by
  simp only [greatM, greatU, greatD, Bool.or_eq_false_iff, decide_eq_false_iff_not, List.any_eq_false] at hg
  obtain ⟨⟨h1, _, h2⟩, _, h3⟩ := hg
  have hx : ∀ x ∈ decls, x.Sht ∧ x.s.count ≤ 39 := fun x hx => by
    have h := h3 x hx
    simp only [greatD1, greatE, greatN, Bool.or_eq_true, not_or, decide_eq_true_eq, List.any_eq_true, not_exists, not_and, Bool.not_eq_true] at h
    obtain ⟨⟨_, hn, hl⟩, hnm⟩ := h
    have hcx := hc x hx
    have hw : wrap64 (1 + (x.s.count : Int)) = 1 + x.s.count := wrap64_small (by omega) (by omega)
    rw [hw] at hn
    obtain ⟨⟨hl1, hl2⟩, hl3⟩ := hl
    refine ⟨⟨⟨by omega, by omega⟩, short_of' x.s hl3, by omega, fun s hs => ?_⟩, by omega⟩
    have := hnm s hs
    omega
  refine ⟨⟨by omega, fun s hs => ?_, fun x h => (hx x h).1⟩, fun x h => (hx x h).2⟩
  have := h2 s hs
  simp only [decide_eq_true_eq] at this
  omega
/-- How many nodes came in. -/
def CntL (l : List Mo) : Prop := ∀ m ∈ l, ∀ x ∈ m.ds, x.s.count ≤ 2000000
theorem mods_of {l : List Mo} (hg : greatL l = false) (hc : CntL l) : ∀ m ∈ l, ModS m.label m.uses m.ds ∧ ∀ x ∈ m.ds, x.s.count ≤ 39 := fun m hm => by
  refine small_mod' ?_ (hc m hm)
  unfold greatL at hg
  rw [Bool.or_eq_false_iff] at hg
  simpa [Mo.great] using List.any_eq_false.1 hg.2 m hm
theorem chk_drop {l : List Mo} {j : Nat} {m : Mo} (hm : l[j]? = some m) : chkL (l.drop j) = if m.err = 0 then chkL (l.drop (j + 1)) else m.err := by
  obtain ⟨hlt, rfl⟩ := List.getElem?_eq_some_iff.1 hm
  rw [List.drop_eq_getElem_cons hlt]
  rfl
set_option maxRecDepth 100000 in
set_option maxHeartbeats 4000000 in
theorem check40_any (l : List Mo) (n : ByteArray × Int) (A : Option Addr) (c : Nat) (w : World) (hl : SlM w w.heap.size A c l) (hms : ∀ m ∈ l, ModS m.label m.uses m.ds) :
    Calls Tryz.prog 97 #[.slice A l.length c, .agg #[.string n.1, .int .i64 n.2]] w fun e w' => e = .returned (.int .i64 (loadE l n)) ∧ Below w.heap.size w w' := by
  obtain ⟨C, HC⟩ : ∃ C, Hid (chkL l = C) := ⟨_, Lib.hid rfl⟩
  obtain ⟨E, HE⟩ : ∃ E, Hid (loadE l n = E) := ⟨_, Lib.hid rfl⟩
  rw [HE.out]
  have HEC := Lib.hid (show E = if C ≠ 0 then C else if bodyOf l n = none then 8 else 0 by rw [← HE.out, ← HC.out]; rfl)
  obtain ⟨W0, hW0⟩ : ∃ W0, w.alloc (.cells #[.string n.1, .int .i64 n.2] 24) = W0 := ⟨_, rfl⟩
  have hb0 : Below w.heap.size w W0 := by subst hW0; exact (Below.refl _ _).alloc (Nat.le_refl _) _
  have hz0 : w.heap.size < W0.heap.size := by subst hW0; simp
  have n0 : W0.cell? ⟨w.heap.size, 0, none⟩ = some (.string n.1) := by subst hW0; go_simp
  have n1 : W0.cell? ⟨w.heap.size, 1, none⟩ = some (.int .i64 n.2) := by subst hW0; go_simp
  have HL := Lib.hid (show ∀ X : World, Below w.heap.size w X → SlM X X.heap.size A c l from fun X hX => (hl.below hX).keep hX.size (fun _ _ => rfl))
  have h1 := hl.1
  have h2 := hl.2.1
  unfold maxLen at h2
  obtain ⟨N, HN⟩ : ∃ Q, Hid (l.length = Q) := ⟨_, Lib.hid rfl⟩
  rw [HN.out] at h1 ⊢
  have HB := Lib.hid (And.intro hb0 hz0)
  have HMS := Lib.hid hms
  clear hl hb0 hms hz0
  go_enter Tryz.func97, Tryz.ntmps97
  go_wp2
  go_loopg [5, 6] N (fun g ct _ wr => ∃ j : Nat, g = N - j ∧ j ≤ N ∧ ct = .int .i64 j ∧ chkL (l.drop j) = C ∧ Below W0.heap.size W0 wr)
  case atStart => exact ⟨0, rfl, by omega, rfl, HC.out, Below.refl _ _⟩
  case round =>
    obtain ⟨j, HG, hj, rfl, hC, hB⟩ := hrel
    have hz := hB.size
    by_cases hlt : j < N
    · have hlt' : j < l.length := by rw [HN.out]; exact hlt
      obtain ⟨m, hm⟩ : ∃ y, l[j]? = some y := ⟨_, List.getElem?_eq_getElem hlt'⟩
      rw [chk_drop hm] at hC
      have hBw : Below w.heap.size w wr := HB.out.1.trans (hB.mono (Nat.le_of_lt HB.out.2))
      obtain ⟨b, o, rfl, hb, d0, d1, d2, hok⟩ := (HL.out wr hBw).at_ hm
      have hms := HMS.out m (List.mem_of_getElem? hm)
      have hCk := check24_any m.label m.uses m.uA m.uc m.ds m.dA m.dc wr hok.1 hok.2 hms
      obtain ⟨K, HK⟩ : ∃ Q, Hid (m.ds.length = Q) := ⟨_, Lib.hid rfl⟩
      obtain ⟨KU, HKU⟩ : ∃ Q, Hid (m.uses.length = Q) := ⟨_, Lib.hid rfl⟩
      obtain ⟨EM, HEM⟩ : ∃ Q, Hid (m.err = Q) := ⟨_, Lib.hid rfl⟩
      have HEM2 : Hid (checkE m.label m.uses m.ds = EM) := HEM.out
      rw [HK.out, HKU.out, HEM2.out] at hCk
      rw [HK.out] at d2
      rw [HKU.out] at d1
      rw [HEM.out] at hC
      have j1 : (0 : Int) ≤ (j : Int) := by omega
      have j2 : (j : Int) < (N : Int) := by omega
      have HCk := Lib.hid hCk
      have HT := Lib.hid (And.intro HG (And.intro hC (And.intro hB hBw)))
      clear HG hC hB hBw hok hms hCk hm
      go_wp2_with fail
      refine HCk.out.mono ?_
      rintro e w1 ⟨rfl, hb1⟩
      have HB1 := Lib.hid hb1
      clear hb1 d0 d1 d2
      by_cases hE0 : EM = 0
      · subst hE0
        have HC2 := Lib.hid (show chkL (l.drop (j + 1)) = C from by have := HT.out.2.1; rwa [if_pos rfl] at this)
        go_wp2
        go_roundg (N - (j + 1))
        case measure => rw [HT.out.1]; omega
        case rel => exact ⟨j + 1, rfl, by omega, by go_num, HC2.out, HT.out.2.2.1.trans (HB1.out.mono hz)⟩
      · have he : (EM != 0) = true := by simpa using hE0
        have HR := Lib.hid (show E = EM by
          have h := HT.out.2.1
          rw [if_neg hE0] at h
          rw [HEC.out, ← h, if_pos hE0])
        clear hE0
        go_wp2
        go_ret
        exact ⟨by rw [HR.out]; rfl, HT.out.2.2.2.trans (HB1.out.mono HT.out.2.2.2.size)⟩
    · have hje : j = N := by omega
      have HC0 := Lib.hid (show C = 0 by rw [← hC, List.drop_of_length_le (by rw [HN.out]; omega)]; rfl)
      have hBw : Below w.heap.size w wr := HB.out.1.trans (hB.mono (Nat.le_of_lt HB.out.2))
      have k0 := (hB.cell (p := ⟨w.heap.size, 0, none⟩) HB.out.2).trans n0
      have k1 := (hB.cell (p := ⟨w.heap.size, 1, none⟩) HB.out.2).trans n1
      obtain ⟨dd, hdd⟩ : ∃ dd, (bodyOf l n).getD zeroDc = dd := ⟨_, rfl⟩
      obtain ⟨q, hq⟩ : ∃ q, (bodyOf l n).isSome = q := ⟨_, rfl⟩
      have hF := find40_any l n A c wr (HL.out wr hBw)
      unfold FindP at hF
      rw [HN.out, hdd, hq] at hF
      have HF := Lib.hid hF
      have HBw := Lib.hid hBw
      have HQ := Lib.hid hq
      clear hC hB hBw hF hdd hq HG n0 n1 hW0
      simp only [Dc.cells] at HF
      go_wp2_with fail
      refine HF.out.mono ?_
      rintro e w1 ⟨rfl, hb1⟩
      have HB1 := Lib.hid hb1
      clear hb1
      cases q with
      | true =>
        have HR := Lib.hid (show E = 0 by
          rw [HEC.out, HC0.out, if_neg (by simp), if_neg (fun e => by have := HQ.out; rw [e] at this; cases this)])
        go_wp2
        go_ret
        exact ⟨by rw [HR.out]; rfl, (HBw.out.trans (HB1.out.mono HBw.out.size)).alloc (Nat.le_trans HBw.out.size HB1.out.size) _⟩
      | false =>
        have HR := Lib.hid (show E = 8 by
          rw [HEC.out, HC0.out, if_neg (by simp), if_pos (by have := HQ.out; simpa using this)])
        go_wp2
        go_ret
        exact ⟨by rw [HR.out]; rfl, (HBw.out.trans (HB1.out.mono HBw.out.size)).alloc (Nat.le_trans HBw.out.size HB1.out.size) _⟩
end Go.Proofs.YtdobpmbgngomlaaGreatDoor
/- ref40.uses, Has -/
namespace Go.Proofs.YtdobpmbgngomlaaGreatDoor
open Go.RowKit Go.Proofs Go.Shelf

theorem Fo.mem_wr2 : ∀ (s : Fo) (l : List (ByteArray × Int)) (y : ByteArray × Int), y ∈ s.wr l ↔ y ∈ l ∨ y ∈ refL s.vis
  | .nil, l, y => by simp [Fo.wr, Fo.vis, refL]
  | .cons k n m i d A c s r, l, y => by
    simp only [Fo.wr]
    rw [Fo.mem_wr2 r, Fo.mem_wr2 s]
    have h1 : y ∈ (if k = 5 then withN l (n, i) else l) ↔ y ∈ l ∨ (k = 5 ∧ y = (n, i)) := by
      split
      · rename_i h; rw [mem_withN]; simp [h]
      · rename_i h; simp [h]
    have h2 : y ∈ refL (Fo.cons k n m i d A c s r).vis ↔ y ∈ refL r.vis ∨ (k = 5 ∧ y = (n, i)) ∨ y ∈ refL s.vis := by
      unfold refL
      simp only [Fo.vis, List.filterMap_append, List.mem_append, List.filterMap_cons]
      by_cases hk : k = 5
      · simp [hk]
      · simp [hk]
    rw [h1, h2]
    constructor
    · rintro (((h | h) | h) | h)
      · exact .inl h
      · exact .inr (.inr (.inl h))
      · exact .inr (.inr (.inr h))
      · exact .inr (.inl h)
    · rintro (h | h | h | h)
      · exact .inl (.inl (.inl h))
      · exact .inr h
      · exact .inl (.inl (.inr h))
      · exact .inl (.inr h)
theorem uses_fold (pack : ByteArray) (k : Int) (n m : ByteArray) (i d : Int) (A : Option Addr) (c : Nat) (s : Fo) : (nodeRef k n i s []).foldl (fun R x => withN R (fullN pack x)) [] = usesOf pack (Fo.cons k n m i d A c s .nil) := by
  rw [← List.foldl_map (f := fullN pack) (g := withN)]
  unfold usesOf
  refine (ordN_eq (foldW_sorted _ [] List.Pairwise.nil) fun x => ?_).symm
  rw [mem_foldW]
  simp only [List.not_mem_nil, false_or, List.mem_map]
  have hm : ∀ y, y ∈ nodeRef k n i s [] ↔ y ∈ refsOf (Fo.cons k n m i d A c s .nil).vis := fun y => by
    have e : refsOf (Fo.cons k n m i d A c s .nil).vis = ordN (refL (Fo.cons k n m i d A c s .nil).vis) := rfl
    rw [e, mem_ordN]
    have h := Fo.mem_wr2 (Fo.cons k n m i d A c s .nil) [] y
    simp only [List.not_mem_nil, false_or] at h
    exact h
  exact ⟨fun ⟨y, h1, h2⟩ => ⟨y, (hm y).1 h1, h2⟩, fun ⟨y, h1, h2⟩ => ⟨y, (hm y).2 h1, h2⟩⟩
set_option maxRecDepth 100000 in
set_option maxHeartbeats 4000000 in
theorem uses40_any (pack : ByteArray) (k : Int) (n m : ByteArray) (i d : Int) (A : Option Addr) (c : Nat) (s : Fo) (w : World) (hs : s.Sl w w.heap.size A c) (hcnt : s.count ≤ 100000) :
    Calls Tryz.prog 99 #[.string pack, .agg #[.int .i64 k, .string n, .string m, .int .i64 i, .int .i64 d, .slice A s.len c]] w (WithP24 (usesOf pack (Fo.cons k n m i d A c s .nil)) w) := by
  obtain ⟨E, HE⟩ : ∃ E, Hid (usesOf pack (Fo.cons k n m i d A c s .nil) = E) := ⟨_, Lib.hid rfl⟩
  obtain ⟨L, HLs⟩ : ∃ L, Hid (nodeRef k n i s [] = L) := ⟨_, Lib.hid rfl⟩
  have HEL := Lib.hid (show L.foldl (fun R x => withN R (fullN pack x)) [] = E by rw [← HLs.out, ← HE.out]; exact uses_fold pack k n m i d A c s)
  rw [HE.out]
  have hLl : L.length ≤ 100001 := by rw [← HLs.out]; refine Nat.le_trans (nodeRef_len k n i s []) ?_; simp; omega
  obtain ⟨SL, HSL⟩ : ∃ Q, Hid (s.len = Q) := ⟨_, Lib.hid rfl⟩
  obtain ⟨W0, hW0⟩ : ∃ W0, w.alloc (.cells #[.int .i64 k, .string n, .string m, .int .i64 i, .int .i64 d, .slice A SL c] 27) = W0 := ⟨_, rfl⟩
  have hb0 : Below w.heap.size w W0 := by subst hW0; exact (Below.refl _ _).alloc (Nat.le_refl _) _
  have hR := refs24_top k n m i d A c s W0 (hs.keep hb0.size (fun p hp => hb0.cell hp)) hcnt
  rw [HLs.out, HSL.out] at hR
  rw [HSL.out]
  have HR := Lib.hid hR
  have x0 : W0.cell? ⟨w.heap.size, 0, none⟩ = some (.int .i64 k) := by subst hW0; go_simp
  have x1 : W0.cell? ⟨w.heap.size, 1, none⟩ = some (.string n) := by subst hW0; go_simp
  have x2 : W0.cell? ⟨w.heap.size, 2, none⟩ = some (.string m) := by subst hW0; go_simp
  have x3 : W0.cell? ⟨w.heap.size, 3, none⟩ = some (.int .i64 i) := by subst hW0; go_simp
  have x4 : W0.cell? ⟨w.heap.size, 4, none⟩ = some (.int .i64 d) := by subst hW0; go_simp
  have x5 : W0.cell? ⟨w.heap.size, 5, none⟩ = some (.slice A SL c) := by subst hW0; go_simp
  have HB := Lib.hid hb0
  clear hs hcnt hR hb0
  go_enter Tryz.func99, Tryz.ntmps99
  go_wp2_with fail
  refine HR.out.mono ?_
  rintro e w1 ⟨lA, lc, rfl, hO, hb1⟩
  have H1 := Lib.hid (And.intro hO (HB.out.trans (hb1.mono HB.out.size)))
  obtain ⟨M, HM⟩ : ∃ Q, Hid (L.length = Q) := ⟨_, Lib.hid rfl⟩
  rw [HM.out] at hLl ⊢
  clear hO hb1 x0 x1 x2 x3 x4 x5 hW0
  go_wp2
  go_loopg [5, 7, 8] M (fun g rv ct _ wr => ∃ (j : Nat) (R : List (ByteArray × Int)) (rA : Option Addr) (rc : Nat), g = M - j ∧ j ≤ M ∧ ct = .int .i64 j ∧ rv = .slice rA R.length rc ∧ (L.drop j).foldl (fun R x => withN R (fullN pack x)) R = E ∧ R.length ≤ j ∧ OwnN wr rA rc R ∧ Below w1.heap.size w1 wr)
  case atStart => exact ⟨0, [], none, 0, rfl, by omega, rfl, rfl, HEL.out, by simp, OwnN.nil _, Below.refl _ _⟩
  case round =>
    obtain ⟨j, R, rA, rc, HG, hj, rfl, rfl, hE, hRl, hR, hB⟩ := hrel
    have hz := hB.size
    by_cases hlt : j < M
    · have hlt' : j < L.length := by rw [HM.out]; exact hlt
      obtain ⟨x, hx⟩ : ∃ y, L[j]? = some y := ⟨_, List.getElem?_eq_getElem hlt'⟩
      have hdr : L.drop j = x :: L.drop (j + 1) := by
        obtain ⟨_, rfl⟩ := List.getElem?_eq_some_iff.1 hx
        exact List.drop_eq_getElem_cons _
      rw [hdr, List.foldl_cons] at hE
      have hOw := H1.out.1.below hB (Nat.le_refl _)
      rcases hOw.cells with ⟨h0, _⟩ | ⟨g, rfl, hgl, hc1, hc2, hcell⟩
      · rw [h0] at hlt'; simp at hlt'
      obtain ⟨x0, x1⟩ := namesC_at x L j hx
      have c0 := hcell _ _ x0
      have c1 := hcell _ _ x1
      rw [HM.out] at hc1
      have i1 : (0 : Int) ≤ (j : Int) := by omega
      have i2 : (j : Int) < (M : Int) := by omega
      have HWT := Lib.hid (show ∀ (a : ByteArray) (b : Int), Calls Tryz.prog 54 #[.slice rA R.length rc, .agg #[.string a, .int .i64 b]] (wr.alloc (.cells #[.string a, .int .i64 b] 24)) (fun e X => WithP24 (withN R (a, b)) (wr.alloc (.cells #[.string a, .int .i64 b] 24)) e X ∧ Below wr.heap.size wr X) from fun a b => by
        have hal : Below wr.heap.size wr (wr.alloc (.cells #[.string a, .int .i64 b] 24)) := (Below.refl _ _).alloc (Nat.le_refl _) _
        refine (with24_any R a b rA rc _ (hR.below hal (Nat.le_refl _)) (by omega)).mono ?_
        rintro e X ⟨A3, c3, rfl, hO3, hb3⟩
        exact ⟨⟨A3, c3, rfl, hO3, hb3⟩, hal.trans (hb3.mono hal.size)⟩)
      have HT := Lib.hid (And.intro HG (And.intro hE hB))
      clear HG hE hB hOw hcell x0 x1 hdr hx hR
      by_cases hem : x.1.toList.isEmpty = true
      · have e1 : (x.1.toList == []) = true := by simpa using hem
        have HE3 := Lib.hid (show (L.drop (j + 1)).foldl (fun R x => withN R (fullN pack x)) (withN R (pack, x.2)) = E by
          have := HT.out.2.1
          rwa [show fullN pack x = (pack, x.2) by rw [fullN, if_pos hem]] at this)
        clear hem
        go_wp2_with fail
        refine (HWT.out _ _).mono ?_
        rintro e w2 ⟨⟨A3, c3, rfl, hO3, _⟩, hb3⟩
        obtain ⟨R3, HR3⟩ : ∃ R3, Hid (withN R (pack, x.2) = R3) := ⟨_, Lib.hid rfl⟩
        have hR3l : R3.length ≤ R.length + 1 := by rw [← HR3.out]; exact withN_len _ _
        rw [HR3.out] at HE3 hO3 ⊢
        have H3 := Lib.hid (And.intro hO3 (HT.out.2.2.trans (hb3.mono hz)))
        clear hO3 hb3 e1 c0 c1
        go_wp2
        go_roundg (M - (j + 1))
        case measure => rw [HT.out.1]; omega
        case rel => exact ⟨j + 1, R3, A3, c3, rfl, by omega, by go_num, rfl, HE3.out, by omega, H3.out.1, H3.out.2⟩
      · have e1 : (x.1.toList == []) = false := by simpa using hem
        have HE3 := Lib.hid (show (L.drop (j + 1)).foldl (fun R x => withN R (fullN pack x)) (withN R (x.1, x.2)) = E by
          have := HT.out.2.1
          rwa [show fullN pack x = (x.1, x.2) by rw [fullN, if_neg hem]] at this)
        clear hem
        go_wp2_with fail
        refine (HWT.out _ _).mono ?_
        rintro e w2 ⟨⟨A3, c3, rfl, hO3, _⟩, hb3⟩
        obtain ⟨R3, HR3⟩ : ∃ R3, Hid (withN R (x.1, x.2) = R3) := ⟨_, Lib.hid rfl⟩
        have hR3l : R3.length ≤ R.length + 1 := by rw [← HR3.out]; exact withN_len _ _
        rw [HR3.out] at HE3 hO3 ⊢
        have H3 := Lib.hid (And.intro hO3 (HT.out.2.2.trans (hb3.mono hz)))
        clear hO3 hb3 e1 c0 c1
        go_wp2
        go_roundg (M - (j + 1))
        case measure => rw [HT.out.1]; omega
        case rel => exact ⟨j + 1, R3, A3, c3, rfl, by omega, by go_num, rfl, HE3.out, by omega, H3.out.1, H3.out.2⟩
    · have hje : j = M := by omega
      have HE3 := Lib.hid (show R = E by
        rw [List.drop_of_length_le (by rw [HM.out]; omega)] at hE
        exact hE)
      have HF := Lib.hid (And.intro hR (H1.out.2.trans (hB.mono H1.out.2.size)))
      clear hE hR hB HG
      go_wp2
      go_ret
      exact ⟨rA, rc, by rw [← HE3.out]; rfl, by rw [← HE3.out]; exact HF.out.1, HF.out.2⟩
set_option maxRecDepth 100000 in
set_option maxHeartbeats 2000000 in
theorem has40_any (l : List (ByteArray × Int)) (x : ByteArray × Int) (A : Option Addr) (c : Nat) (w : World) (hs : OwnN w A c l) :
    Calls Tryz.prog 98 #[.slice A l.length c, .agg #[.string x.1, .int .i64 x.2]] w fun e w' => e = .returned (.bool (memN l x)) ∧ Below w.heap.size w w' := by
  obtain ⟨E, HE⟩ : ∃ E, Hid (memN l x = E) := ⟨_, Lib.hid rfl⟩
  rw [HE.out]
  obtain ⟨W0, hW0⟩ : ∃ W0, w.alloc (.cells #[.string x.1, .int .i64 x.2] 24) = W0 := ⟨_, rfl⟩
  have hb0 : Below w.heap.size w W0 := by subst hW0; exact (Below.refl _ _).alloc (Nat.le_refl _) _
  have n0 : W0.cell? ⟨w.heap.size, 0, none⟩ = some (.string x.1) := by subst hW0; go_simp
  have n1 : W0.cell? ⟨w.heap.size, 1, none⟩ = some (.int .i64 x.2) := by subst hW0; go_simp
  obtain ⟨N, HN⟩ : ∃ Q, Hid (l.length = Q) := ⟨_, Lib.hid rfl⟩
  have HO := Lib.hid (And.intro (hs.below hb0 (Nat.le_refl _)) hb0)
  rw [HN.out]
  clear hs hb0
  go_enter Tryz.func98, Tryz.ntmps98
  go_wp2
  go_loopg [5] N (fun gg ct wr => ∃ j : Nat, gg = N - j ∧ j ≤ N ∧ ct = .int .i64 j ∧ memN (l.take j) x = false ∧ ∃ q, wr = W0.drewN q)
  case atStart => exact ⟨0, rfl, by omega, rfl, rfl, 0, rfl⟩
  case round =>
    obtain ⟨j, HG, hj, rfl, hm, q, rfl⟩ := hrel
    by_cases hlt : j < N
    · have hlt' : j < l.length := by rw [HN.out]; exact hlt
      obtain ⟨y, hy⟩ : ∃ y, l[j]? = some y := ⟨_, List.getElem?_eq_getElem hlt'⟩
      rcases HO.out.1.cells with ⟨h0, _⟩ | ⟨g, rfl, hgl, hc1, hc2, hcell⟩
      · rw [h0] at hlt'; simp at hlt'
      rw [HN.out] at hc1
      obtain ⟨y0, y1⟩ := namesC_at y l j hy
      have cy0 := hcell _ _ y0
      have cy1 := hcell _ _ y1
      have hE := run_eqlN y.1 x.1 y.2 x.2
      have hj0 : (0 : Int) ≤ (j : Int) := by omega
      have hj1 : (j : Int) < (N : Int) := by omega
      have HM := Lib.hid (And.intro HG (And.intro (eqN_mem (x := x) hy) (And.intro hm hy)))
      have hsw : ((y.1.toList == x.1.toList) && (y.2 == x.2)) = eqN x y := by
        show eqN y x = eqN x y
        rw [Bool.eq_iff_iff, eqN_iff, eqN_iff]
        exact eq_comm
      rw [hsw] at hE
      clear HG hm hy y0 y1 hcell hsw hgl
      cases he : eqN x y with
      | true =>
        have HEQ := Lib.hid he
        rw [he] at hE
        clear he
        go_wp2_with fail
        go_quiet (fail)
        clear cy0 cy1 hE
        go_wp2
        go_ret
        refine ⟨?_, below_drewN (below_drewN HO.out.2 _) _⟩
        have h1 := HM.out.2.1
        rw [HEQ.out, Bool.or_true, memN_iff] at h1
        rw [← HE.out, memN_iff.2 (List.mem_of_mem_take h1)]
        rfl
      | false =>
        have HEQ := Lib.hid he
        rw [he] at hE
        clear he
        go_wp2_with fail
        go_quiet (fail)
        clear cy0 cy1 hE
        go_wp2
        go_roundg (N - (j + 1))
        case measure => rw [HM.out.1]; omega
        case rel => exact ⟨j + 1, rfl, by omega, by go_num, by rw [HM.out.2.1, HEQ.out, HM.out.2.2.1]; rfl, q + nq, by simp [World.drewN]⟩
    · have hje : j = N := by omega
      have HM := Lib.hid (show E = false by rw [← HE.out, ← hm, List.take_of_length_le (by rw [HN.out]; omega)])
      clear hm
      go_wp2
      go_ret
      exact ⟨by rw [HM.out]; rfl, below_drewN HO.out.2 _⟩
end Go.Proofs.YtdobpmbgngomlaaGreatDoor
/- ref24.With: what comes back is the list that came in, or a row of the call's own (printed by gen_ywu.py) -/
namespace Go.Proofs.YtdobpmbgngomlaaGreatDoor
open Go.RowKit Go.Proofs Go.Shelf

def WithQ24 (R l : List (ByteArray × Int)) (A0 : Option Addr) (w : World) (e : Ending) (w' : World) : Prop :=
  ∃ A c, e = .returned (.slice A R.length c) ∧ OwnN w' A c R ∧ Below w.heap.size w w' ∧ ((R = l ∧ A = A0) ∨ w'.ownsRow w.heap.size 24 2 (.slice A R.length c) R.length (namesC R))
set_option maxRecDepth 100000 in
set_option maxHeartbeats 8000000 in
theorem withQ_some (l : List (ByteArray × Int)) (xa : ByteArray) (xi : Int) (g c : Nat) (w : World) (hs : OwnN w (some ⟨g, 0, none⟩) c l) (hl : l.length ≤ 1000000) :
    Calls Tryz.prog 54 #[.slice (some ⟨g, 0, none⟩) l.length c, .agg #[.string xa, .int .i64 xi]] w (WithQ24 (withN l (xa, xi)) l (some ⟨g, 0, none⟩) w) := by
  obtain ⟨i0, hi, hz0, hz1, hz2⟩ := info_parts Tryz.infoName
  obtain ⟨n, HN⟩ : ∃ q, Hid (l.length = q) := ⟨_, Lib.hid rfl⟩
  obtain ⟨R, HR⟩ : ∃ q, Hid (withN l (xa, xi) = q) := ⟨_, Lib.hid rfl⟩
  rw [HR.out]
  rw [HN.out] at hl ⊢
  have hcs := hs.cells
  have hcn : n ≤ c ∧ c ≤ 9223372036854775807 := by
    rcases hcs with ⟨_, h, _⟩ | ⟨g', _, _, h1, h2, _⟩
    · cases h
    · rw [HN.out] at h1; exact ⟨h1, h2⟩
  obtain ⟨hc1, hc2⟩ := hcn
  obtain ⟨W0, hW0⟩ : ∃ W0, w.alloc (.cells #[.string xa, .int .i64 xi] 24) = W0 := ⟨_, rfl⟩
  have hzw : w.heap.size < W0.heap.size := by subst hW0; simp
  have hB0 : Below w.heap.size w W0 := by subst hW0; exact (Below.refl _ _).alloc (Nat.le_refl _) _
  have hx0 : W0.heap[w.heap.size]? = some (.cells #[.string xa, .int .i64 xi] 24 (0, 0)) := by rw [← hW0]; exact heap_alloc_new w _
  have HC : Hid (∀ X, Below W0.heap.size W0 X → Below w.heap.size w X ∧ OwnN X (some ⟨g, 0, none⟩) c l ∧ X.cell? ⟨w.heap.size, 0, none⟩ = some (.string xa) ∧ X.cell? ⟨w.heap.size, 1, none⟩ = some (.int .i64 xi)) := fun X hX => by
    have h0 := (hX.block w.heap.size hzw).trans hx0
    have hb := hB0.trans (hX.mono (Nat.le_of_lt hzw))
    exact ⟨hb, hs.below hb (Nat.le_refl _), cell_of_row X _ 0 _ _ (0, 0) h0, cell_of_row X _ 1 _ _ (0, 0) h0⟩
  clear hs hB0 hx0 hcs
  go_enter Tryz.func54, Tryz.ntmps54
  go_wp2_with fail
  clear hW0
  go_loopg [5] n (fun g ct wr => ∃ j : Nat, g = n - j ∧ j ≤ n ∧ ct = .int .i64 j ∧ (∀ y ∈ l.take j, lessN y (xa, xi) = true) ∧ Below W0.heap.size W0 wr)
  case atStart => exact ⟨0, rfl, by omega, rfl, by simp, Below.refl _ _⟩
  case round =>
    obtain ⟨j, HG, hj, rfl, HA, HB⟩ := hrel
    have HG' := Lib.hid (And.intro HG (And.intro HA HB))
    clear HG HA HB
    have hzr := HG'.out.2.2.size
    obtain ⟨hBw, hon, x0, x1⟩ := HC.out wr HG'.out.2.2
    have HBw := Lib.hid (And.intro hBw hon)
    clear hBw hon
    by_cases hlt : j < n
    · have hjl : j < l.length := by rw [HN.out]; exact hlt
      have hj3 : l[j]? = some l[j] := List.getElem?_eq_getElem hjl
      have hcell : ∀ X, Below W0.heap.size W0 X → X.cell? ⟨g, j * 2, none⟩ = some (.string l[j].1) ∧ X.cell? ⟨g, j * 2 + 1, none⟩ = some (.int .i64 l[j].2) := fun X hX => by
        rcases (HC.out X hX).2.1.cells with ⟨h1, _⟩ | ⟨g', hg', _, _, _, hc⟩
        · subst h1; simp at hjl
        · cases hg'
          obtain ⟨n1, n2⟩ := namesC_at _ l j hj3
          exact ⟨hc _ _ n1, hc _ _ n2⟩
      have HCell := Lib.hid hcell
      have HJ := Lib.hid hj3
      clear hcell hj3
      generalize l[j] = y at HCell HJ
      clear hjl
      obtain ⟨ya, yi⟩ := y
      simp only at HCell
      have HSX : Hid (∀ X, Below wr.heap.size wr X → X.cell? ⟨g, j * 2, none⟩ = some (.string ya) ∧ X.cell? ⟨g, j * 2 + 1, none⟩ = some (.int .i64 yi) ∧ X.cell? ⟨w.heap.size, 0, none⟩ = some (.string xa) ∧ X.cell? ⟨w.heap.size, 1, none⟩ = some (.int .i64 xi)) := fun X hX => by
        have hX0 := HG'.out.2.2.trans (hX.mono hzr)
        obtain ⟨h1, h2⟩ := HCell.out X hX0
        obtain ⟨_, _, h3, h4⟩ := HC.out X hX0
        exact ⟨h1, h2, h3, h4⟩
      have HLs := Lib.hid (fun X => less24_any ya xa yi xi X)
      have i0' : (0 : Int) ≤ (j : Int) := by omega
      have i1' : (j : Int) < (n : Int) := by omega
      have i2' : decide ((j : Int) < (n : Int)) = true := by simpa using hlt
      obtain ⟨ls, Hls⟩ : ∃ q, Hid (lessN (ya, yi) (xa, xi) = q) := ⟨_, Lib.hid rfl⟩
      rw [Hls.out] at HLs
      clear x0 x1
      go_wp2_with fail
      go_region_held3 (fun X => X.cell? ⟨g, j * 2, none⟩ = some (.string ya) ∧ X.cell? ⟨g, j * 2 + 1, none⟩ = some (.int .i64 yi) ∧ X.cell? ⟨w.heap.size, 0, none⟩ = some (.string xa) ∧ X.cell? ⟨w.heap.size, 1, none⟩ = some (.int .i64 xi))
        (first | exact HSX.out _ (below_drew' (Below.refl _ _)) | exact HSX.out _ hbb)
        (first | (go_at_call 96; refine (HLs.out _).mono ?_; rintro e w3 ⟨rfl, hb3⟩; have hbb : Below wr.heap.size wr w3 := (below_drew' (Below.refl _ wr)).trans (hb3.mono (Nat.le_refl _))))
      all_goals (
        have HB3 := Lib.hid (HG'.out.2.2.trans (hbb.mono hzr))
        clear hb3 hbb
        cases ls with
        | true =>
          have HNx : Hid (∀ y ∈ l.take (j + 1), lessN y (xa, xi) = true) := fun y hy => by
            obtain ⟨q, hq⟩ := List.mem_iff_getElem?.1 hy
            rw [List.getElem?_take] at hq
            split at hq
            · by_cases hqj : q = j
              · subst hqj
                rw [HJ.out] at hq
                cases hq
                exact Hls.out
              · exact HG'.out.2.1 y (List.mem_iff_getElem?.2 ⟨q, by rw [List.getElem?_take, if_pos (by omega)]; exact hq⟩)
            · cases hq
          go_wp2
          go_roundg (n - (j + 1))
          case measure => rw [HG'.out.1]; omega
          case rel => exact ⟨j + 1, rfl, by omega, by go_num, HNx.out, HB3.out⟩
        | false =>
          have HRm := Lib.hid (show R = if eqN (ya, yi) (xa, xi) = true then l else l.take j ++ (xa, xi) :: l.drop j by rw [← HR.out]; exact withN_mid HG'.out.2.1 HJ.out Hls.out)
          have hE := run_eqlN ya xa yi xi
          obtain ⟨y0, y1⟩ := HCell.out w3 HB3.out
          obtain ⟨hBw3, _, x0, x1⟩ := HC.out w3 HB3.out
          have HBw3 := Lib.hid hBw3
          clear hBw3
          cases he : eqN (ya, yi) (xa, xi) with
          | true =>
            have HRe := Lib.hid (show R = l by rw [HRm.out, if_pos he])
            unfold eqN at he
            simp only at he
            have HF := Lib.hid (HC.out w3 HB3.out).2.1
            go_wp2_with fail
            go_quiet (fail)
            go_wp2
            go_ret
            exact ⟨_, _, by rw [HRe.out, HN.out]; rfl, by rw [HRe.out]; exact HF.out.below (below_drewN (Below.refl _ _) _) (Nat.le_refl _), below_drewN HBw3.out _, .inl ⟨HRe.out, rfl⟩⟩
          | false =>
            have HRe := Lib.hid (show R = l.take j ++ (xa, xi) :: l.drop j by rw [HRm.out, if_neg (by rw [he]; simp)])
            unfold eqN at he
            simp only at he
            go_wp2_with fail
            go_quiet (fail)
            have hBX := below_drewN HB3.out nq
            generalize w3.drewN nq = X at hBX ⊢
            clear hE he
            go_wp2_with fail
            have hb0 : Below X.heap.size X X.drew := below_drew' (Below.refl _ _)
            have HKc : Hid (∀ Y, Below X.heap.size X Y → Y.cell? ⟨w.heap.size, 0, none⟩ = some (.string xa) ∧ Y.cell? ⟨w.heap.size, 1, none⟩ = some (.int .i64 xi)) := fun Y hY => by
              obtain ⟨_, _, h3, h4⟩ := HC.out Y (hBX.trans (hY.mono hBX.size))
              exact ⟨h3, h4⟩
            have HNw := Lib.hid (fun Y (hY : Below X.heap.size X Y) => ((HC.out Y (hBX.trans (hY.mono hBX.size))).2.1.news j).2)
            have HL1 := Lib.hid (show (namesC (l.take j)).length = j * 2 by rw [namesC_length, List.length_take, HN.out]; omega)
            have HO1 := Lib.hid (World.ownsRow_lit (base := X.heap.size) (e := 24) (size := 2) X.drew #[] 0 (Nat.le_refl _) (by simp) rfl)
            have HO2 := Lib.hid (HO1.out.alloc (.cells #[.string xa, .int .i64 xi] 24))
            have ho3 := World.ownsRow_lit (base := X.heap.size) (e := 24) (size := 2) (X.drew.alloc (.cells #[.string xa, .int .i64 xi] 24)) #[] 0 (by simp) (by simp) rfl
            rw [show (X.drew.alloc (.cells #[.string xa, .int .i64 xi] 24)).heap.size = X.heap.size + 1 by simp] at ho3
            have HO3 := Lib.hid ho3
            clear ho3
            have hba : Below X.heap.size X (X.drew.alloc (.cells #[] 24)) := hb0.alloc (Nat.le_refl _) _
            have hbb : Below X.heap.size X ((X.drew.alloc (.cells #[] 24)).alloc (.cells #[.string xa, .int .i64 xi] 24)) := hba.alloc hba.size _
            have hbn : Below X.heap.size X (X.drew.alloc (.cells #[.string xa, .int .i64 xi] 24)) := hb0.alloc (Nat.le_refl _) _
            have hbc : Below X.heap.size X ((X.drew.alloc (.cells #[.string xa, .int .i64 xi] 24)).alloc (.cells #[] 24)) := hbn.alloc hbn.size _
            have HNa := Lib.hid (HNw.out _ hba)
            have HNb := Lib.hid (HNw.out _ hbb)
            have HNc := Lib.hid (HNw.out _ hbc)
            have HGa := Lib.hid (fun w1 (hg : (X.drew.alloc (.cells #[] 24)).grownBy w1 (Value.slice (some ⟨X.drew.heap.size, 0, none⟩) 0 0).ownBlock) => hba.grown hg hba.size (fun q hq => (HO1.out.lt q hq).1))
            have HGb := Lib.hid (fun w1 (hg : ((X.drew.alloc (.cells #[] 24)).alloc (.cells #[.string xa, .int .i64 xi] 24)).grownBy w1 (Value.slice (some ⟨X.drew.heap.size, 0, none⟩) 0 0).ownBlock) => And.intro (hbb.grown hg hbb.size (fun q hq => (HO1.out.lt q hq).1)) (show w1.heap[X.heap.size + 1]? = some (.cells #[.string xa, .int .i64 xi] 24 (0, 0)) from (hg.block (X.heap.size + 1) (by simp) (fun h => by have := Option.some.inj h; change X.heap.size + 1 = X.heap.size at this; omega)).trans (by have := heap_alloc_new (X.drew.alloc (.cells #[] 24)) (.cells #[.string xa, .int .i64 xi] 24); rwa [show (X.drew.alloc (.cells #[] 24)).heap.size = X.heap.size + 1 by simp] at this)))
            have HGc := Lib.hid (fun w1 (hg : ((X.drew.alloc (.cells #[.string xa, .int .i64 xi] 24)).alloc (.cells #[] 24)).grownBy w1 (Value.slice (some ⟨X.heap.size + 1, 0, none⟩) 0 0).ownBlock) => And.intro (hbc.grown hg hbc.size (fun q hq => (HO3.out.lt q hq).1)) (show w1.heap[X.heap.size]? = some (.cells #[.string xa, .int .i64 xi] 24 (0, 0)) from (hg.block X.heap.size (by simp; omega) (fun h => by have := Option.some.inj h; change X.heap.size = X.heap.size + 1 at this; omega)).trans (by rw [Below.heap_alloc _ _ _ (by simp)]; exact heap_alloc_new X.drew _)))
            have m1 : 0 + j ≤ maxLen := by unfold maxLen; omega
            have m2 : (0 + j) * 24 ≤ 140737488355328 := by omega
            have m3 : 0 + j + 1 ≤ maxLen := by unfold maxLen; omega
            have m4 : (0 + j + 1) * 24 ≤ 140737488355328 := by omega
            have HM := Lib.hid (And.intro m1 (And.intro m2 (And.intro m3 m4)))
            have i3' : (j : Int) ≤ (c : Int) := by omega
            have i4' : j ≤ c := by omega
            have HBB := Lib.hid (And.intro hba (And.intro hbb hbc))
            have HB0' := Lib.hid (And.intro hb0 hbn)
            clear m1 m2 m3 m4 hba hbb hbc hb0 hbn
            have HL3 := Lib.hid (show (namesC (l.drop j)).length = (n - j) * 2 by rw [namesC_length, List.length_drop, HN.out])
            have HNd := Lib.hid (fun Y (hY : Below X.heap.size X Y) => ((HC.out Y (hBX.trans (hY.mono hBX.size))).2.1.newsD j))
            have i5' : j < c := by omega
            have i6' : (j : Int) < (c : Int) := by omega
            have m5 : 0 + j + 1 + (n - j) ≤ maxLen := by unfold maxLen; omega
            have m6 : (0 + j + 1 + (n - j)) * 24 ≤ 140737488355328 := by omega
            have HM2 := Lib.hid (And.intro m5 m6)
            clear m5 m6
            go_region_held3 (fun Y => Y.cell? ⟨w.heap.size, 0, none⟩ = some (.string xa) ∧ Y.cell? ⟨w.heap.size, 1, none⟩ = some (.int .i64 xi))
              (first | exact HKc.out _ hb2 | exact HKc.out _ hb1 | exact HKc.out _ (hb1.alloc hb1.size _) | exact HKc.out _ HB0'.out.1 | exact HKc.out _ HB0'.out.2 | exact HKc.out _ HBB.out.1 | exact HKc.out _ HBB.out.2.1 | exact HKc.out _ HBB.out.2.2)
              (first
                | (refine step_append_any _ rfl (.tmp 34) (.tmp 37) 30 rfl X.heap.size 24 i0 _ 2 24 Tryz.underlying30 hi hz0 hz1 hz2 rfl (Nat.succ_pos 1) _ 0 [] rfl HO1.out (some ⟨g, 0, none⟩) j c (namesC (l.take j)) rfl HL1.out (fun h => nomatch h) HNa.out (namesC_one _) HM.out.1 HM.out.2.1 HBB.out.1.size ?_; intro v1 w1 hown1 hg1; have hb1 := HGa.out w1 hg1; have tokA : True := trivial)
                | (refine step_append_any _ rfl (.tmp 34) (.tmp 37) 30 rfl X.heap.size 24 i0 _ 2 24 Tryz.underlying30 hi hz0 hz1 hz2 rfl (Nat.succ_pos 1) _ 0 [] rfl HO2.out (some ⟨g, 0, none⟩) j c (namesC (l.take j)) rfl HL1.out (fun h => nomatch h) HNb.out (namesC_one _) HM.out.1 HM.out.2.1 HBB.out.2.1.size ?_; intro v1 w1 hown1 hg1; obtain ⟨hb1, hD⟩ := HGb.out w1 hg1; have tokB : True := trivial)
                | (refine step_append_any _ rfl (.tmp 34) (.tmp 37) 30 rfl X.heap.size 24 i0 _ 2 24 Tryz.underlying30 hi hz0 hz1 hz2 rfl (Nat.succ_pos 1) _ 0 [] rfl HO3.out (some ⟨g, 0, none⟩) j c (namesC (l.take j)) rfl HL1.out (fun h => nomatch h) HNc.out (namesC_one _) HM.out.1 HM.out.2.1 HBB.out.2.2.size ?_; intro v1 w1 hown1 hg1; obtain ⟨hb1, hD⟩ := HGc.out w1 hg1; have tokC : True := trivial)
                | (have _t := tokA; refine step_append_any _ rfl (.tmp 38) (.tmp 40) 30 rfl X.heap.size 24 i0 _ 2 24 Tryz.underlying30 hi hz0 hz1 hz2 rfl (Nat.succ_pos 1) v1 _ _ rfl (hown1.alloc _) (some ⟨w1.heap.size, 0, none⟩) 1 1 [.string xa, .int .i64 xi] rfl rfl (fun h => nomatch h) (news_pair _ _ _) (namesC_one [(xa, xi)]) HM.out.2.2.1 HM.out.2.2.2 (hb1.alloc hb1.size _).size ?_; intro v2 w2 hown2 hg2; have hb2 := (hb1.alloc hb1.size (.cells #[.string xa, .int .i64 xi] 24)).grown hg2 (hb1.alloc hb1.size _).size (fun q hq => (hown1.lt q hq).1))
                | (have _t := tokB; refine step_append_any _ rfl (.tmp 38) (.tmp 40) 30 rfl X.heap.size 24 i0 _ 2 24 Tryz.underlying30 hi hz0 hz1 hz2 rfl (Nat.succ_pos 1) v1 _ _ rfl hown1 (some ⟨X.heap.size + 1, 0, none⟩) 1 1 [.string xa, .int .i64 xi] rfl rfl (fun h => nomatch h) (news_at hD) (namesC_one [(xa, xi)]) HM.out.2.2.1 HM.out.2.2.2 hb1.size ?_; intro v2 w2 hown2 hg2; have hb2 := hb1.grown hg2 hb1.size (fun q hq => (hown1.lt q hq).1))
                | (have _t := tokC; refine step_append_any _ rfl (.tmp 38) (.tmp 40) 30 rfl X.heap.size 24 i0 _ 2 24 Tryz.underlying30 hi hz0 hz1 hz2 rfl (Nat.succ_pos 1) v1 _ _ rfl hown1 (some ⟨X.heap.size, 0, none⟩) 1 1 [.string xa, .int .i64 xi] rfl rfl (fun h => nomatch h) (news_at hD) (namesC_one [(xa, xi)]) HM.out.2.2.1 HM.out.2.2.2 hb1.size ?_; intro v2 w2 hown2 hg2; have hb2 := hb1.grown hg2 hb1.size (fun q hq => (hown1.lt q hq).1)))
            all_goals (
              go_wp2_with (at_builtin; refine wpList_append_own_any _ rfl (.tmp 42) (.tmp 45) 30 rfl X.heap.size 24 i0 _ 2 24 Tryz.underlying30 hi hz0 hz1 hz2 rfl (Nat.succ_pos 1) v2 _ _ rfl hown2 (some ⟨g, j * 2, none⟩) (n - j) (c - j) (namesC (l.drop j)) rfl HL3.out (fun h => nomatch h) (HNd.out _ hb2) (namesC_one _) HM2.out.1 HM2.out.2 hb2.size ?_; intro v3 w5 hown3 hg3)
              go_ret
              have hb5 := hb2.grown hg3 hb2.size (fun q hq => (hown2.lt q hq).1)
              have hf : w5.ownsRow X.heap.size 24 2 v3 R.length (namesC R) := by
                have e1 : R.length = 0 + j + 1 + (n - j) := by have := HN.out; rw [HRe.out]; simp; omega
                rw [e1, HRe.out, namesC_append]
                simpa [namesC, encN] using hown3
              obtain ⟨A', c', rfl, ho⟩ := OwnN.of hf
              exact ⟨A', c', rfl, ho, (HC.out _ (hBX.trans (hb5.mono hBX.size))).1, .inr (World.ownsRow.mono hf (HC.out X hBX).1.size)⟩))
    · obtain rfl : j = n := by omega
      have HTk := Lib.hid (show l.take j = l from List.take_of_length_le (by rw [HN.out]; exact Nat.le_refl _))
      have HRe := Lib.hid (show R = l ++ [(xa, xi)] by rw [← HR.out]; exact withN_end (by have := HG'.out.2.1; rw [HTk.out] at this; exact this))
      have i2' : decide ((j : Int) < (j : Int)) = false := by simp
      go_wp2_with fail
      go_quiet (fail)
      have hBX0 := below_drewN HG'.out.2.2 nq
      generalize wr.drewN nq = X0 at hBX0 ⊢
      go_wp2_with fail
      go_quiet (fail)
      have hBX := below_drewN hBX0 nq
      generalize X0.drewN nq = X at hBX ⊢
      clear x0 x1 hBX0
      go_wp2_with fail
      rcases Nat.lt_or_ge j c with hjc | hjc
      · have i5' : j < c := hjc
        have i6' : (j : Int) < (c : Int) := by omega
        have hb0 : Below X.heap.size X X.drew := below_drew' (Below.refl _ _)
        have HKc : Hid (∀ Y, Below X.heap.size X Y → Y.cell? ⟨w.heap.size, 0, none⟩ = some (.string xa) ∧ Y.cell? ⟨w.heap.size, 1, none⟩ = some (.int .i64 xi)) := fun Y hY => by
          obtain ⟨_, _, h3, h4⟩ := HC.out Y (hBX.trans (hY.mono hBX.size))
          exact ⟨h3, h4⟩
        have HNw := Lib.hid (fun Y (hY : Below X.heap.size X Y) => ((HC.out Y (hBX.trans (hY.mono hBX.size))).2.1.news j).2)
        have HL1 := Lib.hid (show (namesC (l.take j)).length = j * 2 by rw [namesC_length, List.length_take, HN.out]; omega)
        have HO1 := Lib.hid (World.ownsRow_lit (base := X.heap.size) (e := 24) (size := 2) X.drew #[] 0 (Nat.le_refl _) (by simp) rfl)
        have HO2 := Lib.hid (HO1.out.alloc (.cells #[.string xa, .int .i64 xi] 24))
        have ho3 := World.ownsRow_lit (base := X.heap.size) (e := 24) (size := 2) (X.drew.alloc (.cells #[.string xa, .int .i64 xi] 24)) #[] 0 (by simp) (by simp) rfl
        rw [show (X.drew.alloc (.cells #[.string xa, .int .i64 xi] 24)).heap.size = X.heap.size + 1 by simp] at ho3
        have HO3 := Lib.hid ho3
        clear ho3
        have hba : Below X.heap.size X (X.drew.alloc (.cells #[] 24)) := hb0.alloc (Nat.le_refl _) _
        have hbb : Below X.heap.size X ((X.drew.alloc (.cells #[] 24)).alloc (.cells #[.string xa, .int .i64 xi] 24)) := hba.alloc hba.size _
        have hbn : Below X.heap.size X (X.drew.alloc (.cells #[.string xa, .int .i64 xi] 24)) := hb0.alloc (Nat.le_refl _) _
        have hbc : Below X.heap.size X ((X.drew.alloc (.cells #[.string xa, .int .i64 xi] 24)).alloc (.cells #[] 24)) := hbn.alloc hbn.size _
        have HNa := Lib.hid (HNw.out _ hba)
        have HNb := Lib.hid (HNw.out _ hbb)
        have HNc := Lib.hid (HNw.out _ hbc)
        have HGa := Lib.hid (fun w1 (hg : (X.drew.alloc (.cells #[] 24)).grownBy w1 (Value.slice (some ⟨X.drew.heap.size, 0, none⟩) 0 0).ownBlock) => hba.grown hg hba.size (fun q hq => (HO1.out.lt q hq).1))
        have HGb := Lib.hid (fun w1 (hg : ((X.drew.alloc (.cells #[] 24)).alloc (.cells #[.string xa, .int .i64 xi] 24)).grownBy w1 (Value.slice (some ⟨X.drew.heap.size, 0, none⟩) 0 0).ownBlock) => And.intro (hbb.grown hg hbb.size (fun q hq => (HO1.out.lt q hq).1)) (show w1.heap[X.heap.size + 1]? = some (.cells #[.string xa, .int .i64 xi] 24 (0, 0)) from (hg.block (X.heap.size + 1) (by simp) (fun h => by have := Option.some.inj h; change X.heap.size + 1 = X.heap.size at this; omega)).trans (by have := heap_alloc_new (X.drew.alloc (.cells #[] 24)) (.cells #[.string xa, .int .i64 xi] 24); rwa [show (X.drew.alloc (.cells #[] 24)).heap.size = X.heap.size + 1 by simp] at this)))
        have HGc := Lib.hid (fun w1 (hg : ((X.drew.alloc (.cells #[.string xa, .int .i64 xi] 24)).alloc (.cells #[] 24)).grownBy w1 (Value.slice (some ⟨X.heap.size + 1, 0, none⟩) 0 0).ownBlock) => And.intro (hbc.grown hg hbc.size (fun q hq => (HO3.out.lt q hq).1)) (show w1.heap[X.heap.size]? = some (.cells #[.string xa, .int .i64 xi] 24 (0, 0)) from (hg.block X.heap.size (by simp; omega) (fun h => by have := Option.some.inj h; change X.heap.size = X.heap.size + 1 at this; omega)).trans (by rw [Below.heap_alloc _ _ _ (by simp)]; exact heap_alloc_new X.drew _)))
        have m1 : 0 + j ≤ maxLen := by unfold maxLen; omega
        have m2 : (0 + j) * 24 ≤ 140737488355328 := by omega
        have m3 : 0 + j + 1 ≤ maxLen := by unfold maxLen; omega
        have m4 : (0 + j + 1) * 24 ≤ 140737488355328 := by omega
        have HM := Lib.hid (And.intro m1 (And.intro m2 (And.intro m3 m4)))
        have i3' : (j : Int) ≤ (c : Int) := by omega
        have i4' : j ≤ c := by omega
        have HBB := Lib.hid (And.intro hba (And.intro hbb hbc))
        have HB0' := Lib.hid (And.intro hb0 hbn)
        clear m1 m2 m3 m4 hba hbb hbc hb0 hbn
        have m5 : 0 + j + 1 ≤ maxLen := by unfold maxLen; omega
        have m6 : (0 + j + 1) * 24 ≤ 140737488355328 := by omega
        have HM2 := Lib.hid (And.intro m5 m6)
        clear m5 m6
        go_region_held3 (fun Y => Y.cell? ⟨w.heap.size, 0, none⟩ = some (.string xa) ∧ Y.cell? ⟨w.heap.size, 1, none⟩ = some (.int .i64 xi))
          (first | exact HKc.out _ hb2 | exact HKc.out _ hb1 | exact HKc.out _ (hb1.alloc hb1.size _) | exact HKc.out _ HB0'.out.1 | exact HKc.out _ HB0'.out.2 | exact HKc.out _ HBB.out.1 | exact HKc.out _ HBB.out.2.1 | exact HKc.out _ HBB.out.2.2)
          (first
            | (refine step_append_any _ rfl (.tmp 34) (.tmp 37) 30 rfl X.heap.size 24 i0 _ 2 24 Tryz.underlying30 hi hz0 hz1 hz2 rfl (Nat.succ_pos 1) _ 0 [] rfl HO1.out (some ⟨g, 0, none⟩) j c (namesC (l.take j)) rfl HL1.out (fun h => nomatch h) HNa.out (namesC_one _) HM.out.1 HM.out.2.1 HBB.out.1.size ?_; intro v1 w1 hown1 hg1; have hb1 := HGa.out w1 hg1; have tokA : True := trivial)
            | (refine step_append_any _ rfl (.tmp 34) (.tmp 37) 30 rfl X.heap.size 24 i0 _ 2 24 Tryz.underlying30 hi hz0 hz1 hz2 rfl (Nat.succ_pos 1) _ 0 [] rfl HO2.out (some ⟨g, 0, none⟩) j c (namesC (l.take j)) rfl HL1.out (fun h => nomatch h) HNb.out (namesC_one _) HM.out.1 HM.out.2.1 HBB.out.2.1.size ?_; intro v1 w1 hown1 hg1; obtain ⟨hb1, hD⟩ := HGb.out w1 hg1; have tokB : True := trivial)
            | (refine step_append_any _ rfl (.tmp 34) (.tmp 37) 30 rfl X.heap.size 24 i0 _ 2 24 Tryz.underlying30 hi hz0 hz1 hz2 rfl (Nat.succ_pos 1) _ 0 [] rfl HO3.out (some ⟨g, 0, none⟩) j c (namesC (l.take j)) rfl HL1.out (fun h => nomatch h) HNc.out (namesC_one _) HM.out.1 HM.out.2.1 HBB.out.2.2.size ?_; intro v1 w1 hown1 hg1; obtain ⟨hb1, hD⟩ := HGc.out w1 hg1; have tokC : True := trivial)
            | (have _t := tokA; refine step_append_any _ rfl (.tmp 38) (.tmp 40) 30 rfl X.heap.size 24 i0 _ 2 24 Tryz.underlying30 hi hz0 hz1 hz2 rfl (Nat.succ_pos 1) v1 _ _ rfl (hown1.alloc _) (some ⟨w1.heap.size, 0, none⟩) 1 1 [.string xa, .int .i64 xi] rfl rfl (fun h => nomatch h) (news_pair _ _ _) (namesC_one [(xa, xi)]) HM.out.2.2.1 HM.out.2.2.2 (hb1.alloc hb1.size _).size ?_; intro v2 w2 hown2 hg2; have hb2 := (hb1.alloc hb1.size (.cells #[.string xa, .int .i64 xi] 24)).grown hg2 (hb1.alloc hb1.size _).size (fun q hq => (hown1.lt q hq).1))
            | (have _t := tokB; refine step_append_any _ rfl (.tmp 38) (.tmp 40) 30 rfl X.heap.size 24 i0 _ 2 24 Tryz.underlying30 hi hz0 hz1 hz2 rfl (Nat.succ_pos 1) v1 _ _ rfl hown1 (some ⟨X.heap.size + 1, 0, none⟩) 1 1 [.string xa, .int .i64 xi] rfl rfl (fun h => nomatch h) (news_at hD) (namesC_one [(xa, xi)]) HM.out.2.2.1 HM.out.2.2.2 hb1.size ?_; intro v2 w2 hown2 hg2; have hb2 := hb1.grown hg2 hb1.size (fun q hq => (hown1.lt q hq).1))
            | (have _t := tokC; refine step_append_any _ rfl (.tmp 38) (.tmp 40) 30 rfl X.heap.size 24 i0 _ 2 24 Tryz.underlying30 hi hz0 hz1 hz2 rfl (Nat.succ_pos 1) v1 _ _ rfl hown1 (some ⟨X.heap.size, 0, none⟩) 1 1 [.string xa, .int .i64 xi] rfl rfl (fun h => nomatch h) (news_at hD) (namesC_one [(xa, xi)]) HM.out.2.2.1 HM.out.2.2.2 hb1.size ?_; intro v2 w2 hown2 hg2; have hb2 := hb1.grown hg2 hb1.size (fun q hq => (hown1.lt q hq).1)))
        all_goals (
          go_wp2_with (at_builtin; refine wpList_append_own_any _ rfl (.tmp 42) (.tmp 45) 30 rfl X.heap.size 24 i0 _ 2 24 Tryz.underlying30 hi hz0 hz1 hz2 rfl (Nat.succ_pos 1) v2 _ _ rfl hown2 _ _ _ [] rfl (by simp) (fun h => nomatch h) (fun _ _ q u hu => by simp at hu) (fun u hu => by simp at hu) (by have := HM2.out.1; simpa using this) (by have := HM2.out.2; simpa using this) hb2.size ?_; intro v3 w5 hown3 hg3)
          go_ret
          have hb5 := hb2.grown hg3 hb2.size (fun q hq => (hown2.lt q hq).1)
          have hf : w5.ownsRow X.heap.size 24 2 v3 R.length (namesC R) := by
            have e1 : R.length = 0 + j + 1 := by have := HN.out; rw [HRe.out]; simp; omega
            rw [e1, HRe.out, namesC_append, ← HTk.out]
            simpa [namesC, encN] using hown3
          obtain ⟨A', c', rfl, ho⟩ := OwnN.of hf
          exact ⟨A', c', rfl, ho, (HC.out _ (hBX.trans (hb5.mono hBX.size))).1, .inr (World.ownsRow.mono hf (HC.out X hBX).1.size)⟩)
      · obtain rfl : c = j := by omega
        have hb0 : Below X.heap.size X X.drew := below_drew' (Below.refl _ _)
        have HKc : Hid (∀ Y, Below X.heap.size X Y → Y.cell? ⟨w.heap.size, 0, none⟩ = some (.string xa) ∧ Y.cell? ⟨w.heap.size, 1, none⟩ = some (.int .i64 xi)) := fun Y hY => by
          obtain ⟨_, _, h3, h4⟩ := HC.out Y (hBX.trans (hY.mono hBX.size))
          exact ⟨h3, h4⟩
        have HNw := Lib.hid (fun Y (hY : Below X.heap.size X Y) => ((HC.out Y (hBX.trans (hY.mono hBX.size))).2.1.news c).2)
        have HL1 := Lib.hid (show (namesC (l.take c)).length = c * 2 by rw [namesC_length, List.length_take, HN.out]; omega)
        have HO1 := Lib.hid (World.ownsRow_lit (base := X.heap.size) (e := 24) (size := 2) X.drew #[] 0 (Nat.le_refl _) (by simp) rfl)
        have HO2 := Lib.hid (HO1.out.alloc (.cells #[.string xa, .int .i64 xi] 24))
        have ho3 := World.ownsRow_lit (base := X.heap.size) (e := 24) (size := 2) (X.drew.alloc (.cells #[.string xa, .int .i64 xi] 24)) #[] 0 (by simp) (by simp) rfl
        rw [show (X.drew.alloc (.cells #[.string xa, .int .i64 xi] 24)).heap.size = X.heap.size + 1 by simp] at ho3
        have HO3 := Lib.hid ho3
        clear ho3
        have hba : Below X.heap.size X (X.drew.alloc (.cells #[] 24)) := hb0.alloc (Nat.le_refl _) _
        have hbb : Below X.heap.size X ((X.drew.alloc (.cells #[] 24)).alloc (.cells #[.string xa, .int .i64 xi] 24)) := hba.alloc hba.size _
        have hbn : Below X.heap.size X (X.drew.alloc (.cells #[.string xa, .int .i64 xi] 24)) := hb0.alloc (Nat.le_refl _) _
        have hbc : Below X.heap.size X ((X.drew.alloc (.cells #[.string xa, .int .i64 xi] 24)).alloc (.cells #[] 24)) := hbn.alloc hbn.size _
        have HNa := Lib.hid (HNw.out _ hba)
        have HNb := Lib.hid (HNw.out _ hbb)
        have HNc := Lib.hid (HNw.out _ hbc)
        have HGa := Lib.hid (fun w1 (hg : (X.drew.alloc (.cells #[] 24)).grownBy w1 (Value.slice (some ⟨X.drew.heap.size, 0, none⟩) 0 0).ownBlock) => hba.grown hg hba.size (fun q hq => (HO1.out.lt q hq).1))
        have HGb := Lib.hid (fun w1 (hg : ((X.drew.alloc (.cells #[] 24)).alloc (.cells #[.string xa, .int .i64 xi] 24)).grownBy w1 (Value.slice (some ⟨X.drew.heap.size, 0, none⟩) 0 0).ownBlock) => And.intro (hbb.grown hg hbb.size (fun q hq => (HO1.out.lt q hq).1)) (show w1.heap[X.heap.size + 1]? = some (.cells #[.string xa, .int .i64 xi] 24 (0, 0)) from (hg.block (X.heap.size + 1) (by simp) (fun h => by have := Option.some.inj h; change X.heap.size + 1 = X.heap.size at this; omega)).trans (by have := heap_alloc_new (X.drew.alloc (.cells #[] 24)) (.cells #[.string xa, .int .i64 xi] 24); rwa [show (X.drew.alloc (.cells #[] 24)).heap.size = X.heap.size + 1 by simp] at this)))
        have HGc := Lib.hid (fun w1 (hg : ((X.drew.alloc (.cells #[.string xa, .int .i64 xi] 24)).alloc (.cells #[] 24)).grownBy w1 (Value.slice (some ⟨X.heap.size + 1, 0, none⟩) 0 0).ownBlock) => And.intro (hbc.grown hg hbc.size (fun q hq => (HO3.out.lt q hq).1)) (show w1.heap[X.heap.size]? = some (.cells #[.string xa, .int .i64 xi] 24 (0, 0)) from (hg.block X.heap.size (by simp; omega) (fun h => by have := Option.some.inj h; change X.heap.size = X.heap.size + 1 at this; omega)).trans (by rw [Below.heap_alloc _ _ _ (by simp)]; exact heap_alloc_new X.drew _)))
        have m1 : 0 + c ≤ maxLen := by unfold maxLen; omega
        have m2 : (0 + c) * 24 ≤ 140737488355328 := by omega
        have m3 : 0 + c + 1 ≤ maxLen := by unfold maxLen; omega
        have m4 : (0 + c + 1) * 24 ≤ 140737488355328 := by omega
        have HM := Lib.hid (And.intro m1 (And.intro m2 (And.intro m3 m4)))
        have i3' : (c : Int) ≤ (c : Int) := by omega
        have i4' : c ≤ c := by omega
        have HBB := Lib.hid (And.intro hba (And.intro hbb hbc))
        have HB0' := Lib.hid (And.intro hb0 hbn)
        clear m1 m2 m3 m4 hba hbb hbc hb0 hbn
        have m5 : 0 + c + 1 ≤ maxLen := by unfold maxLen; omega
        have m6 : (0 + c + 1) * 24 ≤ 140737488355328 := by omega
        have HM2 := Lib.hid (And.intro m5 m6)
        clear m5 m6
        go_region_held3 (fun Y => Y.cell? ⟨w.heap.size, 0, none⟩ = some (.string xa) ∧ Y.cell? ⟨w.heap.size, 1, none⟩ = some (.int .i64 xi))
          (first | exact HKc.out _ hb2 | exact HKc.out _ hb1 | exact HKc.out _ (hb1.alloc hb1.size _) | exact HKc.out _ HB0'.out.1 | exact HKc.out _ HB0'.out.2 | exact HKc.out _ HBB.out.1 | exact HKc.out _ HBB.out.2.1 | exact HKc.out _ HBB.out.2.2)
          (first
            | (refine step_append_any _ rfl (.tmp 34) (.tmp 37) 30 rfl X.heap.size 24 i0 _ 2 24 Tryz.underlying30 hi hz0 hz1 hz2 rfl (Nat.succ_pos 1) _ 0 [] rfl HO1.out (some ⟨g, 0, none⟩) c c (namesC (l.take c)) rfl HL1.out (fun h => nomatch h) HNa.out (namesC_one _) HM.out.1 HM.out.2.1 HBB.out.1.size ?_; intro v1 w1 hown1 hg1; have hb1 := HGa.out w1 hg1; have tokA : True := trivial)
            | (refine step_append_any _ rfl (.tmp 34) (.tmp 37) 30 rfl X.heap.size 24 i0 _ 2 24 Tryz.underlying30 hi hz0 hz1 hz2 rfl (Nat.succ_pos 1) _ 0 [] rfl HO2.out (some ⟨g, 0, none⟩) c c (namesC (l.take c)) rfl HL1.out (fun h => nomatch h) HNb.out (namesC_one _) HM.out.1 HM.out.2.1 HBB.out.2.1.size ?_; intro v1 w1 hown1 hg1; obtain ⟨hb1, hD⟩ := HGb.out w1 hg1; have tokB : True := trivial)
            | (refine step_append_any _ rfl (.tmp 34) (.tmp 37) 30 rfl X.heap.size 24 i0 _ 2 24 Tryz.underlying30 hi hz0 hz1 hz2 rfl (Nat.succ_pos 1) _ 0 [] rfl HO3.out (some ⟨g, 0, none⟩) c c (namesC (l.take c)) rfl HL1.out (fun h => nomatch h) HNc.out (namesC_one _) HM.out.1 HM.out.2.1 HBB.out.2.2.size ?_; intro v1 w1 hown1 hg1; obtain ⟨hb1, hD⟩ := HGc.out w1 hg1; have tokC : True := trivial)
            | (have _t := tokA; refine step_append_any _ rfl (.tmp 38) (.tmp 40) 30 rfl X.heap.size 24 i0 _ 2 24 Tryz.underlying30 hi hz0 hz1 hz2 rfl (Nat.succ_pos 1) v1 _ _ rfl (hown1.alloc _) (some ⟨w1.heap.size, 0, none⟩) 1 1 [.string xa, .int .i64 xi] rfl rfl (fun h => nomatch h) (news_pair _ _ _) (namesC_one [(xa, xi)]) HM.out.2.2.1 HM.out.2.2.2 (hb1.alloc hb1.size _).size ?_; intro v2 w2 hown2 hg2; have hb2 := (hb1.alloc hb1.size (.cells #[.string xa, .int .i64 xi] 24)).grown hg2 (hb1.alloc hb1.size _).size (fun q hq => (hown1.lt q hq).1))
            | (have _t := tokB; refine step_append_any _ rfl (.tmp 38) (.tmp 40) 30 rfl X.heap.size 24 i0 _ 2 24 Tryz.underlying30 hi hz0 hz1 hz2 rfl (Nat.succ_pos 1) v1 _ _ rfl hown1 (some ⟨X.heap.size + 1, 0, none⟩) 1 1 [.string xa, .int .i64 xi] rfl rfl (fun h => nomatch h) (news_at hD) (namesC_one [(xa, xi)]) HM.out.2.2.1 HM.out.2.2.2 hb1.size ?_; intro v2 w2 hown2 hg2; have hb2 := hb1.grown hg2 hb1.size (fun q hq => (hown1.lt q hq).1))
            | (have _t := tokC; refine step_append_any _ rfl (.tmp 38) (.tmp 40) 30 rfl X.heap.size 24 i0 _ 2 24 Tryz.underlying30 hi hz0 hz1 hz2 rfl (Nat.succ_pos 1) v1 _ _ rfl hown1 (some ⟨X.heap.size, 0, none⟩) 1 1 [.string xa, .int .i64 xi] rfl rfl (fun h => nomatch h) (news_at hD) (namesC_one [(xa, xi)]) HM.out.2.2.1 HM.out.2.2.2 hb1.size ?_; intro v2 w2 hown2 hg2; have hb2 := hb1.grown hg2 hb1.size (fun q hq => (hown1.lt q hq).1)))
        all_goals (
          go_wp2_with (at_builtin; refine wpList_append_own_any _ rfl (.tmp 42) (.tmp 45) 30 rfl X.heap.size 24 i0 _ 2 24 Tryz.underlying30 hi hz0 hz1 hz2 rfl (Nat.succ_pos 1) v2 _ _ rfl hown2 _ _ _ [] rfl (by simp) (fun h => nomatch h) (fun _ _ q u hu => by simp at hu) (fun u hu => by simp at hu) (by have := HM2.out.1; simpa using this) (by have := HM2.out.2; simpa using this) hb2.size ?_; intro v3 w5 hown3 hg3)
          go_ret
          have hb5 := hb2.grown hg3 hb2.size (fun q hq => (hown2.lt q hq).1)
          have hf : w5.ownsRow X.heap.size 24 2 v3 R.length (namesC R) := by
            have e1 : R.length = 0 + c + 1 := by have := HN.out; rw [HRe.out]; simp; omega
            rw [e1, HRe.out, namesC_append, ← HTk.out]
            simpa [namesC, encN] using hown3
          obtain ⟨A', c', rfl, ho⟩ := OwnN.of hf
          exact ⟨A', c', rfl, ho, (HC.out _ (hBX.trans (hb5.mono hBX.size))).1, .inr (World.ownsRow.mono hf (HC.out X hBX).1.size)⟩)
set_option maxRecDepth 100000 in
set_option maxHeartbeats 8000000 in
theorem withQ_nil (xa : ByteArray) (xi : Int) (w : World) :
    Calls Tryz.prog 54 #[.slice none 0 0, .agg #[.string xa, .int .i64 xi]] w (WithQ24 [(xa, xi)] [] none w) := by
  obtain ⟨i0, hi, hz0, hz1, hz2⟩ := info_parts Tryz.infoName
  obtain ⟨W0, hW0⟩ : ∃ W0, w.alloc (.cells #[.string xa, .int .i64 xi] 24) = W0 := ⟨_, rfl⟩
  have hzw : w.heap.size < W0.heap.size := by subst hW0; simp
  have hB0 : Below w.heap.size w W0 := by subst hW0; exact (Below.refl _ _).alloc (Nat.le_refl _) _
  have hx0 : W0.heap[w.heap.size]? = some (.cells #[.string xa, .int .i64 xi] 24 (0, 0)) := by rw [← hW0]; exact heap_alloc_new w _
  have HC : Hid (∀ X, Below W0.heap.size W0 X → Below w.heap.size w X ∧ X.cell? ⟨w.heap.size, 0, none⟩ = some (.string xa) ∧ X.cell? ⟨w.heap.size, 1, none⟩ = some (.int .i64 xi)) := fun X hX => by
    have h0 := (hX.block w.heap.size hzw).trans hx0
    exact ⟨hB0.trans (hX.mono (Nat.le_of_lt hzw)), cell_of_row X _ 0 _ _ (0, 0) h0, cell_of_row X _ 1 _ _ (0, 0) h0⟩
  clear hB0 hx0
  go_enter Tryz.func54, Tryz.ntmps54
  go_wp2_with fail
  clear hW0
  go_loopg [5] 0 (fun _ ct wr => ct = .int .i64 0 ∧ Below W0.heap.size W0 wr)
  case atStart => exact ⟨rfl, Below.refl _ _⟩
  case round =>
    obtain ⟨rfl, HB⟩ := hrel
    have HG' := Lib.hid HB
    clear HB
    go_wp2_with fail
    go_quiet (fail)
    have hBX0 := below_drewN HG'.out nq
    generalize wr.drewN nq = X0 at hBX0 ⊢
    go_wp2_with fail
    go_quiet (fail)
    have hBX := below_drewN hBX0 nq
    generalize X0.drewN nq = X at hBX ⊢
    clear hBX0
    go_wp2_with fail
    have hb0 : Below X.heap.size X X.drew := below_drew' (Below.refl _ _)
    have HKc : Hid (∀ Y, Below X.heap.size X Y → Y.cell? ⟨w.heap.size, 0, none⟩ = some (.string xa) ∧ Y.cell? ⟨w.heap.size, 1, none⟩ = some (.int .i64 xi)) := fun Y hY => (HC.out Y (hBX.trans (hY.mono hBX.size))).2
    have HO1 := Lib.hid (World.ownsRow_lit (base := X.heap.size) (e := 24) (size := 2) X.drew #[] 0 (Nat.le_refl _) (by simp) rfl)
    have HO2 := Lib.hid (HO1.out.alloc (.cells #[.string xa, .int .i64 xi] 24))
    have ho3 := World.ownsRow_lit (base := X.heap.size) (e := 24) (size := 2) (X.drew.alloc (.cells #[.string xa, .int .i64 xi] 24)) #[] 0 (by simp) (by simp) rfl
    rw [show (X.drew.alloc (.cells #[.string xa, .int .i64 xi] 24)).heap.size = X.heap.size + 1 by simp] at ho3
    have HO3 := Lib.hid ho3
    clear ho3
    have hba : Below X.heap.size X (X.drew.alloc (.cells #[] 24)) := hb0.alloc (Nat.le_refl _) _
    have hbb : Below X.heap.size X ((X.drew.alloc (.cells #[] 24)).alloc (.cells #[.string xa, .int .i64 xi] 24)) := hba.alloc hba.size _
    have hbn : Below X.heap.size X (X.drew.alloc (.cells #[.string xa, .int .i64 xi] 24)) := hb0.alloc (Nat.le_refl _) _
    have hbc : Below X.heap.size X ((X.drew.alloc (.cells #[.string xa, .int .i64 xi] 24)).alloc (.cells #[] 24)) := hbn.alloc hbn.size _
    have HGa := Lib.hid (fun w1 (hg : (X.drew.alloc (.cells #[] 24)).grownBy w1 (Value.slice (some ⟨X.drew.heap.size, 0, none⟩) 0 0).ownBlock) => hba.grown hg hba.size (fun q hq => (HO1.out.lt q hq).1))
    have HGb := Lib.hid (fun w1 (hg : ((X.drew.alloc (.cells #[] 24)).alloc (.cells #[.string xa, .int .i64 xi] 24)).grownBy w1 (Value.slice (some ⟨X.drew.heap.size, 0, none⟩) 0 0).ownBlock) => And.intro (hbb.grown hg hbb.size (fun q hq => (HO1.out.lt q hq).1)) (show w1.heap[X.heap.size + 1]? = some (.cells #[.string xa, .int .i64 xi] 24 (0, 0)) from (hg.block (X.heap.size + 1) (by simp) (fun h => by have := Option.some.inj h; change X.heap.size + 1 = X.heap.size at this; omega)).trans (by have := heap_alloc_new (X.drew.alloc (.cells #[] 24)) (.cells #[.string xa, .int .i64 xi] 24); rwa [show (X.drew.alloc (.cells #[] 24)).heap.size = X.heap.size + 1 by simp] at this)))
    have HGc := Lib.hid (fun w1 (hg : ((X.drew.alloc (.cells #[.string xa, .int .i64 xi] 24)).alloc (.cells #[] 24)).grownBy w1 (Value.slice (some ⟨X.heap.size + 1, 0, none⟩) 0 0).ownBlock) => And.intro (hbc.grown hg hbc.size (fun q hq => (HO3.out.lt q hq).1)) (show w1.heap[X.heap.size]? = some (.cells #[.string xa, .int .i64 xi] 24 (0, 0)) from (hg.block X.heap.size (by simp; omega) (fun h => by have := Option.some.inj h; change X.heap.size = X.heap.size + 1 at this; omega)).trans (by rw [Below.heap_alloc _ _ _ (by simp)]; exact heap_alloc_new X.drew _)))
    have HM : Hid (0 + 0 ≤ maxLen ∧ (0 + 0) * 24 ≤ 140737488355328 ∧ 0 + 0 + 1 ≤ maxLen ∧ (0 + 0 + 1) * 24 ≤ 140737488355328) := by
      refine ⟨?_, ?_, ?_, ?_⟩ <;> decide
    have HBB := Lib.hid (And.intro hba (And.intro hbb hbc))
    have HB0' := Lib.hid (And.intro hb0 hbn)
    clear hba hbb hbc hb0 hbn
    go_region_held3 (fun Y => Y.cell? ⟨w.heap.size, 0, none⟩ = some (.string xa) ∧ Y.cell? ⟨w.heap.size, 1, none⟩ = some (.int .i64 xi))
      (first | exact HKc.out _ hb2 | exact HKc.out _ hb1 | exact HKc.out _ (hb1.alloc hb1.size _) | exact HKc.out _ HB0'.out.1 | exact HKc.out _ HB0'.out.2 | exact HKc.out _ HBB.out.1 | exact HKc.out _ HBB.out.2.1 | exact HKc.out _ HBB.out.2.2)
      (first
        | (refine step_append_any _ rfl (.tmp 34) (.tmp 37) 30 rfl X.heap.size 24 i0 _ 2 24 Tryz.underlying30 hi hz0 hz1 hz2 rfl (Nat.succ_pos 1) _ 0 [] rfl HO1.out none 0 0 [] rfl rfl (fun _ => rfl) (fun _ h => nomatch h) (fun u hu => nomatch hu) HM.out.1 HM.out.2.1 HBB.out.1.size ?_; intro v1 w1 hown1 hg1; have hb1 := HGa.out w1 hg1; have tokA : True := trivial)
        | (refine step_append_any _ rfl (.tmp 34) (.tmp 37) 30 rfl X.heap.size 24 i0 _ 2 24 Tryz.underlying30 hi hz0 hz1 hz2 rfl (Nat.succ_pos 1) _ 0 [] rfl HO2.out none 0 0 [] rfl rfl (fun _ => rfl) (fun _ h => nomatch h) (fun u hu => nomatch hu) HM.out.1 HM.out.2.1 HBB.out.2.1.size ?_; intro v1 w1 hown1 hg1; obtain ⟨hb1, hD⟩ := HGb.out w1 hg1; have tokB : True := trivial)
        | (refine step_append_any _ rfl (.tmp 34) (.tmp 37) 30 rfl X.heap.size 24 i0 _ 2 24 Tryz.underlying30 hi hz0 hz1 hz2 rfl (Nat.succ_pos 1) _ 0 [] rfl HO3.out none 0 0 [] rfl rfl (fun _ => rfl) (fun _ h => nomatch h) (fun u hu => nomatch hu) HM.out.1 HM.out.2.1 HBB.out.2.2.size ?_; intro v1 w1 hown1 hg1; obtain ⟨hb1, hD⟩ := HGc.out w1 hg1; have tokC : True := trivial)
        | (have _t := tokA; refine step_append_any _ rfl (.tmp 38) (.tmp 40) 30 rfl X.heap.size 24 i0 _ 2 24 Tryz.underlying30 hi hz0 hz1 hz2 rfl (Nat.succ_pos 1) v1 _ _ rfl (hown1.alloc _) (some ⟨w1.heap.size, 0, none⟩) 1 1 [.string xa, .int .i64 xi] rfl rfl (fun h => nomatch h) (news_pair _ _ _) (namesC_one [(xa, xi)]) HM.out.2.2.1 HM.out.2.2.2 (hb1.alloc hb1.size _).size ?_; intro v2 w2 hown2 hg2; have hb2 := (hb1.alloc hb1.size (.cells #[.string xa, .int .i64 xi] 24)).grown hg2 (hb1.alloc hb1.size _).size (fun q hq => (hown1.lt q hq).1))
        | (have _t := tokB; refine step_append_any _ rfl (.tmp 38) (.tmp 40) 30 rfl X.heap.size 24 i0 _ 2 24 Tryz.underlying30 hi hz0 hz1 hz2 rfl (Nat.succ_pos 1) v1 _ _ rfl hown1 (some ⟨X.heap.size + 1, 0, none⟩) 1 1 [.string xa, .int .i64 xi] rfl rfl (fun h => nomatch h) (news_at hD) (namesC_one [(xa, xi)]) HM.out.2.2.1 HM.out.2.2.2 hb1.size ?_; intro v2 w2 hown2 hg2; have hb2 := hb1.grown hg2 hb1.size (fun q hq => (hown1.lt q hq).1))
        | (have _t := tokC; refine step_append_any _ rfl (.tmp 38) (.tmp 40) 30 rfl X.heap.size 24 i0 _ 2 24 Tryz.underlying30 hi hz0 hz1 hz2 rfl (Nat.succ_pos 1) v1 _ _ rfl hown1 (some ⟨X.heap.size, 0, none⟩) 1 1 [.string xa, .int .i64 xi] rfl rfl (fun h => nomatch h) (news_at hD) (namesC_one [(xa, xi)]) HM.out.2.2.1 HM.out.2.2.2 hb1.size ?_; intro v2 w2 hown2 hg2; have hb2 := hb1.grown hg2 hb1.size (fun q hq => (hown1.lt q hq).1)))
    all_goals (
      go_wp2_with (at_builtin; refine wpList_append_own_any _ rfl (.tmp 42) (.tmp 45) 30 rfl X.heap.size 24 i0 _ 2 24 Tryz.underlying30 hi hz0 hz1 hz2 rfl (Nat.succ_pos 1) v2 _ _ rfl hown2 none 0 0 [] rfl rfl (fun _ => rfl) (fun _ h => nomatch h) (fun u hu => nomatch hu) HM.out.2.2.1 HM.out.2.2.2 hb2.size ?_; intro v3 w5 hown3 hg3)
      go_ret
      have hb5 := hb2.grown hg3 hb2.size (fun q hq => (hown2.lt q hq).1)
      have hf : w5.ownsRow X.heap.size 24 2 v3 [(xa, xi)].length (namesC [(xa, xi)]) := by
        simpa [namesC, encN] using hown3
      obtain ⟨A', c', rfl, ho⟩ := OwnN.of hf
      exact ⟨A', c', rfl, ho, (HC.out _ (hBX.trans (hb5.mono hBX.size))).1, .inr (World.ownsRow.mono hf (HC.out X hBX).1.size)⟩)

theorem withQ_any (l : List (ByteArray × Int)) (xa : ByteArray) (xi : Int) (A : Option Addr) (c : Nat) (w : World) (hs : OwnN w A c l) (hl : l.length ≤ 1000000) :
    Calls Tryz.prog 54 #[.slice A l.length c, .agg #[.string xa, .int .i64 xi]] w (WithQ24 (withN l (xa, xi)) l A w) := by
  rcases hs.cells with ⟨rfl, rfl, rfl⟩ | ⟨g, rfl, _⟩
  · exact withQ_nil xa xi w
  · exact withQ_some l xa xi g c w hs hl
end Go.Proofs.YtdobpmbgngomlaaGreatDoor
/- ref40.Closure: in plain words -/
namespace Go.Proofs.YtdobpmbgngomlaaGreatDoor
open Go.RowKit Go.Proofs Go.Shelf

/-- What its loop keeps: the work, the first i of it done; what is closed so far. -/
structure QcI (l : List Mo) (n : ByteArray × Int) (K : List (ByteArray × Int)) (i : Nat) (O : List (ByteArray × Int)) : Prop where
  start : n ∈ K
  reach : ∀ x ∈ K, Reach (grf l) n x
  sorted : O.Pairwise ltN
  sub : ∀ x ∈ O, x ∈ K
  done : ∀ x ∈ K.take i, x ∈ O
  uses : ∀ x ∈ O, ∃ us, grf l x = some us ∧ ∀ u ∈ us, u ∈ K
theorem QcI.begin {l : List Mo} {n : ByteArray × Int} : QcI l n [n] 0 [] where
  start := by simp
  reach := fun x hx => by rw [List.mem_singleton.1 hx]; exact .refl
  sorted := List.Pairwise.nil
  sub := by simp
  done := by simp
  uses := by simp
theorem take_step {K : List (ByteArray × Int)} {i : Nat} {x : ByteArray × Int} (hx : K[i]? = some x) : K.take (i + 1) = K.take i ++ [x] := by
  obtain ⟨hlt, rfl⟩ := List.getElem?_eq_some_iff.1 hx
  exact List.take_succ_eq_append_getElem hlt
theorem QcI.skip {l : List Mo} {n : ByteArray × Int} {K : List (ByteArray × Int)} {i : Nat} {O : List (ByteArray × Int)} (h : QcI l n K i O) {x : ByteArray × Int} (hx : K[i]? = some x) (ho : x ∈ O) : QcI l n K (i + 1) O where
  start := h.start
  reach := h.reach
  sorted := h.sorted
  sub := h.sub
  done := fun y hy => by
    rw [take_step hx] at hy
    rcases List.mem_append.1 hy with hy | hy
    · exact h.done y hy
    · rw [List.mem_singleton.1 hy]; exact ho
  uses := h.uses
theorem QcI.push {l : List Mo} {n : ByteArray × Int} {K : List (ByteArray × Int)} {i : Nat} {O : List (ByteArray × Int)} (h : QcI l n K i O) {x : ByteArray × Int} (hx : K[i]? = some x) {us : List (ByteArray × Int)} (hu : grf l x = some us) : QcI l n (K ++ us) (i + 1) (withN O x) where
  start := List.mem_append_left _ h.start
  reach := fun y hy => by
    rcases List.mem_append.1 hy with hy | hy
    · exact h.reach y hy
    · exact (h.reach x (List.mem_of_getElem? hx)).step hu hy
  sorted := withN_sorted h.sorted x
  sub := fun y hy => by
    rcases (mem_withN _ _ _).1 hy with hy | rfl
    · exact List.mem_append_left _ (h.sub y hy)
    · exact List.mem_append_left _ (List.mem_of_getElem? hx)
  done := fun y hy => by
    have hi := (List.getElem?_eq_some_iff.1 hx).1
    rw [List.take_append_of_le_length (by omega), take_step hx] at hy
    rcases List.mem_append.1 hy with hy | hy
    · exact (mem_withN _ _ _).2 (.inl (h.done y hy))
    · exact (mem_withN _ _ _).2 (.inr (List.mem_singleton.1 hy))
  uses := fun y hy => by
    rcases (mem_withN _ _ _).1 hy with hy | rfl
    · obtain ⟨vs, h1, h2⟩ := h.uses y hy
      exact ⟨vs, h1, fun u hu => List.mem_append_left _ (h2 u hu)⟩
    · exact ⟨us, hu, fun u hu => List.mem_append_right _ hu⟩
theorem QcI.end_ {l : List Mo} {n : ByteArray × Int} {K : List (ByteArray × Int)} {i : Nat} {O : List (ByteArray × Int)} (h : QcI l n K i O) (hi : K.length ≤ i) : Clo (grf l) n (some O) := by
  have hd := h.done
  rw [List.take_of_length_le hi] at hd
  have hin : ∀ x, Reach (grf l) n x → x ∈ O := fun x hx => Reach.inside (p := fun x => x ∈ O) (hd n h.start) (fun z us hz hus u hu => by
    obtain ⟨vs, h1, h2⟩ := h.uses z hz
    rw [hus] at h1
    cases h1
    exact hd u (h2 u hu)) hx
  refine ⟨h.sorted, fun x => ⟨fun hx => h.reach x (h.sub x hx), hin x⟩, fun x hx => ?_⟩
  obtain ⟨vs, h1, _⟩ := h.uses x (hin x hx)
  rw [h1]
  simp
theorem QcI.len {l : List Mo} {n : ByteArray × Int} {K : List (ByteArray × Int)} {i : Nat} {O : List (ByteArray × Int)} (h : QcI l n K i O) : O.length ≤ totD l := by
  have h3 := allN_len l
  have := nodup_len O (allN l) (ltN_nodup h.sorted) fun x hx => mem_allN (by
    obtain ⟨us, hu, _⟩ := h.uses x hx
    unfold grf at hu
    cases hb : bodyOf l x with
    | none => rw [hb] at hu; cases hu
    | some y => rfl)
  omega
theorem withN_new {O : List (ByteArray × Int)} (hO : O.Pairwise ltN) {x : ByteArray × Int} (hx : x ∉ O) : (withN O x).length = O.length + 1 := by
  have h1 := withN_len O x
  have h2 := nodup_len (x :: O) (withN O x) (List.nodup_cons.2 ⟨hx, ltN_nodup hO⟩) fun y hy => (mem_withN _ _ _).2 (by
    rcases List.mem_cons.1 hy with rfl | hy
    · exact .inr rfl
    · exact .inl hy)
  simp only [List.length_cons] at h2
  omega
/-- How many rounds are left at most. -/
def qcM (T k i o : Nat) : Nat := 500 * (T - o) + (k - i)
theorem step_append_anyAt {P : Program} (w : World) {ops : Array Oper} {o : Oper} {a : Act} {K : Act → World → Prop} {Q : Exit → Act → World → Prop} {E : Prop} (hgd : o.guard = none) (s x : Operand) (t : TypeId)
    (ho : o.op = .call { callee := .builtin .append, args := #[s, x], argTypes := #[t, t] })
    (base : Nat) (e : TypeId) (i : TypeInfo) (z : Value) (size bytes : Nat) (ht : P.underlying t = some (.slice e)) (hi : P.info? e = some i) (hz : i.zero = some z)
    (hsize : i.size = size) (hby : i.bytes = bytes) (hzs : z.cells.size = size) (hsz : 0 < size)
    (v : Value) (n : Nat) (xs : List Value) (hs : a.eval s = v) (hown : w.ownsRow base e size v n xs)
    (A : Option Addr) (m c : Nat) (news : List Value) (hx : a.eval x = .slice A m c) (hl : news.length = m * size) (hA : A = none → m = 0) (hnews : ∀ ad, A = some ad → ∀ j u, news[j]? = some u → w.cell? (ad.add j) = some u) (h1 : ∀ u ∈ news, u.oneCell' = true)
    (h63 : n + m ≤ maxLen) (hbytes : (n + m) * bytes ≤ 140737488355328) (hbase : base ≤ w.heap.size)
    (h : ∀ v' w', w'.ownsRow base e size v' (n + m) (xs ++ news) → w.grownBy w' v.ownBlock → (v'.ownBlock = v.ownBlock ∨ v'.ownBlock = some w.heap.size) → K (a.put o.dst v') w') :
    if Region.wanted o (yielded ops a.tmps) = true then Oper.wp P o a w K Q else E := by
  have hw : Region.wanted o (yielded ops a.tmps) = true := by simp [Region.wanted, hgd]
  rw [if_pos hw]
  cases A with
  | some ad =>
    obtain ⟨v', w', hr, h2, h3, _, h5⟩ := run_append_own_at (P := P) w base t o.type e i z size bytes ht hi hz hsize hby hzs hsz v n xs hown ad m c news hl (hnews ad rfl) h1 h63 hbytes hbase
    unfold Oper.wp execOp
    simp only [ho, resolve, invoke, builtin, Sem.run_bind, Sem.run_pure, Result.andThen_ok, List.map_toArray, List.map_cons, List.map_nil, hs, hx, hr]
    exact h v' w' h2 h3 h5
  | none =>
    obtain rfl := hA rfl
    have hrun := run_append_owned_no (P := P) (w := w) base t o.type e i size ht hi v n c xs hown
    unfold Oper.wp
    simp [execOp, ho, resolve, invoke, builtin, hs, hx, hrun, Result.andThen]
    have hn : news = [] := List.length_eq_zero_iff.1 (by simpa using hl)
    subst hn
    exact h v w (by simpa using hown) (World.grownBy.refl _ _) (.inl rfl)
theorem OwnN.src {W : World} {A : Option Addr} {c : Nat} {l : List (ByteArray × Int)} (h : OwnN W A c l) : (A = none → l.length = 0) ∧ ∀ ad, A = some ad → ∀ q u, (namesC l)[q]? = some u → W.cell? (ad.add q) = some u := by
  rcases h.cells with ⟨rfl, rfl, _⟩ | ⟨g, rfl, _, _, _, hcell⟩
  · exact ⟨(fun _ => rfl), (fun ad e => by cases e)⟩
  · refine ⟨(fun e => by cases e), (fun ad e q u hu => ?_)⟩
    cases e
    have := hcell q u hu
    cases q <;> simpa [Addr.add] using this
/-- Two rows that do not lie in one block. -/
def Sep (oA kA : Option Addr) : Prop := ∀ g, oA = some ⟨g, 0, none⟩ → kA ≠ some ⟨g, 0, none⟩
theorem OwnN.grown {W X : World} {A : Option Addr} {c : Nat} {l : List (ByteArray × Int)} (h : OwnN W A c l) {b : Option Nat} (hg : W.grownBy X b) (hb : ∀ g, A = some ⟨g, 0, none⟩ → b ≠ some g) : OwnN X A c l := by
  refine ⟨h.1, ?_⟩
  rcases h.2 with h' | ⟨g, cap, cur, h1, h2, h3, h4⟩
  · exact .inl h'
  · refine .inr ⟨g, cap, cur, h1, h2, ?_, h4⟩
    have hlt := (Array.getElem?_eq_some_iff.1 h3).1
    injection h1 with hA _ _
    exact (hg.block g hlt (fun e => hb g hA e.symm)).trans h3
def QcRes (l : List Mo) (n : ByteArray × Int) (w : World) (e : Ending) (w' : World) : Prop :=
  Below w.heap.size w w' ∧ ((loadE l n ≠ 0 ∧ e = .returned (.tuple #[.slice none 0 0, .int .i64 (loadE l n)])) ∨
    (loadE l n = 0 ∧ Clo (grf l) n none ∧ e = .returned (.tuple #[.slice none 0 0, .int .i64 21])) ∨
    (loadE l n = 0 ∧ ∃ L A c, Clo (grf l) n (some L) ∧ e = .returned (.tuple #[.slice A L.length c, .int .i64 0]) ∧ OwnN w' A c L))
set_option maxRecDepth 100000 in
set_option maxHeartbeats 16000000 in
theorem closure40_any (l : List Mo) (n : ByteArray × Int) (A : Option Addr) (c : Nat) (w : World) (hl : SlM w w.heap.size A c l) (hms : ∀ m ∈ l, ModS m.label m.uses m.ds) (ht : totD l ≤ 1000) :
    Calls Tryz.prog 56 #[.slice A l.length c, .agg #[.string n.1, .int .i64 n.2]] w (QcRes l n w) := by
  obtain ⟨i0, hi, hz0', hz1', hz2'⟩ := info_parts Tryz.infoName
  obtain ⟨W0, hW0⟩ : ∃ W0, w.alloc (.cells #[.string n.1, .int .i64 n.2] 24) = W0 := ⟨_, rfl⟩
  have hb0 : Below w.heap.size w W0 := by subst hW0; exact (Below.refl _ _).alloc (Nat.le_refl _) _
  have hz0 : w.heap.size < W0.heap.size := by subst hW0; simp
  have n0 : W0.cell? ⟨w.heap.size, 0, none⟩ = some (.string n.1) := by subst hW0; go_simp
  have n1 : W0.cell? ⟨w.heap.size, 1, none⟩ = some (.int .i64 n.2) := by subst hW0; go_simp
  have HL := Lib.hid (show ∀ X : World, Below w.heap.size w X → SlM X X.heap.size A c l from fun X hX => (hl.below hX).keep hX.size (fun _ _ => rfl))
  obtain ⟨N, HN⟩ : ∃ Q, Hid (l.length = Q) := ⟨_, Lib.hid rfl⟩
  have hck := check40_any l n A c W0 (HL.out W0 hb0) hms
  obtain ⟨E, HE⟩ : ∃ E, Hid (loadE l n = E) := ⟨_, Lib.hid rfl⟩
  rw [HN.out, HE.out] at hck
  have HCK := Lib.hid hck
  have HB := Lib.hid (And.intro hb0 (And.intro hz0 hl))
  have HTD := Lib.hid ht
  rw [HN.out]
  clear hl hck hb0 hz0 hms ht
  go_enter Tryz.func56, Tryz.ntmps56
  go_wp2_with fail
  refine HCK.out.mono ?_
  rintro e w1 ⟨rfl, hb1⟩
  have k0 := (hb1.cell (p := ⟨w.heap.size, 0, none⟩) HB.out.2.1).trans n0
  have k1 := (hb1.cell (p := ⟨w.heap.size, 1, none⟩) HB.out.2.1).trans n1
  have HB1 := Lib.hid (And.intro (HB.out.1.trans (hb1.mono (Nat.le_of_lt HB.out.2.1))) (Nat.lt_of_lt_of_le HB.out.2.1 hb1.size))
  clear hb1 n0 n1 hW0 HCK
  by_cases hE0 : E = 0
  rotate_left
  · have he : (E != 0) = true := by simpa using hE0
    have HR := Lib.hid hE0
    clear hE0
    go_wp2
    go_ret2
    exact ⟨HB1.out.1, .inl ⟨by rw [HE.out]; exact HR.out, by rw [HE.out]; rfl⟩⟩
  subst hE0
  have HCH := Lib.hid (loadE_zero HE.out)
  have HBD := Lib.hid (fun x y hy => body_cnt HCH.out.1 x y hy)
  go_wp2
  go_loopg [7, 8, 9, 10, 11] (qcM (totD l) 1 0 0) (fun g ov kv ct _ _ wr => ∃ (i : Nat) (K O : List (ByteArray × Int)) (oA : Option Addr) (oc : Nat) (kA : Option Addr) (kc : Nat), g = qcM (totD l) K.length i O.length ∧ i ≤ K.length ∧ ov = .slice oA O.length oc ∧ kv = .slice kA K.length kc ∧ ct = .int .i64 i ∧ QcI l n K i O ∧ K.length ≤ 1 + 400 * O.length ∧ OwnN wr oA oc O ∧
    wr.ownsRow w1.heap.size 24 2 (.slice kA K.length kc) K.length (namesC K) ∧ Sep oA kA ∧ Below w1.heap.size w1 wr)
  case atStart =>
    refine ⟨0, [n], [], none, 0, _, _, rfl, by simp, rfl, rfl, rfl, QcI.begin, by simp, OwnN.nil _, ?_, (fun g e => by cases e), (Below.refl _ _).alloc (Nat.le_refl _) _⟩
    exact World.ownsRow_lit (base := w1.heap.size) (e := 24) (size := 2) w1 #[.string n.1, .int .i64 n.2] 1 (by omega) (by simp [maxLen]) rfl
  case round =>
    obtain ⟨i, K, O, oA, oc, kA, kc, HG, hi1, rfl, rfl, rfl, hI, hKl, hO, hrow, hsep, hB⟩ := hrel
    have hz := hB.size
    have hOl : O.length ≤ 1000 := Nat.le_trans hI.len HTD.out
    have hBw : Below w.heap.size w wr := HB1.out.1.trans (hB.mono (Nat.le_of_lt HB1.out.2))
    obtain ⟨KN, HKN⟩ : ∃ Q, Hid (K.length = Q) := ⟨_, Lib.hid rfl⟩
    obtain ⟨ON, HON⟩ : ∃ Q, Hid (O.length = Q) := ⟨_, Lib.hid rfl⟩
    by_cases hlt : i < KN
    · have hlt' : i < K.length := by rw [HKN.out]; exact hlt
      obtain ⟨x, hx⟩ : ∃ x, K[i]? = some x := ⟨_, List.getElem?_eq_getElem hlt'⟩
      obtain ⟨gk, kcap, hform, hc1, hc2⟩ := own_pos2 hrow (by omega)
      simp only [Value.slice.injEq, true_and] at hform
      obtain ⟨rfl, rfl⟩ := hform
      have hgl := (hrow.lt gk rfl).2
      obtain ⟨x0', x1'⟩ := namesC_at x K i hx
      have c0 : wr.cell? ⟨gk, i * 2, none⟩ = some (.string x.1) := (hrow.cellAt (i * 2) (by omega)).trans x0'
      have c1 : wr.cell? ⟨gk, i * 2 + 1, none⟩ = some (.int .i64 x.2) := (hrow.cellAt (i * 2 + 1) (by omega)).trans x1'
      have i1 : (0 : Int) ≤ (i : Int) := by omega
      have i2 : (i : Int) < (KN : Int) := by omega
      have hHas := has40_any O x oA oc wr hO
      rw [HON.out] at hHas
      have hgl2 : gk < wr.heap.size := hgl
      rw [HKN.out] at hc1
      cases hmem : memN O x with
      | true =>
        have HME := Lib.hid (memN_iff.1 hmem)
        rw [hmem] at hHas
        have HHas := Lib.hid hHas
        have HT := Lib.hid (And.intro HG (And.intro hI (And.intro hO (And.intro hrow (And.intro hB (And.intro hx hKl))))))
        have HS := Lib.hid hsep
        rw [HKN.out, HON.out]
        clear HG hI hO hrow hB hx hKl hsep hHas hmem hOl hBw x0' x1' hlt'
        go_wp2_with fail
        refine HHas.out.mono ?_
        rintro e w2 ⟨rfl, hb2⟩
        have HB2 := Lib.hid hb2
        clear hb2 c0 c1
        go_wp2
        go_roundg (qcM (totD l) K.length (i + 1) O.length)
        case measure => rw [HT.out.1]; unfold qcM; have := HKN.out; omega
        case rel =>
          refine ⟨i + 1, K, O, oA, oc, _, _, rfl, by have := HKN.out; omega, by rw [HON.out], by rw [HKN.out], by go_num, HT.out.2.1.skip HT.out.2.2.2.2.2.1 HME.out, HT.out.2.2.2.2.2.2, HT.out.2.2.1.below HB2.out (Nat.le_refl _), own_of_blocks' HT.out.2.2.2.1 fun k hk => HB2.out.block k hk, HS.out, HT.out.2.2.2.2.1.trans (HB2.out.mono hz)⟩
      | false =>
        have hnm : x ∉ O := fun h => by rw [memN_iff.2 h] at hmem; cases hmem
        rw [hmem] at hHas
        have HHas := Lib.hid hHas
        obtain ⟨dd, hdd⟩ : ∃ dd, (bodyOf l x).getD zeroDc = dd := ⟨_, rfl⟩
        obtain ⟨q, hq⟩ : ∃ q, (bodyOf l x).isSome = q := ⟨_, rfl⟩
        have HF := Lib.hid (show ∀ X : World, Below wr.heap.size wr X → Calls Tryz.prog 90 #[.slice A N c, .agg #[.string x.1, .int .i64 x.2]] X (fun e w' => e = .returned (.tuple #[.agg #[.int .i64 dd.id, .int .i64 dd.kind, .bool dd.pub, .slice dd.nA dd.names.length dd.nc, .bool dd.doubt, .int .i64 dd.k, .string dd.n, .string dd.m, .int .i64 dd.i, .int .i64 dd.d, .slice dd.A dd.s.len dd.c], .bool q]) ∧ Below X.heap.size X w') from fun X hX => by
          have := find40_any l x A c X (HL.out X (hBw.trans (hX.mono hBw.size)))
          rw [HN.out] at this
          unfold FindP at this
          rw [hdd, hq] at this
          exact this)
        have HQ := Lib.hid (And.intro hq hdd)
        have HT := Lib.hid (And.intro HG (And.intro hI (And.intro hO (And.intro hrow (And.intro hB (And.intro hx hKl))))))
        have HS := Lib.hid (And.intro hsep (And.intro hnm hOl))
        have HBw := Lib.hid hBw
        rw [HKN.out, HON.out]
        clear HG hI hO hrow hB hx hKl hsep hHas hmem hnm hOl hBw x0' x1' hlt' hq hdd
        go_wp2_with fail
        refine HHas.out.mono ?_
        rintro e w2 ⟨rfl, hb2⟩
        have HB2 := Lib.hid hb2
        have d0 := (hb2.cell (p := ⟨gk, i * 2, none⟩) hgl2).trans c0
        have d1 := (hb2.cell (p := ⟨gk, i * 2 + 1, none⟩) hgl2).trans c1
        clear hb2 c0 c1
        go_wp2_with fail
        refine (HF.out w2 HB2.out).mono ?_
        rintro e w3 ⟨rfl, hb3⟩
        obtain ⟨W4, hW4⟩ : ∃ W4, w3.alloc (.cells #[.int .i64 dd.id, .int .i64 dd.kind, .bool dd.pub, .slice dd.nA dd.names.length dd.nc, .bool dd.doubt, .int .i64 dd.k, .string dd.n, .string dd.m, .int .i64 dd.i, .int .i64 dd.d, .slice dd.A dd.s.len dd.c] 44) = W4 := ⟨_, rfl⟩
        have hb23 : Below wr.heap.size wr w3 := HB2.out.trans (hb3.mono HB2.out.size)
        have hb4 : Below wr.heap.size wr W4 := by rw [← hW4]; exact hb23.alloc hb23.size _
        have hz3 : wr.heap.size ≤ w3.heap.size := hb23.size
        have hz4 : w3.heap.size < W4.heap.size := by rw [← hW4]; simp
        have d0' : W4.cell? ⟨gk, i * 2, none⟩ = some (.string x.1) := by rw [← hW4]; exact (World.cell?_alloc_lt _ _ ⟨gk, i * 2, none⟩ (by show gk < _; omega)).trans ((hb3.cell (p := ⟨gk, i * 2, none⟩) (by show gk < _; have := HB2.out.size; omega)).trans d0)
        have d1' : W4.cell? ⟨gk, i * 2 + 1, none⟩ = some (.int .i64 x.2) := by rw [← hW4]; exact (World.cell?_alloc_lt _ _ ⟨gk, i * 2 + 1, none⟩ (by show gk < _; omega)).trans ((hb3.cell (p := ⟨gk, i * 2 + 1, none⟩) (by show gk < _; have := HB2.out.size; omega)).trans d1)
        have hx4 : W4.heap[w3.heap.size]? = some (.cells #[.int .i64 dd.id, .int .i64 dd.kind, .bool dd.pub, .slice dd.nA dd.names.length dd.nc, .bool dd.doubt, .int .i64 dd.k, .string dd.n, .string dd.m, .int .i64 dd.i, .int .i64 dd.d, .slice dd.A dd.s.len dd.c] 44 (0, 0)) := by rw [← hW4]; exact heap_alloc_new w3 _
        have HB4 := Lib.hid (And.intro hb4 hx4)
        clear hb3 hb23 hb4 hx4 d0 d1
        cases q with
        | false =>
          have HNo := Lib.hid (show grf l x = none by
            have := HQ.out.1
            unfold grf
            rw [show bodyOf l x = none by simpa using this]
            rfl)
          go_wp2
          go_ret2
          exact ⟨HBw.out.trans (HB4.out.1.mono HBw.out.size), .inr (.inl ⟨HE.out, ⟨x, HT.out.2.1.reach x (List.mem_of_getElem? HT.out.2.2.2.2.2.1), HNo.out⟩, rfl⟩)⟩
        | true =>
          have hd : bodyOf l x = some dd := by
            obtain ⟨d', hd'⟩ := Option.isSome_iff_exists.1 HQ.out.1
            have h2 := HQ.out.2
            rw [hd'] at h2 ⊢
            exact congrArg some h2
          obtain ⟨us, Hus⟩ : ∃ us, Hid (usesOf x.1 dd.body = us) := ⟨_, Lib.hid rfl⟩
          have HGR := Lib.hid (show grf l x = some us by unfold grf; rw [hd, ← Hus.out]; rfl)
          have hcnt := HBD.out x dd hd
          have hUl : us.length ≤ 400 := by
            rw [← Hus.out]
            refine Nat.le_trans (usesOf_len _ _) ?_
            simp only [Dc.body, Fo.count]
            omega
          have hslw : dd.s.Sl w w.heap.size dd.A dd.c := HB.out.2.2.body hd
          have HWQ := Lib.hid (withQ_any O x.1 x.2 oA oc W4 (HT.out.2.2.1.below HB4.out.1 (Nat.le_refl _)) (by have := HS.out.2.2; omega))
          rw [HON.out] at HWQ
          obtain ⟨RN, HRN⟩ : ∃ RN, Hid ((withN O (x.1, x.2)).length = RN) := ⟨_, Lib.hid rfl⟩
          have HSLW := Lib.hid (And.intro hslw hcnt)
          clear hd hslw hcnt
          go_wp2_with fail
          refine HWQ.out.mono ?_
          rintro e w5 ⟨A5, c5, rfl, hO5, hb5, hA5⟩
          rw [HRN.out]
          have hz5 := hb5.size
          have g0 := (hb5.cell (p := ⟨gk, i * 2, none⟩) (by show gk < _; omega)).trans d0'
          have hx5 := (hb5.block w3.heap.size hz4).trans HB4.out.2
          have e5 : w5.cell? ⟨w3.heap.size, 5, none⟩ = some (.int .i64 dd.k) := cell_of_row w5 _ 5 _ _ (0, 0) hx5
          have e6 : w5.cell? ⟨w3.heap.size, 6, none⟩ = some (.string dd.n) := cell_of_row w5 _ 6 _ _ (0, 0) hx5
          have e7 : w5.cell? ⟨w3.heap.size, 7, none⟩ = some (.string dd.m) := cell_of_row w5 _ 7 _ _ (0, 0) hx5
          have e8 : w5.cell? ⟨w3.heap.size, 8, none⟩ = some (.int .i64 dd.i) := cell_of_row w5 _ 8 _ _ (0, 0) hx5
          have e9 : w5.cell? ⟨w3.heap.size, 9, none⟩ = some (.int .i64 dd.d) := cell_of_row w5 _ 9 _ _ (0, 0) hx5
          have e10 : w5.cell? ⟨w3.heap.size, 10, none⟩ = some (.slice dd.A dd.s.len dd.c) := cell_of_row w5 _ 10 _ _ (0, 0) hx5
          have hbw5 : Below w.heap.size w w5 := HBw.out.trans ((HB4.out.1.trans (hb5.mono HB4.out.1.size)).mono HBw.out.size)
          obtain ⟨UN, HUN⟩ : ∃ Q, Hid (us.length = Q) := ⟨_, Lib.hid rfl⟩
          have HU := Lib.hid (show ∀ X : World, Below w5.heap.size w5 X → Calls Tryz.prog 99 #[.string x.1, .agg #[.int .i64 dd.k, .string dd.n, .string dd.m, .int .i64 dd.i, .int .i64 dd.d, .slice dd.A dd.s.len dd.c]] X (fun e X' => ∃ A3 c3, e = .returned (.slice A3 UN c3) ∧ OwnN X' A3 c3 us ∧ Below w5.heap.size w5 X') from fun X hX => by
            have hwX := hbw5.trans (hX.mono hbw5.size)
            have h := uses40_any x.1 dd.k dd.n dd.m dd.i dd.d dd.A dd.c dd.s X (HSLW.out.1.keep hwX.size (fun p hp => hwX.cell hp)) (by have := HSLW.out.2; omega)
            have hb : usesOf x.1 (Fo.cons dd.k dd.n dd.m dd.i dd.d dd.A dd.c dd.s .nil) = us := Hus.out
            rw [hb] at h
            refine h.mono ?_
            rintro e X' ⟨A3, c3, rfl, hO3, hb3⟩
            exact ⟨A3, c3, by rw [HUN.out], hO3, hX.trans (hb3.mono hX.size)⟩)
          have hrow5 := own_of_blocks' HT.out.2.2.2.1 fun k hk => ((HB4.out.1.trans (hb5.mono HB4.out.1.size)).block k hk)
          rw [HKN.out] at hrow5
          have hsepA : ∀ g, A5 = some ⟨g, 0, none⟩ → g ≠ gk ∧ g < w5.heap.size := fun g hg => by
            subst hg
            rcases hA5 with ⟨_, h2⟩ | h2
            · have hlt2 : g < wr.heap.size := by
                rcases HT.out.2.2.1.cells with ⟨_, h3, _⟩ | ⟨g', h3, h4, _⟩
                · rw [h3] at h2; cases h2
                · rw [h3] at h2; cases h2; exact h4
              refine ⟨fun e => ?_, by have := HB4.out.1.size; omega⟩
              subst e
              exact HS.out.1 g h2.symm rfl
            · have := h2.lt g rfl
              exact ⟨by have := HB4.out.1.size; omega, this.2⟩
          rw [HUN.out] at hUl
          have hKb : KN ≤ 400001 := by have := HT.out.2.2.2.2.2.2; have := HS.out.2.2; have := HKN.out; omega
          have H5 := Lib.hid (And.intro hO5 (And.intro hsepA (And.intro hrow5 (HT.out.2.2.2.2.1.trans ((HB4.out.1.trans (hb5.mono HB4.out.1.size)).mono hz)))))
          have hw15 : w1.heap.size ≤ w5.heap.size := by have := HB4.out.1.size; omega
          have hb1c := namesC_one us
          have HN1 := Lib.hid hb1c
          have HNL := Lib.hid (show (namesC us).length = UN * 2 by rw [← HUN.out]; exact namesC_length us)
          clear hO5 hb5 hA5 hx5 hsepA hrow5 hbw5 d0' d1' hW4 hb1c
          go_upto_region 14 with fail
          go_region_law (first
            | (go_simp; go_at_call 99; (with_reducible refine Calls.mono (HU.out _ ?_) ?_); (focus (first | with_reducible exact Below.refl _ _ | with_reducible exact below_drew' (Below.refl _ _))); rintro e w6 ⟨A3, c3, rfl, hO3, hb6⟩; have HSR := Lib.hid hO3.src; have HR6 := Lib.hid (own_of_blocks' H5.out.2.2.1 fun k hk => hb6.block k hk); have HB6 := Lib.hid hb6; have hz6 := hb6.size; have tokA : True := trivial; clear hb6 hO3)
            | (have _t := tokA; refine step_append_anyAt _ rfl (.tmp 49) (.tmp 57) 30 rfl w1.heap.size 24 i0 _ 2 24 Tryz.underlying30 hi hz0' hz1' hz2' rfl (Nat.succ_pos 1) (.slice (some ⟨gk, 0, none⟩) KN kc) KN (namesC K) rfl HR6.out A3 UN c3 (namesC us) rfl HNL.out (fun h => HUN.out.symm.trans (HSR.out.1 h)) HSR.out.2 HN1.out (by unfold maxLen; omega) (by omega) (by omega) ?_; intro v' w7 hown7 hg7 hat7; obtain ⟨kA', kc', rfl⟩ := own_formN hown7; have H7 := Lib.hid (And.intro hown7 (And.intro hg7 hat7)); clear hown7 hg7 hat7 tokA))
          all_goals (
            go_wp2
            go_roundg (qcM (totD l) (K ++ us).length (i + 1) (withN O x).length)
            case measure =>
              rw [HT.out.1]
              have h1 := (HT.out.2.1.push HT.out.2.2.2.2.2.1 HGR.out).len
              have h2 := withN_new HT.out.2.1.sorted HS.out.2.1
              have h3 : (K ++ us).length = KN + UN := by rw [List.length_append, HKN.out, HUN.out]
              have h4 := HKN.out
              unfold qcM
              omega
            case rel =>
              have hKU : (K ++ us).length = KN + UN := by rw [List.length_append, HKN.out, HUN.out]
              have hRO : (withN O x).length = O.length + 1 := withN_new HT.out.2.1.sorted HS.out.2.1
              have hKl' : K.length ≤ 1 + 400 * O.length := HT.out.2.2.2.2.2.2
              have hgb : w1.heap.size ≤ gk := (HR6.out.lt gk rfl).1
              have hOw : OwnN w7 A5 c5 (withN O x) := OwnN.grown (H5.out.1.below HB6.out (Nat.le_refl _)) H7.out.2.1 fun g hg e => (H5.out.2.1 g hg).1 (Option.some.inj e).symm
              have hBw7 : Below w1.heap.size w1 w7 := (H5.out.2.2.2.trans (HB6.out.mono hw15)).grown H7.out.2.1 (by omega) (fun k e => by cases e; exact hgb)
              have hsp : Sep A5 kA' := fun g hg hk => by
                have h1 := H5.out.2.1 g hg
                have h2 := H7.out.2.2
                rw [hk] at h2
                rcases h2 with h2 | h2
                · exact h1.1 (Option.some.inj h2)
                · have h3 : g = w6.heap.size := Option.some.inj h2
                  omega
              have hrw : w7.ownsRow w1.heap.size 24 2 (.slice kA' (K ++ us).length kc') (K ++ us).length (namesC (K ++ us)) := by
                rw [hKU, namesC_append]
                exact H7.out.1
              refine ⟨i + 1, K ++ us, withN O x, A5, c5, kA', kc', rfl, by rw [hKU]; omega, by rw [← HRN.out], by rw [hKU], by go_num, HT.out.2.1.push HT.out.2.2.2.2.2.1 HGR.out, ?_, hOw, hrw, hsp, hBw7⟩
              rw [hKU, hRO]
              have := HKN.out
              omega)
    · have hie : i = KN := by have := HKN.out; omega
      have HCl := Lib.hid (hI.end_ (by rw [HKN.out]; omega))
      have HF := Lib.hid (And.intro hO hBw)
      rw [HKN.out, HON.out]
      clear hI hO hrow hB HG hsep hKl hBw hOl
      go_wp2
      go_ret2
      exact ⟨HF.out.2, .inr (.inr ⟨HE.out, O, oA, oc, HCl.out, by rw [HON.out]; rfl, HF.out.1⟩)⟩
end Go.Proofs.YtdobpmbgngomlaaGreatDoor
