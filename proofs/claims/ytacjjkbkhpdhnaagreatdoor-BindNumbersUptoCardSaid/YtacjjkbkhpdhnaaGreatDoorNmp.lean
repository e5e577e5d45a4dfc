/- bind.Number -/
import Derived.Test.YtacjjkbkhpdhnaaGreatDoorZnb
import Derived.Test.YtacjjkbkhpdhnaaGreatDoorZna
import Derived.Test.YtacjjkbkhpdhnaaGreatDoorZpj
import Derived.Test.YtacjjkbkhpdhnaaGreatDoorZqe
import Derived.Test.YtacjjkbkhpdhnaaGreatDoorSxg
import Derived.Test.YtacjjkbkhpdhnaaGreatDoorZqa
import Derived.Deep.RegionHeld3
namespace Go.Proofs.YtacjjkbkhpdhnaaGreatDoor
open Go Go.RowKit Go.Proofs Go.Shelf
set_option maxRecDepth 100000 in
set_option maxHeartbeats 1000000 in
theorem cloneNil_any (c : Nat) (w : World) : Calls Tryz.prog 82 #[.slice none 0 c] w fun e w' => e = .returned (.slice none 0 0) ∧ w = w' := by
  have q22 : ∀ (w : World) (a : Option Addr) (n c n' c' : Nat), (binOp .eql 23 (.slice a n c) (.slice none n' c')).run Tryz.prog w = .ok (.bool a.isNone) w := fun w a n c n' c' => Lib.run_eql_slice_nil w _ _ a n c n' c' Tryz.underlying23
  go_enter Tryz.func82, Tryz.ntmps82
  go_wp2
  go_ret
  exact ⟨rfl, rfl⟩
def ClD (l : List Dc) (w : World) (e : Ending) (w' : World) : Prop := ∃ A c, e = .returned (.slice A l.length c) ∧ l.length ≤ c ∧ c ≤ maxLen ∧ Below w.heap.size w w' ∧ (l ≠ [] → ∃ g, A = some ⟨g, 0, none⟩ ∧ RowD w' g l ∧ w.heap.size ≤ g ∧ g < w'.heap.size)
theorem cloneG_any (l : List Dc) (A : Option Addr) (c : Nat) (w : World) (hs : SlD w w.heap.size A c l) (hl : l.length ≤ 100) : Calls Tryz.prog 82 #[.slice A l.length c] w (ClD l w) := by
  cases A with
  | none =>
    have h0 : l = [] := Classical.byContradiction fun h => by
      obtain ⟨_, _, e, _⟩ := hs.2.2 h
      cases e
    subst h0
    refine (cloneNil_any c w).mono ?_
    rintro e w' ⟨rfl, rfl⟩
    exact ⟨none, 0, rfl, Nat.le_refl _, by decide, Below.refl _ _, fun h => absurd rfl h⟩
  | some ad =>
    refine (slcCloneD_any l ad c w hs hl).mono ?_
    rintro e w' ⟨v, rfl, hown, hb⟩
    obtain ⟨A', c', rfl⟩ := own_formR hown
    have hc : l.length ≤ c' ∧ c' ≤ maxLen := by
      rcases hown.2 with ⟨e, h0⟩ | ⟨g, cap, cur, e, _, _, h1, h2, _⟩
      · simp only [Value.slice.injEq] at e
        unfold maxLen
        omega
      · simp only [Value.slice.injEq] at e
        obtain ⟨_, _, rfl⟩ := e
        exact ⟨h1, h2⟩
    refine ⟨A', c', rfl, hc.1, hc.2, hb, fun hne => ?_⟩
    obtain ⟨g, c2, e, _, _⟩ := own_posR hown (List.length_pos_iff.2 hne)
    simp only [Value.slice.injEq, true_and] at e
    obtain ⟨rfl, rfl⟩ := e
    obtain ⟨h1, h2⟩ := World.ownsRow.lt hown g rfl
    exact ⟨g, rfl, RowD.of_own hown, h1, h2⟩
def NumR (u : List ByteArray) (uA : Option Addr) (uc : Nat) (ds : List Dc) (u' : List ByteArray) (old : List Dc) (w : World) (e : Ending) (w' : World) : Prop :=
  Below w.heap.size w w' ∧ ((nbrE u ds u' old ≠ 0 ∧ e = .returned (.tuple #[.agg #[.slice none 0 0, .slice none 0 0], .int .i64 (nbrE u ds u' old)])) ∨
    (nbrE u ds u' old = 0 ∧ ∃ A c fs, NumG ds old fs ∧ fs.length = ds.length ∧ SlD w' w'.heap.size A c fs ∧ e = .returned (.tuple #[.agg #[.slice uA u.length uc, .slice A ds.length c], .int .i64 0])))
theorem NSt.same {old : List Dc} {LN L : List Int} {x x' : Dc} (h : NSt old LN x x' L) : ∃ i, x' = { x with id := i } := by
  rcases h with ⟨_, rfl, _⟩ | ⟨_, i, _, rfl, _⟩
  · exact ⟨x'.id, rfl⟩
  · exact ⟨i, rfl⟩
theorem NGo.mem {old : List Dc} : ∀ {a es : List Dc} {LN L1 : List Int}, NGo old LN a es L1 → ∀ e ∈ es, ∃ x ∈ a, ∃ i, e = { x with id := i }
  | [], es, LN, L1, h, e, he => by
    obtain ⟨rfl, _⟩ := h
    cases he
  | y :: r, es, LN, L1, h, e, he => by
    obtain ⟨y', es', L, h1, rfl, h2⟩ := h
    rcases List.mem_cons.1 he with rfl | he
    · obtain ⟨i, hi⟩ := h1.same
      exact ⟨y, List.mem_cons_self, i, hi⟩
    · obtain ⟨x, hx, h⟩ := NGo.mem h2 e he
      exact ⟨x, List.mem_cons_of_mem _ hx, h⟩
theorem NGo.ids {old : List Dc} : ∀ {a es : List Dc} {LN L1 : List Int}, NGo old LN a es L1 → L1.length ≤ LN.length + a.length
  | [], es, LN, L1, h => by
    obtain ⟨_, rfl⟩ := h
    exact Nat.le_add_right _ _
  | y :: r, es, LN, L1, h => by
    obtain ⟨y', es', L, h1, rfl, h2⟩ := h
    have := NGo.ids h2
    have : L.length ≤ LN.length + 1 := by
      rcases h1 with ⟨_, _, rfl⟩ | ⟨_, i, _, _, rfl⟩
      · omega
      · simp
    simp only [List.length_cons]
    omega
theorem RowD.sld {w w0 : World} {g c : Nat} {l : List Dc} (h : RowD w g l) (hg : g < w.heap.size) (hb : Below w0.heap.size w0 w) (hk : ∀ x ∈ l, x.Ok w0 w0.heap.size) (hc : l.length ≤ c) (hc2 : c ≤ maxLen) : SlD w w.heap.size (some ⟨g, 0, none⟩) c l :=
  ⟨hc, hc2, fun _ => ⟨g, 0, rfl, hg, fun j x hx => ⟨fun q v hv => by rw [Nat.zero_add]; exact (h j x hx q v hv).1, by
    have h1 := hk x (List.mem_of_getElem? hx)
    exact ⟨h1.1.keep hb.size fun p hp => hb.cell hp, h1.2.keep hb.size fun p hp => hb.cell hp⟩⟩⟩⟩
theorem sld_ok {w : World} {A : Option Addr} {c : Nat} {l : List Dc} (h : SlD w w.heap.size A c l) {x : Dc} (hx : x ∈ l) : x.Ok w w.heap.size := by
  obtain ⟨j, hj⟩ := List.getElem?_of_mem hx
  obtain ⟨b, o, _, _, hall⟩ := h.2.2 (by intro e; rw [e] at hx; cases hx)
  exact (hall j x hj).2
theorem set_mid {a b : List Dc} {x y : Dc} {j : Nat} (h : a.length = j) : (a ++ x :: b).set j y = (a ++ [y]) ++ b := by
  subst h
  simp
def UpdD (X : World) (b o : Nat) (v : Value) (X' : World) : Prop := X'.os = X.os ∧ X'.tape = X.tape ∧ X'.output = X.output ∧ X.heap.size ≤ X'.heap.size ∧ ∀ q, q < X.heap.size → X'.heap[q]? = (X.setCell ⟨b, o, none⟩ v).heap[q]?
theorem UpdD.of {X Y : World} {b o : Nat} {v : Value} (h : Below X.heap.size X Y) : UpdD X b o v (Y.setCell ⟨b, o, none⟩ v) := by
  refine ⟨h.os, h.tape, h.output, by simpa using h.size, fun q hq => ?_⟩
  by_cases e : q = b
  · subst e
    simp only [World.setCell, Array.getElem?_modify, if_true, h.block q hq]
  · rw [heap_setCell_other _ _ _ _ (by simpa using e), heap_setCell_other _ _ _ _ (by simpa using e)]
    exact h.block q hq
theorem UpdD.congr {X Y Y' : World} {b o : Nat} {v : Value} (h : UpdD X b o v Y) (h1 : Y'.heap = Y.heap) (h2 : Y'.os = Y.os) (h3 : Y'.tape = Y.tape) (h4 : Y'.output = Y.output) : UpdD X b o v Y' := by
  obtain ⟨a, b, c, d, e⟩ := h
  exact ⟨h2.trans a, h3.trans b, h4.trans c, by rw [h1]; exact d, fun q hq => by rw [h1]; exact e q hq⟩
set_option maxRecDepth 100000 in
set_option maxHeartbeats 16000000 in
theorem bNumber_any (u : List ByteArray) (uA : Option Addr) (uc : Nat) (ds : List Dc) (dA : Option Addr) (dc : Nat) (u' : List ByteArray) (oA : Option Addr) (oc : Nat) (old : List Dc) (pA : Option Addr) (pc : Nat) (w : World) (hu : SlS w w.heap.size uA uc u) (hd : SlD w w.heap.size dA dc ds) (hst : StrD ds) (hu' : SlS w w.heap.size oA oc u') (hp : SlD w w.heap.size pA pc old) (hst' : StrD old) (hnz : ∀ x ∈ ds, (nameOf x).size ≤ 1000) (hl8 : ds.length < 20) :
    Calls Tryz.prog 34 #[.agg #[.slice uA u.length uc, .slice dA ds.length dc], .agg #[.slice oA u'.length oc, .slice pA old.length pc]] w (NumR u uA uc ds u' old w) := by
  have hmm := @run_makeMap Tryz.prog
  obtain ⟨NU, HNU⟩ : ∃ Q, Hid (u.length = Q) := ⟨_, Lib.hid rfl⟩
  obtain ⟨ND, HND⟩ : ∃ Q, Hid (ds.length = Q) := ⟨_, Lib.hid rfl⟩
  obtain ⟨NO, HNO⟩ : ∃ Q, Hid (u'.length = Q) := ⟨_, Lib.hid rfl⟩
  obtain ⟨NP, HNP⟩ : ∃ Q, Hid (old.length = Q) := ⟨_, Lib.hid rfl⟩
  obtain ⟨W0, hW0⟩ : ∃ W0, ((w.alloc (.cells #[.slice uA NU uc, .slice dA ND dc] 40)).alloc (.cells #[.slice oA NO oc, .slice pA NP pc] 40)).alloc (.cells #[.slice none 0 0, .slice none 0 0] 40) = W0 := ⟨_, rfl⟩
  have hb0 : Below w.heap.size w W0 := by rw [← hW0]; exact (((Below.refl _ _).alloc (Nat.le_refl _) _).alloc (by simp) _).alloc (by simp; omega) _
  have hzW : w.heap.size + 1 + 1 < W0.heap.size := by rw [← hW0]; simp
  have hr2 : W0.heap[w.heap.size]? = some (.cells #[.slice uA NU uc, .slice dA ND dc] 40 (0, 0)) := by rw [← hW0]; exact (Below.heap_alloc _ _ _ (by simp; omega)).trans ((Below.heap_alloc _ _ _ (by simp)).trans (heap_alloc_new w _))
  have hr3 : W0.heap[w.heap.size + 1]? = some (.cells #[.slice oA NO oc, .slice pA NP pc] 40 (0, 0)) := by
    rw [← hW0]
    refine (Below.heap_alloc _ _ _ (by simp)).trans ?_
    have h := heap_alloc_new (w.alloc (.cells #[.slice uA NU uc, .slice dA ND dc] 40)) (.cells #[.slice oA NO oc, .slice pA NP pc] 40)
    simpa using h
  have hr4 : W0.heap[w.heap.size + 1 + 1]? = some (.cells #[.slice none 0 0, .slice none 0 0] 40 (0, 0)) := by
    have h := heap_alloc_new ((w.alloc (.cells #[.slice uA NU uc, .slice dA ND dc] 40)).alloc (.cells #[.slice oA NO oc, .slice pA NP pc] 40)) (.cells #[.slice none 0 0, .slice none 0 0] 40)
    rw [hW0] at h
    simpa using h
  have hul1 := hu.1
  have hul2 := hu.2.1
  have hdl1 := hd.1
  have hdl2 := hd.2.1
  have hol1 := hu'.1
  have hol2 := hu'.2.1
  have hpl1 := hp.1
  have hpl2 := hp.2.1
  unfold maxLen at hul2 hdl2 hol2 hpl2
  rw [HNU.out] at hul1
  rw [HND.out] at hdl1 hl8
  rw [HNO.out] at hol1
  rw [HNP.out] at hpl1
  have HX := Lib.hid (show ∀ X : World, Below W0.heap.size W0 X → Below w.heap.size w X ∧ SlS X X.heap.size uA uc u ∧ SlD X X.heap.size dA dc ds ∧ SlS X X.heap.size oA oc u' ∧ SlD X X.heap.size pA pc old ∧ X.heap[w.heap.size]? = some (.cells #[.slice uA NU uc, .slice dA ND dc] 40 (0, 0)) ∧ X.heap[w.heap.size + 1]? = some (.cells #[.slice oA NO oc, .slice pA NP pc] 40 (0, 0)) ∧ X.heap[w.heap.size + 1 + 1]? = some (.cells #[.slice none 0 0, .slice none 0 0] 40 (0, 0)) ∧ w.heap.size + 1 + 1 < X.heap.size from fun X hX => by
    have h1 := hb0.trans (hX.mono hb0.size)
    have h2 := hX.size
    exact ⟨h1, hu.keep h1.size (fun p hp => h1.cell hp), hd.keep h1.size (fun p hp => h1.cell hp), hu'.keep h1.size (fun p hp => h1.cell hp), hp.keep h1.size (fun p hp => h1.cell hp), (hX.block _ (by omega)).trans hr2, (hX.block _ (by omega)).trans hr3, (hX.block _ (by omega)).trans hr4, by omega⟩)
  have HD := Lib.hid (And.intro hd (And.intro hp (And.intro hnz hzW)))
  obtain ⟨E1, HE1⟩ : ∃ Q, Hid (srcDE u ds = Q) := ⟨_, Lib.hid rfl⟩
  obtain ⟨E2, HE2⟩ : ∃ Q, Hid (srcDE u' old = Q) := ⟨_, Lib.hid rfl⟩
  have HC1 := Lib.hid (show ∀ X, Below W0.heap.size W0 X → Calls Tryz.prog 32 #[.agg #[.slice uA NU uc, .slice dA ND dc]] X fun e w' => e = .returned (.int .i64 E1) ∧ Below X.heap.size X w' from fun X hX => by
    have h := checkSourceD_any u uA uc ds dA dc X (HX.out X hX).2.1 (HX.out X hX).2.2.1 hst
    rwa [HNU.out, HND.out, HE1.out] at h)
  have HC2 := Lib.hid (show ∀ X, Below W0.heap.size W0 X → Calls Tryz.prog 32 #[.agg #[.slice oA NO oc, .slice pA NP pc]] X fun e w' => e = .returned (.int .i64 E2) ∧ Below X.heap.size X w' from fun X hX => by
    have h := checkSourceD_any u' oA oc old pA pc X (HX.out X hX).2.2.2.1 (HX.out X hX).2.2.2.2.1 hst'
    rwa [HNO.out, HNP.out, HE2.out] at h)
  obtain ⟨EE, HEE⟩ : ∃ Q, Hid (nbrE u ds u' old = Q) := ⟨_, Lib.hid rfl⟩
  have HDE := Lib.hid (show EE = if E1 ≠ 0 then E1 else E2 by rw [← HEE.out]; unfold nbrE; rw [HE1.out, HE2.out])
  obtain ⟨_, _, _, _, _, ha2, ha3, _, _⟩ := HX.out W0 (Below.refl _ _)
  have x0 : W0.cell? ⟨w.heap.size, 0, none⟩ = some (.slice uA NU uc) := cell_of_row W0 _ 0 _ _ (0, 0) ha2
  have x1 : W0.cell? ⟨w.heap.size, 1, none⟩ = some (.slice dA ND dc) := cell_of_row W0 _ 1 _ _ (0, 0) ha2
  unfold NumR
  rw [HEE.out, HNU.out, HND.out, HNO.out, HNP.out]
  clear hu hd hst hu' hp hst' hnz hb0 hr2 hr3 hr4 ha2 ha3 hzW
  go_enter Tryz.func34, Tryz.ntmps34
  go_wp2_with fail
  refine (HC1.out _ (Below.refl _ _)).mono ?_
  rintro e w1 ⟨rfl, hb1⟩
  clear x0 x1 hW0
  by_cases he1 : E1 = 0
  rotate_left
  · have HR := Lib.hid (show EE = E1 from HDE.out.trans (if_pos he1))
    have HE0 := Lib.hid he1
    have he1' : (E1 != 0) = true := by simpa using he1
    obtain ⟨hBx, _, _, _, _, _, _, hr, _⟩ := HX.out w1 hb1
    clear he1 hb1
    have HS := Lib.hid (pair_set hr (.slice none 0 0) (.slice none 0 0))
    obtain ⟨y0, y1, z0, z1⟩ := row2 hr
    have HBx := Lib.hid hBx
    clear hr hBx
    go_wp2
    obtain ⟨W9, hW9, s0, s1, hBf, hsz, hbk⟩ := out2 HS.out HBx.out (show w.heap.size ≤ w.heap.size + 1 + 1 by omega)
    rw [hW9]
    refine bodyPost_ret (v := .tuple #[.agg #[.slice none 0 0, .slice none 0 0], .int .i64 E1]) (by simp [results, Tryz.results34, go_sem, s0, s1]) rfl ?_
    exact ⟨hBf, .inl ⟨by rw [HR.out]; exact HE0.out, by rw [HR.out]⟩⟩
  subst he1
  have HDE2 := Lib.hid (HDE.out.trans (if_neg (by simp)))
  obtain ⟨_, _, _, _, _, ha2, ha3, _, _⟩ := HX.out w1 hb1
  have x0 : w1.cell? ⟨w.heap.size + 1, 0, none⟩ = some (.slice oA NO oc) := cell_of_row w1 _ 0 _ _ (0, 0) ha3
  have x1 : w1.cell? ⟨w.heap.size + 1, 1, none⟩ = some (.slice pA NP pc) := cell_of_row w1 _ 1 _ _ (0, 0) ha3
  have HK2 := Lib.hid (HC2.out w1 hb1)
  have HB1 := Lib.hid hb1
  clear hb1 ha2 ha3
  go_wp2_with fail
  refine HK2.out.mono ?_
  rintro e w2 ⟨rfl, hb2⟩
  have HB2 := Lib.hid (HB1.out.trans (hb2.mono HB1.out.size))
  clear x0 x1 hb2 HK2
  by_cases he2 : E2 = 0
  rotate_left
  · have HE0 := Lib.hid he2
    have he2' : (E2 != 0) = true := by simpa using he2
    obtain ⟨hBx, _, _, _, _, _, _, hr, _⟩ := HX.out w2 HB2.out
    clear he2
    have HS := Lib.hid (pair_set hr (.slice none 0 0) (.slice none 0 0))
    obtain ⟨y0, y1, z0, z1⟩ := row2 hr
    have HBx := Lib.hid hBx
    clear hr hBx
    go_wp2
    obtain ⟨W9, hW9, s0, s1, hBf, hsz, hbk⟩ := out2 HS.out HBx.out (show w.heap.size ≤ w.heap.size + 1 + 1 by omega)
    rw [hW9]
    refine bodyPost_ret (v := .tuple #[.agg #[.slice none 0 0, .slice none 0 0], .int .i64 E2]) (by simp [results, Tryz.results34, go_sem, s0, s1]) rfl ?_
    exact ⟨hBf, .inl ⟨by rw [HDE2.out]; exact HE0.out, by rw [HDE2.out]⟩⟩
  subst he2
  obtain ⟨_, _, hl1, hs1⟩ := srcDE_parts HE1.out
  obtain ⟨_, _, hl2, hs2⟩ := srcDE_parts HE2.out
  have HV1 := Lib.hid (sdsE_mem hs1)
  have HV2 := Lib.hid (sdsE_mem hs2)
  have HI1 := Lib.hid (show ∀ x ∈ ds, x.names ≠ [] ∧ 0 ≤ x.id ∧ x.id ≤ 999999 from fun x hx => by
    obtain ⟨a, b, _, c, _, _⟩ := sdE_parts (HV1.out x hx)
    exact ⟨fun h => by unfold dnE at c; rw [h] at c; simp at c, a, b⟩)
  have HI2 := Lib.hid (show ∀ x ∈ old, x.names ≠ [] ∧ 0 ≤ x.id ∧ x.id ≤ 999999 from fun x hx => by
    obtain ⟨a, b, _, c, _, _⟩ := sdE_parts (HV2.out x hx)
    exact ⟨fun h => by unfold dnE at c; rw [h] at c; simp at c, a, b⟩)
  rw [HND.out] at hl1
  rw [HNP.out] at hl2
  clear hs1 hs2
  obtain ⟨i1, Hi1⟩ : ∃ q, Hid (ds.map Dc.id = q) := ⟨_, Lib.hid rfl⟩
  obtain ⟨i2, Hi2⟩ : ∃ q, Hid (old.map Dc.id = q) := ⟨_, Lib.hid rfl⟩
  obtain ⟨bN, HbN⟩ : ∃ q, Hid (w2.heap.size = q) := ⟨_, Lib.hid rfl⟩
  obtain ⟨W3, hW3⟩ : ∃ q, (w2.alloc (.map #[] 0)).alloc (.map #[] 0) = q := ⟨_, rfl⟩
  have hb3 : Below w2.heap.size w2 W3 := by rw [← hW3]; exact ((Below.refl _ _).alloc (Nat.le_refl _) _).alloc (by simp) _
  have hm1 : SetK W3 3 bN [] := by
    rw [← hW3, ← HbN.out]
    exact (SetK.made w2 3).keep (Below.heap_alloc _ _ _ (by simp))
  have hm2 : SetK W3 3 (bN + 1) [] := by
    have h := SetK.made (w2.alloc (.map #[] 0)) 3
    rw [hW3] at h
    rw [← HbN.out]
    simpa using h
  have hz3 : bN + 1 < W3.heap.size := by rw [← hW3, ← HbN.out]; simp
  have HB3 := Lib.hid (HB2.out.trans (hb3.mono HB2.out.size))
  have HbW := Lib.hid (show W0.heap.size ≤ bN by rw [← HbN.out]; exact HB2.out.size)
  obtain ⟨_, _, _, _, _, ha2, ha3, _, _⟩ := HX.out W3 HB3.out
  have x1 : W3.cell? ⟨w.heap.size, 1, none⟩ = some (.slice dA ND dc) := cell_of_row W3 _ 1 _ _ (0, 0) ha2
  have HM := Lib.hid (And.intro hm1 (And.intro hm2 hz3))
  clear hb3 hm1 hm2 hz3 ha2 ha3
  have hbn := HbN.out
  go_wp2_with fail
  clear x1 hW3 hbn
  go_loopg [11, 34] ND (fun g _ ct wr => ∃ j : Nat, g = ND - j ∧ j ≤ ND ∧ ct = .int .i64 j ∧ SetK wr 3 bN ((i1.take j).map keyI) ∧ SetK wr 3 (bN + 1) [] ∧ Below W0.heap.size W0 wr ∧ bN + 1 < wr.heap.size)
  case atStart => exact ⟨0, rfl, by omega, rfl, HM.out.1, HM.out.2.1, HB3.out, HM.out.2.2⟩
  case round =>
  obtain ⟨j, HG, hj, rfl, hs1, hs2, hB, hbz⟩ := hrel
  obtain ⟨hBw, _, _, _, _, ha2, ha3, _, _⟩ := HX.out wr hB
  by_cases hlt : j < ND
  · have hlt' : j < ds.length := by rw [HND.out]; exact hlt
    have hj3 : ds[j]? = some ds[j] := List.getElem?_eq_getElem hlt'
    obtain ⟨b, o, hA, hbb, d0, d1, d2, d3, d4, d5, d6, d7, d8, d9, d10, xok⟩ := HD.out.1.cells_at (wr := wr) (fun p hp => hBw.cell hp) hj3
    subst hA
    have hwf := wfI (HI1.out _ (List.getElem_mem hlt')).2
    have htk : i1.take (j + 1) = i1.take j ++ [ds[j].id] := by
      rw [← Hi1.out, List.take_succ_eq_append_getElem (by simpa using hlt')]
      simp
    have j0 : (0 : Int) ≤ (j : Int) := by omega
    have j1 : (j : Int) < (ND : Int) := by omega
    have HT := Lib.hid (And.intro HG (And.intro hs1 (And.intro hs2 (And.intro hB (And.intro hbz (And.intro hwf htk))))))
    have HLn := Lib.hid (show ((i1.take j).map keyI).length < 1000000 by rw [List.length_map, List.length_take]; omega)
    clear xok HG hs1 hs2 hB hBw hwf htk hj3 ha2 ha3
    generalize ds[j] = x at d0 d1 d2 d3 d4 d5 d6 d7 d8 d9 d10 HT
    clear hlt'
    go_wp2_with (at_mapUpdate; refine wpList_setAdd _ rfl _ _ _ 119 rfl 3 intKeyed Tryz.underlying119 bN ((i1.take j).map keyI) rfl (HT.out.2.1.keep (Below.heap_alloc _ _ _ HT.out.2.1.lt)) HLn.out _ (keyI x.id) rfl rfl (keyI_of HT.out.2.2.2.2.2.1) ?_; intro w5 hset5 hg5)
    go_roundg (ND - (j + 1))
    case measure => rw [HT.out.1]; omega
    case rel =>
      have hz5 := hg5.size
      simp at hz5
      have hbz := HT.out.2.2.2.2.1
      have hbw := HbW.out
      refine ⟨j + 1, rfl, by omega, by go_num, ?_, ?_, ?_, by omega⟩
      · rw [HT.out.2.2.2.2.2.2]; simpa using hset5
      · exact HT.out.2.2.1.keep ((hg5.block _ (by simp; omega) (by simp)).trans (Below.heap_alloc _ _ _ (by omega)))
      · exact (HT.out.2.2.2.1.alloc HT.out.2.2.2.1.size _).grown hg5 (by have := HT.out.2.2.2.1.size; simp; omega) (fun q hq => by cases hq; omega)
  have hjN : ND = j := by omega
  subst hjN
  have hs1' : SetK wr 3 bN (i1.map keyI) := by
    rw [List.take_of_length_le (by rw [← Hi1.out, List.length_map, HND.out]; exact Nat.le_refl _)] at hs1
    exact hs1
  have x1 : wr.cell? ⟨w.heap.size + 1, 1, none⟩ = some (.slice pA NP pc) := cell_of_row wr _ 1 _ _ (0, 0) ha3
  have HM2 := Lib.hid (And.intro hs1' (And.intro hs2 (And.intro hB hbz)))
  have i2' : decide ((ND : Int) < (ND : Int)) = false := by simp
  have i3' : decide (ND < ND) = false := by simp
  clear hs1 hs1' hs2 hB hbz ha2 ha3 hBw HG
  go_wp2_with fail
  clear x1
  go_loopg [13, 45] NP (fun g _ ct wr => ∃ k : Nat, g = NP - k ∧ k ≤ NP ∧ ct = .int .i64 k ∧ SetK wr 3 bN (i1.map keyI) ∧ SetK wr 3 (bN + 1) ((i2.take k).map keyI) ∧ Below W0.heap.size W0 wr ∧ bN + 1 < wr.heap.size)
  case atStart => exact ⟨0, rfl, by omega, rfl, HM2.out.1, HM2.out.2.1, HM2.out.2.2.1, HM2.out.2.2.2⟩
  case round =>
  obtain ⟨k, HG, hk, rfl, hs1, hs2, hB, hbz⟩ := hrel
  obtain ⟨hBw, _, hsd, _, _, ha2, ha3, _, _⟩ := HX.out wr hB
  by_cases hlt : k < NP
  · have hlt' : k < old.length := by rw [HNP.out]; exact hlt
    have hj3 : old[k]? = some old[k] := List.getElem?_eq_getElem hlt'
    obtain ⟨b, o, hA, hbb, d0, d1, d2, d3, d4, d5, d6, d7, d8, d9, d10, xok⟩ := HD.out.2.1.cells_at (wr := wr) (fun p hp => hBw.cell hp) hj3
    subst hA
    have hwf := wfI (HI2.out _ (List.getElem_mem hlt')).2
    have htk : i2.take (k + 1) = i2.take k ++ [old[k].id] := by
      rw [← Hi2.out, List.take_succ_eq_append_getElem (by simpa using hlt')]
      simp
    have j0 : (0 : Int) ≤ (k : Int) := by omega
    have j1 : (k : Int) < (NP : Int) := by omega
    have HT := Lib.hid (And.intro HG (And.intro hs1 (And.intro hs2 (And.intro hB (And.intro hbz (And.intro hwf htk))))))
    have HLn := Lib.hid (show ((i2.take k).map keyI).length < 1000000 by rw [List.length_map, List.length_take]; omega)
    clear xok HG hs1 hs2 hB hBw hwf htk hj3 ha2 ha3 hsd
    generalize old[k] = x at d0 d1 d2 d3 d4 d5 d6 d7 d8 d9 d10 HT
    clear hlt'
    go_wp2_with (at_mapUpdate; refine wpList_setAdd _ rfl _ _ _ 119 rfl 3 intKeyed Tryz.underlying119 (bN + 1) ((i2.take k).map keyI) rfl (HT.out.2.2.1.keep (Below.heap_alloc _ _ _ HT.out.2.2.1.lt)) HLn.out _ (keyI x.id) rfl rfl (keyI_of HT.out.2.2.2.2.2.1) ?_; intro w5 hset5 hg5)
    go_roundg (NP - (k + 1))
    case measure => rw [HT.out.1]; omega
    case rel =>
      have hz5 := hg5.size
      simp at hz5
      have hbz := HT.out.2.2.2.2.1
      have hbw := HbW.out
      refine ⟨k + 1, rfl, by omega, by go_num, ?_, ?_, ?_, by omega⟩
      · exact HT.out.2.1.keep ((hg5.block _ (by simp; omega) (by simp)).trans (Below.heap_alloc _ _ _ (by omega)))
      · rw [HT.out.2.2.2.2.2.2]; simpa using hset5
      · exact (HT.out.2.2.2.1.alloc HT.out.2.2.2.1.size _).grown hg5 (by have := HT.out.2.2.2.1.size; simp; omega) (fun q hq => by cases hq; omega)
  have hkN : NP = k := by omega
  subst hkN
  have hs2' : SetK wr 3 (bN + 1) (i2.map keyI) := by
    rw [List.take_of_length_le (by rw [← Hi2.out, List.length_map, HNP.out]; exact Nat.le_refl _)] at hs2
    exact hs2
  have x1 : wr.cell? ⟨w.heap.size, 1, none⟩ = some (.slice dA ND dc) := cell_of_row wr _ 1 _ _ (0, 0) ha2
  have hcl := cloneG_any ds dA dc wr hsd (by rw [HND.out]; exact hl1)
  rw [HND.out] at hcl
  have HCl := Lib.hid hcl
  have HM3 := Lib.hid (And.intro hs1 (And.intro hs2' (And.intro hB hbz)))
  have i2' : decide ((NP : Int) < (NP : Int)) = false := by simp
  have i3' : decide (NP < NP) = false := by simp
  clear hs1 hs2' hs2 hB hbz ha2 ha3 hBw HG hcl hsd
  obtain ⟨w6, rfl⟩ : ∃ q, q = wr := ⟨_, rfl⟩
  go_wp2_with fail
  refine HCl.out.mono ?_
  rintro e w7 ⟨cA, cc, rfl, hcc1, hcc2, hb7, hrow7⟩
  rw [HND.out] at hcc1 ⊢
  have HB7 := Lib.hid (HM3.out.2.2.1.trans (hb7.mono HM3.out.2.2.1.size))
  have HS7 := Lib.hid (show SetK w7 3 bN (i1.map keyI) ∧ SetK w7 3 (bN + 1) (i2.map keyI) ∧ bN + 1 < w7.heap.size from ⟨HM3.out.1.keep (hb7.block _ HM3.out.1.lt), HM3.out.2.1.keep (hb7.block _ HM3.out.2.1.lt), Nat.lt_of_lt_of_le HM3.out.2.2.2 hb7.size⟩)
  clear x1 HCl
  by_cases hN0 : ND = 0
  · subst hN0
    have hd0 := List.length_eq_zero_iff.1 HND.out
    have HR7 := Lib.hid (And.intro hcc1 (And.intro hcc2 hd0))
    have hcA : cA = none ∨ ∃ a, cA = some a := by cases cA <;> simp
    clear hb7 hrow7 hcc1 hcc2 hd0
    go_wp2_with fail
    refine wp_loop_rounds 1 ?_
    rw [rounds_succ]
    go_wp2_with fail
    refine (sortStableD0_any _ _ _ _).mono ?_
    rintro e w8 ⟨rfl, rfl⟩
    obtain ⟨hBx, _, _, _, _, ha2, _, hr, _⟩ := HX.out w7 HB7.out
    have x0 : w7.cell? ⟨w.heap.size, 0, none⟩ = some (.slice uA NU uc) := cell_of_row w7 _ 0 _ _ (0, 0) ha2
    clear ha2
    have HS := Lib.hid (pair_set hr (.slice uA NU uc) (.slice cA 0 cc))
    obtain ⟨y0, y1, z0, z1⟩ := row2 hr
    have HBx := Lib.hid hBx
    clear hr hBx
    go_wp2
    obtain ⟨W9, hW9, s0, s1, hBf, hsz, hbk⟩ := out2 HS.out HBx.out (show w.heap.size ≤ w.heap.size + 1 + 1 by omega)
    rw [hW9]
    refine bodyPost_ret (v := .tuple #[.agg #[.slice uA NU uc, .slice cA 0 cc], .int .i64 0]) (by simp [results, Tryz.results34, go_sem, s0, s1]) rfl ?_
    refine ⟨hBf, .inr ⟨HDE2.out, cA, cc, [], ?_, ?_, ⟨HR7.out.1, HR7.out.2.1, fun h => absurd rfl h⟩, rfl⟩⟩
    · rw [HR7.out.2.2]
      exact ⟨[], _, ⟨rfl, rfl⟩, List.Perm.refl _, List.Pairwise.nil⟩
    · rfl
  obtain ⟨gb, rfl, hrw, hgb1, hgb2⟩ := hrow7 (fun h => hN0 (by rw [← HND.out, h]; rfl))
  have HG7 := Lib.hid (show bN + 1 < gb from by have := HM3.out.2.2.2; omega)
  have hgt := HG7.out
  have HRw := Lib.hid (And.intro hrw hgb2)
  have HCc := Lib.hid (And.intro hcc1 hcc2)
  clear hb7 hrow7 hrw hgb1 hgb2 hgt
  go_wp2_with fail
  go_loopg [15, 16, 58] ND (fun g _ _ ct wr => ∃ (k : Nat) (es : List Dc) (L : List Int), g = ND - k ∧ k ≤ ND ∧ ct = .int .i64 k ∧ Hid (NGo old i1 (ds.take k) es L) ∧ SetK wr 3 bN (L.map keyI) ∧ SetK wr 3 (bN + 1) (i2.map keyI) ∧ Below W0.heap.size W0 wr ∧ RowD wr gb (es ++ ds.drop k) ∧ gb < wr.heap.size)
  case atStart => exact ⟨0, [], i1, rfl, by omega, rfl, Lib.hid ⟨rfl, rfl⟩, HS7.out.1, HS7.out.2.1, HB7.out, HRw.out.1, HRw.out.2⟩
  case round =>
  obtain ⟨k, es, L, HG, hk, rfl, hgo, hs1, hs2, hB, hrow, hgz⟩ := hrel
  have hesl : es.length = k := by rw [hgo.out.len, List.length_take, HND.out]; omega
  by_cases hlt : k < ND
  · have hlt' : k < ds.length := by rw [HND.out]; exact hlt
    obtain ⟨x, hx⟩ : ∃ x, ds[k]? = some x := ⟨_, List.getElem?_eq_getElem hlt'⟩
    have hdr : ds.drop k = x :: ds.drop (k + 1) := by
      obtain ⟨h1, h2⟩ := List.getElem?_eq_some_iff.1 hx
      rw [List.drop_eq_getElem_cons h1, h2]
    have htk : ds.take (k + 1) = ds.take k ++ [x] := by
      obtain ⟨h1, h2⟩ := List.getElem?_eq_some_iff.1 hx
      rw [List.take_succ_eq_append_getElem h1, h2]
    have hat : (es ++ ds.drop k)[k]? = some x := by
      rw [hdr, List.getElem?_append_right (by omega), hesl, Nat.sub_self]
      rfl
    have hxm := List.mem_of_getElem? hx
    obtain ⟨hBw, _, _, _, hsp, _, ha3, _, _⟩ := HX.out wr hB
    have e0 : wr.cell? ⟨gb, k * 11, none⟩ = some (.int .i64 x.id) := (hrow k x hat 0 _ rfl).1
    have e3 : wr.cell? ⟨gb, k * 11 + 3, none⟩ = some (.slice x.nA x.names.length x.nc) := (hrow k x hat 3 _ rfl).1
    have f0 : wr.frozen? ⟨gb, k * 11, none⟩ = false := (hrow k x hat 0 (.int .i64 x.id) rfl).2
    have k0 : (0 : Int) ≤ (k : Int) := by omega
    have k1 : (k : Int) < (ND : Int) := by omega
    by_cases h0 : x.id = 0
    rotate_left
    · have h0' : (x.id == 0) = false := by simpa using h0
      have HN := Lib.hid (hgo.out.snoc (x := x) (x' := x) (L2 := L) (.inl ⟨h0, rfl, rfl⟩))
      rw [← htk] at HN
      have HRo := Lib.hid (show RowD wr gb ((es ++ [x]) ++ ds.drop (k + 1)) by rw [List.append_assoc, List.singleton_append, ← hdr]; exact hrow)
      have HT := Lib.hid (And.intro hs1 (And.intro hs2 (And.intro hB hgz)))
      clear hgo hs1 hs2 hB hrow hgz hdr htk hat hBw hsp ha3 hx e3 f0
      go_wp2
      go_roundg (ND - (k + 1))
      case measure => rw [HG]; omega
      case rel => exact ⟨k + 1, es ++ [x], L, rfl, by omega, by go_num, HN, HT.out.1, HT.out.2.1, HT.out.2.2.1, HRo.out, HT.out.2.2.2⟩
    obtain ⟨hne, hir⟩ := HI1.out x hxm
    have xok := sld_ok HD.out.1 hxm
    obtain ⟨nb, no, hnA, hnb, hnc⟩ := name0_cell xok.1 hne
    change w.cell? ⟨nb, no, none⟩ = some (.string (nameOf x)) at hnc
    have xc1 := xok.1.1
    have xc2 := xok.1.2.1
    unfold maxLen at xc2
    have xp : 0 < x.names.length := List.length_pos_iff.2 hne
    have hnz := HD.out.2.2.1 x hxm
    rw [hnA] at e3
    have hnl := hgo.out.ids
    have HNum := Lib.hid (show ∀ X : World, Below wr.heap.size wr X → Calls Tryz.prog 86 #[.string (nameOf x), .agg #[.slice oA NO oc, .slice pA NP pc], .map (some bN), .map (some (bN + 1))] X (fun e w' => ∃ r, e = .returned (.int .i64 r) ∧ Hid (NumP old (nameOf x) L r) ∧ Below X.heap.size X w') from fun X hX => by
      have h := numberP_any (nameOf x) oA NO oc old pA pc bN (bN + 1) L X (HX.out X (hB.trans (hX.mono hB.size))).2.2.2.2.1 (fun y hy => (HI2.out y hy).1) (fun y hy => (HI2.out y hy).2) (hs1.keep (hX.block _ hs1.lt)) (by rw [Hi2.out]; exact hs2.keep (hX.block _ hs2.lt)) hnz (by
        rw [List.length_append, List.length_map, HNP.out]
        rw [← Hi1.out, List.length_map, HND.out, List.length_take] at hnl
        omega)
      rwa [HNP.out] at h)
    have HSX := Lib.hid (show ∀ X : World, Below wr.heap.size wr X → X.cell? ⟨gb, k * 11 + 3, none⟩ = some (.slice (some ⟨nb, no, none⟩) x.names.length x.nc) ∧ X.cell? ⟨nb, no, none⟩ = some (.string (nameOf x)) ∧ X.cell? ⟨w.heap.size + 1, 0, none⟩ = some (.slice oA NO oc) ∧ X.cell? ⟨w.heap.size + 1, 1, none⟩ = some (.slice pA NP pc) from fun X hX => by
      have h3 := (HX.out X (hB.trans (hX.mono hB.size))).2.2.2.2.2.2.1
      exact ⟨(hX.cell (p := ⟨gb, _, none⟩) hgz).trans e3, ((HX.out X (hB.trans (hX.mono hB.size))).1.cell (p := ⟨nb, _, none⟩) hnb).trans hnc, cell_of_row X _ 0 _ _ (0, 0) h3, cell_of_row X _ 1 _ _ (0, 0) h3⟩)
    have HSY := Lib.hid (show ∀ (X : World) (v : Value), Below wr.heap.size wr X → (X.setCell ⟨gb, k * 11, none⟩ v).cell? ⟨gb, k * 11 + 3, none⟩ = some (.slice (some ⟨nb, no, none⟩) x.names.length x.nc) ∧ (X.setCell ⟨gb, k * 11, none⟩ v).cell? ⟨nb, no, none⟩ = some (.string (nameOf x)) ∧ (X.setCell ⟨gb, k * 11, none⟩ v).cell? ⟨w.heap.size + 1, 0, none⟩ = some (.slice oA NO oc) ∧ (X.setCell ⟨gb, k * 11, none⟩ v).cell? ⟨w.heap.size + 1, 1, none⟩ = some (.slice pA NP pc) from fun X v hX => by
      obtain ⟨a, b, c, d⟩ := HSX.out X hX
      have hz := HD.out.2.2.2
      have hw := HbW.out
      have hg := HG7.out
      have hnb' : nb ≠ gb := by omega
      refine ⟨(World.cell?_setCell_other _ _ _ _ (by intro e; simp only [Addr.mk.injEq, true_and, and_true] at e; omega)).trans a, (World.cell?_setCell_other _ _ _ _ (by intro e; simp only [Addr.mk.injEq] at e; exact hnb' e.1.symm)).trans b, (World.cell?_setCell_other _ _ _ _ (by intro e; simp only [Addr.mk.injEq] at e; omega)).trans c, (World.cell?_setCell_other _ _ _ _ (by intro e; simp only [Addr.mk.injEq] at e; omega)).trans d⟩)
    have HT := Lib.hid (And.intro hgo.out (And.intro hs1 (And.intro hs2 (And.intro hB (And.intro hrow (And.intro hgz (And.intro hat (And.intro hdr (And.intro htk (And.intro hesl HG))))))))))
    have HNl := Lib.hid (show (L.map keyI).length < 1000000 by
      rw [List.length_map]
      rw [← Hi1.out, List.length_map, HND.out, List.length_take] at hnl
      omega)
    have h0' : (x.id == 0) = true := by simpa using h0
    have H00 := Lib.hid h0
    have HFz := Lib.hid (show ∀ X : World, Below wr.heap.size wr X → X.frozen? ⟨gb, k * 11, none⟩ = false ∧ X.cell? ⟨gb, k * 11, none⟩ = some (.int .i64 x.id) from fun X hX => by
      have h := hX.block gb hgz
      refine ⟨?_, (World.cell?_of_block h).trans e0⟩
      rw [← f0]
      unfold World.frozen?
      rw [h])
    have xp1 : (0 : Int) < (x.names.length : Int) := by omega
    have y3 := (HSX.out wr (Below.refl _ _)).1
    generalize x.names.length = nx at e3 y3 xc1 xp xp1 HSX HSY
    obtain ⟨_, y4, y5, y6⟩ := HSX.out wr (Below.refl _ _)
    clear hgo hs1 hs2 hB hrow hgz hat hdr htk hBw hsp ha3 hx hnl xok hnb hnc e3 h0 hesl hnz HG
    go_upto_region 24 with fail
    go_cut [79] (fun s wx => ∃ r, s = .int .i64 r ∧ Hid (NumP old (nameOf x) L r) ∧ UpdD wr gb (k * 11) (.int .i64 r) wx)
    case first =>
      go_region_held3 (fun X => X.cell? ⟨gb, k * 11 + 3, none⟩ = some (.slice (some ⟨nb, no, none⟩) nx x.nc) ∧ X.cell? ⟨nb, no, none⟩ = some (.string (nameOf x)) ∧ X.cell? ⟨w.heap.size + 1, 0, none⟩ = some (.slice oA NO oc) ∧ X.cell? ⟨w.heap.size + 1, 1, none⟩ = some (.slice pA NP pc))
        (first | exact HSX.out _ (below_drewK (Below.refl _ _)) | exact HSX.out _ hbb | exact HSY.out _ _ hbb)
        (first | (go_at_call 86; refine (HNum.out _ (below_drewK (Below.refl _ _))).mono ?_; rintro e w3 ⟨r, rfl, hnp, hb3⟩; have hbb : Below wr.heap.size wr w3 := (below_drewK (Below.refl wr.heap.size wr)).trans (hb3.mono (Nat.le_refl _)); have hf3 : w3.frozen? ⟨gb, k * 11, none⟩ = false := (HFz.out _ hbb).1; have hc3 : w3.cell? ⟨gb, k * 11, none⟩ = some (.int .i64 x.id) := (HFz.out _ hbb).2))
      all_goals (
        (try go_wp2)
        go_meet
        exact ⟨r, rfl, hnp, UpdD.congr (UpdD.of hbb) rfl rfl rfl rfl⟩)
    case rest =>
    obtain ⟨r, _, hnp, hup⟩ := hcut
    obtain ⟨W5, rfl⟩ : ∃ q, q = wc := ⟨_, rfl⟩
    obtain ⟨hgo, hs1, hs2, hB, hrow, hgz, hat, hdr, htk, hesl, HG⟩ := HT.out
    have hgw := HG7.out
    have hbw := HbW.out
    have hr := hnp.out.new fun y hy => (HI2.out y hy).2
    have hk5 : ∀ q, q ≠ gb → q < wr.heap.size → W5.heap[q]? = wr.heap[q]? := fun q hq hz => (hup.2.2.2.2 q hz).trans (heap_setCell_other _ _ _ _ (by simpa using hq))
    have hrow5 : RowD W5 gb ((es ++ [{ x with id := r }]) ++ ds.drop (k + 1)) := by
      have h := (hrow.set hat r).keep (hup.2.2.2.2 gb hgz)
      rw [hdr, set_mid hesl] at h
      exact h
    have e0 : W5.cell? ⟨gb, k * 11, none⟩ = some (.int .i64 r) := by
      refine (hrow5 k { x with id := r } ?_ 0 _ rfl).1
      rw [List.append_assoc, List.getElem?_append_right (by omega), hesl, Nat.sub_self]
      rfl
    have hB5 : Below W0.heap.size W0 W5 := ⟨hup.1.trans hB.os, hup.2.1.trans hB.tape, hup.2.2.1.trans hB.output, Nat.le_trans hB.size hup.2.2.2.1, fun q hq => (hk5 q (by omega) (by have := hB.size; omega)).trans (hB.block q hq)⟩
    have hs1' := hs1.keep (hk5 bN (by omega) hs1.lt)
    have hs2' := hs2.keep (hk5 (bN + 1) (by omega) hs2.lt)
    have HN := Lib.hid (hgo.snoc (x := x) (x' := { x with id := r }) (L2 := L ++ [r]) (.inr ⟨H00.out, r, hnp.out, rfl, rfl⟩))
    rw [← htk] at HN
    have HT5 := Lib.hid (And.intro hs1' (And.intro hs2' (And.intro hB5 (And.intro hrow5 (And.intro (Nat.lt_of_lt_of_le hgz hup.2.2.2.1) (And.intro (wfI ⟨by omega, hr.2.1⟩) HG))))))
    clear hnp hup hgo hs1 hs2 hB hrow hgz hat hdr htk hesl HG hk5 hrow5 hB5 hs1' hs2' y3 y4 y5 y6 hr
    go_wp2_with (at_mapUpdate; refine wpList_setAdd _ rfl _ _ _ 119 rfl 3 intKeyed Tryz.underlying119 bN (L.map keyI) rfl HT5.out.1 HNl.out _ (keyI r) rfl rfl (keyI_of HT5.out.2.2.2.2.2.1) ?_; intro w6' hset6 hg6)
    go_roundg (ND - (k + 1))
    case measure => rw [HT5.out.2.2.2.2.2.2]; omega
    case rel =>
      have hgw := HG7.out
      have hbw := HbW.out
      have hz6 := hg6.size
      have hgz := HT5.out.2.2.2.2.1
      refine ⟨k + 1, es ++ [{ x with id := r }], L ++ [r], rfl, by omega, by go_num, HN, by simpa using hset6, HT5.out.2.1.keep (hg6.block _ HT5.out.2.1.lt (by simp)), HT5.out.2.2.1.grown hg6 HT5.out.2.2.1.size (fun q hq => by cases hq; omega), HT5.out.2.2.2.1.keep (hg6.block _ hgz (by simp; omega)), by omega⟩
  have hkN : ND = k := by omega
  subst hkN
  have hes : RowD wr gb es := by
    rw [List.drop_of_length_le (by rw [HND.out]; exact Nat.le_refl _), List.append_nil] at hrow
    exact hrow
  have hgo' : NGo old i1 ds es L := by
    have h := hgo.out
    rwa [List.take_of_length_le (by rw [HND.out]; exact Nat.le_refl _)] at h
  have hso := sortStableD_any es gb cc wr hes hgz (by omega)
  rw [hesl] at hso
  have HSo := Lib.hid hso
  have HT := Lib.hid (And.intro hgo' (And.intro hB (And.intro hgz hesl)))
  have i2' : decide ((ND : Int) < (ND : Int)) = false := by simp
  have i3' : decide (ND < ND) = false := by simp
  obtain ⟨w8, rfl⟩ : ∃ q, q = wr := ⟨_, rfl⟩
  clear hgo hgo' hs1 hs2 hB hrow hes hso hgz hesl HG
  go_wp2_with fail
  refine HSo.out.mono ?_
  rintro e w9 ⟨rfl, fs, hsrt, hrow9, hg9⟩
  have hgw := HG7.out
  have hbw := HbW.out
  have hB9 : Below W0.heap.size W0 w9 := HT.out.2.1.grown hg9 HT.out.2.1.size (fun q hq => by cases hq; omega)
  have hz9 := hg9.size
  have hgz := HT.out.2.2.1
  have HF9 := Lib.hid (And.intro hsrt (And.intro hrow9 (show gb < w9.heap.size by omega)))
  have HG9 := Lib.hid (show w.heap.size + 1 + 1 < gb by have := HD.out.2.2.2; omega)
  obtain ⟨hBx, _, _, _, _, ha2, _, hr, _⟩ := HX.out w9 hB9
  have x0 : w9.cell? ⟨w.heap.size, 0, none⟩ = some (.slice uA NU uc) := cell_of_row w9 _ 0 _ _ (0, 0) ha2
  clear hsrt hrow9 hg9 hgw hbw hB9 hz9 hgz ha2
  have HS := Lib.hid (pair_set hr (.slice uA NU uc) (.slice (some ⟨gb, 0, none⟩) ND cc))
  obtain ⟨y0, y1, z0, z1⟩ := row2 hr
  have HBx := Lib.hid hBx
  clear hr hBx
  go_wp2
  obtain ⟨W9, hW9, s0, s1, hBf, hsz, hbk⟩ := out2 HS.out HBx.out (show w.heap.size ≤ w.heap.size + 1 + 1 by omega)
  rw [hW9]
  refine bodyPost_ret (v := .tuple #[.agg #[.slice uA NU uc, .slice (some ⟨gb, 0, none⟩) ND cc], .int .i64 0]) (by simp [results, Tryz.results34, go_sem, s0, s1]) rfl ?_
  have hfl : fs.length = ND := HF9.out.1.1.length_eq.trans HT.out.2.2.2
  have hg9 := HG9.out
  refine ⟨hBf, .inr ⟨HDE2.out, some ⟨gb, 0, none⟩, cc, fs, ⟨es, L, by rw [Hi1.out]; exact HT.out.1, HF9.out.1⟩, hfl, ?_, rfl⟩⟩
  refine (HF9.out.2.1.keep (hbk gb (by omega))).sld (by rw [hsz]; exact HF9.out.2.2) hBf (fun e he => ?_) (by rw [hfl]; exact HCc.out.1) HCc.out.2
  obtain ⟨x, hx, i, rfl⟩ := HT.out.1.mem e (HF9.out.1.1.subset he)
  have h : x.Ok w w.heap.size := sld_ok HD.out.1 hx
  exact ⟨h.1, h.2⟩
end Go.Proofs.YtacjjkbkhpdhnaaGreatDoor
