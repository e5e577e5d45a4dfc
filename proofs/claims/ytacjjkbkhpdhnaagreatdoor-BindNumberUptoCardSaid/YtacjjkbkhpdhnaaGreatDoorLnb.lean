/- law24.BindNumber -/
import Derived.Test.YtacjjkbkhpdhnaaGreatDoorNrd
import Derived.Test.YtacjjkbkhpdhnaaGreatDoorZqg
import Derived.Test.YtacjjkbkhpdhnaaGreatDoorZpn
import Derived.Test.YtacjjkbkhpdhnaaGreatDoorZll
import Derived.Test.YtacjjkbkhpdhnaaGreatDoorZpk
import Derived.Test.YtacjjkbkhpdhnaaGreatDoorZln
namespace Go.Proofs.YtacjjkbkhpdhnaaGreatDoor
open Go Go.RowKit Go.Proofs Go.Shelf
theorem eqDs_rfl : ∀ l : List Dc, EqDs l l
  | [] => trivial
  | _ :: r => ⟨⟨rfl, rfl, rfl, rfl, rfl, rfl, rfl, rfl, rfl, rfl, rfl⟩, eqDs_rfl r⟩
def NuG (E : Int) (P : List ByteArray → List Dc → Prop) (w : World) (e : Ending) (w' : World) : Prop :=
  Below w.heap.size w w' ∧ ∃ (u : List ByteArray) (a1 : Option Addr) (c1 : Nat) (l : List Dc) (a2 : Option Addr) (c2 : Nat), e = .returned (.tuple #[.agg #[.slice a1 u.length c1, .slice a2 l.length c2], .int .i64 E]) ∧ SlS w' w'.heap.size a1 c1 u ∧ SlD w' w'.heap.size a2 c2 l ∧ P u l
def NuP (E : Int) (u : List ByteArray) (ds old : List Dc) (v : List ByteArray) (l : List Dc) : Prop := (E ≠ 0 ∧ v = [] ∧ l = []) ∨ (E = 0 ∧ v = u ∧ NumG ds old l)
theorem numR_nuG {u : List ByteArray} {uA : Option Addr} {uc : Nat} {ds : List Dc} {u' : List ByteArray} {old : List Dc} {w : World} (hu : SlS w w.heap.size uA uc u) {e : Ending} {w' : World} (h : NumR u uA uc ds u' old w e w') : NuG (nbrE u ds u' old) (NuP (nbrE u ds u' old) u ds old) w e w' := by
  obtain ⟨hb, ⟨hE, rfl⟩ | ⟨hE, A, c, fs, hg, hl, hs, rfl⟩⟩ := h
  · exact ⟨hb, [], none, 0, [], none, 0, rfl, ⟨Nat.zero_le _, by decide, fun h => absurd rfl h⟩, ⟨Nat.zero_le _, by decide, fun h => absurd rfl h⟩, .inl ⟨hE, rfl, rfl⟩⟩
  · exact ⟨hb, u, uA, uc, fs, A, c, by rw [hl, hE], hu.keep hb.size (fun p hp => hb.cell hp), hs, .inr ⟨hE, rfl, hg⟩⟩
theorem nuP_eq {u : List ByteArray} {ds : List Dc} {u' : List ByteArray} {old : List Dc} {v v' : List ByteArray} {l l' : List Dc} (h : NuP (nbrE u ds u' old) u ds old v l) (h' : NuP (nbrE u ds u' old) u ds old v' l') : v = v' ∧ EqDs l l' := by
  rcases h with ⟨hE, rfl, rfl⟩ | ⟨hE, rfl, hg⟩
  · rcases h' with ⟨_, rfl, rfl⟩ | ⟨hE', _⟩
    · exact ⟨rfl, trivial⟩
    · exact absurd hE' hE
  · rcases h' with ⟨hE', _⟩ | ⟨_, rfl, hg'⟩
    · exact absurd hE hE'
    · unfold nbrE at hE
      by_cases h1 : srcDE v' ds = 0
      · rw [if_neg (by simpa using h1)] at hE
        have hd := rise_dis (sds_rise (srcDE_parts h1).2.2.2).1
        have ho : ∀ x ∈ old, 0 ≤ x.id ∧ x.id ≤ 999999 := fun x hx => by
          obtain ⟨a, b, _⟩ := sdE_parts (sdsE_mem (srcDE_parts hE).2.2.2 x hx)
          exact ⟨a, b⟩
        rw [NumG.uniq ho hd hg hg']
        exact ⟨rfl, eqDs_rfl _⟩
      · rw [if_pos h1] at hE
        exact absurd hE h1
theorem small_src {u : List ByteArray} {ds : List Dc} (hg : (greatU u || greatD ds) = false) (hc : ∀ x ∈ ds, x.s.count ≤ 2000000) : (∀ s ∈ u, s.size ≤ 1000) ∧ (∀ x ∈ ds, x.Sht) ∧ ds.length < 20 ∧ ∀ x ∈ ds, (nameOf x).size ≤ 1000 := by
  have h := (small_mod' (label := ⟨#[]⟩) (uses := u) (decls := ds) (by
    unfold greatM
    rw [Bool.or_assoc, hg]
    rfl) hc).1
  refine ⟨h.2.1, h.2.2, ?_, fun x hx => ?_⟩
  · rw [Bool.or_eq_false_iff] at hg
    have h2 := hg.2
    unfold greatD at h2
    rw [Bool.or_eq_false_iff] at h2
    have h3 := of_decide_eq_false h2.1
    omega
  · have h4 := (h.2.2 x hx).2.2.2
    unfold nameOf
    cases hn : x.names with
    | nil => exact Nat.zero_le _
    | cons s r => exact h4 s (by rw [hn]; simp)
set_option maxRecDepth 100000 in
set_option maxHeartbeats 16000000 in
theorem lawNumber_any (u : List ByteArray) (uA : Option Addr) (uc : Nat) (ds : List Dc) (dA : Option Addr) (dc : Nat) (u' : List ByteArray) (oA : Option Addr) (oc : Nat) (old : List Dc) (pA : Option Addr) (pc : Nat) (w : World)
    (hu : SlS w w.heap.size uA uc u) (hd : SlD w w.heap.size dA dc ds) (hds : ∀ x ∈ ds, Dc.Str x) (hcn : ∀ x ∈ ds, x.s.count ≤ 2000000) (hu' : SlS w w.heap.size oA oc u') (hp : SlD w w.heap.size pA pc old) (hds' : ∀ x ∈ old, Dc.Str x) (hcn' : ∀ x ∈ old, x.s.count ≤ 2000000) :
    Calls Tryz.prog 7 #[.agg #[.slice uA u.length uc, .slice dA ds.length dc], .agg #[.slice oA u'.length oc, .slice pA old.length pc]] w fun e w' => e = .returned (.bool true) ∧ Below w.heap.size w w' := by
  obtain ⟨M, HM⟩ : ∃ Q, Hid (u.length = Q) := ⟨_, Lib.hid rfl⟩
  obtain ⟨N, HN⟩ : ∃ Q, Hid (ds.length = Q) := ⟨_, Lib.hid rfl⟩
  obtain ⟨M', HM'⟩ : ∃ Q, Hid (u'.length = Q) := ⟨_, Lib.hid rfl⟩
  obtain ⟨N', HN'⟩ : ∃ Q, Hid (old.length = Q) := ⟨_, Lib.hid rfl⟩
  rw [HM.out, HN.out, HM'.out, HN'.out]
  obtain ⟨W0, hW0⟩ : ∃ W0, (w.alloc (.cells #[.slice uA M uc, .slice dA N dc] 40)).alloc (.cells #[.slice oA M' oc, .slice pA N' pc] 40) = W0 := ⟨_, rfl⟩
  have hb0 : Below w.heap.size w W0 := by rw [← hW0]; exact ((Below.refl _ _).alloc (Nat.le_refl _) _).alloc (by simp) _
  have hz0 : w.heap.size + 1 < W0.heap.size := by rw [← hW0]; simp
  have hf0 : W0.heap[w.heap.size]? = some (.cells #[.slice uA M uc, .slice dA N dc] 40 (0, 0)) := by rw [← hW0]; exact (Below.heap_alloc _ _ _ (by simp)).trans (heap_alloc_new w _)
  have hm0 : W0.heap[w.heap.size + 1]? = some (.cells #[.slice oA M' oc, .slice pA N' pc] 40 (0, 0)) := by
    have h := heap_alloc_new (w.alloc (.cells #[.slice uA M uc, .slice dA N dc] 40)) (.cells #[.slice oA M' oc, .slice pA N' pc] 40)
    rw [hW0] at h
    simpa using h
  have HX := Lib.hid (show ∀ X : World, Below W0.heap.size W0 X → Below w.heap.size w X ∧ SlS X X.heap.size uA uc u ∧ SlD X X.heap.size dA dc ds ∧ SlS X X.heap.size oA oc u' ∧ SlD X X.heap.size pA pc old from fun X hX => by
    have h1 := hb0.trans (hX.mono hb0.size)
    exact ⟨h1, hu.keep h1.size (fun p hp => h1.cell hp), hd.keep h1.size (fun p hp => h1.cell hp), hu'.keep h1.size (fun p hp => h1.cell hp), hp.keep h1.size (fun p hp => h1.cell hp)⟩)
  have HC := Lib.hid (show ∀ X : World, Below W0.heap.size W0 X → X.cell? ⟨w.heap.size, 0, none⟩ = some (.slice uA M uc) ∧ X.cell? ⟨w.heap.size, 1, none⟩ = some (.slice dA N dc) ∧ X.cell? ⟨w.heap.size + 1, 0, none⟩ = some (.slice oA M' oc) ∧ X.cell? ⟨w.heap.size + 1, 1, none⟩ = some (.slice pA N' pc) from fun X hX => by
    have h1 := (hX.block _ (by omega)).trans hf0
    have h2 := (hX.block _ hz0).trans hm0
    exact ⟨cell_of_row X _ 0 _ _ (0, 0) h1, cell_of_row X _ 1 _ _ (0, 0) h1, cell_of_row X _ 0 _ _ (0, 0) h2, cell_of_row X _ 1 _ _ (0, 0) h2⟩)
  obtain ⟨g1, Hg1⟩ : ∃ Q, Hid ((greatU u || greatD ds) = Q) := ⟨_, Lib.hid rfl⟩
  obtain ⟨g2, Hg2⟩ : ∃ Q, Hid ((greatU u' || greatD old) = Q) := ⟨_, Lib.hid rfl⟩
  have HG1 := Lib.hid (show ∀ X : World, Below W0.heap.size W0 X → Calls Tryz.prog 33 #[.agg #[.slice uA M uc, .slice dA N dc]] X (fun e Y => e = .returned (.bool g1) ∧ Below W0.heap.size W0 Y) from fun X hX => by
    have h := greatSource_any u uA uc ds dA dc X (HX.out X hX).2.1 (HX.out X hX).2.2.1
    rw [HM.out, HN.out, Hg1.out] at h
    exact h.mono fun _ _ ⟨h1, h2⟩ => ⟨h1, hX.trans (h2.mono hX.size)⟩)
  have HG2 := Lib.hid (show ∀ X : World, Below W0.heap.size W0 X → Calls Tryz.prog 33 #[.agg #[.slice oA M' oc, .slice pA N' pc]] X (fun e Y => e = .returned (.bool g2) ∧ Below W0.heap.size W0 Y) from fun X hX => by
    have h := greatSource_any u' oA oc old pA pc X (HX.out X hX).2.2.2.1 (HX.out X hX).2.2.2.2
    rw [HM'.out, HN'.out, Hg2.out] at h
    exact h.mono fun _ _ ⟨h1, h2⟩ => ⟨h1, hX.trans (h2.mono hX.size)⟩)
  have HAw := Lib.hid (show ∀ X : World, Below W0.heap.size W0 X → Calls Tryz.prog 11 #[] X (fun e Y => e = .returned (.bool true) ∧ Below w.heap.size w Y) from fun X hX => (awake24_any X).mono fun _ _ ⟨h1, h2⟩ => ⟨h1, (HX.out X hX).1.trans (h2.mono (HX.out X hX).1.size)⟩)
  have HD := Lib.hid (And.intro hcn (And.intro hcn' (And.intro (show StrD ds from fun x hx => (hds x hx).1) (show StrD old from fun x hx => (hds' x hx).1))))
  obtain ⟨x0, x1, x2, x3⟩ := HC.out W0 (Below.refl _ _)
  clear hu hd hds hcn hu' hp hds' hcn' hb0 hz0 hf0 hm0
  go_enter Tryz.func7, Tryz.ntmps7
  go_wp2_with fail
  refine (HG1.out _ (Below.refl _ _)).mono ?_
  rintro e w1 ⟨rfl, hb1⟩
  clear hW0 x0 x1 x2 x3
  cases g1 with
  | true =>
    have HA := Lib.hid (HAw.out w1 hb1)
    clear hb1
    go_wp2_with fail
    refine HA.out.mono ?_
    rintro e w2 ⟨rfl, hb2⟩
    have HB2 := Lib.hid hb2
    clear hb2
    go_wp2
    go_ret
    exact ⟨rfl, HB2.out⟩
  | false =>
  have H2 := Lib.hid (HG2.out w1 hb1)
  obtain ⟨_, _, x2, x3⟩ := HC.out w1 hb1
  clear hb1
  go_wp2_with fail
  refine H2.out.mono ?_
  rintro e w2 ⟨rfl, hb2⟩
  clear H2 x2 x3
  cases g2 with
  | true =>
    have HA := Lib.hid (HAw.out w2 hb2)
    clear hb2
    go_wp2_with fail
    refine HA.out.mono ?_
    rintro e w3 ⟨rfl, hb3⟩
    have HB3 := Lib.hid hb3
    clear hb3
    go_wp2
    go_ret
    exact ⟨rfl, HB3.out⟩
  | false =>
  have HS1 := Lib.hid (small_src Hg1.out HD.out.1)
  have HS2 := Lib.hid (small_src Hg2.out HD.out.2.1)
  have HNu := Lib.hid (show ∀ X : World, Below W0.heap.size W0 X → Calls Tryz.prog 34 #[.agg #[.slice uA M uc, .slice dA N dc], .agg #[.slice oA M' oc, .slice pA N' pc]] X (NuG (nbrE u ds u' old) (NuP (nbrE u ds u' old) u ds old) X) from fun X hX => by
    obtain ⟨_, h1, h2, h3, h4⟩ := HX.out X hX
    have h := bNumber_any u uA uc ds dA dc u' oA oc old pA pc X h1 h2 HD.out.2.2.1 h3 h4 HD.out.2.2.2 HS1.out.2.2.2 HS1.out.2.2.1
    rw [HM.out, HN.out, HM'.out, HN'.out] at h
    exact h.mono fun e w' h => numR_nuG h1 h)
  have HNr := Lib.hid (show ∀ X : World, Below W0.heap.size W0 X → Calls Tryz.prog 35 #[.agg #[.slice uA M uc, .slice dA N dc], .agg #[.slice oA M' oc, .slice pA N' pc]] X (NuG (nbrE u ds u' old) (NuP (nbrE u ds u' old) u ds old) X) from fun X hX => by
    obtain ⟨_, h1, h2, h3, h4⟩ := HX.out X hX
    have h := number24S_any u uA uc ds dA dc u' oA oc old pA pc X h1 h2 HS1.out.1 HS1.out.2.1 h3 h4 HS2.out.1 HS2.out.2.1 HS1.out.2.2.2
    rw [HM.out, HN.out, HM'.out, HN'.out] at h
    exact h.mono fun e w' h => numR_nuG h1 h)
  obtain ⟨x0, x1, x2, x3⟩ := HC.out w2 hb2
  have HC1 := Lib.hid (HNu.out w2 hb2)
  have HB2 := Lib.hid hb2
  obtain ⟨E, HE⟩ : ∃ q, Hid (nbrE u ds u' old = q) := ⟨_, Lib.hid rfl⟩
  rw [HE.out] at HC1
  simp only [HE.out] at HNr
  clear hb2
  go_wp2_with fail
  refine HC1.out.mono ?_
  rintro e w3 ⟨hb3, u1, a1, s1, l1, d1, t1, rfl, hu1, hd1, hP1⟩
  obtain ⟨V3, hV3⟩ : ∃ q, w3.alloc (.cells #[.slice a1 u1.length s1, .slice d1 l1.length t1] 40) = q := ⟨_, rfl⟩
  have hbV3 : Below w3.heap.size w3 V3 := by rw [← hV3]; exact (Below.refl _ _).alloc (Nat.le_refl _) _
  have hrV3 : V3.heap[w3.heap.size]? = some (.cells #[.slice a1 u1.length s1, .slice d1 l1.length t1] 40 (0, 0)) := by rw [← hV3]; exact heap_alloc_new _ _
  have hzV3 : w3.heap.size < V3.heap.size := by rw [← hV3]; simp
  have hB3 := HB2.out.trans ((hb3.trans (hbV3.mono hb3.size)).mono HB2.out.size)
  have HF1 := Lib.hid (show ∀ X : World, Below V3.heap.size V3 X → Below W0.heap.size W0 X ∧ X.cell? ⟨w3.heap.size, 0, none⟩ = some (.slice a1 u1.length s1) ∧ X.cell? ⟨w3.heap.size, 1, none⟩ = some (.slice d1 l1.length t1) ∧ SlS X X.heap.size a1 s1 u1 ∧ SlD X X.heap.size d1 t1 l1 from fun X hX => by
    have h1 := (hX.block _ hzV3).trans hrV3
    have h2 := hbV3.trans (hX.mono hbV3.size)
    exact ⟨hB3.trans (hX.mono hB3.size), cell_of_row X _ 0 _ _ (0, 0) h1, cell_of_row X _ 1 _ _ (0, 0) h1, hu1.keep h2.size (fun p hp => h2.cell hp), hd1.keep h2.size (fun p hp => h2.cell hp)⟩)
  have HP1 := Lib.hid hP1
  clear hb3 hu1 hd1 hP1 hbV3 hrV3 hzV3 hB3 x0 x1 x2 x3 HC1
  obtain ⟨x0, x1, x2, x3⟩ := HC.out V3 (HF1.out V3 (Below.refl _ _)).1
  have HC2 := Lib.hid (HNr.out V3 (HF1.out V3 (Below.refl _ _)).1)
  go_wp2_with fail
  refine HC2.out.mono ?_
  rintro e w4 ⟨hb4, u2, a2, s2, l2, d2, t2, rfl, hu2, hd2, hP2⟩
  have HQ1 := Lib.hid (show u1 = u2 ∧ EqDs l1 l2 from nuP_eq (u := u) (ds := ds) (u' := u') (old := old) (by rw [HE.out]; exact HP1.out) (by rw [HE.out]; exact hP2))
  obtain ⟨V4, hV4⟩ : ∃ q, w4.alloc (.cells #[.slice a2 u2.length s2, .slice d2 l2.length t2] 40) = q := ⟨_, rfl⟩
  have hbV4 : Below w4.heap.size w4 V4 := by rw [← hV4]; exact (Below.refl _ _).alloc (Nat.le_refl _) _
  have hrV4 : V4.heap[w4.heap.size]? = some (.cells #[.slice a2 u2.length s2, .slice d2 l2.length t2] 40 (0, 0)) := by rw [← hV4]; exact heap_alloc_new _ _
  have hzV4 : w4.heap.size < V4.heap.size := by rw [← hV4]; simp
  have hB4 := hb4.trans (hbV4.mono hb4.size)
  have HF2 := Lib.hid (show ∀ X : World, Below V4.heap.size V4 X → Below V3.heap.size V3 X ∧ X.cell? ⟨w4.heap.size, 0, none⟩ = some (.slice a2 u2.length s2) ∧ X.cell? ⟨w4.heap.size, 1, none⟩ = some (.slice d2 l2.length t2) ∧ SlS X X.heap.size a2 s2 u2 ∧ SlD X X.heap.size d2 t2 l2 from fun X hX => by
    have h1 := (hX.block _ hzV4).trans hrV4
    have h2 := hbV4.trans (hX.mono hbV4.size)
    exact ⟨hB4.trans (hX.mono hB4.size), cell_of_row X _ 0 _ _ (0, 0) h1, cell_of_row X _ 1 _ _ (0, 0) h1, hu2.keep h2.size (fun p hp => h2.cell hp), hd2.keep h2.size (fun p hp => h2.cell hp)⟩)
  clear hb4 hu2 hd2 hP2 hbV4 hrV4 hzV4 hB4 x0 x1 x2 x3 HC2 hV3 HP1
  obtain ⟨h63, y0, y1, hs3, hs4⟩ := HF2.out V4 (Below.refl _ _)
  obtain ⟨_, z0, z1, hs1, hs2⟩ := HF1.out V4 h63
  have hss := sameSource_any u1 u2 a1 s1 a2 s2 l1 l2 d1 t1 d2 t2 V4 hs1 hs3 hs2 hs4
  have HSS := Lib.hid hss
  clear h63 hs1 hs2 hs3 hs4 hss
  go_wp2_with fail
  refine HSS.out.mono ?_
  rintro e w8 ⟨b8, rfl, hb8i, hb8⟩
  have H8 := Lib.hid hb8
  obtain rfl : b8 = true := hb8i.2 HQ1.out
  clear hb8i hb8 y0 y1 z0 z1 HSS
  have HA := Lib.hid (HAw.out w8 (HF1.out w8 (HF2.out w8 H8.out).1).1)
  go_wp2_with fail
  refine HA.out.mono ?_
  rintro e w9 ⟨rfl, hb9⟩
  have HB9 := Lib.hid hb9
  clear hb9
  go_wp2
  go_ret
  exact ⟨rfl, HB9.out⟩
end Go.Proofs.YtacjjkbkhpdhnaaGreatDoor
