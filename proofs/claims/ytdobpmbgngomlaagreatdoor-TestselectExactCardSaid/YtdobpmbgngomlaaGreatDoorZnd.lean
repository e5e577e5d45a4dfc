/- ref50.Great; law50.small -/
import Derived.Test.YtdobpmbgngomlaaGreatDoorZlz
import Derived.Test.YtdobpmbgngomlaaGreatDoorZnc
import Derived.Deep.RegionHeld3
namespace Go.Proofs.YtdobpmbgngomlaaGreatDoor
open Go.RowKit Go.Proofs Go.Shelf

set_option maxRecDepth 100000 in
set_option maxHeartbeats 1000000 in
theorem great50_any (l : List Mo) (A : Option Addr) (c : Nat) (p : ByteArray) (i : Int) (cA : Option Addr) (nL cc : Nat) (k : ByteArray) (w : World) (hl : SlM w w.heap.size A c l) :
    Calls Tryz.prog 25 #[.slice A l.length c, .agg #[.string p, .int .i64 i, .slice cA nL cc, .string k]] w fun e w' => e = .returned (.bool (greatL l || decide (30 < nL) || decide (3000 < k.size))) ∧ Below w.heap.size w w' := by
  obtain ⟨W0, hW0⟩ : ∃ W0, w.alloc (.cells #[.string p, .int .i64 i, .slice cA nL cc, .string k] 54) = W0 := ⟨_, rfl⟩
  have hb0 : Below w.heap.size w W0 := by subst hW0; exact (Below.refl _ _).alloc (Nat.le_refl _) _
  have hz0 : w.heap.size < W0.heap.size := by subst hW0; simp
  have n2 : W0.cell? ⟨w.heap.size, 2, none⟩ = some (.slice cA nL cc) := by subst hW0; go_simp
  have n3 : W0.cell? ⟨w.heap.size, 3, none⟩ = some (.string k) := by subst hW0; go_simp
  have HG := Lib.hid (great40_any l A c W0 ((hl.below hb0).keep hb0.size (fun _ _ => rfl)))
  obtain ⟨g, Hg⟩ : ∃ Q, Hid (greatL l = Q) := ⟨_, Lib.hid rfl⟩
  obtain ⟨N, HN⟩ : ∃ Q, Hid (l.length = Q) := ⟨_, Lib.hid rfl⟩
  rw [HN.out, Hg.out] at HG
  rw [HN.out, Hg.out]
  have HB := Lib.hid (And.intro hb0 hz0)
  clear hl hb0 hz0
  go_enter Tryz.func25, Tryz.ntmps25
  go_wp2_with fail
  refine HG.out.mono ?_
  rintro e w1 ⟨rfl, hb1⟩
  have k2 := (hb1.cell (p := ⟨w.heap.size, 2, none⟩) HB.out.2).trans n2
  have k3 := (hb1.cell (p := ⟨w.heap.size, 3, none⟩) HB.out.2).trans n3
  have HB1 := Lib.hid (HB.out.1.trans (hb1.mono HB.out.1.size))
  clear hb1 n2 n3 hW0
  have e1 : decide ((30 : Int) < (nL : Int)) = decide (30 < nL) := decide_eq_decide.2 (by omega)
  have e2 : decide ((3000 : Int) < (k.size : Int)) = decide (3000 < k.size) := decide_eq_decide.2 (by omega)
  cases g with
  | true =>
    go_wp2
    go_ret
    exact ⟨by simp, HB1.out⟩
  | false =>
    by_cases h1 : 30 < nL
    · have d1 : decide (30 < nL) = true := decide_eq_true h1
      rw [d1] at e1
      go_wp2
      go_ret
      exact ⟨by simp [h1], HB1.out⟩
    · have d1 : decide (30 < nL) = false := decide_eq_false h1
      rw [d1] at e1
      by_cases h2 : 3000 < k.size
      · have d2 : decide (3000 < k.size) = true := decide_eq_true h2
        rw [d2] at e2
        go_wp2
        go_ret
        exact ⟨by simp [h1, h2], HB1.out⟩
      · have d2 : decide (3000 < k.size) = false := decide_eq_false h2
        rw [d2] at e2
        go_wp2
        go_ret
        exact ⟨by simp [h1, h2], HB1.out⟩
/-- A list of modules, as a value. -/
structure MS where
  A : Option Addr
  c : Nat
  l : List Mo
set_option maxRecDepth 100000 in
set_option maxHeartbeats 1000000 in
theorem small50_any (LL : List MS) (b : Nat) (w : World) (h : ∀ j x, LL[j]? = some x → w.cell? ⟨b, j, none⟩ = some (.slice x.A x.l.length x.c) ∧ SlM w w.heap.size x.A x.c x.l) (hb : b < w.heap.size) (hl : LL.length ≤ 10) :
    Calls Tryz.prog 19 #[.slice (some ⟨b, 0, none⟩) LL.length LL.length] w fun e w' => e = .returned (.bool (LL.all fun x => !greatL x.l)) ∧ Below w.heap.size w w' := by
  obtain ⟨N, HN⟩ : ∃ Q, Hid (LL.length = Q) := ⟨_, Lib.hid rfl⟩
  obtain ⟨E, HE⟩ : ∃ Q, Hid ((LL.all fun x => !greatL x.l) = Q) := ⟨_, Lib.hid rfl⟩
  have HH := Lib.hid h
  rw [HN.out] at hl ⊢
  rw [HE.out]
  clear h
  go_enter Tryz.func19, Tryz.ntmps19
  go_wp2
  go_loopg [4, 7] N (fun g _ ct wr => ∃ j : Nat, g = N - j ∧ j ≤ N ∧ ct = .int .i64 j ∧ ((LL.drop j).all fun x => !greatL x.l) = E ∧ Below w.heap.size w wr)
  case atStart => exact ⟨0, rfl, by omega, rfl, HE.out, Below.refl _ _⟩
  case round =>
    obtain ⟨j, HG, hj, rfl, hE, hB⟩ := hrel
    by_cases hlt : j < N
    · have hlt' : j < LL.length := by rw [HN.out]; exact hlt
      obtain ⟨x, hx⟩ : ∃ x, LL[j]? = some x := ⟨_, List.getElem?_eq_getElem hlt'⟩
      have hdr : LL.drop j = x :: LL.drop (j + 1) := by
        obtain ⟨_, rfl⟩ := List.getElem?_eq_some_iff.1 hx
        exact List.drop_eq_getElem_cons _
      rw [hdr, List.all_cons] at hE
      obtain ⟨hc0, hsl⟩ := HH.out j x hx
      have c0 := (hB.cell (p := ⟨b, j, none⟩) hb).trans hc0
      have x1 : (0 : Int) ≤ (j : Int) := by omega
      have x2 : (j : Int) < (N : Int) := by omega
      have HC := Lib.hid (great50_any x.l x.A x.c ⟨#[]⟩ 0 none 0 0 ⟨#[]⟩ wr ((hsl.below hB).keep hB.size (fun _ _ => rfl)))
      obtain ⟨g, Hg⟩ : ∃ Q, Hid (greatL x.l = Q) := ⟨_, Lib.hid rfl⟩
      rw [Hg.out] at HC hE
      have hgz : (g || decide (30 < 0) || decide (3000 < (⟨#[]⟩ : ByteArray).size)) = g := by cases g <;> decide
      rw [hgz] at HC
      have HC2 := HC
      clear hgz
      have HT := Lib.hid (And.intro HG (And.intro hE hB))
      clear HC HG hE hB hdr hsl hc0 hx
      cases g with
      | true =>
        go_wp2_with fail
        refine HC2.out.mono ?_
        rintro e w1 ⟨rfl, hb1⟩
        have HB1 := Lib.hid (HT.out.2.2.trans (hb1.mono HT.out.2.2.size))
        clear hb1 c0
        go_wp2
        go_ret
        exact ⟨by rw [← HT.out.2.1]; rfl, HB1.out⟩
      | false =>
        go_wp2_with fail
        refine HC2.out.mono ?_
        rintro e w1 ⟨rfl, hb1⟩
        have HB1 := Lib.hid (HT.out.2.2.trans (hb1.mono HT.out.2.2.size))
        clear hb1 c0
        go_wp2
        go_roundg (N - (j + 1))
        case measure => rw [HT.out.1]; omega
        case rel => exact ⟨j + 1, rfl, by omega, by go_num, by have := HT.out.2.1; simpa using this, HB1.out⟩
    · obtain rfl : j = N := by omega
      have HF := Lib.hid (show E = true by rw [← hE, List.drop_of_length_le (by rw [HN.out]; exact Nat.le_refl _)]; rfl)
      have HB := Lib.hid hB
      clear hE hB HG
      go_wp2
      go_ret
      exact ⟨by rw [HF.out]; rfl, HB.out⟩
end Go.Proofs.YtdobpmbgngomlaaGreatDoor
/- law50.awake: its modules, plainly -/
namespace Go.Proofs.YtdobpmbgngomlaaGreatDoor
open Go.RowKit Go.Proofs Go.Shelf

def aT1 : ByteArray × Int := (⟨#[109]⟩, 1)
def aF2 : ByteArray × Int := (⟨#[109]⟩, 2)
def aT3 : ByteArray × Int := (⟨#[109]⟩, 3)
def aD1 (nb : Nat) : Dc := ⟨1, 2, false, some ⟨nb, 0, none⟩, 1, [⟨#[116]⟩], false, 5, ⟨#[]⟩, ⟨#[]⟩, 2, 0, none, 0, .nil⟩
def aD2 (nb : Nat) (k : Int) : Dc := ⟨2, 1, false, some ⟨nb, 0, none⟩, 1, [⟨#[102]⟩], false, 2, ⟨#[]⟩, ⟨#[]⟩, k, 0, none, 0, .nil⟩
def aD3 (nb : Nat) : Dc := ⟨3, 2, false, some ⟨nb, 0, none⟩, 1, [⟨#[117]⟩], false, 2, ⟨#[]⟩, ⟨#[]⟩, 1, 0, none, 0, .nil⟩
def aMo (n1 n2 n3 db : Nat) (k : Int) : Mo := ⟨⟨#[109]⟩, none, 0, [], some ⟨db, 0, none⟩, 3, [aD1 n1, aD2 n2 k, aD3 n3]⟩
theorem a_chk0 (n1 n2 n3 db : Nat) : chkL [aMo n1 n2 n3 db 0] = 0 := by kernel_rfl
theorem a_chk1 (n1 n2 n3 db : Nat) : chkL [aMo n1 n2 n3 db 1] = 0 := by kernel_rfl
theorem a_great (n1 n2 n3 db : Nat) (k : Int) : greatL [aMo n1 n2 n3 db k] = false := by kernel_rfl
theorem a_uses1 (nb : Nat) : usesOf ⟨#[109]⟩ (aD1 nb).body = [aF2] := by
  have h : refL (aD1 nb).body.vis = [(⟨#[]⟩, 2)] := by kernel_rfl
  have h2 : fullN ⟨#[109]⟩ (⟨#[]⟩, 2) = aF2 := by kernel_rfl
  unfold usesOf ordN refsOf
  rw [h]
  simp [sortNames, compactL, dd, h2]
theorem a_uses2 (nb : Nat) (k : Int) : usesOf ⟨#[109]⟩ (aD2 nb k).body = [] := by
  have h : refL (aD2 nb k).body.vis = [] := by simp [refL, Dc.body, aD2, Fo.vis]
  unfold usesOf ordN refsOf
  rw [h]
  simp [sortNames, compactL]
theorem a_uses3 (nb : Nat) : usesOf ⟨#[109]⟩ (aD3 nb).body = [] := by
  have h : refL (aD3 nb).body.vis = [] := by simp [refL, Dc.body, aD3, Fo.vis]
  unfold usesOf ordN refsOf
  rw [h]
  simp [sortNames, compactL]
theorem a_body (n1 n2 n3 db : Nat) (k : Int) (n : ByteArray × Int) : bodyOf [aMo n1 n2 n3 db k] n = if n = aT1 then some (aD1 n1) else if n = aF2 then some (aD2 n2 k) else if n = aT3 then some (aD3 n3) else none := by
  obtain ⟨a, i⟩ := n
  unfold bodyOf bodyOf declAt aMo aT1 aF2 aT3
  simp only
  by_cases ha : (⟨#[109]⟩ : ByteArray) = a
  · subst ha
    rw [if_pos rfl]
    by_cases h1 : i = 1
    · subst h1; simp [aD1]
    · by_cases h2 : i = 2
      · subst h2; simp [aD1, aD2]
      · by_cases h3 : i = 3
        · subst h3; simp [aD1, aD2, aD3]
        · have e1 : ¬ (1 : Int) = i := fun e => h1 e.symm
          have e2 : ¬ (2 : Int) = i := fun e => h2 e.symm
          have e3 : ¬ (3 : Int) = i := fun e => h3 e.symm
          simp [aD1, aD2, aD3, h1, h2, h3, e1, e2, e3]
  · have ha' : ¬ a = ⟨#[109]⟩ := fun e => ha e.symm
    rw [if_neg ha]
    simp [ha']
theorem a_ne {i j : Int} (h : i ≠ j) : ((⟨#[109]⟩ : ByteArray), i) ≠ (⟨#[109]⟩, j) := fun e => h (congrArg Prod.snd e)
theorem a_ne21 : aF2 ≠ aT1 := a_ne (by decide)
theorem a_ne31 : aT3 ≠ aT1 := a_ne (by decide)
theorem a_ne32 : aT3 ≠ aF2 := a_ne (by decide)
theorem a_ne13 : aT1 ≠ aT3 := a_ne (by decide)
theorem a_ne23 : aF2 ≠ aT3 := a_ne (by decide)
theorem a_grf (n1 n2 n3 db : Nat) (k : Int) (n : ByteArray × Int) : grf [aMo n1 n2 n3 db k] n = if n = aT1 then some [aF2] else if n = aF2 then some [] else if n = aT3 then some [] else none := by
  unfold grf
  rw [a_body]
  by_cases h1 : n = aT1
  · rw [if_pos h1, if_pos h1, h1]
    exact congrArg some (a_uses1 n1)
  · rw [if_neg h1, if_neg h1]
    by_cases h2 : n = aF2
    · rw [if_pos h2, if_pos h2, h2]
      exact congrArg some (a_uses2 n2 k)
    · rw [if_neg h2, if_neg h2]
      by_cases h3 : n = aT3
      · rw [if_pos h3, if_pos h3, h3]
        exact congrArg some (a_uses3 n3)
      · rw [if_neg h3, if_neg h3]; rfl
theorem a_lt12 : ltN aT1 aF2 := .inr ⟨rfl, by decide⟩
theorem a_lt13 : ltN aT1 aT3 := .inr ⟨rfl, by decide⟩
theorem a_ok1 : NOk aT1 := ⟨by simp [aT1, maxLen, ByteArray.size], by decide⟩
theorem a_isT (n1 n2 n3 db : Nat) (k : Int) (n : ByteArray × Int) : isT [aMo n1 n2 n3 db k] n = true ↔ n = aT1 ∨ n = aT3 := by
  unfold isT
  rw [a_body]
  by_cases h1 : n = aT1
  · rw [if_pos h1]; simp [h1, tstO, aD1]
  · rw [if_neg h1]
    by_cases h2 : n = aF2
    · rw [if_pos h2]; simp [h2, tstO, aD2, a_ne21, a_ne23]
    · rw [if_neg h2]
      by_cases h3 : n = aT3
      · rw [if_pos h3]; simp [h3, tstO, aD3]
      · rw [if_neg h3]; simp [tstO, h1, h3]
theorem a_tests (n1 n2 n3 db : Nat) (k : Int) : testsOf [aMo n1 n2 n3 db k] = [aT1, aT3] := by
  refine ltN_ext (testsOf_sorted _) (List.pairwise_cons.2 ⟨fun x hx => by rw [List.mem_singleton.1 hx]; exact a_lt13, List.pairwise_singleton _ _⟩) fun x => ?_
  rw [mem_testsOf, a_isT]
  simp
theorem a_clo1 (n1 n2 n3 db : Nat) (k : Int) : Clo (grf [aMo n1 n2 n3 db k]) aT1 (some [aT1, aF2]) := by
  have hr : ∀ x, Reach (grf [aMo n1 n2 n3 db k]) aT1 x → x = aT1 ∨ x = aF2 := fun x hx => Reach.inside (p := fun x => x = aT1 ∨ x = aF2) (.inl rfl) (fun z us hz hus u hu => by
    rw [a_grf] at hus
    rcases hz with rfl | rfl
    · rw [if_pos rfl] at hus; cases hus; exact .inr (List.mem_singleton.1 hu)
    · rw [if_neg a_ne21, if_pos rfl] at hus; cases hus; simp at hu) hx
  refine ⟨List.pairwise_cons.2 ⟨fun x hx => by rw [List.mem_singleton.1 hx]; exact a_lt12, List.pairwise_singleton _ _⟩, fun x => ⟨fun hx => ?_, fun hx => ?_⟩, fun x hx => ?_⟩
  · rcases List.mem_cons.1 hx with rfl | hx
    · exact .refl
    · rw [List.mem_singleton.1 hx]
      exact Reach.refl.step (by rw [a_grf, if_pos rfl]) (List.mem_singleton.2 rfl)
  · rcases hr x hx with rfl | rfl <;> simp
  · rw [a_grf]
    rcases hr x hx with rfl | rfl
    · simp
    · rw [if_neg a_ne21]; simp
theorem a_clo3 (n1 n2 n3 db : Nat) (k : Int) : Clo (grf [aMo n1 n2 n3 db k]) aT3 (some [aT3]) := by
  have hr : ∀ x, Reach (grf [aMo n1 n2 n3 db k]) aT3 x → x = aT3 := fun x h => Reach.inside (p := fun x => x = aT3) rfl (fun z us hz hus u hu => by
    rw [hz, a_grf, if_neg a_ne31, if_neg a_ne32, if_pos rfl] at hus; cases hus; simp at hu) h
  refine ⟨List.pairwise_singleton _ _, fun x => ⟨fun hx => by rw [List.mem_singleton.1 hx]; exact .refl, fun hx => by rw [hr x hx]; simp⟩, fun x hx => ?_⟩
  rw [hr x hx, a_grf, if_neg a_ne31, if_neg a_ne32]; simp
theorem a_load0 (n1 n2 n3 db : Nat) : loadE [aMo n1 n2 n3 db 0] aT1 = 0 ∧ loadE [aMo n1 n2 n3 db 0] aT3 = 0 := by
  unfold loadE
  rw [a_chk0, a_body, a_body]
  exact ⟨by simp, by rw [if_neg a_ne31, if_neg a_ne32]; simp⟩
theorem a_load1 (n1 n2 n3 db : Nat) : loadE [aMo n1 n2 n3 db 1] aT1 = 0 ∧ loadE [aMo n1 n2 n3 db 1] aT3 = 0 := by
  unfold loadE
  rw [a_chk1, a_body, a_body]
  exact ⟨by simp, by rw [if_neg a_ne31, if_neg a_ne32]; simp⟩
theorem a_W (n1 n2 n3 db : Nat) (k : Int) : MoW [aMo n1 n2 n3 db k] := by
  intro m hm
  rw [List.mem_singleton.1 hm]
  refine ⟨by simp [aMo, maxLen, ByteArray.size], fun d hd => ?_⟩
  simp only [aMo, List.mem_cons, List.not_mem_nil, or_false] at hd
  rcases hd with rfl | rfl | rfl <;> rfl
/-- The certificate's text. -/
def aKey : ByteArray := certT [aMo 0 0 0 0 0] aT1 [aT1, aF2]
theorem a_key0 (n1 n2 n3 db : Nat) : certT [aMo n1 n2 n3 db 0] aT1 [aT1, aF2] = aKey := by kernel_rfl
theorem a_key1 (n1 n2 n3 db : Nat) : certT [aMo n1 n2 n3 db 1] aT1 [aT1, aF2] ≠ aKey := by
  intro h
  have h2 : ((certT [aMo n1 n2 n3 db 1] aT1 [aT1, aF2]).data.toList == aKey.data.toList) = false := by kernel_rfl
  rw [h] at h2
  simp at h2
theorem a_key3 (n1 n2 n3 db m1 m2 m3 mb : Nat) : certT [aMo n1 n2 n3 db 0] aT3 [aT3] = certT [aMo m1 m2 m3 mb 1] aT3 [aT3] := by kernel_rfl
theorem a_cert (n1 n2 n3 db : Nat) : CertV [aMo n1 n2 n3 db 0] aT1 0 (some [aT1, aF2]) :=
  .inr (.inr (.inr ⟨(a_load0 n1 n2 n3 db).1, _, a_clo1 n1 n2 n3 db 0, (a_isT n1 n2 n3 db 0 _).2 (.inl rfl), rfl, rfl⟩))
theorem a_ver0 {n1 n2 n3 db : Nat} {b : Bool} (h : VerV [aMo n1 n2 n3 db 0] aT1 [aT1, aF2] aKey b) : b = true := h.2 ⟨a_cert n1 n2 n3 db, a_key0 n1 n2 n3 db⟩
theorem a_ver1 {n1 n2 n3 db : Nat} {b : Bool} (h : VerV [aMo n1 n2 n3 db 1] aT1 [aT1, aF2] aKey b) : b = false := by
  cases b with
  | false => rfl
  | true => exact absurd (h.1 rfl).2 (a_key1 n1 n2 n3 db)
theorem a_sel {n1 n2 n3 db m1 m2 m3 mb : Nat} {f : ByteArray × Int → Bool} (hf : ∀ n, f n = true ↔ ReB [aMo n1 n2 n3 db 0] [aMo m1 m2 m3 mb 1] n) : f aT1 = false ∧ f aT3 = true := by
  constructor
  · cases h : f aT1 with
    | false => rfl
    | true =>
      obtain ⟨_, k, h1, h2⟩ := (hf _).1 h
      obtain ⟨_, L, h3, rfl⟩ := h1.ok
      obtain ⟨_, L', h4, h5⟩ := h2.ok
      have := h3.unique (a_clo1 n1 n2 n3 db 0); cases this
      have := h4.unique (a_clo1 m1 m2 m3 mb 1); cases this
      rw [a_key0] at h5
      exact absurd h5.symm (a_key1 m1 m2 m3 mb)
  · rw [hf]
    exact ⟨(a_isT n1 n2 n3 db 0 _).2 (.inr rfl), _, .inr (.inr ⟨(a_load0 n1 n2 n3 db).2, _, a_clo3 n1 n2 n3 db 0, rfl, rfl⟩), .inr (.inr ⟨(a_load1 m1 m2 m3 mb).2, _, a_clo3 m1 m2 m3 mb 1, a_key3 n1 n2 n3 db m1 m2 m3 mb, rfl⟩)⟩
end Go.Proofs.YtdobpmbgngomlaaGreatDoor
/- law50.awake is true -/
namespace Go.Proofs.YtdobpmbgngomlaaGreatDoor
open Go.RowKit Go.Proofs Go.Shelf

theorem heap_push2 (w : World) (o : Obj) (k : Nat) : (w.alloc o).heap[k]? = if k = w.heap.size then some o else w.heap[k]? := by
  by_cases h : k = w.heap.size
  · subst h
    rw [if_pos rfl]
    exact heap_alloc_new w o
  · rw [if_neg h]
    by_cases h2 : k < w.heap.size
    · exact Below.heap_alloc _ _ _ h2
    · rw [Array.getElem?_eq_none (by simp; omega), Array.getElem?_eq_none (by omega)]
theorem bel_row2 {w w' : World} (h : Below w.heap.size w w') {k : Nat} {o : Obj} (hk : w.heap[k]? = some o) : w'.heap[k]? = some o :=
  (h.block k (Array.getElem?_eq_some_iff.1 hk).1).trans hk
theorem a_slS {X : World} {nb : Nat} {nm : ByteArray} (h : X.heap[nb]? = some (.cells #[.string nm] 9 (0, 0))) : SlS X X.heap.size (some ⟨nb, 0, none⟩) 1 [nm] := by
  refine ⟨by simp, by simp [maxLen], fun _ => ⟨_, _, rfl, (Array.getElem?_eq_some_iff.1 h).1, fun j s hj => ?_⟩⟩
  cases j with
  | succ j => simp at hj
  | zero => simp at hj; subst hj; exact cell_of_row X nb 0 _ _ (0, 0) h
def aDb (n1 n2 n3 : Nat) (k : Int) : Obj := .cells #[.int .i64 1, .int .i64 2, .bool false, .slice (some ⟨n1, 0, none⟩) 1 1, .bool false, .int .i64 5, .string ⟨#[]⟩, .string ⟨#[]⟩, .int .i64 2, .int .i64 0, .slice none 0 0,
  .int .i64 2, .int .i64 1, .bool false, .slice (some ⟨n2, 0, none⟩) 1 1, .bool false, .int .i64 2, .string ⟨#[]⟩, .string ⟨#[]⟩, .int .i64 k, .int .i64 0, .slice none 0 0,
  .int .i64 3, .int .i64 2, .bool false, .slice (some ⟨n3, 0, none⟩) 1 1, .bool false, .int .i64 2, .string ⟨#[]⟩, .string ⟨#[]⟩, .int .i64 1, .int .i64 0, .slice none 0 0] 44
def aMb (db : Nat) : Obj := .cells #[.string ⟨#[109]⟩, .slice none 0 0, .slice (some ⟨db, 0, none⟩) 3 3] 41
theorem a_decl {X : World} {db nb q0 : Nat} {d : Dc} {nm : ByteArray} (hcells : ∀ q v, d.cells[q]? = some v → X.cell? ⟨db, q0 + q, none⟩ = some v) (hn : d.names = [nm]) (hA : d.nA = some ⟨nb, 0, none⟩) (hc : d.nc = 1) (hs : d.s = .nil) (hsA : d.c = 0) (h1 : X.heap[nb]? = some (.cells #[.string nm] 9 (0, 0))) :
    (∀ q v, d.cells[q]? = some v → X.cell? ⟨db, q0 + q, none⟩ = some v) ∧ SlS X X.heap.size d.nA d.nc d.names ∧ d.s.Sl X X.heap.size d.A d.c :=
  ⟨hcells, by rw [hn, hA, hc]; exact a_slS h1, by rw [hs, hsA]; exact Fo.Sl.nil _ _ _ _ (by simp [maxLen])⟩
theorem a_sl {X : World} {n1 n2 n3 db mb : Nat} {k : Int} (h1 : X.heap[n1]? = some (.cells #[.string ⟨#[116]⟩] 9 (0, 0))) (h2 : X.heap[n2]? = some (.cells #[.string ⟨#[102]⟩] 9 (0, 0))) (h5 : X.heap[n3]? = some (.cells #[.string ⟨#[117]⟩] 9 (0, 0)))
    (h3 : X.heap[db]? = some (aDb n1 n2 n3 k)) (h4 : X.heap[mb]? = some (aMb db)) : SlM X X.heap.size (some ⟨mb, 0, none⟩) 1 [aMo n1 n2 n3 db k] := by
  have l3 := (Array.getElem?_eq_some_iff.1 h3).1
  have l4 := (Array.getElem?_eq_some_iff.1 h4).1
  have r3 := fun q => cell_of_row X db q _ _ (0, 0) h3
  refine ⟨by simp, by simp [maxLen], fun _ => ⟨_, _, rfl, l4, fun j x hx => ?_⟩⟩
  cases j with
  | succ j => simp at hx
  | zero =>
    simp only [List.getElem?_cons_zero, Option.some.injEq] at hx
    subst hx
    refine ⟨fun q v hq => ?_, SlS.nil _ _ _ _ (by simp [aMo, maxLen]), by simp [aMo], by simp [aMo, maxLen], fun _ => ⟨_, _, rfl, l3, fun j x hx => ?_⟩⟩
    · have := cell_of_row X mb q _ _ (0, 0) h4
      rw [Nat.zero_mul, Nat.zero_add, this]
      exact hq
    · match j, hx with
      | 0, hx =>
        simp only [aMo, List.getElem?_cons_zero, Option.some.injEq] at hx
        subst hx
        refine a_decl (fun q v hq => ?_) rfl rfl rfl rfl rfl h1
        have hq' : q < 11 := (Array.getElem?_eq_some_iff.1 hq).1
        rw [show 0 + 0 * 11 + q = q by omega, r3 q, ← hq]
        match q, hq' with
        | 0, _ => rfl
        | 1, _ => rfl
        | 2, _ => rfl
        | 3, _ => rfl
        | 4, _ => rfl
        | 5, _ => rfl
        | 6, _ => rfl
        | 7, _ => rfl
        | 8, _ => rfl
        | 9, _ => rfl
        | 10, _ => rfl
      | 1, hx =>
        simp only [aMo, List.getElem?_cons_succ, List.getElem?_cons_zero, Option.some.injEq] at hx
        subst hx
        refine a_decl (fun q v hq => ?_) rfl rfl rfl rfl rfl h2
        have hq' : q < 11 := (Array.getElem?_eq_some_iff.1 hq).1
        rw [show 0 + 1 * 11 + q = 11 + q by omega, r3 (11 + q), ← hq]
        match q, hq' with
        | 0, _ => rfl
        | 1, _ => rfl
        | 2, _ => rfl
        | 3, _ => rfl
        | 4, _ => rfl
        | 5, _ => rfl
        | 6, _ => rfl
        | 7, _ => rfl
        | 8, _ => rfl
        | 9, _ => rfl
        | 10, _ => rfl
      | 2, hx =>
        simp only [aMo, List.getElem?_cons_succ, List.getElem?_cons_zero, Option.some.injEq] at hx
        subst hx
        refine a_decl (fun q v hq => ?_) rfl rfl rfl rfl rfl h5
        have hq' : q < 11 := (Array.getElem?_eq_some_iff.1 hq).1
        rw [show 0 + 2 * 11 + q = 22 + q by omega, r3 (22 + q), ← hq]
        match q, hq' with
        | 0, _ => rfl
        | 1, _ => rfl
        | 2, _ => rfl
        | 3, _ => rfl
        | 4, _ => rfl
        | 5, _ => rfl
        | 6, _ => rfl
        | 7, _ => rfl
        | 8, _ => rfl
        | 9, _ => rfl
        | 10, _ => rfl
      | j + 3, hx => simp [aMo] at hx
set_option maxRecDepth 100000 in
theorem truth50_any (n : Int) (w : World) : Calls Tryz.prog 87 #[.int .i64 n] w fun e w' => e = .returned (.agg #[.int .i64 2, .string ⟨#[]⟩, .string ⟨#[]⟩, .int .i64 n, .int .i64 0, .slice none 0 0]) ∧ Below w.heap.size w w' := by
  go_enter Tryz.func87, Tryz.ntmps87
  go_wp2
  refine bodyPost_ret (v := .agg #[.int .i64 2, .string ⟨#[]⟩, .string ⟨#[]⟩, .int .i64 n, .int .i64 0, .slice none 0 0]) (by simp [results, Tryz.results87, go_sem]) rfl ?_
  exact ⟨rfl, (Below.refl _ _).alloc (Nat.le_refl _) _⟩
/-- The modules of the example. -/
def ModsP (k : Int) (w : World) (e : Ending) (w' : World) : Prop := ∃ n1 n2 n3 db mb, e = .returned (.slice (some ⟨mb, 0, none⟩) 1 1) ∧ SlM w' w'.heap.size (some ⟨mb, 0, none⟩) 1 [aMo n1 n2 n3 db k] ∧ Below w.heap.size w w'
set_option maxRecDepth 100000 in
set_option maxHeartbeats 4000000 in
theorem modules50_any (k : Int) (w : World) : Calls Tryz.prog 48 #[.int .i64 k] w (ModsP k w) := by
  have eg := enterFn (fid := 87) rfl rfl rfl
  obtain ⟨W2, hW2⟩ : ∃ W2, (w.alloc (.cells #[.string ⟨#[116]⟩] 9)).alloc (.cells #[.string ⟨#[102]⟩] 9) = W2 := ⟨_, rfl⟩
  have hb2 : Below w.heap.size w W2 := by subst hW2; exact ((Below.refl _ _).alloc (Nat.le_refl _) _).alloc (by simp) _
  have r1 : W2.heap[w.heap.size]? = some (.cells #[.string ⟨#[116]⟩] 9 (0, 0)) := by rw [← hW2]; simp only [heap_push2]; rw [if_neg (by simp), if_pos trivial]
  have r2 : W2.heap[w.heap.size + 1]? = some (.cells #[.string ⟨#[102]⟩] 9 (0, 0)) := by rw [← hW2, heap_push2, if_pos (by simp)]
  have HR := Lib.hid (And.intro hb2 (And.intro r1 r2))
  clear hb2 r1 r2
  go_enter Tryz.func48, Tryz.ntmps48
  go_wp2_with fail
  refine (truth50_any k W2).mono ?_
  rintro e w3 ⟨rfl, hb3⟩
  have HB3 := Lib.hid hb3
  clear hb3 hW2
  obtain ⟨W4, hW4⟩ : ∃ W4, w3.alloc (.cells #[.string ⟨#[117]⟩] 9) = W4 := ⟨_, rfl⟩
  have hb4 : Below w3.heap.size w3 W4 := by subst hW4; exact (Below.refl _ _).alloc (Nat.le_refl _) _
  have r3 : W4.heap[w3.heap.size]? = some (.cells #[.string ⟨#[117]⟩] 9 (0, 0)) := by rw [← hW4, heap_push2, if_pos rfl]
  have HR4 := Lib.hid (And.intro hb4 r3)
  clear hb4 r3
  go_wp2_with fail
  refine (truth50_any 1 W4).mono ?_
  rintro e w5 ⟨rfl, hb5⟩
  have HB5 := Lib.hid hb5
  clear hb5 hW4
  go_wp2
  go_ret
  obtain ⟨X, hX⟩ : ∃ X, (w5.alloc (aDb w.heap.size (w.heap.size + 1) w3.heap.size k)).alloc (aMb w5.heap.size) = X := ⟨_, rfl⟩
  have hb6 : Below w5.heap.size w5 X := by subst hX; exact ((Below.refl _ _).alloc (Nat.le_refl _) _).alloc (by simp) _
  have hb45 : Below w3.heap.size w3 w5 := HR4.out.1.trans (HB5.out.mono HR4.out.1.size)
  have hb35 : Below W2.heap.size W2 w5 := HB3.out.trans (hb45.mono HB3.out.size)
  have s3 : X.heap[w5.heap.size]? = some (aDb w.heap.size (w.heap.size + 1) w3.heap.size k) := by rw [← hX]; simp only [heap_push2]; rw [if_neg (by simp), if_pos trivial]
  have s4 : X.heap[w5.heap.size + 1]? = some (aMb w5.heap.size) := by rw [← hX, heap_push2, if_pos (by simp)]
  have hsl := a_sl (bel_row2 hb6 (bel_row2 hb35 HR.out.2.1)) (bel_row2 hb6 (bel_row2 hb35 HR.out.2.2)) (bel_row2 hb6 (bel_row2 HB5.out HR4.out.2)) s3 s4
  have hbX : Below w.heap.size w X := HR.out.1.trans ((hb35.trans (hb6.mono hb35.size)).mono HR.out.1.size)
  simp only [aDb, aMb] at hX
  rw [hX]
  exact ⟨_, _, _, _, _, rfl, hsl, hbX⟩
end Go.Proofs.YtdobpmbgngomlaaGreatDoor
/- law50.awake is true: the walk -/
namespace Go.Proofs.YtdobpmbgngomlaaGreatDoor
open Go.RowKit Go.Proofs Go.Shelf

theorem a_select {X : World} {n1 n2 n3 db mb m1 m2 m3 md mm : Nat} (h : SlM X X.heap.size (some ⟨mb, 0, none⟩) 1 [aMo n1 n2 n3 db 0]) (h' : SlM X X.heap.size (some ⟨mm, 0, none⟩) 1 [aMo m1 m2 m3 md 1]) :
    Calls Tryz.prog 21 #[.slice (some ⟨mb, 0, none⟩) 1 1, .slice (some ⟨mm, 0, none⟩) 1 1] X fun e w' => ∃ gR rc gU uc, e = .returned (.tuple #[.slice (some ⟨gR, 0, none⟩) 1 rc, .slice (some ⟨gU, 0, none⟩) 1 uc]) ∧ 1 ≤ rc ∧ 1 ≤ uc ∧ w'.ownsRow X.heap.size 24 2 (.slice (some ⟨gR, 0, none⟩) 1 rc) 1 (namesC [aT1]) ∧ w'.ownsRow X.heap.size 24 2 (.slice (some ⟨gU, 0, none⟩) 1 uc) 1 (namesC [aT3]) ∧ Below X.heap.size X w' := by
  refine (tsSelect_any _ _ _ _ _ _ X h h' (a_W _ _ _ _ _) (a_W _ _ _ _ _) (a_great _ _ _ _ _) (a_great _ _ _ _ _)).mono ?_
  rintro e w' ⟨rA, rc, uA, uc, R, U, f, rfl, hR, hU, hb, hf, hRe, hUe⟩
  obtain ⟨f1, f3⟩ := a_sel hf
  rw [a_tests] at hRe hUe
  have eR : R = [aT1] := by rw [hRe]; simp [f1, f3]
  have eU : U = [aT3] := by rw [hUe]; simp [f1, f3]
  subst eR eU
  obtain ⟨gR, c1, e1, l1, _⟩ := own_pos2 hR (by simp)
  obtain ⟨gU, c2, e2, l2, _⟩ := own_pos2 hU (by simp)
  simp only [Value.slice.injEq] at e1 e2
  obtain ⟨rfl, _, rfl⟩ := e1
  obtain ⟨rfl, _, rfl⟩ := e2
  exact ⟨gR, rc, gU, uc, rfl, l1, l2, hR, hU, hb⟩
theorem a_certify {X : World} {n1 n2 n3 db mb : Nat} (h : SlM X X.heap.size (some ⟨mb, 0, none⟩) 1 [aMo n1 n2 n3 db 0]) :
    Calls Tryz.prog 26 #[.slice (some ⟨mb, 0, none⟩) 1 1, .agg #[.string ⟨#[109]⟩, .int .i64 1]] X fun e w' => ∃ A c, e = .returned (.tuple #[.agg #[.string ⟨#[109]⟩, .int .i64 1, .slice A 2 c, .string aKey], .int .i64 0]) ∧ w'.ownsRow X.heap.size 24 2 (.slice A 2 c) 2 (namesC [aT1, aF2]) ∧ Below X.heap.size X w' := by
  refine (tsCertify_any _ aT1 _ _ X h a_ok1 (a_W _ _ _ _ _) (a_great _ _ _ _ _)).mono ?_
  rintro e w' ⟨hb, ⟨er, hne, hv, rfl⟩ | ⟨L, A, c, hv, rfl, hown, _⟩⟩
  · have := (hv.unique (a_cert n1 n2 n3 db)).2
    cases this
  · have := (hv.unique (a_cert n1 n2 n3 db)).2
    cases this
    refine ⟨A, c, ?_, hown, hb⟩
    rw [a_key0]; rfl
theorem a_verify {X : World} {n1 n2 n3 db mb : Nat} {k : Int} {cA : Option Addr} {cc : Nat} (h : SlM X X.heap.size (some ⟨mb, 0, none⟩) 1 [aMo n1 n2 n3 db k]) (hN : SlN X X.heap.size cA cc [aT1, aF2]) :
    Calls Tryz.prog 29 #[.slice (some ⟨mb, 0, none⟩) 1 1, .agg #[.string ⟨#[109]⟩, .int .i64 1, .slice cA 2 cc, .string aKey]] X fun e w' => ∃ b, e = .returned (.bool b) ∧ VerV [aMo n1 n2 n3 db k] aT1 [aT1, aF2] aKey b ∧ Below X.heap.size X w' :=
  tsVerify_any _ aT1 [aT1, aF2] aKey _ _ cA cc X h hN a_ok1 (a_W _ _ _ _ _) (a_great _ _ _ _ _)
set_option maxRecDepth 100000 in
set_option maxHeartbeats 16000000 in
theorem awake50_any (w : World) : Calls Tryz.prog 20 #[] w (fun e w' => e = .returned (.bool true) ∧ Below w.heap.size w w') := by
  go_enter Tryz.func20, Tryz.ntmps20
  go_wp2_with fail
  refine (modules50_any 0 _).mono ?_
  rintro e w1 ⟨n1, n2, n3, db, mb, rfl, h1, hb1⟩
  have H1 := Lib.hid (And.intro h1 hb1)
  clear h1 hb1
  go_wp2_with fail
  refine (modules50_any 1 _).mono ?_
  rintro e w2 ⟨m1, m2, m3, md, mm, rfl, h2, hb2⟩
  have H2 := Lib.hid (And.intro ((H1.out.1.below hb2).keep hb2.size (fun _ _ => rfl)) (And.intro h2 (H1.out.2.trans (hb2.mono H1.out.2.size))))
  clear h2 hb2
  go_wp2_with fail
  refine (a_select H2.out.1 H2.out.2.1).mono ?_
  rintro e w3 ⟨gR, rc, gU, uc, rfl, l1, l2, hR, hU, hb3⟩
  have H3 := Lib.hid (And.intro hR (And.intro hU (H2.out.2.2.trans (hb3.mono H2.out.2.2.size))))
  clear hR hU hb3
  go_wp2_with fail
  refine (modules50_any 0 _).mono ?_
  rintro e w4 ⟨o1, o2, o3, od, om, rfl, h4, hb4⟩
  have H4 := Lib.hid (And.intro h4 hb4)
  clear h4 hb4
  go_wp2_with fail
  refine (a_certify H4.out.1).mono ?_
  rintro e w5 ⟨cA, cc, rfl, hown5, hb5⟩
  obtain ⟨T, HT⟩ : ∃ T, Hid (aKey = T) := ⟨_, Lib.hid rfl⟩
  rw [HT.out]
  obtain ⟨W, hW⟩ : ∃ W, w5.alloc (.cells #[.string ⟨#[109]⟩, .int .i64 1, .slice cA 2 cc, .string T] 54) = W := ⟨_, rfl⟩
  have hbW : Below w5.heap.size w5 W := by subst hW; exact (Below.refl _ _).alloc (Nat.le_refl _) _
  have hb3W : Below w3.heap.size w3 W := (H4.out.2.trans (hb5.mono H4.out.2.size)).trans (hbW.mono (Nat.le_trans H4.out.2.size hb5.size))
  have hz : w5.heap.size < W.heap.size := by subst hW; simp
  have hrow : W.heap[w5.heap.size]? = some (.cells #[.string ⟨#[109]⟩, .int .i64 1, .slice cA 2 cc, .string T] 54 (0, 0)) := by subst hW; exact heap_alloc_new _ _
  have hRW := own_of_blocks' H3.out.1 fun k hk => hb3W.block k hk
  have hUW := own_of_blocks' H3.out.2.1 fun k hk => hb3W.block k hk
  have hCW := SlN.of_own (l := [aT1, aF2]) (own_of_blocks' hown5 fun k hk => hbW.block k hk)
  have HS := Lib.hid (show ∀ X : World, Below W.heap.size W X → (X.cell? ⟨gR, 1, none⟩ = some (.int .i64 1) ∧ X.cell? ⟨gU, 1, none⟩ = some (.int .i64 3) ∧ X.cell? ⟨w5.heap.size, 0, none⟩ = some (.string ⟨#[109]⟩) ∧ X.cell? ⟨w5.heap.size, 1, none⟩ = some (.int .i64 1) ∧ X.cell? ⟨w5.heap.size, 2, none⟩ = some (.slice cA 2 cc) ∧ X.cell? ⟨w5.heap.size, 3, none⟩ = some (.string T)) from fun X hX =>
    ⟨(hX.cell (p := ⟨gR, 1, none⟩) (hRW.lt gR rfl).2).trans (hRW.cellAt 1 (by omega)), (hX.cell (p := ⟨gU, 1, none⟩) (hUW.lt gU rfl).2).trans (hUW.cellAt 1 (by omega)), (hX.cell (p := ⟨w5.heap.size, 0, none⟩) hz).trans (cell_of_row W _ 0 _ _ (0, 0) hrow), (hX.cell (p := ⟨w5.heap.size, 1, none⟩) hz).trans (cell_of_row W _ 1 _ _ (0, 0) hrow), (hX.cell (p := ⟨w5.heap.size, 2, none⟩) hz).trans (cell_of_row W _ 2 _ _ (0, 0) hrow), (hX.cell (p := ⟨w5.heap.size, 3, none⟩) hz).trans (cell_of_row W _ 3 _ _ (0, 0) hrow)⟩)
  have HM := Lib.hid (show ∀ (k : Int) (X : World), Below W.heap.size W X → Calls Tryz.prog 48 #[.int .i64 k] X (fun e Y => ∃ n1 n2 n3 db mb, e = .returned (.slice (some ⟨mb, 0, none⟩) 1 1) ∧ SlM Y Y.heap.size (some ⟨mb, 0, none⟩) 1 [aMo n1 n2 n3 db k] ∧ Below W.heap.size W Y) from fun k X hX => by
    refine (modules50_any k X).mono ?_
    rintro e Y ⟨n1, n2, n3, db, mb, he, hs, hb⟩
    exact ⟨n1, n2, n3, db, mb, he, hs, hX.trans (hb.mono hX.size)⟩)
  have HV0 := Lib.hid (show ∀ (X : World) (n1 n2 n3 db mb : Nat), SlM X X.heap.size (some ⟨mb, 0, none⟩) 1 [aMo n1 n2 n3 db 0] → Below W.heap.size W X → Calls Tryz.prog 29 #[.slice (some ⟨mb, 0, none⟩) 1 1, .agg #[.string ⟨#[109]⟩, .int .i64 1, .slice cA 2 cc, .string T]] X (fun e Y => e = .returned (.bool true) ∧ Below W.heap.size W Y) from fun X n1 n2 n3 db mb hs hX => by
    rw [← HT.out]
    refine (a_verify hs (hCW.below hX)).mono ?_
    rintro e Y ⟨b, rfl, hv, hb⟩
    rw [a_ver0 hv]
    exact ⟨rfl, hX.trans (hb.mono hX.size)⟩)
  have HV1 := Lib.hid (show ∀ (X : World) (n1 n2 n3 db mb : Nat), SlM X X.heap.size (some ⟨mb, 0, none⟩) 1 [aMo n1 n2 n3 db 1] → Below W.heap.size W X → Calls Tryz.prog 29 #[.slice (some ⟨mb, 0, none⟩) 1 1, .agg #[.string ⟨#[109]⟩, .int .i64 1, .slice cA 2 cc, .string T]] X (fun e Y => e = .returned (.bool false) ∧ Below W.heap.size W Y) from fun X n1 n2 n3 db mb hs hX => by
    rw [← HT.out]
    refine (a_verify hs (hCW.below hX)).mono ?_
    rintro e Y ⟨b, rfl, hv, hb⟩
    rw [a_ver1 hv]
    exact ⟨rfl, hX.trans (hb.mono hX.size)⟩)
  have HF := Lib.hid (H3.out.2.2.trans (hb3W.mono H3.out.2.2.size))
  have HBz := Lib.hid (Below.refl W.heap.size W)
  clear hRW hUW hCW hrow hb3W hbW hown5 hb5 H1 H2 H3 H4
  go_wp2_with fail
  go_region_held3 (fun X => X.cell? ⟨gR, 1, none⟩ = some (.int .i64 1) ∧ X.cell? ⟨gU, 1, none⟩ = some (.int .i64 3) ∧ X.cell? ⟨w5.heap.size, 0, none⟩ = some (.string ⟨#[109]⟩) ∧ X.cell? ⟨w5.heap.size, 1, none⟩ = some (.int .i64 1) ∧ X.cell? ⟨w5.heap.size, 2, none⟩ = some (.slice cA 2 cc) ∧ X.cell? ⟨w5.heap.size, 3, none⟩ = some (.string T))
    (focus (refine HS.out _ ?_; (first | with_reducible exact HBz.out | with_reducible exact below_drew' HBz.out)))
    (first
      | (go_at_call 48; (with_reducible refine Calls.mono (HM.out _ _ ?_) ?_); (focus (first | with_reducible exact HBz.out | with_reducible exact below_drew' HBz.out)); rintro e Y ⟨p1, p2, p3, pd, pm, rfl, hsY, hbY⟩; have HBz := Lib.hid hbY; have HSl := Lib.hid hsY; clear hsY hbY)
      | (go_at_call 29; (with_reducible refine Calls.mono (HV0.out _ _ _ _ _ _ HSl.out ?_) ?_); (focus (first | with_reducible exact HBz.out | with_reducible exact below_drew' HBz.out)); rintro e Y ⟨rfl, hbY⟩; have HBz := Lib.hid hbY; clear hbY)
      | (go_at_call 29; (with_reducible refine Calls.mono (HV1.out _ _ _ _ _ _ HSl.out ?_) ?_); (focus (first | with_reducible exact HBz.out | with_reducible exact below_drew' HBz.out)); rintro e Y ⟨rfl, hbY⟩; have HBz := Lib.hid hbY; clear hbY))
  all_goals (
    go_wp2
    go_ret
    exact ⟨rfl, HF.out.trans (HBz.out.mono HF.out.size)⟩)
end Go.Proofs.YtdobpmbgngomlaaGreatDoor
/- Parts shared by the laws of law50 -/
namespace Go.Proofs.YtdobpmbgngomlaaGreatDoor
open Go.RowKit Go.Proofs Go.Shelf

theorem SlN.nil (w : World) (B : Nat) (A : Option Addr) (c : Nat) (hc : c ≤ maxLen) : SlN w B A c [] := ⟨Nat.zero_le _, hc, fun h => absurd rfl h⟩
theorem SlN.tail1 {w : World} {B : Nat} {b o : Nat} {x : ByteArray × Int} {r : List (ByteArray × Int)} (h : SlN w B (some ⟨b, o, none⟩) 1 (x :: r)) : r = [] := by
  have := h.1
  simp at this
  exact this
theorem SlN.tail {w : World} {B : Nat} {b o c : Nat} {x : ByteArray × Int} {r : List (ByteArray × Int)} (h : SlN w B (some ⟨b, o, none⟩) c (x :: r)) : SlN w B (some ⟨b, o + 2, none⟩) (c - 1) r := by
  obtain ⟨h1, h2, h3⟩ := h
  simp only [List.length_cons] at h1
  refine ⟨by omega, by omega, fun _ => ?_⟩
  obtain ⟨b', o', e, hb, hs⟩ := h3 (by simp)
  cases e
  refine ⟨b, o + 2, rfl, hb, fun j y hj => ?_⟩
  have := hs (j + 1) y (by simpa using hj)
  rw [show o + (j + 1) * 2 = o + 2 + j * 2 by omega] at this
  exact this
/-- Whether a declaration has a certificate. -/
def CerOk (l : List Mo) (n : ByteArray × Int) : Prop := loadE l n = 0 ∧ isT l n = true ∧ ∃ L, Clo (grf l) n (some L)
def CertE (l : List Mo) (n : ByteArray × Int) (w : World) (e : Ending) (w' : World) : Prop :=
  ∃ p i cA cl cc k er, e = .returned (.tuple #[.agg #[.string p, .int .i64 i, .slice cA cl cc, .string k], .int .i64 er]) ∧ (er = 0 ↔ CerOk l n) ∧ Below w.heap.size w w'
theorem CertP.e {l : List Mo} {n : ByteArray × Int} {w w' : World} {e : Ending} (h : CertP l n w e w') : CertE l n w e w' := by
  obtain ⟨hb, ⟨er, hne, hv, rfl⟩ | ⟨L, A, c, hv, rfl, _, _⟩⟩ := h
  · refine ⟨_, _, _, _, _, _, er, rfl, ⟨fun h => absurd h hne, fun ⟨h1, h2, L, h3⟩ => ?_⟩, hb⟩
    have hv2 : CertV l n 0 (some L) := .inr (.inr (.inr ⟨h1, L, h3, h2, rfl, rfl⟩))
    have := (hv.unique hv2).2
    cases this
  · refine ⟨_, _, _, _, _, _, 0, rfl, ⟨fun _ => ?_, fun _ => rfl⟩, hb⟩
    rcases hv with ⟨_, _, h⟩ | ⟨_, _, _, h⟩ | ⟨_, _, _, _, _, h⟩ | ⟨h1, L, h2, h3, _, _⟩
    · cases h
    · cases h
    · cases h
    · exact ⟨h1, h3, L, h2⟩
theorem reB_self {l : List Mo} {n : ByteArray × Int} : ReB l l n ↔ CerOk l n := by
  constructor
  · rintro ⟨h1, k, h2, _⟩
    obtain ⟨h3, L, h4, _⟩ := h2.ok
    exact ⟨h3, h1, L, h4⟩
  · rintro ⟨h1, h2, L, h3⟩
    exact ⟨h2, _, .inr (.inr ⟨h1, L, h3, rfl, rfl⟩), .inr (.inr ⟨h1, L, h3, rfl, rfl⟩)⟩
theorem drop_filter {TN : List (ByteArray × Int)} {j : Nat} {x : ByteArray × Int} (hx : TN[j]? = some x) (p : ByteArray × Int → Bool) : (TN.drop j).filter p = if p x = true then x :: (TN.drop (j + 1)).filter p else (TN.drop (j + 1)).filter p := by
  obtain ⟨hlt, rfl⟩ := List.getElem?_eq_some_iff.1 hx
  rw [List.drop_eq_getElem_cons hlt, List.filter_cons]
theorem head_ne {TN : List (ByteArray × Int)} (hs : TN.Pairwise ltN) {j : Nat} {x y : ByteArray × Int} (hx : TN[j]? = some x) (hy : y ∈ TN.drop (j + 1)) : y ≠ x := by
  intro e
  subst e
  obtain ⟨hlt, rfl⟩ := List.getElem?_eq_some_iff.1 hx
  obtain ⟨q, hq⟩ := List.getElem?_of_mem hy
  rw [List.getElem?_drop] at hq
  obtain ⟨h2, h3⟩ := List.getElem?_eq_some_iff.1 hq
  have := List.pairwise_iff_getElem.1 hs j (j + 1 + q) hlt h2 (by omega)
  rw [h3] at this
  exact ltN_irrefl _ this
def msRow (A : Option Addr) (N c : Nat) (A' : Option Addr) (N' c' : Nat) : Obj := .cells #[.slice A N c, .slice A' N' c'] 22
theorem small_two {old new : List Mo} {A : Option Addr} {c : Nat} {A' : Option Addr} {c' : Nat} {w : World} (ho : SlM w w.heap.size A c old) (hn : SlM w w.heap.size A' c' new) :
    Calls Tryz.prog 19 #[.slice (some ⟨w.heap.size, 0, none⟩) 2 2] (w.alloc (msRow A old.length c A' new.length c')) fun e w' => e = .returned (.bool (!greatL old && !greatL new)) ∧ Below w.heap.size w w' := by
  have hb : Below w.heap.size w (w.alloc (msRow A old.length c A' new.length c')) := (Below.refl _ _).alloc (Nat.le_refl _) _
  have hrow : (w.alloc (msRow A old.length c A' new.length c')).heap[w.heap.size]? = some (msRow A old.length c A' new.length c') := heap_alloc_new _ _
  have h := small50_any [⟨A, c, old⟩, ⟨A', c', new⟩] w.heap.size (w.alloc (msRow A old.length c A' new.length c')) (fun j x hx => by
    match j, hx with
    | 0, hx => simp at hx; subst hx; exact ⟨cell_of_row _ _ 0 _ _ (0, 0) hrow, (ho.below hb).keep hb.size (fun _ _ => rfl)⟩
    | 1, hx => simp at hx; subst hx; exact ⟨cell_of_row _ _ 1 _ _ (0, 0) hrow, (hn.below hb).keep hb.size (fun _ _ => rfl)⟩
    | j + 2, hx => simp at hx) (by simp) (by simp)
  refine h.mono ?_
  rintro e w' ⟨rfl, hb2⟩
  exact ⟨by simp, hb.trans (hb2.mono hb.size)⟩
theorem certV_ok {l : List Mo} {n : ByteArray × Int} {L : List (ByteArray × Int)} (h : CertV l n 0 (some L)) : loadE l n = 0 ∧ isT l n = true ∧ Clo (grf l) n (some L) := by
  rcases h with ⟨_, _, h⟩ | ⟨_, _, _, h⟩ | ⟨_, _, _, _, _, h⟩ | ⟨h1, L, h2, h3, _, h4⟩
  · cases h
  · cases h
  · cases h
  · cases h4; exact ⟨h1, h3, h2⟩
theorem certV_of {l : List Mo} {n : ByteArray × Int} {L : List (ByteArray × Int)} (h1 : loadE l n = 0) (h2 : isT l n = true) (h3 : Clo (grf l) n (some L)) : CertV l n 0 (some L) := .inr (.inr (.inr ⟨h1, L, h3, h2, rfl, rfl⟩))
end Go.Proofs.YtdobpmbgngomlaaGreatDoor
