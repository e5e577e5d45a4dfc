/- ref50.Tests -/
import Derived.Test.YtdobpmbgngomlaaGreatDoorZmb
import Derived.Test.YtdobpmbgngomlaaGreatDoorZmh
import Derived.Test.YtdobpmbgngomlaaGreatDoorZmi
import Derived.Test.YtdobpmbgngomlaaGreatDoorZnc
namespace Go.Proofs.YtdobpmbgngomlaaGreatDoor
open Go.RowKit Go.Proofs Go.Shelf

/-- What a round of Tests adds. -/
def addT (l : List Mo) (R : List (ByteArray × Int)) (n : ByteArray × Int) : List (ByteArray × Int) := if isT l n = true then withN R n else R
def nsOf (m : Mo) : List (ByteArray × Int) := m.ds.map fun d => (m.label, d.id)
def testsR (l : List Mo) : List Mo → List Mo → List (ByteArray × Int) → List (ByteArray × Int)
  | _, [], R => R
  | pre, m :: r, R => testsR l (pre ++ [m]) r (if labs pre m.label = true then R else (nsOf m).foldl (addT l) R)
theorem foldT (l : List Mo) : ∀ (ns R : List (ByteArray × Int)), R.Pairwise ltN → (ns.foldl (addT l) R).Pairwise ltN ∧ ∀ x, x ∈ ns.foldl (addT l) R ↔ x ∈ R ∨ (x ∈ ns ∧ isT l x = true)
  | [], R, h => ⟨h, fun x => by simp⟩
  | n :: ns, R, h => by
    have hs : (addT l R n).Pairwise ltN := by
      unfold addT
      split
      · exact withN_sorted h n
      · exact h
    obtain ⟨h1, h2⟩ := foldT l ns (addT l R n) hs
    refine ⟨h1, fun x => ?_⟩
    have hm : x ∈ addT l R n ↔ x ∈ R ∨ (x = n ∧ isT l n = true) := by
      unfold addT
      by_cases h : isT l n = true
      · rw [if_pos h, mem_withN]; simp [h]
      · rw [if_neg h]; simp [h]
    rw [List.foldl_cons, h2, hm, List.mem_cons]
    constructor
    · rintro ((h | ⟨rfl, h⟩) | ⟨h, h'⟩)
      · exact .inl h
      · exact .inr ⟨.inl rfl, h⟩
      · exact .inr ⟨.inr h, h'⟩
    · rintro (h | ⟨rfl | h, h'⟩)
      · exact .inl (.inl h)
      · exact .inl (.inr ⟨rfl, h'⟩)
      · exact .inr ⟨h, h'⟩
theorem bodyOf_split : ∀ (pre rest : List Mo) (n : ByteArray × Int), labs pre n.1 = false → bodyOf (pre ++ rest) n = bodyOf rest n
  | [], _, _, _ => rfl
  | m :: r, rest, n, h => by
    simp only [labs, List.any_cons, Bool.or_eq_false_iff, decide_eq_false_iff_not] at h
    rw [List.cons_append, bodyOf, if_neg h.1]
    exact bodyOf_split r rest n h.2
theorem testsR_mem (l : List Mo) : ∀ (rest pre R : List (_)), l = pre ++ rest → R.Pairwise ltN → (testsR l pre rest R).Pairwise ltN ∧ ∀ x, x ∈ testsR l pre rest R ↔ x ∈ R ∨ (isT l x = true ∧ labs pre x.1 = false)
  | [], pre, R, hl, hs => by
    refine ⟨hs, fun x => ?_⟩
    simp only [testsR]
    refine ⟨.inl, fun h => ?_⟩
    rcases h with h | ⟨h, h'⟩
    · exact h
    · rw [List.append_nil] at hl
      subst hl
      unfold isT at h
      rw [bodyOf_none h'] at h
      cases h
  | m :: r, pre, R, hl, hs => by
    have hl2 : l = (pre ++ [m]) ++ r := by rw [hl]; simp
    obtain ⟨f1, f2⟩ := foldT l (nsOf m) R hs
    have hs2 : (if labs pre m.label = true then R else (nsOf m).foldl (addT l) R).Pairwise ltN := by
      split
      · exact hs
      · exact f1
    obtain ⟨h1, h2⟩ := testsR_mem l r (pre ++ [m]) _ hl2 hs2
    refine ⟨h1, fun x => ?_⟩
    simp only [testsR]
    rw [h2, labs_snoc]
    by_cases hp : labs pre m.label = true
    · rw [if_pos hp]
      have key : (labs pre x.1 || decide (m.label = x.1)) = labs pre x.1 := by
        by_cases e : m.label = x.1
        · rw [← e, hp]; rfl
        · simp [e]
      rw [key]
    · rw [if_neg hp, f2]
      have hp' : labs pre m.label = false := by simpa using hp
      by_cases e : m.label = x.1
      · have hx : labs pre x.1 = false := by rw [← e]; exact hp'
        rw [hx]
        simp only [e, decide_true, Bool.or_true, Bool.true_eq_false, and_false, or_false, and_true]
        refine or_congr_right ⟨fun h => h.2, fun h => ⟨?_, h⟩⟩
        obtain ⟨d, hd⟩ := isT_body h
        rw [hl, bodyOf_split pre _ x hx, bodyOf, if_pos e] at hd
        refine List.mem_map.2 ⟨d, List.mem_of_find?_eq_some hd, Prod.ext e ?_⟩
        have := List.find?_some hd
        simpa using this
      · have hno : ¬ (x ∈ nsOf m ∧ isT l x = true) := fun h => by
          obtain ⟨d, _, hd⟩ := List.mem_map.1 h.1
          exact e (by rw [← hd])
        simp [hno, e]
theorem testsR_eq (l : List Mo) : testsR l [] l [] = testsOf l := by
  obtain ⟨h1, h2⟩ := testsR_mem l l [] [] rfl List.Pairwise.nil
  refine ltN_ext h1 (testsOf_sorted l) fun x => ?_
  rw [h2, mem_testsOf]
  simp [labs]
theorem addT_len (l : List Mo) (R : List (ByteArray × Int)) (n : ByteArray × Int) : (addT l R n).length ≤ R.length + 1 := by
  unfold addT
  split
  · exact withN_len R n
  · omega
/-- A row that is known whole, and whose block is new, is the call's own. -/
theorem own_rise {W : World} {A : Option Addr} {c base : Nat} {l : List (ByteArray × Int)} (h : OwnN W A c l) (hb : ∀ g, A = some g → base ≤ g.block) : W.ownsRow base 24 2 (.slice A l.length c) l.length (namesC l) := by
  refine ⟨h.1, ?_⟩
  rcases h.2 with h1 | ⟨g, cap, cur, h1, _, h2⟩
  · exact .inl h1
  · simp only [Value.slice.injEq, true_and] at h1
    obtain ⟨rfl, rfl⟩ := h1
    exact .inr ⟨g, c, cur, rfl, hb _ rfl, h2⟩
theorem own_blk {W : World} {A : Option Addr} {c base n : Nat} {xs : List Value} (h : W.ownsRow base 24 2 (.slice A n c) n xs) : ∀ g, A = some g → base ≤ g.block := fun g hg => (h.lt g.block (by rw [hg]; rfl)).1
set_option maxRecDepth 100000 in
set_option maxHeartbeats 4000000 in
theorem tests50_any (l : List Mo) (A : Option Addr) (c : Nat) (w : World) (hl : SlM w w.heap.size A c l) (ht : totD l ≤ 10000) :
    Calls Tryz.prog 24 #[.slice A l.length c] w (TestsP l w) := by
  obtain ⟨E, HE⟩ : ∃ E, Hid (testsR l (l.take 0) (l.drop 0) [] = E) := ⟨_, Lib.hid rfl⟩
  unfold TestsP
  rw [← testsR_eq, show testsR l [] l [] = testsR l (l.take 0) (l.drop 0) [] from rfl, HE.out]
  have HL := Lib.hid (show ∀ X : World, Below w.heap.size w X → SlM X X.heap.size A c l from fun X hX => (hl.below hX).keep hX.size (fun _ _ => rfl))
  have h1 := hl.1
  have h2 := hl.2.1
  unfold maxLen at h2
  obtain ⟨N, HN⟩ : ∃ Q, Hid (l.length = Q) := ⟨_, Lib.hid rfl⟩
  have HFi := Lib.hid (show ∀ (X : World) (i : Nat) (m : Mo), Below w.heap.size w X → l[i]? = some m → Calls Tryz.prog 53 #[.slice A N c, .int .i64 i] X (fun e w' => e = .returned (.bool (!labs (l.take i) m.label)) ∧ Below X.heap.size X w') from fun X i m hX hi => by
    have := first50_any l i m A c X (HL.out X hX) hi
    rwa [HN.out] at this)
  have HIs := Lib.hid (show ∀ (X : World) (n : ByteArray × Int), Below w.heap.size w X → Calls Tryz.prog 50 #[.slice A N c, .agg #[.string n.1, .int .i64 n.2]] X (fun e w' => e = .returned (.bool (isT l n)) ∧ Below X.heap.size X w') from fun X n hX => by
    have := is50_any l n A c X (HL.out X hX)
    rwa [HN.out] at this)
  rw [HN.out] at h1 ⊢
  clear hl
  go_enter Tryz.func24, Tryz.ntmps24
  go_wp2
  go_loopg [3, 4, 5, 6] N (fun g rv ct _ _ wr => ∃ (j : Nat) (R : List (ByteArray × Int)) (rA : Option Addr) (rc : Nat), g = N - j ∧ j ≤ N ∧ ct = .int .i64 j ∧ rv = .slice rA R.length rc ∧ testsR l (l.take j) (l.drop j) R = E ∧ R.length ≤ totD (l.take j) ∧ wr.ownsRow w.heap.size 24 2 (.slice rA R.length rc) R.length (namesC R) ∧ Below w.heap.size w wr)
  case atStart =>
    refine ⟨0, [], _, 0, rfl, by omega, rfl, rfl, HE.out, by simp, ?_, (Below.refl _ _).alloc (Nat.le_refl _) _⟩
    exact World.ownsRow_lit (base := w.heap.size) (e := 24) (size := 2) w #[] 0 (Nat.le_refl _) (by simp) rfl
  case round =>
    obtain ⟨j, R, rA, rc, HG, hj, rfl, rfl, hE, hRl, hR, hB⟩ := hrel
    have hz := hB.size
    by_cases hlt : j < N
    · have hlt' : j < l.length := by rw [HN.out]; exact hlt
      obtain ⟨m, hm⟩ : ∃ y, l[j]? = some y := ⟨_, List.getElem?_eq_getElem hlt'⟩
      have hdr : l.drop j = m :: l.drop (j + 1) := by
        obtain ⟨_, rfl⟩ := List.getElem?_eq_some_iff.1 hm
        exact List.drop_eq_getElem_cons _
      have htk : l.take (j + 1) = l.take j ++ [m] := by
        obtain ⟨_, rfl⟩ := List.getElem?_eq_some_iff.1 hm
        exact List.take_succ_eq_append_getElem _
      rw [hdr, testsR, ← htk] at hE
      obtain ⟨htk1, htk2⟩ := totD_take hm
      obtain ⟨K, HK⟩ : ∃ Q, Hid (m.ds.length = Q) := ⟨_, Lib.hid rfl⟩
      rw [HK.out] at htk1
      obtain ⟨fb, Hfb⟩ : ∃ Q, Hid ((!labs (l.take j) m.label) = Q) := ⟨_, Lib.hid rfl⟩
      obtain ⟨E2, HE2⟩ : ∃ E2, Hid ((if labs (l.take j) m.label = true then R else (nsOf m).foldl (addT l) R) = E2) := ⟨_, Lib.hid rfl⟩
      rw [HE2.out] at hE
      obtain ⟨b, o, rfl, hb, d0, d1, d2, hok⟩ := (HL.out wr hB).at_ hm
      have hk1 := hok.2.1
      have hk2 := hok.2.2.1
      unfold maxLen at hk2
      rw [HK.out] at hk1 d2
      have j1 : (0 : Int) ≤ (j : Int) := by omega
      have j2 : (j : Int) < (N : Int) := by omega
      have HT := Lib.hid (And.intro HG (And.intro hE (And.intro hR (And.intro hB hm))))
      obtain ⟨wo, rfl⟩ : ∃ wo : World, wo = wr := ⟨_, rfl⟩
      clear HG hE hB hdr htk hm hok hR
      go_wp2
      go_loopg [3, 5, 6] K (fun g rv ct _ wq => ∃ (k : Nat) (R2 : List (ByteArray × Int)) (rA : Option Addr) (rc : Nat), g = K - k ∧ k ≤ K ∧ ct = .int .i64 k ∧ rv = .slice rA R2.length rc ∧ (if fb = true then ((nsOf m).drop k).foldl (addT l) R2 else R2) = E2 ∧ R2.length ≤ totD (l.take j) + k ∧ wq.ownsRow w.heap.size 24 2 (.slice rA R2.length rc) R2.length (namesC R2) ∧ Below wo.heap.size wo wq)
      case atStart =>
        refine ⟨0, R, rA, rc, rfl, by omega, rfl, rfl, ?_, by omega, HT.out.2.2.1, Below.refl _ _⟩
        rw [← HE2.out, ← Hfb.out]
        cases labs (l.take j) m.label <;> rfl
      case round =>
        obtain ⟨k, R2, rA2, rc2, HG2, hk, rfl, rfl, hE2, hR2l, hR2, hB2⟩ := hrel
        have hBw := HT.out.2.2.2.1.trans (hB2.mono hz)
        have hz2 := hB2.size
        have hz3 := hBw.size
        have d0' := (hB2.cell (p := ⟨b, o + j * 3, none⟩) hb).trans d0
        have d2' := (hB2.cell (p := ⟨b, o + j * 3 + 2, none⟩) hb).trans d2
        have k1 : (0 : Int) ≤ (k : Int) := by omega
        by_cases hlt2 : k < K
        · have hlt2' : k < m.ds.length := by rw [HK.out]; exact hlt2
          obtain ⟨d, hd⟩ : ∃ y, m.ds[k]? = some y := ⟨_, List.getElem?_eq_getElem hlt2'⟩
          have hnd : (nsOf m).drop k = (m.label, d.id) :: (nsOf m).drop (k + 1) := by
            unfold nsOf
            obtain ⟨_, rfl⟩ := List.getElem?_eq_some_iff.1 hd
            rw [List.drop_eq_getElem_cons (by simpa using hlt2')]
            simp
          have hokm := ((HL.out wr hBw).2.2 (by intro e; have := HT.out.2.2.2.2; rw [e] at this; simp at this))
          obtain ⟨b2, o2, he2, _, hall⟩ := hokm
          clear he2
          obtain ⟨b', o', hA, hb', c0, _⟩ := SlD.cells_at (wr := wr) (hall j m HT.out.2.2.2.2).2.2 (fun _ _ => rfl) hd
          rw [hA] at d2'
          have k2 : (k : Int) < (K : Int) := by omega
          have hFx := HFi.out wr j m hBw HT.out.2.2.2.2
          rw [Hfb.out] at hFx
          have HFx := Lib.hid hFx
          have HI := Lib.hid (And.intro HG2 (And.intro hE2 (And.intro hR2 (And.intro hB2 (And.intro hBw hnd)))))
          clear HG2 hE2 hR2 hB2 hall hd hA hFx hnd
          cases fb with
          | false =>
            have HE3 := Lib.hid (show R2 = E2 by simpa using HI.out.2.1)
            go_wp2_with fail
            refine HFx.out.mono ?_
            rintro e w5 ⟨rfl, hb5⟩
            have HB5 := Lib.hid hb5
            have HF := Lib.hid (And.intro (own_of_blocks' HI.out.2.2.1 fun k hk => hb5.block k hk) (HI.out.2.2.2.2.1.trans (hb5.mono hz3)))
            have hR2l' : R2.length ≤ totD (l.take (j + 1)) := by omega
            clear hb5 c0 d0' d2' hBw
            go_wp2
            go_roundg (N - (j + 1))
            case measure => rw [HT.out.1]; omega
            case rel => exact ⟨j + 1, R2, rA2, rc2, rfl, by omega, by go_num, rfl, by rw [HE3.out]; exact HT.out.2.1, hR2l', HF.out.1, HF.out.2⟩
          | true =>
            have hE4 : ((nsOf m).drop (k + 1)).foldl (addT l) (addT l R2 (m.label, d.id)) = E2 := by
              have := HI.out.2.1
              rw [if_pos rfl, HI.out.2.2.2.2.2, List.foldl_cons] at this
              exact this
            have HE4 := Lib.hid hE4
            go_wp2_with fail
            refine HFx.out.mono ?_
            rintro e w5 ⟨rfl, hb5⟩
            have hbo : b < wr.heap.size := by omega
            have e0 := (hb5.cell (p := ⟨b, o + j * 3, none⟩) hbo).trans d0'
            have e2 := (hb5.cell (p := ⟨b, o + j * 3 + 2, none⟩) hbo).trans d2'
            have hbo' : b' < wr.heap.size := World.block_lt_of_cell? wr _ c0
            have e4 := (hb5.cell (p := ⟨b', o' + k * 11, none⟩) hbo').trans c0
            have hbw5 : b < w5.heap.size := Nat.lt_of_lt_of_le hbo hb5.size
            have hbw5' : b' < w5.heap.size := Nat.lt_of_lt_of_le hbo' hb5.size
            have HB5 := Lib.hid (And.intro (own_of_blocks' HI.out.2.2.1 fun k hk => hb5.block k hk) (And.intro (HI.out.2.2.2.2.1.trans (hb5.mono hz3)) (HI.out.2.2.2.1.trans (hb5.mono hz2))))
            obtain ⟨q, hq⟩ : ∃ q, isT l (m.label, d.id) = q := ⟨_, rfl⟩
            have HQ := Lib.hid hq
            have HF := Lib.hid (show ∀ X : World, Below w5.heap.size w5 X → Calls Tryz.prog 50 #[.slice (some ⟨b, o, none⟩) N c, .agg #[.string m.label, .int .i64 d.id]] X (fun e w' => e = .returned (.bool q) ∧ Below X.heap.size X w') from fun X hX => by
              have := HIs.out X (m.label, d.id) (HB5.out.2.1.trans (hX.mono HB5.out.2.1.size))
              rwa [hq] at this)
            clear hb5 c0 d0' d2' hq hE4 hBw
            go_wp2_with fail
            go_region
            go_wp2_with fail
            obtain ⟨X8, hX8⟩ : ∃ X8, (w5.alloc (.cells #[.string m.label, .int .i64 d.id] 24)).drew = X8 := ⟨_, rfl⟩
            rw [hX8]
            have hb8 : Below w5.heap.size w5 X8 := by rw [← hX8]; exact below_drew' ((Below.refl _ _).alloc (Nat.le_refl _) _)
            have b0 : X8.cell? ⟨w5.heap.size, 0, none⟩ = some (.string m.label) := by subst hX8; go_simp
            have b1 : X8.cell? ⟨w5.heap.size, 1, none⟩ = some (.int .i64 d.id) := by subst hX8; go_simp
            have hz8 : w5.heap.size < X8.heap.size := by subst hX8; show _ < (w5.alloc _).heap.size; simp
            refine (HF.out X8 hb8).mono ?_
            rintro e w9 ⟨rfl, hb9⟩
            have q0 := (hb9.cell (p := ⟨w5.heap.size, 0, none⟩) hz8).trans b0
            have q1 := (hb9.cell (p := ⟨w5.heap.size, 1, none⟩) hz8).trans b1
            have hb89 : Below w5.heap.size w5 w9 := hb8.trans (hb9.mono (Nat.le_of_lt hz8))
            have HOW := Lib.hid (And.intro (own_of_blocks' HB5.out.1 fun k hk => hb89.block k hk) (HB5.out.2.2.trans (hb89.mono HB5.out.2.2.size)))
            clear hb8 hb9 hX8 b0 b1 hb89
            cases q with
            | false =>
              have HE3 := Lib.hid (show ((nsOf m).drop (k + 1)).foldl (addT l) R2 = E2 by
                have := HE4.out
                rw [addT, if_neg (by rw [HQ.out]; simp)] at this
                exact this)
              go_wp2
              go_roundg (K - (k + 1))
              case measure => rw [HI.out.1]; omega
              case rel => exact ⟨k + 1, R2, rA2, rc2, rfl, by omega, by go_num, rfl, by simpa using HE3.out, by omega, HOW.out.1, HOW.out.2⟩
            | true =>
              have HE3 := Lib.hid (show ((nsOf m).drop (k + 1)).foldl (addT l) (withN R2 (m.label, d.id)) = E2 by
                have := HE4.out
                rw [addT, if_pos HQ.out] at this
                exact this)
              have HWT := Lib.hid (withQ_any R2 m.label d.id rA2 rc2 w9 (World.ownsRow.mono HOW.out.1 (Nat.zero_le _)) (by omega))
              go_wp2_with fail
              refine HWT.out.mono ?_
              rintro e w11 ⟨A3, c3, rfl, hO3, hb11, hor⟩
              have hO4 := own_rise hO3 (base := w.heap.size) (fun g hg => by
                rcases hor with ⟨_, h2⟩ | h2
                · exact own_blk HOW.out.1 g (h2 ▸ hg)
                · have := own_blk h2 g hg
                  have := HOW.out.2.size
                  omega)
              have H11 := Lib.hid (And.intro hO4 (HOW.out.2.trans (hb11.mono HOW.out.2.size)))
              obtain ⟨R3, HR3⟩ : ∃ R3, Hid (withN R2 (m.label, d.id) = R3) := ⟨_, Lib.hid rfl⟩
              have hR3l : R3.length ≤ R2.length + 1 := by rw [← HR3.out]; exact withN_len _ _
              rw [HR3.out] at HE3 H11 ⊢
              clear hO3 hb11 hor hO4
              go_wp2
              go_roundg (K - (k + 1))
              case measure => rw [HI.out.1]; omega
              case rel => exact ⟨k + 1, R3, A3, c3, rfl, by omega, by go_num, rfl, by simpa using HE3.out, by omega, H11.out.1, H11.out.2⟩
        · have hke : k = K := by omega
          have HE3 := Lib.hid (show R2 = E2 by
            rw [List.drop_of_length_le (by unfold nsOf; rw [List.length_map, HK.out]; omega)] at hE2
            rw [← hE2]
            split <;> rfl)
          have HF := Lib.hid (And.intro hR2 hBw)
          have hR2l' : R2.length ≤ totD (l.take (j + 1)) := by omega
          clear hE2 hR2 hB2 hBw HG2
          go_wp2
          go_roundg (N - (j + 1))
          case measure => rw [HT.out.1]; omega
          case rel => exact ⟨j + 1, R2, rA2, rc2, rfl, by omega, by go_num, rfl, by rw [HE3.out]; exact HT.out.2.1, hR2l', HF.out.1, HF.out.2⟩
    · have hje : j = N := by omega
      have HE3 := Lib.hid (show R = E by
        rw [List.drop_of_length_le (by rw [HN.out]; omega), testsR] at hE
        exact hE)
      have HF := Lib.hid (And.intro hR hB)
      clear hE hR hB HG
      go_wp2
      go_ret
      exact ⟨.slice rA R.length rc, rfl, by rw [← HE3.out]; exact HF.out.1, HF.out.2⟩
end Go.Proofs.YtdobpmbgngomlaaGreatDoor
/- ref50.Select -/
namespace Go.Proofs.YtdobpmbgngomlaaGreatDoor
open Go.RowKit Go.Proofs Go.Shelf

set_option maxRecDepth 100000 in
set_option maxHeartbeats 8000000 in
theorem select50_any (old new : List Mo) (A : Option Addr) (c : Nat) (A' : Option Addr) (c' : Nat) (w : World) (hlo : SlM w w.heap.size A c old) (hln : SlM w w.heap.size A' c' new) (hmo : ∀ m ∈ old, ModS m.label m.uses m.ds) (hmn : ∀ m ∈ new, ModS m.label m.uses m.ds) (hto : totD old ≤ 32) (htn : totD new ≤ 32) :
    Calls Tryz.prog 22 #[.slice A old.length c, .slice A' new.length c'] w (SelP old new w) := by
  obtain ⟨i0, hi, hz0', hz1', hz2'⟩ := info_parts Tryz.infoName
  obtain ⟨f, hf⟩ : ∃ f : ByteArray × Int → Bool, ∀ n, f n = true ↔ ReB old new n := ⟨fun n => @decide _ (Classical.propDecidable (ReB old new n)), fun n => by simp⟩
  obtain ⟨W0, hW0⟩ : ∃ W0, (w.alloc (.cells #[] 24)).alloc (.cells #[] 24) = W0 := ⟨_, rfl⟩
  have hB0 : Below w.heap.size w W0 := by subst hW0; exact ((Below.refl _ _).alloc (Nat.le_refl _) _).alloc (by simp) _
  have ro0 : W0.ownsRow w.heap.size 24 2 (.slice (some ⟨w.heap.size, 0, none⟩) 0 0) 0 (namesC []) := by
    rw [← hW0]
    exact (World.ownsRow_lit (base := w.heap.size) (e := 24) (size := 2) w #[] 0 (Nat.le_refl _) (by simp) rfl).alloc _
  have ro1 : W0.ownsRow w.heap.size 24 2 (.slice (some ⟨w.heap.size + 1, 0, none⟩) 0 0) 0 (namesC []) := by
    rw [← hW0]
    have := World.ownsRow_lit (base := w.heap.size) (e := 24) (size := 2) (w.alloc (.cells #[] 24)) #[] 0 (by simp) (by simp) rfl
    rw [show (w.alloc (.cells #[] 24)).heap.size = w.heap.size + 1 by simp] at this
    exact this
  have HLo := Lib.hid (show ∀ X : World, Below w.heap.size w X → SlM X X.heap.size A c old from fun X hX => (hlo.below hX).keep hX.size (fun _ _ => rfl))
  have HLn := Lib.hid (show ∀ X : World, Below w.heap.size w X → SlM X X.heap.size A' c' new from fun X hX => (hln.below hX).keep hX.size (fun _ _ => rfl))
  have HTn := Lib.hid (show ∀ X : World, Below w.heap.size w X → Calls Tryz.prog 24 #[.slice A' new.length c'] X (TestsP new X) from fun X hX => tests50_any new A' c' X (HLn.out X hX) (by omega))
  have HKo := Lib.hid (show ∀ (X : World) (n : ByteArray × Int), Below w.heap.size w X → Calls Tryz.prog 49 #[.slice A old.length c, .agg #[.string n.1, .int .i64 n.2]] X (KeyP old n X) from fun X n hX => key40_any old n A c X (HLo.out X hX) hmo (by omega))
  have HKn := Lib.hid (show ∀ (X : World) (n : ByteArray × Int), Below w.heap.size w X → Calls Tryz.prog 49 #[.slice A' new.length c', .agg #[.string n.1, .int .i64 n.2]] X (KeyP new n X) from fun X n hX => key40_any new n A' c' X (HLn.out X hX) hmn (by omega))
  have HIs := Lib.hid (show ∀ (X : World) (n : ByteArray × Int), Below w.heap.size w X → Calls Tryz.prog 50 #[.slice A old.length c, .agg #[.string n.1, .int .i64 n.2]] X (fun e w' => e = .returned (.bool (isT old n)) ∧ Below X.heap.size X w') from fun X n hX => is50_any old n A c X (HLo.out X hX))
  have HTL := Lib.hid (show (testsOf new).length ≤ 32 by have := testsOf_len new; omega)
  obtain ⟨N, HN⟩ : ∃ Q, Hid (old.length = Q) := ⟨_, Lib.hid rfl⟩
  obtain ⟨N', HN'⟩ : ∃ Q, Hid (new.length = Q) := ⟨_, Lib.hid rfl⟩
  rw [HN.out] at HKo HIs ⊢
  rw [HN'.out] at HTn HKn ⊢
  have HX := Lib.hid (And.intro hf (And.intro hB0 (And.intro ro0 ro1)))
  clear hlo hln hmo hmn hto htn HLo HLn hf ro0 ro1
  go_enter Tryz.func22, Tryz.ntmps22
  go_wp2_with fail
  refine (HTn.out W0 hB0).mono ?_
  rintro e w3 ⟨v3, rfl, hown3, hb3⟩
  obtain ⟨tA3, tc3, rfl⟩ := own_formN hown3
  obtain ⟨TN, HTN⟩ : ∃ Q, Hid (testsOf new = Q) := ⟨_, Lib.hid rfl⟩
  rw [HTN.out] at hown3 HTL ⊢
  obtain ⟨M, HM⟩ : ∃ Q, Hid (TN.length = Q) := ⟨_, Lib.hid rfl⟩
  have hMl := HTL.out
  rw [HM.out] at hMl ⊢
  have hzz : W0.heap.size = w.heap.size + 1 + 1 := by rw [← hW0]; simp
  have H3 := Lib.hid (And.intro hown3 (And.intro (hB0.trans (hb3.mono hB0.size)) (And.intro (own_of_blocks' HX.out.2.2.1 fun k hk => hb3.block k hk) (And.intro (own_of_blocks' HX.out.2.2.2 fun k hk => hb3.block k hk) (And.intro hzz hb3.size)))))
  clear hown3 hb3 hB0 hW0 hzz
  go_wp2
  go_loopg [6, 7, 9, 10, 11, 12, 13] M (fun g rv uv ct _ _ _ _ wr => ∃ (q : Nat) (R U : List (ByteArray × Int)), g = M - q ∧ q ≤ M ∧ ct = .int .i64 q ∧ R = (TN.take q).filter (fun n => !f n) ∧ U = (TN.take q).filter f ∧ wr.ownsRow w.heap.size 24 2 rv R.length (namesC R) ∧ wr.ownsRow w.heap.size 24 2 uv U.length (namesC U) ∧ (∀ k, rv.ownBlock = some k → uv.ownBlock ≠ some k) ∧ Below w.heap.size w wr ∧ wr.ownsRow W0.heap.size 24 2 (.slice tA3 TN.length tc3) TN.length (namesC TN) ∧ (∀ k, (Value.slice tA3 TN.length tc3).ownBlock = some k → rv.ownBlock ≠ some k ∧ uv.ownBlock ≠ some k))
  case atStart =>
    refine ⟨0, [], [], rfl, by omega, rfl, rfl, rfl, H3.out.2.2.1, H3.out.2.2.2.1, fun k hk e => ?_, H3.out.2.1, H3.out.1, fun k hk => ?_⟩
    · cases hk; simp [Value.ownBlock] at e
    · have := (H3.out.1.lt k hk).1
      have hz := H3.out.2.2.2.2.1
      constructor <;> (intro e; simp [Value.ownBlock] at e; omega)
  case round =>
    obtain ⟨q, R, U, HG, hq, rfl, hR, hU, hrR, hrU, hne, hB, hT, hnt⟩ := hrel
    obtain ⟨rA, rc, rfl⟩ := own_formN hrR
    obtain ⟨uA, uc, rfl⟩ := own_formN hrU
    have hz := hB.size
    by_cases hlt : q < M
    · have hlt' : q < TN.length := by rw [HM.out]; exact hlt
      obtain ⟨x, hx⟩ : ∃ x, TN[q]? = some x := ⟨_, List.getElem?_eq_getElem hlt'⟩
      obtain ⟨gr, ucap, hform, hc1, hc2⟩ := own_pos2 hT (by omega)
      simp only [Value.slice.injEq, true_and] at hform
      obtain ⟨rfl, rfl⟩ := hform
      rw [HM.out] at hc1
      obtain ⟨x0, x1⟩ := namesC_at x TN q hx
      have hgl := (hT.lt gr rfl).2
      have c0 : wr.cell? ⟨gr, q * 2, none⟩ = some (.string x.1) := (hT.cellAt _ (by omega)).trans x0
      have c1 : wr.cell? ⟨gr, q * 2 + 1, none⟩ = some (.int .i64 x.2) := (hT.cellAt _ (by omega)).trans x1
      have htk : TN.take (q + 1) = TN.take q ++ [x] := by
        obtain ⟨_, rfl⟩ := List.getElem?_eq_some_iff.1 hx
        exact List.take_succ_eq_append_getElem _
      have hRl : R.length ≤ 32 := by rw [hR]; have := List.length_filter_le (fun n => !f n) (TN.take q); rw [List.length_take] at this; omega
      have hUl : U.length ≤ 32 := by rw [hU]; have := List.length_filter_le f (TN.take q); rw [List.length_take] at this; omega
      have i1 : (0 : Int) ≤ (q : Int) := by omega
      have i2 : (q : Int) < (M : Int) := by omega
      have HKx := Lib.hid (HKo.out wr x hB)
      have HT := Lib.hid (And.intro HG (And.intro hR (And.intro hU (And.intro hrR (And.intro hrU (And.intro hne (And.intro hB (And.intro hT (And.intro hnt htk)))))))))
      clear HG hR hU hrR hrU hne hB hT hnt hx x0 x1 htk
      go_wp2_with fail
      refine HKx.out.mono ?_
      intro e w5 hp5
      obtain ⟨hb5, s, er, rfl, hv⟩ := hp5.w
      clear hp5
      have d0 := (hb5.cell (p := ⟨gr, q * 2, none⟩) hgl).trans c0
      have d1 := (hb5.cell (p := ⟨gr, q * 2 + 1, none⟩) hgl).trans c1
      have hbw5 := HT.out.2.2.2.2.2.2.1.trans (hb5.mono hz)
      have HKy := Lib.hid (HKn.out w5 x hbw5)
      have H5 := Lib.hid (And.intro hv (And.intro hb5 hbw5))
      clear hv hb5 hbw5 c0 c1
      go_wp2_with fail
      refine HKy.out.mono ?_
      intro e w8 hp8
      obtain ⟨hb8, t, er2, rfl, hv2⟩ := hp8.w
      clear hp8
      have hgl5 : gr < w5.heap.size := Nat.lt_of_lt_of_le hgl H5.out.2.1.size
      have q0 := (hb8.cell (p := ⟨gr, q * 2, none⟩) hgl5).trans d0
      have q1 := (hb8.cell (p := ⟨gr, q * 2 + 1, none⟩) hgl5).trans d1
      have hb58 : Below wr.heap.size wr w8 := H5.out.2.1.trans (hb8.mono H5.out.2.1.size)
      have H8 := Lib.hid (And.intro hv2 (And.intro hb58 (H5.out.2.2.trans (hb8.mono H5.out.2.2.size))))
      have hst := toL_beq s t
      have HI := Lib.hid (HIs.out w8 x H8.out.2.2)
      obtain ⟨it, Hit⟩ : ∃ Q, Hid (isT old x = Q) := ⟨_, Lib.hid rfl⟩
      rw [Hit.out] at HI
      have hgl8 : gr < w8.heap.size := Nat.lt_of_lt_of_le hgl5 hb8.size
      clear hv2 hb8 hb58 d0 d1
      have hfx : f x = true ↔ (er = 0 ∧ er2 = 0 ∧ s = t ∧ it = true) := by
        rw [HX.out.1]
        constructor
        · rintro ⟨h1, k, h2, h3⟩
          obtain ⟨rfl, h4⟩ := H5.out.1.unique h2
          obtain ⟨rfl, h5⟩ := H8.out.1.unique h3
          exact ⟨h4, h5, rfl, by rw [← Hit.out]; exact h1⟩
        · rintro ⟨rfl, rfl, rfl, h⟩
          exact ⟨by rw [Hit.out]; exact h, s, H5.out.1, H8.out.1⟩
      by_cases hgood : er = 0 ∧ er2 = 0 ∧ s = t ∧ it = true
      · have HF := Lib.hid (hfx.2 hgood)
        obtain ⟨rfl, rfl, rfl, rfl⟩ := hgood
        have hst2 : (s.toList == s.toList) = true := by simp
        clear hst hfx
        go_wp2_with fail
        refine HI.out.mono ?_
        rintro e w9 ⟨rfl, hb9⟩
        have s0 := (hb9.cell (p := ⟨gr, q * 2, none⟩) hgl8).trans q0
        have s1 := (hb9.cell (p := ⟨gr, q * 2 + 1, none⟩) hgl8).trans q1
        have hb09 : Below wr.heap.size wr w9 := H8.out.2.1.trans (hb9.mono H8.out.2.1.size)
        have H9 := Lib.hid (And.intro (own_of_blocks' HT.out.2.2.2.1 fun k hk => hb09.block k hk) (And.intro (own_of_blocks' HT.out.2.2.2.2.1 fun k hk => hb09.block k hk) (And.intro (own_of_blocks' HT.out.2.2.2.2.2.2.2.1 fun k hk => hb09.block k hk) (HT.out.2.2.2.2.2.2.1.trans (hb09.mono hz)))))
        clear hb9 hb09 q0 q1
        have hz9 : w.heap.size ≤ w9.heap.size := H9.out.2.2.2.size
        go_wp2_with (at_builtin; refine wpList_append_own_at _ rfl _ _ 30 rfl w.heap.size 24 i0 _ 2 24 Tryz.underlying30 hi hz0' hz1' hz2' rfl (by decide) _ _ _ rfl (H9.out.2.1.alloc _) ⟨w9.heap.size, 0, none⟩ 1 1 [.string x.1, .int .i64 x.2] rfl rfl (cell_pair_new _ _ _ _) (by simp [Value.oneCell']) (by unfold maxLen; omega) (by omega) (by simp; omega) ?_; intro va wa howna hga _ hata; have HSa := Lib.hid (And.intro howna (And.intro hga hata)); obtain ⟨ga, ca, rfl⟩ := ownsRow_succ howna; clear howna hga hata)
        go_roundg (M - (q + 1))
        case measure => rw [HT.out.1]; omega
        case rel =>
          have hga : (w9.alloc (.cells #[.string x.1, .int .i64 x.2] 24)).grownBy wa (Value.slice uA U.length uc).ownBlock := HSa.out.2.1
          have hza := hga.size
          simp at hza
          refine ⟨q + 1, R, U ++ [x], rfl, by omega, by go_num, ?_, ?_, own_of_blocks (H9.out.1.alloc (.cells #[.string x.1, .int .i64 x.2] 24)) (fun k hk => hga.block k ?_ (fun e => HT.out.2.2.2.2.2.1 k hk e.symm)), ?_, ?_, (H9.out.2.2.2.alloc (by omega) _).grown hga (by simp; omega) (fun k e => (HT.out.2.2.2.2.1.lt k e).1), own_of_blocks (H9.out.2.2.1.alloc (.cells #[.string x.1, .int .i64 x.2] 24)) (fun k hk => hga.block k ?_ (fun e => (HT.out.2.2.2.2.2.2.2.2.1 k hk).2 e.symm)), fun k hk => ⟨(HT.out.2.2.2.2.2.2.2.2.1 k hk).1, ?_⟩⟩
          · rw [HT.out.2.2.2.2.2.2.2.2.2, List.filter_append, ← HT.out.2.1]; simp [HF.out]
          · rw [HT.out.2.2.2.2.2.2.2.2.2, List.filter_append, ← HT.out.2.2.1]; simp [HF.out]
          · have := (H9.out.1.lt k hk).2; simp; omega
          · rw [List.length_append, namesC_append]; exact HSa.out.1
          · intro k hk e
            rcases HSa.out.2.2 with h | h
            · exact HT.out.2.2.2.2.2.1 k hk (h.symm.trans e)
            · rw [h] at e
              have := (H9.out.1.lt k hk).2
              simp at e
              omega
          · have := (H9.out.2.2.1.lt k hk).2; simp; omega
          · intro e
            rcases HSa.out.2.2 with h | h
            · exact (HT.out.2.2.2.2.2.2.2.2.1 k hk).2 (h.symm.trans e)
            · rw [h] at e
              have := (H9.out.2.2.1.lt k hk).2
              simp at e
              omega
      · have HF := Lib.hid (show f x = false by
          cases h : f x with
          | false => rfl
          | true => exact absurd (hfx.1 h) hgood)
        have hbad : (er == 0) = false ∨ (er = 0 ∧ (er2 == 0) = false) ∨ (er = 0 ∧ er2 = 0 ∧ (s.toList == t.toList) = false) ∨ (er = 0 ∧ er2 = 0 ∧ (s.toList == t.toList) = true ∧ it = false) := by
          by_cases h1 : er = 0
          · by_cases h2 : er2 = 0
            · by_cases h3 : s = t
              · refine .inr (.inr (.inr ⟨h1, h2, by rw [hst]; exact decide_eq_true h3, ?_⟩))
                cases hit : it with
                | false => rfl
                | true => exact absurd ⟨h1, h2, h3, hit⟩ hgood
              · exact .inr (.inr (.inl ⟨h1, h2, by rw [hst]; exact decide_eq_false h3⟩))
            · exact .inr (.inl ⟨h1, by simpa using h2⟩)
          · exact .inl (by simpa using h1)
        have H9 := Lib.hid (And.intro (own_of_blocks' HT.out.2.2.2.1 fun k hk => H8.out.2.1.block k hk) (And.intro (own_of_blocks' HT.out.2.2.2.2.1 fun k hk => H8.out.2.1.block k hk) (And.intro (own_of_blocks' HT.out.2.2.2.2.2.2.2.1 fun k hk => H8.out.2.1.block k hk) H8.out.2.2)))
        clear hst hfx hgood
        rcases hbad with he1 | ⟨rfl, he2⟩ | ⟨rfl, rfl, hst2⟩ | ⟨rfl, rfl, hst2, rfl⟩
        · have hzW : w.heap.size ≤ w8.heap.size := H9.out.2.2.2.size
          go_wp2_with (at_builtin; refine wpList_append_own_at _ rfl _ _ 30 rfl w.heap.size 24 i0 _ 2 24 Tryz.underlying30 hi hz0' hz1' hz2' rfl (by decide) _ _ _ rfl (H9.out.1.alloc _) ⟨w8.heap.size, 0, none⟩ 1 1 [.string x.1, .int .i64 x.2] rfl rfl (cell_pair_new _ _ _ _) (by simp [Value.oneCell']) (by unfold maxLen; omega) (by omega) (by simp; omega) ?_; intro va wa howna hga _ hata; have HSa := Lib.hid (And.intro howna (And.intro hga hata)); obtain ⟨ga, ca, rfl⟩ := ownsRow_succ howna; clear howna hga hata)
          go_roundg (M - (q + 1))
          case measure => rw [HT.out.1]; omega
          case rel =>
            have hga : (w8.alloc (.cells #[.string x.1, .int .i64 x.2] 24)).grownBy wa (Value.slice rA R.length rc).ownBlock := HSa.out.2.1
            have hza := hga.size
            simp at hza
            refine ⟨q + 1, R ++ [x], U, rfl, by omega, by go_num, ?_, ?_, ?_, own_of_blocks (H9.out.2.1.alloc (.cells #[.string x.1, .int .i64 x.2] 24)) (fun k hk => hga.block k ?_ (fun e => HT.out.2.2.2.2.2.1 k e.symm hk)), ?_, (H9.out.2.2.2.alloc (by omega) _).grown hga (by simp; omega) (fun k e => (HT.out.2.2.2.1.lt k e).1), own_of_blocks (H9.out.2.2.1.alloc (.cells #[.string x.1, .int .i64 x.2] 24)) (fun k hk => hga.block k ?_ (fun e => (HT.out.2.2.2.2.2.2.2.2.1 k hk).1 e.symm)), fun k hk => ⟨?_, (HT.out.2.2.2.2.2.2.2.2.1 k hk).2⟩⟩
            · rw [HT.out.2.2.2.2.2.2.2.2.2, List.filter_append, ← HT.out.2.1]; simp [HF.out]
            · rw [HT.out.2.2.2.2.2.2.2.2.2, List.filter_append, ← HT.out.2.2.1]; simp [HF.out]
            · rw [List.length_append, namesC_append]; exact HSa.out.1
            · have := (H9.out.2.1.lt k hk).2; simp; omega
            · intro k hk e
              rcases HSa.out.2.2 with h | h
              · exact HT.out.2.2.2.2.2.1 k (h.symm.trans hk) e
              · rw [h] at hk
                have := (H9.out.2.1.lt k e).2
                simp at hk
                omega
            · have := (H9.out.2.2.1.lt k hk).2; simp; omega
            · intro e
              rcases HSa.out.2.2 with h | h
              · exact (HT.out.2.2.2.2.2.2.2.2.1 k hk).1 (h.symm.trans e)
              · rw [h] at e
                have := (H9.out.2.2.1.lt k hk).2
                simp at e
                omega
        · have hzW : w.heap.size ≤ w8.heap.size := H9.out.2.2.2.size
          go_wp2_with (at_builtin; refine wpList_append_own_at _ rfl _ _ 30 rfl w.heap.size 24 i0 _ 2 24 Tryz.underlying30 hi hz0' hz1' hz2' rfl (by decide) _ _ _ rfl (H9.out.1.alloc _) ⟨w8.heap.size, 0, none⟩ 1 1 [.string x.1, .int .i64 x.2] rfl rfl (cell_pair_new _ _ _ _) (by simp [Value.oneCell']) (by unfold maxLen; omega) (by omega) (by simp; omega) ?_; intro va wa howna hga _ hata; have HSa := Lib.hid (And.intro howna (And.intro hga hata)); obtain ⟨ga, ca, rfl⟩ := ownsRow_succ howna; clear howna hga hata)
          go_roundg (M - (q + 1))
          case measure => rw [HT.out.1]; omega
          case rel =>
            have hga : (w8.alloc (.cells #[.string x.1, .int .i64 x.2] 24)).grownBy wa (Value.slice rA R.length rc).ownBlock := HSa.out.2.1
            have hza := hga.size
            simp at hza
            refine ⟨q + 1, R ++ [x], U, rfl, by omega, by go_num, ?_, ?_, ?_, own_of_blocks (H9.out.2.1.alloc (.cells #[.string x.1, .int .i64 x.2] 24)) (fun k hk => hga.block k ?_ (fun e => HT.out.2.2.2.2.2.1 k e.symm hk)), ?_, (H9.out.2.2.2.alloc (by omega) _).grown hga (by simp; omega) (fun k e => (HT.out.2.2.2.1.lt k e).1), own_of_blocks (H9.out.2.2.1.alloc (.cells #[.string x.1, .int .i64 x.2] 24)) (fun k hk => hga.block k ?_ (fun e => (HT.out.2.2.2.2.2.2.2.2.1 k hk).1 e.symm)), fun k hk => ⟨?_, (HT.out.2.2.2.2.2.2.2.2.1 k hk).2⟩⟩
            · rw [HT.out.2.2.2.2.2.2.2.2.2, List.filter_append, ← HT.out.2.1]; simp [HF.out]
            · rw [HT.out.2.2.2.2.2.2.2.2.2, List.filter_append, ← HT.out.2.2.1]; simp [HF.out]
            · rw [List.length_append, namesC_append]; exact HSa.out.1
            · have := (H9.out.2.1.lt k hk).2; simp; omega
            · intro k hk e
              rcases HSa.out.2.2 with h | h
              · exact HT.out.2.2.2.2.2.1 k (h.symm.trans hk) e
              · rw [h] at hk
                have := (H9.out.2.1.lt k e).2
                simp at hk
                omega
            · have := (H9.out.2.2.1.lt k hk).2; simp; omega
            · intro e
              rcases HSa.out.2.2 with h | h
              · exact (HT.out.2.2.2.2.2.2.2.2.1 k hk).1 (h.symm.trans e)
              · rw [h] at e
                have := (H9.out.2.2.1.lt k hk).2
                simp at e
                omega
        · have hzW : w.heap.size ≤ w8.heap.size := H9.out.2.2.2.size
          go_wp2_with (at_builtin; refine wpList_append_own_at _ rfl _ _ 30 rfl w.heap.size 24 i0 _ 2 24 Tryz.underlying30 hi hz0' hz1' hz2' rfl (by decide) _ _ _ rfl (H9.out.1.alloc _) ⟨w8.heap.size, 0, none⟩ 1 1 [.string x.1, .int .i64 x.2] rfl rfl (cell_pair_new _ _ _ _) (by simp [Value.oneCell']) (by unfold maxLen; omega) (by omega) (by simp; omega) ?_; intro va wa howna hga _ hata; have HSa := Lib.hid (And.intro howna (And.intro hga hata)); obtain ⟨ga, ca, rfl⟩ := ownsRow_succ howna; clear howna hga hata)
          go_roundg (M - (q + 1))
          case measure => rw [HT.out.1]; omega
          case rel =>
            have hga : (w8.alloc (.cells #[.string x.1, .int .i64 x.2] 24)).grownBy wa (Value.slice rA R.length rc).ownBlock := HSa.out.2.1
            have hza := hga.size
            simp at hza
            refine ⟨q + 1, R ++ [x], U, rfl, by omega, by go_num, ?_, ?_, ?_, own_of_blocks (H9.out.2.1.alloc (.cells #[.string x.1, .int .i64 x.2] 24)) (fun k hk => hga.block k ?_ (fun e => HT.out.2.2.2.2.2.1 k e.symm hk)), ?_, (H9.out.2.2.2.alloc (by omega) _).grown hga (by simp; omega) (fun k e => (HT.out.2.2.2.1.lt k e).1), own_of_blocks (H9.out.2.2.1.alloc (.cells #[.string x.1, .int .i64 x.2] 24)) (fun k hk => hga.block k ?_ (fun e => (HT.out.2.2.2.2.2.2.2.2.1 k hk).1 e.symm)), fun k hk => ⟨?_, (HT.out.2.2.2.2.2.2.2.2.1 k hk).2⟩⟩
            · rw [HT.out.2.2.2.2.2.2.2.2.2, List.filter_append, ← HT.out.2.1]; simp [HF.out]
            · rw [HT.out.2.2.2.2.2.2.2.2.2, List.filter_append, ← HT.out.2.2.1]; simp [HF.out]
            · rw [List.length_append, namesC_append]; exact HSa.out.1
            · have := (H9.out.2.1.lt k hk).2; simp; omega
            · intro k hk e
              rcases HSa.out.2.2 with h | h
              · exact HT.out.2.2.2.2.2.1 k (h.symm.trans hk) e
              · rw [h] at hk
                have := (H9.out.2.1.lt k e).2
                simp at hk
                omega
            · have := (H9.out.2.2.1.lt k hk).2; simp; omega
            · intro e
              rcases HSa.out.2.2 with h | h
              · exact (HT.out.2.2.2.2.2.2.2.2.1 k hk).1 (h.symm.trans e)
              · rw [h] at e
                have := (H9.out.2.2.1.lt k hk).2
                simp at e
                omega
        · go_wp2_with fail
          refine HI.out.mono ?_
          rintro e w9 ⟨rfl, hb9⟩
          have s0 := (hb9.cell (p := ⟨gr, q * 2, none⟩) hgl8).trans q0
          have s1 := (hb9.cell (p := ⟨gr, q * 2 + 1, none⟩) hgl8).trans q1
          have hb09 : Below wr.heap.size wr w9 := H8.out.2.1.trans (hb9.mono H8.out.2.1.size)
          have H9 := Lib.hid (And.intro (own_of_blocks' HT.out.2.2.2.1 fun k hk => hb09.block k hk) (And.intro (own_of_blocks' HT.out.2.2.2.2.1 fun k hk => hb09.block k hk) (And.intro (own_of_blocks' HT.out.2.2.2.2.2.2.2.1 fun k hk => hb09.block k hk) (HT.out.2.2.2.2.2.2.1.trans (hb09.mono hz)))))
          clear hb9 hb09 q0 q1
          have hzW : w.heap.size ≤ w9.heap.size := H9.out.2.2.2.size
          go_wp2_with (at_builtin; refine wpList_append_own_at _ rfl _ _ 30 rfl w.heap.size 24 i0 _ 2 24 Tryz.underlying30 hi hz0' hz1' hz2' rfl (by decide) _ _ _ rfl (H9.out.1.alloc _) ⟨w9.heap.size, 0, none⟩ 1 1 [.string x.1, .int .i64 x.2] rfl rfl (cell_pair_new _ _ _ _) (by simp [Value.oneCell']) (by unfold maxLen; omega) (by omega) (by simp; omega) ?_; intro va wa howna hga _ hata; have HSa := Lib.hid (And.intro howna (And.intro hga hata)); obtain ⟨ga, ca, rfl⟩ := ownsRow_succ howna; clear howna hga hata)
          go_roundg (M - (q + 1))
          case measure => rw [HT.out.1]; omega
          case rel =>
            have hga : (w9.alloc (.cells #[.string x.1, .int .i64 x.2] 24)).grownBy wa (Value.slice rA R.length rc).ownBlock := HSa.out.2.1
            have hza := hga.size
            simp at hza
            refine ⟨q + 1, R ++ [x], U, rfl, by omega, by go_num, ?_, ?_, ?_, own_of_blocks (H9.out.2.1.alloc (.cells #[.string x.1, .int .i64 x.2] 24)) (fun k hk => hga.block k ?_ (fun e => HT.out.2.2.2.2.2.1 k e.symm hk)), ?_, (H9.out.2.2.2.alloc (by omega) _).grown hga (by simp; omega) (fun k e => (HT.out.2.2.2.1.lt k e).1), own_of_blocks (H9.out.2.2.1.alloc (.cells #[.string x.1, .int .i64 x.2] 24)) (fun k hk => hga.block k ?_ (fun e => (HT.out.2.2.2.2.2.2.2.2.1 k hk).1 e.symm)), fun k hk => ⟨?_, (HT.out.2.2.2.2.2.2.2.2.1 k hk).2⟩⟩
            · rw [HT.out.2.2.2.2.2.2.2.2.2, List.filter_append, ← HT.out.2.1]; simp [HF.out]
            · rw [HT.out.2.2.2.2.2.2.2.2.2, List.filter_append, ← HT.out.2.2.1]; simp [HF.out]
            · rw [List.length_append, namesC_append]; exact HSa.out.1
            · have := (H9.out.2.1.lt k hk).2; simp; omega
            · intro k hk e
              rcases HSa.out.2.2 with h | h
              · exact HT.out.2.2.2.2.2.1 k (h.symm.trans hk) e
              · rw [h] at hk
                have := (H9.out.2.1.lt k e).2
                simp at hk
                omega
            · have := (H9.out.2.2.1.lt k hk).2; simp; omega
            · intro e
              rcases HSa.out.2.2 with h | h
              · exact (HT.out.2.2.2.2.2.2.2.2.1 k hk).1 (h.symm.trans e)
              · rw [h] at e
                have := (H9.out.2.2.1.lt k hk).2
                simp at e
                omega
    · obtain rfl : q = M := by omega
      have htk : TN.take q = TN := List.take_of_length_le (by rw [HM.out]; exact Nat.le_refl _)
      rw [htk] at hR hU
      have HF := Lib.hid (And.intro hR (And.intro hU (And.intro hrR (And.intro hrU hB))))
      obtain ⟨r1, Hr1⟩ : ∃ Q, Hid (R.length = Q) := ⟨_, Lib.hid rfl⟩
      obtain ⟨u1, Hu1⟩ : ∃ Q, Hid (U.length = Q) := ⟨_, Lib.hid rfl⟩
      rw [Hr1.out, Hu1.out]
      clear hR hU hrR hrU hne hB HG htk hT hnt
      go_wp2
      go_ret2
      refine ⟨rA, rc, uA, uc, R, U, f, by rw [Hr1.out, Hu1.out]; rfl, HF.out.2.2.1, HF.out.2.2.2.1, HF.out.2.2.2.2, HX.out.1, ?_, ?_⟩
      · rw [HTN.out]; exact HF.out.1
      · rw [HTN.out]; exact HF.out.2.1
end Go.Proofs.YtdobpmbgngomlaaGreatDoor
