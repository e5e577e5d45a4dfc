/- ref24.With at a nil list; ref24.refs, Refs -/
import Derived.Test.YtacjjkbkhpdhnaaGreatDoorZlr
import Derived.Test.YtacjjkbkhpdhnaaGreatDoorZlq
import Derived.Test.YtacjjkbkhpdhnaaGreatDoorZla
import Derived.Test.YtacjjkbkhpdhnaaGreatDoorZpa
import Derived.Test.YtacjjkbkhpdhnaaGreatDoorZmg
import Derived.Test.YtacjjkbkhpdhnaaGreatDoorZll
namespace Go.Proofs.YtacjjkbkhpdhnaaGreatDoor
open Go.RowKit Go.Proofs Go.Shelf

set_option maxRecDepth 100000 in
set_option maxHeartbeats 8000000 in
theorem with24_nil (xa : ByteArray) (xi : Int) (w : World) :
    Calls Tryz.prog 111 #[.slice none 0 0, .agg #[.string xa, .int .i64 xi]] w (WithP24 [(xa, xi)] w) := by
  obtain ⟨i0, hi, hz0, hz1, hz2⟩ := info_parts Tryz.infoName
  obtain ⟨W0, hW0⟩ : ∃ W0, w.alloc (.cells #[.string xa, .int .i64 xi] 71) = W0 := ⟨_, rfl⟩
  have hzw : w.heap.size < W0.heap.size := by subst hW0; simp
  have hB0 : Below w.heap.size w W0 := by subst hW0; exact (Below.refl _ _).alloc (Nat.le_refl _) _
  have hx0 : W0.heap[w.heap.size]? = some (.cells #[.string xa, .int .i64 xi] 71 (0, 0)) := by rw [← hW0]; exact heap_alloc_new w _
  have HC : Hid (∀ X, Below W0.heap.size W0 X → Below w.heap.size w X ∧ X.cell? ⟨w.heap.size, 0, none⟩ = some (.string xa) ∧ X.cell? ⟨w.heap.size, 1, none⟩ = some (.int .i64 xi)) := fun X hX => by
    have h0 := (hX.block w.heap.size hzw).trans hx0
    exact ⟨hB0.trans (hX.mono (Nat.le_of_lt hzw)), cell_of_row X _ 0 _ _ (0, 0) h0, cell_of_row X _ 1 _ _ (0, 0) h0⟩
  clear hB0 hx0
  go_enter Tryz.func111, Tryz.ntmps111
  go_wp2_with fail
  clear hW0
  go_loopg [5] 0 (fun _ ct wr => ct = .int .i64 0 ∧ Below W0.heap.size W0 wr)
  case atStart => exact ⟨rfl, Below.refl _ _⟩
  case round =>
    obtain ⟨rfl, HB⟩ := hrel
    have HG' := Lib.hid HB
    clear HB
    go_wp2_with fail
    go_quiet (fail)
    have hBX0 := below_drewN HG'.out nq
    generalize wr.drewN nq = X0 at hBX0 ⊢
    go_wp2_with fail
    go_quiet (fail)
    have hBX := below_drewN hBX0 nq
    generalize X0.drewN nq = X at hBX ⊢
    clear hBX0
    go_wp2_with fail
    have hb0 : Below X.heap.size X X.drew := below_drew' (Below.refl _ _)
    have HKc : Hid (∀ Y, Below X.heap.size X Y → Y.cell? ⟨w.heap.size, 0, none⟩ = some (.string xa) ∧ Y.cell? ⟨w.heap.size, 1, none⟩ = some (.int .i64 xi)) := fun Y hY => (HC.out Y (hBX.trans (hY.mono hBX.size))).2
    have HO1 := Lib.hid (World.ownsRow_lit (base := X.heap.size) (e := 71) (size := 2) X.drew #[] 0 (Nat.le_refl _) (by simp) rfl)
    have HO2 := Lib.hid (HO1.out.alloc (.cells #[.string xa, .int .i64 xi] 71))
    have ho3 := World.ownsRow_lit (base := X.heap.size) (e := 71) (size := 2) (X.drew.alloc (.cells #[.string xa, .int .i64 xi] 71)) #[] 0 (by simp) (by simp) rfl
    rw [show (X.drew.alloc (.cells #[.string xa, .int .i64 xi] 71)).heap.size = X.heap.size + 1 by simp] at ho3
    have HO3 := Lib.hid ho3
    clear ho3
    have hba : Below X.heap.size X (X.drew.alloc (.cells #[] 71)) := hb0.alloc (Nat.le_refl _) _
    have hbb : Below X.heap.size X ((X.drew.alloc (.cells #[] 71)).alloc (.cells #[.string xa, .int .i64 xi] 71)) := hba.alloc hba.size _
    have hbn : Below X.heap.size X (X.drew.alloc (.cells #[.string xa, .int .i64 xi] 71)) := hb0.alloc (Nat.le_refl _) _
    have hbc : Below X.heap.size X ((X.drew.alloc (.cells #[.string xa, .int .i64 xi] 71)).alloc (.cells #[] 71)) := hbn.alloc hbn.size _
    have HGa := Lib.hid (fun w1 (hg : (X.drew.alloc (.cells #[] 71)).grownBy w1 (Value.slice (some ⟨X.drew.heap.size, 0, none⟩) 0 0).ownBlock) => hba.grown hg hba.size (fun q hq => (HO1.out.lt q hq).1))
    have HGb := Lib.hid (fun w1 (hg : ((X.drew.alloc (.cells #[] 71)).alloc (.cells #[.string xa, .int .i64 xi] 71)).grownBy w1 (Value.slice (some ⟨X.drew.heap.size, 0, none⟩) 0 0).ownBlock) => And.intro (hbb.grown hg hbb.size (fun q hq => (HO1.out.lt q hq).1)) (show w1.heap[X.heap.size + 1]? = some (.cells #[.string xa, .int .i64 xi] 71 (0, 0)) from (hg.block (X.heap.size + 1) (by simp) (fun h => by have := Option.some.inj h; change X.heap.size + 1 = X.heap.size at this; omega)).trans (by have := heap_alloc_new (X.drew.alloc (.cells #[] 71)) (.cells #[.string xa, .int .i64 xi] 71); rwa [show (X.drew.alloc (.cells #[] 71)).heap.size = X.heap.size + 1 by simp] at this)))
    have HGc := Lib.hid (fun w1 (hg : ((X.drew.alloc (.cells #[.string xa, .int .i64 xi] 71)).alloc (.cells #[] 71)).grownBy w1 (Value.slice (some ⟨X.heap.size + 1, 0, none⟩) 0 0).ownBlock) => And.intro (hbc.grown hg hbc.size (fun q hq => (HO3.out.lt q hq).1)) (show w1.heap[X.heap.size]? = some (.cells #[.string xa, .int .i64 xi] 71 (0, 0)) from (hg.block X.heap.size (by simp; omega) (fun h => by have := Option.some.inj h; change X.heap.size = X.heap.size + 1 at this; omega)).trans (by rw [Below.heap_alloc _ _ _ (by simp)]; exact heap_alloc_new X.drew _)))
    have HM : Hid (0 + 0 ≤ maxLen ∧ (0 + 0) * 24 ≤ 140737488355328 ∧ 0 + 0 + 1 ≤ maxLen ∧ (0 + 0 + 1) * 24 ≤ 140737488355328) := by
      refine ⟨?_, ?_, ?_, ?_⟩ <;> decide
    have HBB := Lib.hid (And.intro hba (And.intro hbb hbc))
    have HB0' := Lib.hid (And.intro hb0 hbn)
    clear hba hbb hbc hb0 hbn
    go_region_held3 (fun Y => Y.cell? ⟨w.heap.size, 0, none⟩ = some (.string xa) ∧ Y.cell? ⟨w.heap.size, 1, none⟩ = some (.int .i64 xi))
      (first | exact HKc.out _ hb2 | exact HKc.out _ hb1 | exact HKc.out _ (hb1.alloc hb1.size _) | exact HKc.out _ HB0'.out.1 | exact HKc.out _ HB0'.out.2 | exact HKc.out _ HBB.out.1 | exact HKc.out _ HBB.out.2.1 | exact HKc.out _ HBB.out.2.2)
      (first
        | (refine step_append_any _ rfl (.tmp 34) (.tmp 37) 36 rfl X.heap.size 71 i0 _ 2 24 Tryz.underlying36 hi hz0 hz1 hz2 rfl (Nat.succ_pos 1) _ 0 [] rfl HO1.out none 0 0 [] rfl rfl (fun _ => rfl) (fun _ h => nomatch h) (fun u hu => nomatch hu) HM.out.1 HM.out.2.1 HBB.out.1.size ?_; intro v1 w1 hown1 hg1; have hb1 := HGa.out w1 hg1; have tokA : True := trivial)
        | (refine step_append_any _ rfl (.tmp 34) (.tmp 37) 36 rfl X.heap.size 71 i0 _ 2 24 Tryz.underlying36 hi hz0 hz1 hz2 rfl (Nat.succ_pos 1) _ 0 [] rfl HO2.out none 0 0 [] rfl rfl (fun _ => rfl) (fun _ h => nomatch h) (fun u hu => nomatch hu) HM.out.1 HM.out.2.1 HBB.out.2.1.size ?_; intro v1 w1 hown1 hg1; obtain ⟨hb1, hD⟩ := HGb.out w1 hg1; have tokB : True := trivial)
        | (refine step_append_any _ rfl (.tmp 34) (.tmp 37) 36 rfl X.heap.size 71 i0 _ 2 24 Tryz.underlying36 hi hz0 hz1 hz2 rfl (Nat.succ_pos 1) _ 0 [] rfl HO3.out none 0 0 [] rfl rfl (fun _ => rfl) (fun _ h => nomatch h) (fun u hu => nomatch hu) HM.out.1 HM.out.2.1 HBB.out.2.2.size ?_; intro v1 w1 hown1 hg1; obtain ⟨hb1, hD⟩ := HGc.out w1 hg1; have tokC : True := trivial)
        | (have _t := tokA; refine step_append_any _ rfl (.tmp 38) (.tmp 40) 36 rfl X.heap.size 71 i0 _ 2 24 Tryz.underlying36 hi hz0 hz1 hz2 rfl (Nat.succ_pos 1) v1 _ _ rfl (hown1.alloc _) (some ⟨w1.heap.size, 0, none⟩) 1 1 [.string xa, .int .i64 xi] rfl rfl (fun h => nomatch h) (news_pair _ _ _) (namesC_one [(xa, xi)]) HM.out.2.2.1 HM.out.2.2.2 (hb1.alloc hb1.size _).size ?_; intro v2 w2 hown2 hg2; have hb2 := (hb1.alloc hb1.size (.cells #[.string xa, .int .i64 xi] 71)).grown hg2 (hb1.alloc hb1.size _).size (fun q hq => (hown1.lt q hq).1))
        | (have _t := tokB; refine step_append_any _ rfl (.tmp 38) (.tmp 40) 36 rfl X.heap.size 71 i0 _ 2 24 Tryz.underlying36 hi hz0 hz1 hz2 rfl (Nat.succ_pos 1) v1 _ _ rfl hown1 (some ⟨X.heap.size + 1, 0, none⟩) 1 1 [.string xa, .int .i64 xi] rfl rfl (fun h => nomatch h) (news_at hD) (namesC_one [(xa, xi)]) HM.out.2.2.1 HM.out.2.2.2 hb1.size ?_; intro v2 w2 hown2 hg2; have hb2 := hb1.grown hg2 hb1.size (fun q hq => (hown1.lt q hq).1))
        | (have _t := tokC; refine step_append_any _ rfl (.tmp 38) (.tmp 40) 36 rfl X.heap.size 71 i0 _ 2 24 Tryz.underlying36 hi hz0 hz1 hz2 rfl (Nat.succ_pos 1) v1 _ _ rfl hown1 (some ⟨X.heap.size, 0, none⟩) 1 1 [.string xa, .int .i64 xi] rfl rfl (fun h => nomatch h) (news_at hD) (namesC_one [(xa, xi)]) HM.out.2.2.1 HM.out.2.2.2 hb1.size ?_; intro v2 w2 hown2 hg2; have hb2 := hb1.grown hg2 hb1.size (fun q hq => (hown1.lt q hq).1)))
    all_goals (
      go_wp2_with (at_builtin; refine wpList_append_own_any _ rfl (.tmp 42) (.tmp 45) 36 rfl X.heap.size 71 i0 _ 2 24 Tryz.underlying36 hi hz0 hz1 hz2 rfl (Nat.succ_pos 1) v2 _ _ rfl hown2 none 0 0 [] rfl rfl (fun _ => rfl) (fun _ h => nomatch h) (fun u hu => nomatch hu) HM.out.2.2.1 HM.out.2.2.2 hb2.size ?_; intro v3 w5 hown3 hg3)
      go_ret
      have hb5 := hb2.grown hg3 hb2.size (fun q hq => (hown2.lt q hq).1)
      have hf : w5.ownsRow X.heap.size 71 2 v3 [(xa, xi)].length (namesC [(xa, xi)]) := by
        simpa [namesC, encN] using hown3
      obtain ⟨A', c', rfl, ho⟩ := OwnN.of hf
      exact ⟨A', c', rfl, ho, (HC.out _ (hBX.trans (hb5.mono hBX.size))).1⟩)
theorem with24_any (l : List (ByteArray × Int)) (xa : ByteArray) (xi : Int) (A : Option Addr) (c : Nat) (w : World) (hs : OwnN w A c l) (hl : l.length ≤ 1000000) :
    Calls Tryz.prog 111 #[.slice A l.length c, .agg #[.string xa, .int .i64 xi]] w (WithP24 (withN l (xa, xi)) w) := by
  rcases hs.cells with ⟨rfl, rfl, rfl⟩ | ⟨g, rfl, _⟩
  · exact with24_nil xa xi w
  · exact with24_some l xa xi g c w hs hl
end Go.Proofs.YtacjjkbkhpdhnaaGreatDoor
/- ref24.refs, Refs -/
namespace Go.Proofs.YtacjjkbkhpdhnaaGreatDoor
open Go.RowKit Go.Proofs Go.Shelf

/-- The references of a forest, put into a list. -/
def Fo.wr : Fo → List (ByteArray × Int) → List (ByteArray × Int)
  | .nil, l => l
  | .cons k n _ i _ _ _ s r, l => r.wr (s.wr (if k = 5 then withN l (n, i) else l))
def nodeRef (k : Int) (n : ByteArray) (i : Int) (s : Fo) (l : List (ByteArray × Int)) : List (ByteArray × Int) := s.wr (if k = 5 then withN l (n, i) else l)
theorem withN_len (l : List (ByteArray × Int)) (x : ByteArray × Int) : (withN l x).length ≤ l.length + 1 := by
  have h := List.takeWhile_append_dropWhile (p := fun y => lessN y x) (l := l)
  have hl := congrArg List.length h
  rw [List.length_append] at hl
  unfold withN
  split
  · rename_i hd; rw [hd] at hl; simp at hl ⊢; omega
  · rename_i hd
    split
    · omega
    · rw [hd] at hl; simp at hl ⊢; omega
theorem Fo.wr_len : ∀ (s : Fo) (l : List (ByteArray × Int)), (s.wr l).length ≤ l.length + s.count
  | .nil, l => by simp [Fo.wr, Fo.count]
  | .cons k n m i d A c s r, l => by
    simp only [Fo.wr, Fo.count]
    have h1 := wr_len r (s.wr (if k = 5 then withN l (n, i) else l))
    have h2 := wr_len s (if k = 5 then withN l (n, i) else l)
    have h3 : (if k = 5 then withN l (n, i) else l).length ≤ l.length + 1 := by
      split
      · exact withN_len _ _
      · omega
    omega
theorem nodeRef_len (k : Int) (n : ByteArray) (i : Int) (s : Fo) (l : List (ByteArray × Int)) : (nodeRef k n i s l).length ≤ l.length + (1 + s.count) := by
  unfold nodeRef
  have h2 := s.wr_len (if k = 5 then withN l (n, i) else l)
  have h3 : (if k = 5 then withN l (n, i) else l).length ≤ l.length + 1 := by
    split
    · exact withN_len _ _
    · omega
  omega
def RfOK (s : Fo) : Prop := ∀ (k : Int) (n m : ByteArray) (i d : Int) (A : Option Addr) (c : Nat) (l : List (ByteArray × Int)) (lA : Option Addr) (lc : Nat) (w : World), s.Sl w w.heap.size A c → OwnN w lA lc l → l.length + (1 + s.count) ≤ 1000000 →
    Calls Tryz.prog 62 #[.slice lA l.length lc, .agg #[.int .i64 k, .string n, .string m, .int .i64 i, .int .i64 d, .slice A s.len c]] w (WithP24 (nodeRef k n i s l) w)

set_option maxRecDepth 100000 in
set_option maxHeartbeats 4000000 in
theorem rf_step (s : Fo) (ih : s.All RfOK) : RfOK s := by
  intro k n m i d A c l lA lc w hs hl hcnt
  have hcap : s.len ≤ 9223372036854775807 := by have := hs.1; have := hs.2.1; unfold maxLen at this; omega
  obtain ⟨W0, hW0⟩ : ∃ W0, w.alloc (.cells #[.int .i64 k, .string n, .string m, .int .i64 i, .int .i64 d, .slice A s.len c] 28) = W0 := ⟨_, rfl⟩
  have hzw : w.heap.size < W0.heap.size := by subst hW0; simp
  have hB0 : Below w.heap.size w W0 := by subst hW0; exact (Below.refl _ _).alloc (Nat.le_refl _) _
  have hx0 : W0.heap[w.heap.size]? = some (.cells #[.int .i64 k, .string n, .string m, .int .i64 i, .int .i64 d, .slice A s.len c] 28 (0, 0)) := by rw [← hW0]; exact heap_alloc_new w _
  have HC : Hid (∀ X, Below W0.heap.size W0 X → Below w.heap.size w X ∧ X.cell? ⟨w.heap.size, 0, none⟩ = some (.int .i64 k) ∧ X.cell? ⟨w.heap.size, 1, none⟩ = some (.string n) ∧ X.cell? ⟨w.heap.size, 3, none⟩ = some (.int .i64 i) ∧ X.cell? ⟨w.heap.size, 5, none⟩ = some (.slice A s.len c)) := fun X hX => by
    have h0 := (hX.block w.heap.size hzw).trans hx0
    exact ⟨hB0.trans (hX.mono (Nat.le_of_lt hzw)), cell_of_row X _ 0 _ _ (0, 0) h0, cell_of_row X _ 1 _ _ (0, 0) h0, cell_of_row X _ 3 _ _ (0, 0) h0, cell_of_row X _ 5 _ _ (0, 0) h0⟩
  have HS := Lib.hid (And.intro hs ih)
  obtain ⟨R, HR⟩ : ∃ q, Hid (nodeRef k n i s l = q) := ⟨_, Lib.hid rfl⟩
  rw [HR.out]
  have hl0 := hl.below hB0 (Nat.le_refl _)
  obtain ⟨_, x0, x1, x3, x5⟩ := HC.out W0 (Below.refl _ _)
  clear hs ih hl hB0 hx0
  by_cases hk : k = 5
  · subst hk
    have HRs := Lib.hid (show s.wr (withN l (n, i)) = R by rw [← HR.out]; rfl)
    have hwl := withN_len l (n, i)
    have HW := Lib.hid (with24_any l n i lA lc W0 hl0 (by omega))
    clear HR hl0
    obtain ⟨L0, HL0⟩ : ∃ q, Hid (withN l (n, i) = q) := ⟨_, Lib.hid rfl⟩
    rw [HL0.out] at HRs hwl HW
    go_enter Tryz.func62, Tryz.ntmps62
    go_wp2_with fail
    refine HW.out.mono ?_
    rintro e w1 ⟨A1, c1, rfl, ho1, hb1⟩
    have HO1 := Lib.hid (And.intro ho1 hb1)
    clear ho1 hb1 x0 x1 x3 x5 hW0 HW HL0
    go_wp2_with fail
    go_loopg [0, 5] s.len (fun gg lv ct wr => ∃ (j : Nat) (r : Fo) (A2 : Option Addr) (c2 : Nat) (L : List (ByteArray × Int)), gg = r.len ∧ j + r.len = s.len ∧ ct = .int .i64 j ∧ lv = .slice A2 L.length c2 ∧
      OwnN wr A2 c2 L ∧ r.wr L = R ∧ (L.length + r.count ≤ l.length + 1 + s.count ∧ r.count ≤ s.count) ∧ r.All RfOK ∧
      (r ≠ .nil → ∃ b o, A = some ⟨b, o, none⟩ ∧ b < w.heap.size ∧ r.At wr w.heap.size b (o + j * 6)) ∧ Below W0.heap.size W0 wr)
    case atStart =>
      refine ⟨0, s, A1, c1, L0, rfl, by omega, rfl, rfl, HO1.out.1, HRs.out, ⟨by omega, Nat.le_refl _⟩, HS.out.2, ?_, HO1.out.2⟩
      intro hne
      obtain ⟨b, o, e, hb, h⟩ := HS.out.1.2.2 hne
      exact ⟨b, o, e, hb, by rw [Nat.zero_mul, Nat.add_zero]; exact h.keep (Nat.le_refl _) (fun p hp => (HC.out _ HO1.out.2).1.cell hp) hb⟩
    case round =>
      obtain ⟨j, r, A2, c2, L, HG, hjr, rfl, rfl, hown, hR, ⟨hct, hcn⟩, HA, HAt, HB⟩ := hrel
      have HBh := Lib.hid (And.intro HB (And.intro hown (And.intro hR HA)))
      clear hown hR HA HB
      have hzr := HBh.out.1.size
      obtain ⟨hBw, _, _, _, x5⟩ := HC.out wr HBh.out.1
      have HBw := Lib.hid hBw
      clear hBw
      cases r with
      | nil =>
        have hjr2 : s.len ≤ j := by simp only [Fo.len] at hjr; omega
        have hjr1 : j ≤ s.len := by simp only [Fo.len] at hjr; omega
        have HF := Lib.hid (show WithP24 R w (.returned (.slice A2 L.length c2)) wr from ⟨A2, c2, by rw [← HBh.out.2.2.1]; rfl, by rw [← HBh.out.2.2.1]; exact HBh.out.2.1, HBw.out⟩)
        clear hjr HG hct hcn
        go_wp2
        go_ret
        exact HF.out
      | cons rk rn rm ri rd A' rc rs rr =>
        have hjr2 : j < s.len := by simp only [Fo.len] at hjr; omega
        obtain ⟨b, o, rfl, hb, h0, h1, h2, h3, h4, ⟨h5, hc', hm', hs'⟩, hr'⟩ := HAt (by simp)
        simp only [Fo.count] at hct hcn
        have HCL := Lib.hid (HBh.out.2.2.2.1 rk rn rm ri rd A' rc L A2 c2 wr ⟨hc', hm', fun hne => by
          obtain ⟨b', o', e, hb', h'⟩ := hs' hne
          exact ⟨b', o', e, by omega, h'.keep (by omega) (fun _ _ => rfl) hb'⟩⟩ HBh.out.2.1 (by omega))
        have hnl := nodeRef_len rk rn ri rs L
        have HRk := Lib.hid (show rr.wr (nodeRef rk rn ri rs L) = R from HBh.out.2.2.1)
        have HK := Lib.hid hr'
        obtain ⟨L3, HL3⟩ : ∃ q, Hid (nodeRef rk rn ri rs L = q) := ⟨_, Lib.hid rfl⟩
        rw [HL3.out] at HCL hnl HRk
        clear HAt hr' hs' HL3
        go_wp2_with fail
        refine HCL.out.mono ?_
        rintro e w4 ⟨A4, c4, rfl, ho4, hb4⟩
        have HB4 := Lib.hid (And.intro ho4 hb4)
        clear ho4 hb4
        go_wp2
        go_roundg rr.len
        case measure => first | (rw [HG]; simp [Fo.len]; done) | (simp only [Fo.len]; omega)
        case rel =>
          refine ⟨j + 1, rr, A4, c4, L3, rfl, by simp only [Fo.len] at hjr; omega, by go_num, rfl, HB4.out.1, HRk.out, ⟨by omega, by omega⟩, HBh.out.2.2.2.2, ?_, HBh.out.1.trans (HB4.out.2.mono hzr)⟩
          intro hne
          refine ⟨b, o, rfl, hb, ?_⟩
          rw [show o + (j + 1) * 6 = o + j * 6 + 6 by omega]
          exact HK.out.keep (Nat.le_refl _) (fun p hp => HB4.out.2.cell (by omega)) hb
  · have hk' : (k == 5) = false := by simpa using hk
    have HRs := Lib.hid (show s.wr l = R by rw [← HR.out, nodeRef, if_neg hk])
    have HO1 := Lib.hid (And.intro hl0 (Below.refl W0.heap.size W0))
    have hwl : l.length ≤ l.length + 1 := by omega
    clear HR hl0 hk
    go_enter Tryz.func62, Tryz.ntmps62
    go_wp2_with fail
    clear x0 x1 x3 x5 hW0
    go_loopg [0, 5] s.len (fun gg lv ct wr => ∃ (j : Nat) (r : Fo) (A2 : Option Addr) (c2 : Nat) (L : List (ByteArray × Int)), gg = r.len ∧ j + r.len = s.len ∧ ct = .int .i64 j ∧ lv = .slice A2 L.length c2 ∧
      OwnN wr A2 c2 L ∧ r.wr L = R ∧ (L.length + r.count ≤ l.length + 1 + s.count ∧ r.count ≤ s.count) ∧ r.All RfOK ∧
      (r ≠ .nil → ∃ b o, A = some ⟨b, o, none⟩ ∧ b < w.heap.size ∧ r.At wr w.heap.size b (o + j * 6)) ∧ Below W0.heap.size W0 wr)
    case atStart =>
      refine ⟨0, s, lA, lc, l, rfl, by omega, rfl, rfl, HO1.out.1, HRs.out, ⟨by omega, Nat.le_refl _⟩, HS.out.2, ?_, HO1.out.2⟩
      intro hne
      obtain ⟨b, o, e, hb, h⟩ := HS.out.1.2.2 hne
      exact ⟨b, o, e, hb, by rw [Nat.zero_mul, Nat.add_zero]; exact h.keep (Nat.le_refl _) (fun p hp => (HC.out _ HO1.out.2).1.cell hp) hb⟩
    case round =>
      obtain ⟨j, r, A2, c2, L, HG, hjr, rfl, rfl, hown, hR, ⟨hct, hcn⟩, HA, HAt, HB⟩ := hrel
      have HBh := Lib.hid (And.intro HB (And.intro hown (And.intro hR HA)))
      clear hown hR HA HB
      have hzr := HBh.out.1.size
      obtain ⟨hBw, _, _, _, x5⟩ := HC.out wr HBh.out.1
      have HBw := Lib.hid hBw
      clear hBw
      cases r with
      | nil =>
        have hjr2 : s.len ≤ j := by simp only [Fo.len] at hjr; omega
        have hjr1 : j ≤ s.len := by simp only [Fo.len] at hjr; omega
        have HF := Lib.hid (show WithP24 R w (.returned (.slice A2 L.length c2)) wr from ⟨A2, c2, by rw [← HBh.out.2.2.1]; rfl, by rw [← HBh.out.2.2.1]; exact HBh.out.2.1, HBw.out⟩)
        clear hjr HG hct hcn
        go_wp2
        go_ret
        exact HF.out
      | cons rk rn rm ri rd A' rc rs rr =>
        have hjr2 : j < s.len := by simp only [Fo.len] at hjr; omega
        obtain ⟨b, o, rfl, hb, h0, h1, h2, h3, h4, ⟨h5, hc', hm', hs'⟩, hr'⟩ := HAt (by simp)
        simp only [Fo.count] at hct hcn
        have HCL := Lib.hid (HBh.out.2.2.2.1 rk rn rm ri rd A' rc L A2 c2 wr ⟨hc', hm', fun hne => by
          obtain ⟨b', o', e, hb', h'⟩ := hs' hne
          exact ⟨b', o', e, by omega, h'.keep (by omega) (fun _ _ => rfl) hb'⟩⟩ HBh.out.2.1 (by omega))
        have hnl := nodeRef_len rk rn ri rs L
        have HRk := Lib.hid (show rr.wr (nodeRef rk rn ri rs L) = R from HBh.out.2.2.1)
        have HK := Lib.hid hr'
        obtain ⟨L3, HL3⟩ : ∃ q, Hid (nodeRef rk rn ri rs L = q) := ⟨_, Lib.hid rfl⟩
        rw [HL3.out] at HCL hnl HRk
        clear HAt hr' hs' HL3
        go_wp2_with fail
        refine HCL.out.mono ?_
        rintro e w4 ⟨A4, c4, rfl, ho4, hb4⟩
        have HB4 := Lib.hid (And.intro ho4 hb4)
        clear ho4 hb4
        go_wp2
        go_roundg rr.len
        case measure => first | (rw [HG]; simp [Fo.len]; done) | (simp only [Fo.len]; omega)
        case rel =>
          refine ⟨j + 1, rr, A4, c4, L3, rfl, by simp only [Fo.len] at hjr; omega, by go_num, rfl, HB4.out.1, HRk.out, ⟨by omega, by omega⟩, HBh.out.2.2.2.2, ?_, HBh.out.1.trans (HB4.out.2.mono hzr)⟩
          intro hne
          refine ⟨b, o, rfl, hb, ?_⟩
          rw [show o + (j + 1) * 6 = o + j * 6 + 6 by omega]
          exact HK.out.keep (Nat.le_refl _) (fun p hp => HB4.out.2.cell (by omega)) hb
theorem rf_any (s : Fo) : RfOK s := Fo.by_parts rf_step s

set_option maxRecDepth 100000 in
set_option maxHeartbeats 1000000 in
theorem refs24_top (k : Int) (n m : ByteArray) (i d : Int) (A : Option Addr) (c : Nat) (s : Fo) (w : World) (hs : s.Sl w w.heap.size A c) (hcnt : s.count ≤ 100000) :
    Calls Tryz.prog 18 #[.agg #[.int .i64 k, .string n, .string m, .int .i64 i, .int .i64 d, .slice A s.len c]] w (WithP24 (nodeRef k n i s []) w) := by
  obtain ⟨W0, hW0⟩ : ∃ W0, w.alloc (.cells #[.int .i64 k, .string n, .string m, .int .i64 i, .int .i64 d, .slice A s.len c] 28) = W0 := ⟨_, rfl⟩
  have hB0 : Below w.heap.size w W0 := by subst hW0; exact (Below.refl _ _).alloc (Nat.le_refl _) _
  have x0 : W0.cell? ⟨w.heap.size, 0, none⟩ = some (.int .i64 k) := by subst hW0; go_simp
  have x1 : W0.cell? ⟨w.heap.size, 1, none⟩ = some (.string n) := by subst hW0; go_simp
  have x2 : W0.cell? ⟨w.heap.size, 2, none⟩ = some (.string m) := by subst hW0; go_simp
  have x3 : W0.cell? ⟨w.heap.size, 3, none⟩ = some (.int .i64 i) := by subst hW0; go_simp
  have x4 : W0.cell? ⟨w.heap.size, 4, none⟩ = some (.int .i64 d) := by subst hW0; go_simp
  have x5 : W0.cell? ⟨w.heap.size, 5, none⟩ = some (.slice A s.len c) := by subst hW0; go_simp
  have HRF := Lib.hid (rf_any s k n m i d A c [] none 0 W0 (hs.keep hB0.size fun p hp => hB0.cell hp) (OwnN.nil _) (by simp; omega))
  have HB := Lib.hid hB0
  clear hs hB0
  go_enter Tryz.func18, Tryz.ntmps18
  go_wp2_with fail
  refine HRF.out.mono ?_
  rintro e w1 ⟨A1, c1, rfl, ho1, hb1⟩
  have HO := Lib.hid (And.intro ho1 (HB.out.trans (hb1.mono HB.out.size)))
  clear ho1 hb1
  go_wp2
  go_ret
  exact ⟨A1, c1, rfl, HO.out.1, HO.out.2⟩
end Go.Proofs.YtacjjkbkhpdhnaaGreatDoor
/- ref24.Refs gives the program's list -/
namespace Go.Proofs.YtacjjkbkhpdhnaaGreatDoor
open Go.RowKit Go.Proofs Go.Shelf

theorem Fo.mem_wr2 : ∀ (s : Fo) (l : List (ByteArray × Int)) (y : ByteArray × Int), y ∈ s.wr l ↔ y ∈ l ∨ y ∈ refL s.vis
  | .nil, l, y => by simp [Fo.wr, Fo.vis, refL]
  | .cons k n m i d A c s r, l, y => by
    simp only [Fo.wr]
    rw [Fo.mem_wr2 r, Fo.mem_wr2 s]
    have h1 : y ∈ (if k = 5 then withN l (n, i) else l) ↔ y ∈ l ∨ (k = 5 ∧ y = (n, i)) := by
      split
      · rename_i h; rw [mem_withN]; simp [h]
      · rename_i h; simp [h]
    have h2 : y ∈ refL (Fo.cons k n m i d A c s r).vis ↔ y ∈ refL r.vis ∨ (k = 5 ∧ y = (n, i)) ∨ y ∈ refL s.vis := by
      unfold refL
      simp only [Fo.vis, List.filterMap_append, List.mem_append, List.filterMap_cons]
      by_cases hk : k = 5
      · simp [hk]
      · simp [hk]
    rw [h1, h2]
    constructor
    · rintro (((h | h) | h) | h)
      · exact .inl h
      · exact .inr (.inr (.inl h))
      · exact .inr (.inr (.inr h))
      · exact .inr (.inl h)
    · rintro (h | h | h | h)
      · exact .inl (.inl (.inl h))
      · exact .inr h
      · exact .inl (.inl (.inr h))
      · exact .inl (.inr h)
theorem Fo.wr_sorted : ∀ (s : Fo) (l : List (ByteArray × Int)), l.Pairwise ltN → (s.wr l).Pairwise ltN
  | .nil, _, h => h
  | .cons k n m i d A c s r, l, h => by
    simp only [Fo.wr]
    refine Fo.wr_sorted r _ (Fo.wr_sorted s _ ?_)
    split
    · exact withN_sorted h _
    · exact h
theorem nodeRef_eq (k : Int) (n m : ByteArray) (i d : Int) (A : Option Addr) (c : Nat) (s : Fo) : nodeRef k n i s [] = refsOf (Fo.cons k n m i d A c s .nil).vis := by
  have e : refsOf (Fo.cons k n m i d A c s .nil).vis = ordN (refL (Fo.cons k n m i d A c s .nil).vis) := rfl
  rw [e]
  refine (ordN_eq (Fo.wr_sorted (Fo.cons k n m i d A c s .nil) [] List.Pairwise.nil) fun x => ?_).symm
  have h := Fo.mem_wr2 (Fo.cons k n m i d A c s .nil) [] x
  simp only [List.not_mem_nil, false_or] at h
  exact h
end Go.Proofs.YtacjjkbkhpdhnaaGreatDoor
/- What a module is like that is not great -/
namespace Go.Proofs.YtacjjkbkhpdhnaaGreatDoor
open Go.RowKit Go.Proofs Go.Shelf

theorem short_of' : ∀ s : Fo, s.longB = false → s.Short
  | .nil, _ => trivial
  | .cons _ n m _ _ _ _ s r, h => by
    simp only [Fo.longB, Bool.or_eq_false_iff, decide_eq_false_iff_not] at h
    exact ⟨⟨by omega, by omega⟩, short_of' s h.1.2, short_of' r h.2⟩
/-- What a module is like that is not great. -/
theorem small_mod' {label : ByteArray} {uses : List ByteArray} {decls : List Dc} (hg : greatM label uses decls = false) (hc : ∀ x ∈ decls, x.s.count ≤ 2000000) : ModS label uses decls ∧ ∀ x ∈ decls, x.s.count ≤ 39 := by
  simp only [greatM, greatU, greatD, Bool.or_eq_false_iff, decide_eq_false_iff_not, List.any_eq_false] at hg
  obtain ⟨⟨h1, _, h2⟩, _, h3⟩ := hg
  have hx : ∀ x ∈ decls, x.Sht ∧ x.s.count ≤ 39 := fun x hx => by
    have h := h3 x hx
    simp only [greatD1, greatE, greatN, Bool.or_eq_true, not_or, decide_eq_true_eq, List.any_eq_true, not_exists, not_and, Bool.not_eq_true] at h
    obtain ⟨⟨_, hn, hl⟩, hnm⟩ := h
    have hcx := hc x hx
    have hw : wrap64 (1 + (x.s.count : Int)) = 1 + x.s.count := wrap64_small (by omega) (by omega)
    rw [hw] at hn
    obtain ⟨⟨hl1, hl2⟩, hl3⟩ := hl
    refine ⟨⟨⟨by omega, by omega⟩, short_of' x.s hl3, by omega, fun s hs => ?_⟩, by omega⟩
    have := hnm s hs
    omega
  refine ⟨⟨by omega, fun s hs => ?_, fun x h => (hx x h).1⟩, fun x h => (hx x h).2⟩
  have := h2 s hs
  simp only [decide_eq_true_eq] at this
  omega
end Go.Proofs.YtacjjkbkhpdhnaaGreatDoor
