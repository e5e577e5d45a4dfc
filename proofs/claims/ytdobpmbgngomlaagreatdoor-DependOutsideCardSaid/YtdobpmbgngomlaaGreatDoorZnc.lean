/- testselect.Select -/
import Derived.Test.YtdobpmbgngomlaaGreatDoorZnb
namespace Go.Proofs.YtdobpmbgngomlaaGreatDoor
open Go.RowKit Go.Proofs Go.Shelf

/-- What a key is: a text and an error. -/
def KeyW (l : List Mo) (n : ByteArray × Int) (s : ByteArray) (er : Int) : Prop :=
  (loadE l n ≠ 0 ∧ s = ⟨#[]⟩ ∧ er = loadE l n) ∨ (loadE l n = 0 ∧ Clo (grf l) n none ∧ s = ⟨#[]⟩ ∧ er = 21) ∨ (loadE l n = 0 ∧ ∃ L, Clo (grf l) n (some L) ∧ s = certT l n L ∧ er = 0)
theorem KeyP.w {l : List Mo} {n : ByteArray × Int} {w w' : World} {e : Ending} (h : KeyP l n w e w') : Below w.heap.size w w' ∧ ∃ s er, e = .returned (.tuple #[.string s, .int .i64 er]) ∧ KeyW l n s er := by
  refine ⟨h.1, ?_⟩
  rcases h.2 with ⟨h1, h2⟩ | ⟨h1, h2, h3⟩ | ⟨h1, L, h2, h3⟩
  · exact ⟨_, _, h2, .inl ⟨h1, rfl, rfl⟩⟩
  · exact ⟨_, _, h3, .inr (.inl ⟨h1, h2, rfl, rfl⟩)⟩
  · exact ⟨_, _, h3, .inr (.inr ⟨h1, L, h2, rfl, rfl⟩)⟩
theorem KeyW.ok {l : List Mo} {n : ByteArray × Int} {s : ByteArray} (h : KeyW l n s 0) : loadE l n = 0 ∧ ∃ L, Clo (grf l) n (some L) ∧ s = certT l n L := by
  rcases h with ⟨h1, _, h3⟩ | ⟨_, _, _, h3⟩ | ⟨h1, L, h2, h3, _⟩
  · exact absurd h3.symm h1
  · cases h3
  · exact ⟨h1, L, h2, h3⟩
theorem KeyW.unique {l : List Mo} {n : ByteArray × Int} {s s' : ByteArray} {er er' : Int} (h : KeyW l n s er) (k : KeyW l n s' er') : s = s' ∧ er = er' := by
  rcases h with ⟨h1, rfl, rfl⟩ | ⟨h1, h2, rfl, rfl⟩ | ⟨h1, L, h2, rfl, rfl⟩ <;> rcases k with ⟨k1, rfl, rfl⟩ | ⟨k1, k2, rfl, rfl⟩ | ⟨k1, L', k2, rfl, rfl⟩ <;>
    first
      | exact ⟨rfl, rfl⟩
      | exact absurd k1 h1
      | exact absurd h1 k1
      | (exfalso; have := h2.unique k2; cases this; done)
      | (have := h2.unique k2; cases this; exact ⟨rfl, rfl⟩)
/-- Whether a test can be reused. -/
def ReB (old new : List Mo) (n : ByteArray × Int) : Prop := isT old n = true ∧ ∃ k, KeyW old n k 0 ∧ KeyW new n k 0
theorem nok_T {l : List Mo} (hw : MoW l) {n : ByteArray × Int} (h : n ∈ testsOf l) : NOk n := by
  obtain ⟨x, hx⟩ := isT_body ((mem_testsOf l n).1 h)
  obtain ⟨m, hm, hd, hl, hi⟩ := bodyOf_mem hx
  exact ⟨by rw [← hl]; exact (hw m hm).1, by rw [← hi]; exact (hw m hm).2 x hd⟩
theorem zeroS_run (w : World) : (zeroValue 9).run Tryz.prog w = .ok (.string ⟨#[]⟩) w := by kernel_rfl
/-- What Select hands back. -/
def SelP (old new : List Mo) (w : World) (e : Ending) (w' : World) : Prop :=
  ∃ (rA : Option Addr) (rc : Nat) (uA : Option Addr) (uc : Nat) (R U : List (ByteArray × Int)) (f : ByteArray × Int → Bool), e = .returned (.tuple #[.slice rA R.length rc, .slice uA U.length uc]) ∧
    w'.ownsRow w.heap.size 24 2 (.slice rA R.length rc) R.length (namesC R) ∧ w'.ownsRow w.heap.size 24 2 (.slice uA U.length uc) U.length (namesC U) ∧ Below w.heap.size w w' ∧
    (∀ n, f n = true ↔ ReB old new n) ∧ R = (testsOf new).filter (fun n => !f n) ∧ U = (testsOf new).filter f
/-- What the map of the old keys holds. -/
def GbI (old : List Mo) (T : List (ByteArray × Int)) (gb : ByteArray × Int → Option ByteArray) : Prop := ∀ n k, gb n = some k ↔ (n ∈ T ∧ KeyW old n k 0)
theorem GbI.put {old : List Mo} {T : List (ByteArray × Int)} {gb : ByteArray × Int → Option ByteArray} (h : GbI old T gb) {x : ByteArray × Int} {s : ByteArray} (hk : KeyW old x s 0) : GbI old (T ++ [x]) (fun n => if n = x then some s else gb n) := by
  intro n k
  show (if n = x then some s else gb n) = some k ↔ _
  by_cases e : n = x
  · subst e
    rw [if_pos rfl]
    constructor
    · intro h1; cases h1; exact ⟨by simp, hk⟩
    · intro h1; rw [(hk.unique h1.2).1]
  · rw [if_neg e, h n k, List.mem_append, List.mem_singleton]
    simp [e]
theorem GbI.pass {old : List Mo} {T : List (ByteArray × Int)} {gb : ByteArray × Int → Option ByteArray} (h : GbI old T gb) {x : ByteArray × Int} {s : ByteArray} {er : Int} (hk : KeyW old x s er) (he : er ≠ 0) : GbI old (T ++ [x]) gb := by
  intro n k
  rw [h n k, List.mem_append, List.mem_singleton]
  constructor
  · rintro ⟨h1, h2⟩; exact ⟨.inl h1, h2⟩
  · rintro ⟨h1 | rfl, h2⟩
    · exact ⟨h1, h2⟩
    · exact absurd (hk.unique h2).2 he
set_option maxRecDepth 100000 in
set_option maxHeartbeats 8000000 in
theorem tsSelect_any (old new : List Mo) (A : Option Addr) (c : Nat) (A' : Option Addr) (c' : Nat) (w : World) (hlo : SlM w w.heap.size A c old) (hln : SlM w w.heap.size A' c' new) (hwo : MoW old) (hwn : MoW new) (hgo : greatL old = false) (hgn : greatL new = false) :
    Calls Tryz.prog 21 #[.slice A old.length c, .slice A' new.length c'] w (SelP old new w) := by
  obtain ⟨i0, hi, hz0', hz1', hz2'⟩ := info_parts Tryz.infoName
  have hmm := @run_makeMap Tryz.prog
  obtain ⟨f, hf⟩ : ∃ f : ByteArray × Int → Bool, ∀ n, f n = true ↔ ReB old new n := ⟨fun n => @decide _ (Classical.propDecidable (ReB old new n)), fun n => by simp⟩
  obtain ⟨W0, hW0⟩ : ∃ W0, w.alloc (.map #[] 0) = W0 := ⟨_, rfl⟩
  have hz0 : w.heap.size < W0.heap.size := by subst hW0; simp
  have hB0 : Below w.heap.size w W0 := by subst hW0; exact (Below.refl _ _).alloc (Nat.le_refl _) _
  have hs0 : MapA nameK W0 w.heap.size 0 (fun _ => none) := by subst hW0; exact MapA.made nameK w
  have HLo := Lib.hid (show ∀ X : World, Below w.heap.size w X → SlM X X.heap.size A c old from fun X hX => (hlo.below hX).keep hX.size (fun _ _ => rfl))
  have HLn := Lib.hid (show ∀ X : World, Below w.heap.size w X → SlM X X.heap.size A' c' new from fun X hX => (hln.below hX).keep hX.size (fun _ _ => rfl))
  have hto := greatL_tot hgo
  have htn := greatL_tot hgn
  have hlo2 := (greatL_le hgo).1
  have hln2 := (greatL_le hgn).1
  have HTo := Lib.hid (show ∀ X : World, Below w.heap.size w X → Calls Tryz.prog 23 #[.slice A old.length c] X (TestsP old X) from fun X hX => tsTests_any old A c X (HLo.out X hX) hwo (by omega) (by omega))
  have HTn := Lib.hid (show ∀ X : World, Below w.heap.size w X → Calls Tryz.prog 23 #[.slice A' new.length c'] X (TestsP new X) from fun X hX => tsTests_any new A' c' X (HLn.out X hX) hwn (by omega) (by omega))
  have HKo := Lib.hid (show ∀ (X : World) (n : ByteArray × Int), Below w.heap.size w X → NOk n → Calls Tryz.prog 14 #[.slice A old.length c, .agg #[.string n.1, .int .i64 n.2]] X (KeyP old n X) from fun X n hX hn => dKey_any old n A c X (HLo.out X hX) hn hwo (by omega) (by omega) (fun h => ⟨_, uok_of hgo h⟩))
  have HKn := Lib.hid (show ∀ (X : World) (n : ByteArray × Int), Below w.heap.size w X → NOk n → Calls Tryz.prog 14 #[.slice A' new.length c', .agg #[.string n.1, .int .i64 n.2]] X (KeyP new n X) from fun X n hX hn => dKey_any new n A' c' X (HLn.out X hX) hn hwn (by omega) (by omega) (fun h => ⟨_, uok_of hgn h⟩))
  have HTL := Lib.hid (show (testsOf old).length ≤ 32 ∧ (testsOf new).length ≤ 32 from ⟨by have := testsOf_len old; omega, by have := testsOf_len new; omega⟩)
  obtain ⟨N, HN⟩ : ∃ Q, Hid (old.length = Q) := ⟨_, Lib.hid rfl⟩
  obtain ⟨N', HN'⟩ : ∃ Q, Hid (new.length = Q) := ⟨_, Lib.hid rfl⟩
  rw [HN.out] at HTo HKo ⊢
  rw [HN'.out] at HTn HKn ⊢
  have HX := Lib.hid (And.intro hwo (And.intro hwn (And.intro hf (And.intro hB0 hs0))))
  clear hlo hln hwo hwn hgo hgn hto htn hlo2 hln2 HLo HLn hf hs0
  go_enter Tryz.func21, Tryz.ntmps21
  go_wp2_with fail
  refine (HTo.out W0 hB0).mono ?_
  rintro e w1 ⟨v1, rfl, hown1, hb1⟩
  obtain ⟨tA, tc, rfl⟩ := own_formN hown1
  obtain ⟨TO, HTO⟩ : ∃ Q, Hid (testsOf old = Q) := ⟨_, Lib.hid rfl⟩
  rw [HTO.out] at hown1 HTL ⊢
  obtain ⟨K, HK⟩ : ∃ Q, Hid (TO.length = Q) := ⟨_, Lib.hid rfl⟩
  have hm1 := HX.out.2.2.2.2.keep (hb1.block _ hz0)
  have hbw1 := hB0.trans (hb1.mono hB0.size)
  have hz1 := hb1.size
  have H1 := Lib.hid (And.intro hm1 (And.intro hown1 hbw1))
  have hKl := HTL.out.1
  rw [HK.out] at hKl ⊢
  clear hm1 hown1 hbw1 hb1 hB0 hW0
  go_wp2
  go_loopg [8, 9, 10, 23] K (fun g _ _ _ ct wr => ∃ (j : Nat) (gb : ByteArray × Int → Option ByteArray), g = K - j ∧ j ≤ K ∧ ct = .int .i64 j ∧ GbI old (TO.take j) gb ∧ MapA nameK wr w.heap.size j (fun n => (gb n).map .string) ∧ wr.ownsRow W0.heap.size 24 2 (.slice tA TO.length tc) TO.length (namesC TO) ∧ Below w.heap.size w wr ∧ W0.heap.size ≤ wr.heap.size)
  case atStart => exact ⟨0, fun _ => none, rfl, by omega, rfl, fun n k => by simp, H1.out.1.cong fun _ _ => rfl, H1.out.2.1, H1.out.2.2, hz1⟩
  case round =>
    obtain ⟨j, gb, HG, hj, rfl, hgb, hm, hrow, hB, hz⟩ := hrel
    by_cases hlt : j < K
    · have hlt' : j < TO.length := by rw [HK.out]; exact hlt
      obtain ⟨x, hx⟩ : ∃ x, TO[j]? = some x := ⟨_, List.getElem?_eq_getElem hlt'⟩
      obtain ⟨gr, ucap, hform, hc1, hc2⟩ := own_pos2 hrow (by omega)
      simp only [Value.slice.injEq, true_and] at hform
      obtain ⟨rfl, rfl⟩ := hform
      rw [HK.out] at hc1
      obtain ⟨x0, x1⟩ := namesC_at x TO j hx
      have c0 : wr.cell? ⟨gr, j * 2, none⟩ = some (.string x.1) := (hrow.cellAt _ (by omega)).trans x0
      have c1 : wr.cell? ⟨gr, j * 2 + 1, none⟩ = some (.int .i64 x.2) := (hrow.cellAt _ (by omega)).trans x1
      have hxT : x ∈ testsOf old := by rw [HTO.out]; exact List.mem_of_getElem? hx
      have hxok := nok_T HX.out.1 hxT
      have htk : TO.take (j + 1) = TO.take j ++ [x] := by
        obtain ⟨_, rfl⟩ := List.getElem?_eq_some_iff.1 hx
        exact List.take_succ_eq_append_getElem _
      obtain ⟨W7, hW7⟩ : ∃ W7, wr.alloc (.cells #[.string x.1, .int .i64 x.2] 24) = W7 := ⟨_, rfl⟩
      have hz7 : wr.heap.size < W7.heap.size := by subst hW7; simp
      have hb7 : Below wr.heap.size wr W7 := by subst hW7; exact (Below.refl _ _).alloc (Nat.le_refl _) _
      have z0 : W7.cell? ⟨wr.heap.size, 0, none⟩ = some (.string x.1) := by subst hW7; go_simp
      have z1 : W7.cell? ⟨wr.heap.size, 1, none⟩ = some (.int .i64 x.2) := by subst hW7; go_simp
      have hbw7 := hB.trans (hb7.mono hB.size)
      have HK7 := Lib.hid (HKo.out W7 x hbw7 hxok)
      have HT := Lib.hid (And.intro HG (And.intro hgb (And.intro (hm.keep (hb7.block _ (by omega))) (And.intro (own_of_blocks' hrow fun k hk => hb7.block k hk) (And.intro hbw7 (And.intro hxok htk))))))
      clear HG hgb hm hrow hB hx x0 x1 hxT hxok htk hb7 hbw7
      go_wp2_with fail
      refine HK7.out.mono ?_
      intro e w8 hp8
      obtain ⟨hb8, s, er, rfl, hv⟩ := hp8.w
      clear hp8
      have q0 := (hb8.cell (p := ⟨wr.heap.size, 0, none⟩) hz7).trans z0
      have q1 := (hb8.cell (p := ⟨wr.heap.size, 1, none⟩) hz7).trans z1
      have hz8 := hb8.size
      have H8 := Lib.hid (And.intro (HT.out.2.2.1.keep (hb8.block _ (by omega))) (And.intro (own_of_blocks' HT.out.2.2.2.1 fun k hk => hb8.block k hk) (And.intro (HT.out.2.2.2.2.1.trans (hb8.mono (by omega))) hv)))
      clear hb8 hv z0 z1 c0 c1 hW7
      by_cases he : er = 0
      · subst he
        go_wp2_with (at_mapUpdate; refine wpList_mapPut _ rfl _ _ _ 95 (.inl rfl) nameK 9 Tryz.underlying95 w.heap.size j _ rfl H8.out.1 (by unfold maxLen; omega) x HT.out.2.2.2.2.2.1 rfl (.string s) rfl ?_; intro w9 hs9 hg9)
        go_roundg (K - (j + 1))
        case measure => rw [HT.out.1]; omega
        case rel =>
          refine ⟨j + 1, _, rfl, by omega, by go_num, by rw [HT.out.2.2.2.2.2.2]; exact HT.out.2.1.put H8.out.2.2.2, hs9.cong fun n _ => ?_, own_abides H8.out.2.1 hg9 (fun r e => by cases e; exact H8.out.1.obj), H8.out.2.2.1.grown hg9 (by omega) (fun q e => by cases e; exact Nat.le_refl _), by have := hg9.size; omega⟩
          by_cases e : n = x
          · rw [if_pos e, if_pos e]; rfl
          · rw [if_neg e, if_neg e]
      · have he2 : (er == 0) = false := by simpa using he
        have HE := Lib.hid he
        clear he
        go_wp2
        go_roundg (K - (j + 1))
        case measure => rw [HT.out.1]; omega
        case rel => exact ⟨j + 1, gb, rfl, by omega, by go_num, by rw [HT.out.2.2.2.2.2.2]; exact HT.out.2.1.pass H8.out.2.2.2 HE.out, H8.out.1.mono (by omega), H8.out.2.1, H8.out.2.2.1, by omega⟩
    · obtain rfl : j = K := by omega
      have htk : TO.take j = TO := List.take_of_length_le (by rw [HK.out]; exact Nat.le_refl _)
      rw [htk] at hgb
      have H2 := Lib.hid (And.intro hgb (And.intro hm hB))
      clear hgb hm hB HG hrow htk
      have HTX := Lib.hid (HTn.out wr H2.out.2.2)
      go_wp2_with fail
      refine HTX.out.mono ?_
      rintro e w3 ⟨v3, rfl, hown3, hb3⟩
      obtain ⟨tA3, tc3, rfl⟩ := own_formN hown3
      obtain ⟨TN, HTN⟩ : ∃ Q, Hid (testsOf new = Q) := ⟨_, Lib.hid rfl⟩
      rw [HTN.out] at hown3 HTL ⊢
      obtain ⟨M, HM⟩ : ∃ Q, Hid (TN.length = Q) := ⟨_, Lib.hid rfl⟩
      have hMl := HTL.out.2
      rw [HM.out] at hMl ⊢
      have hzr := hb3.size
      have H3 := Lib.hid (And.intro (H2.out.2.1.keep (hb3.block _ (by omega))) (And.intro hown3 (H2.out.2.2.trans (hb3.mono H2.out.2.2.size))))
      have hz3 : w.heap.size < w3.heap.size := by omega
      clear hown3 hb3
      go_wp2
      go_loopg [11, 12, 14, 15, 16, 17, 18, 42] M (fun g rv uv _ _ _ _ _ ct wr => ∃ (q : Nat) (R U : List (ByteArray × Int)), g = M - q ∧ q ≤ M ∧ ct = .int .i64 q ∧ R = (TN.take q).filter (fun n => !f n) ∧ U = (TN.take q).filter f ∧ wr.ownsRow w3.heap.size 24 2 rv R.length (namesC R) ∧ wr.ownsRow w3.heap.size 24 2 uv U.length (namesC U) ∧ (∀ k, rv.ownBlock = some k → uv.ownBlock ≠ some k) ∧ Below w3.heap.size w3 wr)
      case atStart => exact ⟨0, [], [], rfl, by omega, rfl, rfl, rfl, World.ownsRow_nil _ _ _ _, World.ownsRow_nil _ _ _ _, (fun k h => by cases h), Below.refl _ _⟩
      case round =>
        obtain ⟨q, R, U, HG2, hq, rfl, hR, hU, hrR, hrU, hne, hB3⟩ := hrel
        obtain ⟨rA, rc, rfl⟩ := own_formN hrR
        obtain ⟨uA, uc, rfl⟩ := own_formN hrU
        have hzq := hB3.size
        by_cases hlt2 : q < M
        · have hlt2' : q < TN.length := by rw [HM.out]; exact hlt2
          obtain ⟨x, hx⟩ : ∃ x, TN[q]? = some x := ⟨_, List.getElem?_eq_getElem hlt2'⟩
          have hrow := own_of_blocks' H3.out.2.1 fun k hk => hB3.block k hk
          obtain ⟨gr, ucap, hform, hc1, hc2⟩ := own_pos2 hrow (by omega)
          simp only [Value.slice.injEq, true_and] at hform
          obtain ⟨rfl, rfl⟩ := hform
          rw [HM.out] at hc1
          obtain ⟨x0, x1⟩ := namesC_at x TN q hx
          have c0 : wr.cell? ⟨gr, q * 2, none⟩ = some (.string x.1) := (hrow.cellAt _ (by omega)).trans x0
          have c1 : wr.cell? ⟨gr, q * 2 + 1, none⟩ = some (.int .i64 x.2) := (hrow.cellAt _ (by omega)).trans x1
          have hxT : x ∈ testsOf new := by rw [HTN.out]; exact List.mem_of_getElem? hx
          have hxok := nok_T HX.out.2.1 hxT
          have htk : TN.take (q + 1) = TN.take q ++ [x] := by
            obtain ⟨_, rfl⟩ := List.getElem?_eq_some_iff.1 hx
            exact List.take_succ_eq_append_getElem _
          have hRl : R.length ≤ 32 := by rw [hR]; have := List.length_filter_le (fun n => !f n) (TN.take q); rw [List.length_take] at this; omega
          have hUl : U.length ≤ 32 := by rw [hU]; have := List.length_filter_le f (TN.take q); rw [List.length_take] at this; omega
          obtain ⟨W7, hW7⟩ : ∃ W7, wr.alloc (.cells #[.string x.1, .int .i64 x.2] 24) = W7 := ⟨_, rfl⟩
          have hz7 : wr.heap.size < W7.heap.size := by subst hW7; simp
          have hb7 : Below wr.heap.size wr W7 := by subst hW7; exact (Below.refl _ _).alloc (Nat.le_refl _) _
          have z0 : W7.cell? ⟨wr.heap.size, 0, none⟩ = some (.string x.1) := by subst hW7; go_simp
          have z1 : W7.cell? ⟨wr.heap.size, 1, none⟩ = some (.int .i64 x.2) := by subst hW7; go_simp
          have hb37 : Below w3.heap.size w3 W7 := hB3.trans (hb7.mono hzq)
          have hbw7 : Below w.heap.size w W7 := H3.out.2.2.trans (hb37.mono H3.out.2.2.size)
          have HK7 := Lib.hid (HKn.out W7 x hbw7 hxok)
          have hmap7 := H3.out.1.keep (hb37.block _ hz3)
          have hlk := hmap7.look true Tryz.underlying95 (zeroS_run W7) (a := x) hxok
          simp only [if_true] at hlk
          have HT := Lib.hid (And.intro HG2 (And.intro hR (And.intro hU (And.intro (own_of_blocks' hrR fun k hk => hb7.block k hk) (And.intro (own_of_blocks' hrU fun k hk => hb7.block k hk) (And.intro hne (And.intro hb37 (And.intro hbw7 htk))))))))
          have HXT := Lib.hid (And.intro hxT hxok)
          obtain ⟨go, Hgo⟩ : ∃ Q, Hid (gb x = Q) := ⟨_, Lib.hid rfl⟩
          rw [Hgo.out] at hlk
          have hown0 : ∀ k, (Value.slice rA R.length rc).ownBlock = some k → w3.heap.size ≤ k := fun k hk => (HT.out.2.2.2.1.lt k hk).1
          have hown0' : ∀ k, (Value.slice uA U.length uc).ownBlock = some k → w3.heap.size ≤ k := fun k hk => (HT.out.2.2.2.2.1.lt k hk).1
          have HO := Lib.hid (And.intro hown0 hown0')
          clear HG2 hR hU hrR hrU hne hB3 hx hrow x0 x1 hxT hxok htk hb7 hb37 hbw7 hmap7 hown0 hown0'
          have hst : ∃ (was : ByteArray) (okb : Bool), (Instr.lookup 95 (.map (some w.heap.size)) (.agg #[.string x.1, .int .i64 x.2]) true).run Tryz.prog W7 = .ok (.tuple #[.string was, .bool okb]) W7 ∧ (okb = true ↔ go.isSome = true) ∧ ∀ k, go = some k → was = k := by
            cases go with
            | none => exact ⟨⟨#[]⟩, false, hlk, by simp, by simp⟩
            | some k => exact ⟨k, true, hlk, by simp, by simp⟩
          obtain ⟨was, okb, hlk2, hokb⟩ := hst
          have HOK := Lib.hid hokb
          clear hlk hokb
          go_wp2_with fail
          refine HK7.out.mono ?_
          intro e w8 hp8
          obtain ⟨hb8, s, er, rfl, hv⟩ := hp8.w
          clear hp8
          have q0 := (hb8.cell (p := ⟨wr.heap.size, 0, none⟩) hz7).trans z0
          have q1 := (hb8.cell (p := ⟨wr.heap.size, 1, none⟩) hz7).trans z1
          have hz8 := hb8.size
          have hrR8 := own_of_blocks' HT.out.2.2.2.1 fun k hk => hb8.block k hk
          have hrU8 := own_of_blocks' HT.out.2.2.2.2.1 fun k hk => hb8.block k hk
          have H8 := Lib.hid (And.intro hrR8 (And.intro hrU8 (And.intro (HT.out.2.2.2.2.2.2.1.trans (hb8.mono (by omega))) hv)))
          clear hb8 hv z0 z1 c0 c1 hW7 hlk2 hrR8 hrU8
          have hst := toL_beq s was
          by_cases hgood : okb = true ∧ er = 0 ∧ s = was
          · obtain ⟨hok, rfl, rfl⟩ := hgood
            have hfx : f x = true := by
              rw [HX.out.2.2.1]
              obtain ⟨k, hk⟩ := Option.isSome_iff_exists.1 (HOK.out.1.1 hok)
              have h1 := (H2.out.1 x s).1 (by rw [Hgo.out, hk, HOK.out.2 k hk])
              refine ⟨?_, s, h1.2, H8.out.2.2.2⟩
              rw [← mem_testsOf, HTO.out]; exact h1.1
            have HF := Lib.hid hfx
            have hst2 : (s.toList == s.toList) = true := by simp
            clear hst hfx
            subst hok
            go_wp2_with (at_builtin; refine wpList_append_own_at _ rfl _ _ 30 rfl w3.heap.size 24 i0 _ 2 24 Tryz.underlying30 hi hz0' hz1' hz2' rfl (by decide) _ _ _ rfl (H8.out.2.1.alloc _) ⟨w8.heap.size, 0, none⟩ 1 1 [.string x.1, .int .i64 x.2] rfl rfl (cell_pair_new _ _ _ _) (by simp [Value.oneCell']) (by unfold maxLen; omega) (by omega) (by simp; omega) ?_; intro v9 w9 hown9 hg9 _ hat9; have HS9 := Lib.hid (And.intro hown9 (And.intro hg9 hat9)); obtain ⟨g9, c9, rfl⟩ := ownsRow_succ hown9; clear hown9 hg9 hat9)
            go_roundg (M - (q + 1))
            case measure => rw [HT.out.1]; omega
            case rel =>
              have hg9 : (w8.alloc (.cells #[.string x.1, .int .i64 x.2] 24)).grownBy w9 (Value.slice uA U.length uc).ownBlock := HS9.out.2.1
              have hz9 := hg9.size
              simp at hz9
              refine ⟨q + 1, R, U ++ [x], rfl, by omega, by go_num, ?_, ?_, own_of_blocks (H8.out.1.alloc (.cells #[.string x.1, .int .i64 x.2] 24)) (fun k hk => hg9.block k ?_ (fun e => HT.out.2.2.2.2.2.1 k hk e.symm)), ?_, ?_, ?_⟩
              · rw [HT.out.2.2.2.2.2.2.2.2, List.filter_append, ← HT.out.2.1]; simp [HF.out]
              · rw [HT.out.2.2.2.2.2.2.2.2, List.filter_append, ← HT.out.2.2.1]; simp [HF.out]
              · have := (H8.out.1.lt k hk).2; simp; omega
              · rw [List.length_append, namesC_append]; exact HS9.out.1
              · intro k hk e
                rcases HS9.out.2.2 with h | h
                · exact HT.out.2.2.2.2.2.1 k hk (h.symm.trans e)
                · rw [h] at e
                  have := (H8.out.1.lt k hk).2
                  simp at e
                  omega
              · exact (H8.out.2.2.1.alloc (by omega) _).grown hg9 (by simp; omega) (fun k e => HO.out.2 k e)
          · have hfx : f x = false := by
              cases hfx : f x with
              | false => rfl
              | true =>
                exfalso
                obtain ⟨h1, k, h2, h3⟩ := (HX.out.2.2.1 x).1 hfx
                have h4 : gb x = some k := (H2.out.1 x k).2 ⟨by rw [← HTO.out, mem_testsOf]; exact h1, h2⟩
                obtain ⟨h5, h6⟩ := H8.out.2.2.2.unique h3
                rw [Hgo.out] at h4
                exact hgood ⟨HOK.out.1.2 (by rw [h4]; rfl), h6, by rw [HOK.out.2 k h4]; exact h5⟩
            have HF := Lib.hid hfx
            have hbad : okb = false ∨ (okb = true ∧ (er == 0) = false) ∨ (okb = true ∧ er = 0 ∧ (s.toList == was.toList) = false) := by
              cases okb with
              | false => exact .inl rfl
              | true =>
                by_cases he : er = 0
                · refine .inr (.inr ⟨rfl, he, ?_⟩)
                  rw [hst]
                  exact decide_eq_false fun h => hgood ⟨rfl, he, h⟩
                · exact .inr (.inl ⟨rfl, by simpa using he⟩)
            clear hst hfx hgood
            rcases hbad with rfl | ⟨rfl, he2⟩ | ⟨rfl, rfl, hst2⟩ <;> (
              go_wp2_with (at_builtin; refine wpList_append_own_at _ rfl _ _ 30 rfl w3.heap.size 24 i0 _ 2 24 Tryz.underlying30 hi hz0' hz1' hz2' rfl (by decide) _ _ _ rfl (H8.out.1.alloc _) ⟨w8.heap.size, 0, none⟩ 1 1 [.string x.1, .int .i64 x.2] rfl rfl (cell_pair_new _ _ _ _) (by simp [Value.oneCell']) (by unfold maxLen; omega) (by omega) (by simp; omega) ?_; intro v9 w9 hown9 hg9 _ hat9; have HS9 := Lib.hid (And.intro hown9 (And.intro hg9 hat9)); obtain ⟨g9, c9, rfl⟩ := ownsRow_succ hown9; clear hown9 hg9 hat9)
              go_roundg (M - (q + 1))
              case measure => rw [HT.out.1]; omega
              case rel =>
                have hg9 : (w8.alloc (.cells #[.string x.1, .int .i64 x.2] 24)).grownBy w9 (Value.slice rA R.length rc).ownBlock := HS9.out.2.1
                have hz9 := hg9.size
                simp at hz9
                refine ⟨q + 1, R ++ [x], U, rfl, by omega, by go_num, ?_, ?_, ?_, own_of_blocks (H8.out.2.1.alloc (.cells #[.string x.1, .int .i64 x.2] 24)) (fun k hk => hg9.block k ?_ (fun e => HT.out.2.2.2.2.2.1 k e.symm hk)), ?_, ?_⟩
                · rw [HT.out.2.2.2.2.2.2.2.2, List.filter_append, ← HT.out.2.1]; simp [HF.out]
                · rw [HT.out.2.2.2.2.2.2.2.2, List.filter_append, ← HT.out.2.2.1]; simp [HF.out]
                · rw [List.length_append, namesC_append]; exact HS9.out.1
                · have := (H8.out.2.1.lt k hk).2; simp; omega
                · intro k hk e
                  rcases HS9.out.2.2 with h | h
                  · exact HT.out.2.2.2.2.2.1 k (h.symm.trans hk) e
                  · rw [h] at hk
                    have := (H8.out.2.1.lt k e).2
                    simp at hk
                    omega
                · exact (H8.out.2.2.1.alloc (by omega) _).grown hg9 (by simp; omega) (fun k e => HO.out.1 k e))
        · obtain rfl : q = M := by omega
          have htk : TN.take q = TN := List.take_of_length_le (by rw [HM.out]; exact Nat.le_refl _)
          rw [htk] at hR hU
          have HF := Lib.hid (And.intro hR (And.intro hU (And.intro hrR (And.intro hrU hB3))))
          obtain ⟨r1, Hr1⟩ : ∃ Q, Hid (R.length = Q) := ⟨_, Lib.hid rfl⟩
          obtain ⟨u1, Hu1⟩ : ∃ Q, Hid (U.length = Q) := ⟨_, Lib.hid rfl⟩
          rw [Hr1.out, Hu1.out]
          clear hR hU hrR hrU hne hB3 HG2 htk
          go_wp2
          go_ret2
          refine ⟨rA, rc, uA, uc, R, U, f, by rw [Hr1.out, Hu1.out]; rfl, World.ownsRow.mono HF.out.2.2.1 (by omega), World.ownsRow.mono HF.out.2.2.2.1 (by omega), H3.out.2.2.trans (HF.out.2.2.2.2.mono (by omega)), HX.out.2.2.1, ?_, ?_⟩
          · rw [HTN.out]; exact HF.out.1
          · rw [HTN.out]; exact HF.out.2.1
end Go.Proofs.YtdobpmbgngomlaaGreatDoor
