/- law24.BindRoundTrip (printed by gen_lrt.py) -/
import Derived.Test.YtacjjkbkhpdhnaaGreatDoorPrt
import Derived.Test.YtacjjkbkhpdhnaaGreatDoorZpo
import Derived.Test.YtacjjkbkhpdhnaaGreatDoorZpk
import Derived.Test.YtacjjkbkhpdhnaaGreatDoorZll
import Derived.Test.YtacjjkbkhpdhnaaGreatDoorZpe
import Derived.Test.YtacjjkbkhpdhnaaGreatDoorZln
namespace Go.Proofs.YtacjjkbkhpdhnaaGreatDoor
open Go.RowKit Go.Proofs Go.Shelf

theorem rt_str {g : Repl} {ds es : List Dc} (h : RbDs g ds es) (hs : StrD ds) : StrD es := fun y hy s hss => by
  obtain ⟨x, hx, hxy⟩ := rbDs_mem h y hy
  rw [hxy.names] at hss
  exact hs x hx s hss
/-- What unbinding a module that was bound answers. -/
def RtU (ds : List Dc) (uses : List ByteArray) (uA : Option Addr) (uc : Nat) (w : World) (e : Ending) (w' : World) : Prop :=
  Below w.heap.size w w' ∧ ∃ A c fs, EqDs ds fs ∧ fs.length = ds.length ∧ SlD w' w'.heap.size A c fs ∧ e = .returned (.tuple #[.agg #[.slice uA uses.length uc, .slice A ds.length c], .int .i64 0])
theorem rt_unbind {label : ByteArray} {uses : List ByteArray} {ds es : List Dc} {known : List If} (hb : bindE label uses ds known = 0) (hdis : DisK known) (hr : RbDs (bindG uses ds known) ds es) (hst : StrD ds) {uA : Option Addr} {uc : Nat} {A : Option Addr} {c : Nat} {kA : Option Addr} {kc : Nat} {w : World} (hu : SlS w w.heap.size uA uc uses) (hd : SlD w w.heap.size A c es) (hk : SlI w w.heap.size kA kc known) :
    Calls Tryz.prog 24 #[.agg #[.string label, .slice uA uses.length uc, .slice A ds.length c], .slice kA known.length kc] w (RtU ds uses uA uc w) := by
  obtain ⟨h1, h2, h3⟩ := bind_round hb hdis hr
  have hl := rbDs_len hr
  have hnm : NmIn es := fun y hy => expr_str (declE_parts (declsE_mem (checkE_parts h1).2.2.2.2 y hy)).2.2.2.2.1
  have h := bUnbind_any label uses uA uc es A c known kA kc w hu hd (rt_str hr hst) hnm hk
  rw [hl] at h
  refine Calls.mono h ?_
  rintro e w' ⟨hb', ⟨hE, _⟩ | ⟨_, A', c', fs, hrf, hlf, hsf, rfl⟩⟩
  · exact absurd h2 hE
  · exact ⟨hb', A', c', fs, h3 fs hrf, hlf.trans hl, hsf, by rw [hl]⟩
/-- What binding a source that was unbound answers. -/
def RtB (label : ByteArray) (ds : List Dc) (uses : List ByteArray) (known : List If) (uA : Option Addr) (uc : Nat) (w : World) (e : Ending) (w' : World) : Prop :=
  Below w.heap.size w w' ∧ (((∃ u ∈ uses, (faceO known u).isNone = true) ∧ e = .returned (.tuple #[.agg #[.string ⟨#[]⟩, .slice none 0 0, .slice none 0 0], .int .i64 8])) ∨
    ∃ A c fs, EqDs fs ds ∧ fs.length = ds.length ∧ SlD w' w'.heap.size A c fs ∧ e = .returned (.tuple #[.agg #[.string label, .slice uA uses.length uc, .slice A ds.length c], .int .i64 0]))
theorem rt_bind {label : ByteArray} {uses : List ByteArray} {ds es : List Dc} {known : List If} (hb : unbE label uses ds known = 0) (hdis : DisK known) (hr : RbDs (gUnb uses ds known) ds es) (hst : StrD ds) (hus : ∀ u ∈ uses, u.size ≤ maxLen) {uA : Option Addr} {uc : Nat} {A : Option Addr} {c : Nat} {kA : Option Addr} {kc : Nat} {w : World} (hu : SlS w w.heap.size uA uc uses) (hd : SlD w w.heap.size A c es) (hk : SlI w w.heap.size kA kc known) :
    Calls Tryz.prog 20 #[.string label, .agg #[.slice uA uses.length uc, .slice A ds.length c], .slice kA known.length kc] w (RtB label ds uses known uA uc w) := by
  obtain ⟨h1, h2, h3⟩ := unb_round hb hdis hr
  have hl := rbDs_len hr
  have hnm : NmIn es := fun y hy => expr_str (sdE_parts (sdsE_mem (srcDE_parts h1).2.2.2 y hy)).2.2.2.2.1
  have h := bBind_any label uses uA uc es A c known kA kc w hu hd (rt_str hr hst) hnm hk (fun u hu' => Nat.le_trans (alias_size u) (hus u hu'))
  rw [hl] at h
  refine Calls.mono h ?_
  rintro e w' ⟨hb', ⟨hE, rfl⟩ | ⟨_, A', c', fs, hrf, hlf, hsf, rfl⟩⟩
  · rcases h2 with h2 | ⟨h2, hex⟩
    · exact absurd h2 hE
    · exact ⟨hb', .inl ⟨hex, by rw [h2]⟩⟩
  · exact ⟨hb', .inr ⟨A', c', fs, h3 fs hrf, hlf.trans hl, hsf, by rw [hl]⟩⟩
set_option maxRecDepth 100000 in
set_option maxHeartbeats 32000000 in
theorem lawRoundTrip_any (label : ByteArray) (uses : List ByteArray) (uA : Option Addr) (uc : Nat) (ds : List Dc) (dA : Option Addr) (dc : Nat) (mlb : ByteArray) (muses : List ByteArray) (mA : Option Addr) (mc : Nat) (mds : List Dc) (eA : Option Addr) (ec : Nat) (known : List If) (kA : Option Addr) (kc : Nat) (w : World)
    (hu : SlS w w.heap.size uA uc uses) (hd : SlD w w.heap.size dA dc ds) (hus : ∀ s ∈ uses, s.size ≤ maxLen) (hds : ∀ x ∈ ds, Dc.Str x) (hmu : SlS w w.heap.size mA mc muses) (hmd : SlD w w.heap.size eA ec mds) (hmus : ∀ s ∈ muses, s.size ≤ maxLen) (hmds : ∀ x ∈ mds, Dc.Str x) (hk : SlI w w.heap.size kA kc known) :
    Calls Tryz.prog 6 #[.string label, .agg #[.slice uA uses.length uc, .slice dA ds.length dc], .agg #[.string mlb, .slice mA muses.length mc, .slice eA mds.length ec], .slice kA known.length kc] w fun e w' => e = .returned (.bool true) ∧ Below w.heap.size w w' := by
  obtain ⟨U, HU⟩ : ∃ Q, Hid (uses.length = Q) := ⟨_, Lib.hid rfl⟩
  obtain ⟨N, HN⟩ : ∃ Q, Hid (ds.length = Q) := ⟨_, Lib.hid rfl⟩
  obtain ⟨MU, HMU⟩ : ∃ Q, Hid (muses.length = Q) := ⟨_, Lib.hid rfl⟩
  obtain ⟨ME, HME⟩ : ∃ Q, Hid (mds.length = Q) := ⟨_, Lib.hid rfl⟩
  obtain ⟨K, HK⟩ : ∃ Q, Hid (known.length = Q) := ⟨_, Lib.hid rfl⟩
  have hmul := hmu.1
  have hmul2 := hmu.2.1
  unfold maxLen at hmul2
  rw [HMU.out] at hmul
  rw [HU.out, HN.out, HMU.out, HME.out, HK.out]
  obtain ⟨W0, hW0⟩ : ∃ W0, (w.alloc (.cells #[.slice uA U uc, .slice dA N dc] 40)).alloc (.cells #[.string mlb, .slice mA MU mc, .slice eA ME ec] 25) = W0 := ⟨_, rfl⟩
  have hb0 : Below w.heap.size w W0 := by rw [← hW0]; exact ((Below.refl _ _).alloc (Nat.le_refl _) _).alloc (by simp) _
  have hz0 : W0.heap.size = w.heap.size + 2 := by rw [← hW0]; simp
  have hf0 : W0.heap[w.heap.size]? = some (.cells #[.slice uA U uc, .slice dA N dc] 40 (0, 0)) := by rw [← hW0]; exact (Below.heap_alloc _ _ _ (by simp)).trans (heap_alloc_new w _)
  have hm0 : W0.heap[w.heap.size + 1]? = some (.cells #[.string mlb, .slice mA MU mc, .slice eA ME ec] 25 (0, 0)) := by
    have h := heap_alloc_new (w.alloc (.cells #[.slice uA U uc, .slice dA N dc] 40)) (.cells #[.string mlb, .slice mA MU mc, .slice eA ME ec] 25)
    rw [hW0] at h
    simpa using h
  have HX := Lib.hid (show ∀ X : World, Below W0.heap.size W0 X → Below w.heap.size w X ∧ SlS X X.heap.size uA uc uses ∧ SlD X X.heap.size dA dc ds ∧ SlS X X.heap.size mA mc muses ∧ SlD X X.heap.size eA ec mds ∧ SlI X X.heap.size kA kc known from fun X hX => by
    have h1 := hb0.trans (hX.mono hb0.size)
    exact ⟨h1, hu.keep h1.size (fun p hp => h1.cell hp), hd.keep h1.size (fun p hp => h1.cell hp), hmu.keep h1.size (fun p hp => h1.cell hp), hmd.keep h1.size (fun p hp => h1.cell hp), hk.below h1⟩)
  have HC := Lib.hid (show ∀ X : World, Below W0.heap.size W0 X → X.cell? ⟨w.heap.size, 0, none⟩ = some (.slice uA U uc) ∧ X.cell? ⟨w.heap.size, 1, none⟩ = some (.slice dA N dc) ∧ X.cell? ⟨w.heap.size + 1, 0, none⟩ = some (.string mlb) ∧ X.cell? ⟨w.heap.size + 1, 1, none⟩ = some (.slice mA MU mc) ∧ X.cell? ⟨w.heap.size + 1, 2, none⟩ = some (.slice eA ME ec) from fun X hX => by
    have h1 := (hX.block _ (by omega)).trans hf0
    have h2 := (hX.block _ (by omega)).trans hm0
    exact ⟨cell_of_row X _ 0 _ _ (0, 0) h1, cell_of_row X _ 1 _ _ (0, 0) h1, cell_of_row X _ 0 _ _ (0, 0) h2, cell_of_row X _ 1 _ _ (0, 0) h2, cell_of_row X _ 2 _ _ (0, 0) h2⟩)
  have HS := Lib.hid (And.intro (show StrD ds from fun x hx => (hds x hx).1) (And.intro (show NmIn ds from fun x hx => (hds x hx).2) (And.intro (show StrD mds from fun x hx => (hmds x hx).1) (And.intro (show NmIn mds from fun x hx => (hmds x hx).2) (And.intro hus (And.intro hmus hz0))))))
  have HAw := Lib.hid (show ∀ X : World, Below W0.heap.size W0 X → Calls Tryz.prog 11 #[] X (fun e Y => e = .returned (.bool true) ∧ Below W0.heap.size W0 Y) from fun X hX => (awake24_any X).mono fun _ _ ⟨h1, h2⟩ => ⟨h1, hX.trans (h2.mono hX.size)⟩)
  have HG1 := Lib.hid (show ∀ X : World, Below W0.heap.size W0 X → Calls Tryz.prog 19 #[.string label, .agg #[.slice uA U uc, .slice dA N dc], .slice kA K kc] X (fun e Y => ∃ b, e = .returned (.bool b) ∧ Below W0.heap.size W0 Y) from fun X hX => by
    have h := great24L_any label uses uA uc ds dA dc known kA kc X (HX.out X hX).2.1 (HX.out X hX).2.2.1 (HX.out X hX).2.2.2.2.2
    rw [HU.out, HN.out, HK.out] at h
    exact h.mono fun _ _ ⟨b, h1, _, h2⟩ => ⟨b, h1, hX.trans (h2.mono hX.size)⟩)
  obtain ⟨g2, Hg2⟩ : ∃ Q, Hid (greatM mlb muses mds = Q) := ⟨_, Lib.hid rfl⟩
  have HG2 := Lib.hid (show ∀ X : World, Below W0.heap.size W0 X → Calls Tryz.prog 9 #[.agg #[.string mlb, .slice mA MU mc, .slice eA ME ec]] X (fun e Y => e = .returned (.bool g2) ∧ Below W0.heap.size W0 Y) from fun X hX => by
    have h := great24_any mlb muses mA mc mds eA ec X (HX.out X hX).2.2.2.1 (HX.out X hX).2.2.2.2.1
    rw [HMU.out, HME.out, Hg2.out] at h
    exact h.mono fun _ _ ⟨h1, h2⟩ => ⟨h1, hX.trans (h2.mono hX.size)⟩)
  have HG3 := Lib.hid (show ∀ X : World, Below W0.heap.size W0 X → Calls Tryz.prog 29 #[.slice kA K kc] X (fun e Y => ∃ b, e = .returned (.bool b) ∧ Hid (b = true → DisK known) ∧ Below W0.heap.size W0 Y) from fun X hX => by
    have h := distinct_any known kA kc X (HX.out X hX).2.2.2.2.2
    rw [HK.out] at h
    exact h.mono fun _ _ ⟨b, h1, h2, q, h3⟩ => ⟨b, h1, Lib.hid h2, by rw [h3]; exact below_drewN hX q⟩)
  obtain ⟨x0, x1, y0, y1, y2⟩ := HC.out W0 (Below.refl _ _)
  clear hu hd hus hds hmu hmd hmus hmds hk hb0 hf0 hm0 hz0
  go_enter Tryz.func6, Tryz.ntmps6
  go_wp2_with fail
  refine (HG1.out _ (Below.refl _ _)).mono ?_
  rintro e w1 ⟨b1, rfl, hb1⟩
  clear hW0 x0 x1 y0 y1 y2
  cases b1 with
  | true =>
    have HA := Lib.hid (HAw.out w1 hb1)
    clear hb1
    go_wp2_with fail
    refine HA.out.mono ?_
    rintro e wz ⟨rfl, hbz⟩
    have HBz := Lib.hid (HX.out wz hbz).1
    clear hbz
    go_wp2
    go_ret
    exact ⟨rfl, HBz.out⟩
  | false =>
  obtain ⟨x0, x1, y0, y1, y2⟩ := HC.out w1 hb1
  have H2 := Lib.hid (HG2.out w1 hb1)
  clear hb1
  go_wp2_with fail
  refine H2.out.mono ?_
  rintro e w2 ⟨rfl, hb2⟩
  clear x0 x1 y0 y1 y2
  cases g2 with
  | true =>
    have HA := Lib.hid (HAw.out w2 hb2)
    clear hb2
    go_wp2_with fail
    refine HA.out.mono ?_
    rintro e wz ⟨rfl, hbz⟩
    have HBz := Lib.hid (HX.out wz hbz).1
    clear hbz
    go_wp2
    go_ret
    exact ⟨rfl, HBz.out⟩
  | false =>
  have H3 := Lib.hid (HG3.out w2 hb2)
  clear hb2
  go_wp2_with fail
  refine H3.out.mono ?_
  rintro e w3 ⟨b3, rfl, hdk, hb3⟩
  cases b3 with
  | false =>
    have HA := Lib.hid (HAw.out w3 hb3)
    clear hb3 hdk
    go_wp2_with fail
    refine HA.out.mono ?_
    rintro e wz ⟨rfl, hbz⟩
    have HBz := Lib.hid (HX.out wz hbz).1
    clear hbz
    go_wp2
    go_ret
    exact ⟨rfl, HBz.out⟩
  | true =>
  have HDis := Lib.hid (hdk.out rfl)
  clear hdk
  obtain ⟨x0, x1, y0, y1, y2⟩ := HC.out w3 hb3
  obtain ⟨_, hsu, hsd, hsmu, hsmd, hsk⟩ := HX.out w3 hb3
  have hbn := bBind_any label uses uA uc ds dA dc known kA kc w3 hsu hsd HS.out.1 HS.out.2.1 hsk (fun u hu' => Nat.le_trans (alias_size u) (HS.out.2.2.2.2.1 u hu'))
  obtain ⟨E1, HE1⟩ : ∃ Q, Hid (bindE label uses ds known = Q) := ⟨_, Lib.hid rfl⟩
  unfold BindR at hbn
  rw [HU.out, HN.out, HK.out, HE1.out] at hbn
  have HBn := Lib.hid hbn
  have HB3 := Lib.hid hb3
  clear hbn hb3 hsu hsd hsmu hsmd hsk
  go_wp2_with fail
  refine HBn.out.mono ?_
  rintro e w4 ⟨hb4, ⟨hE, rfl⟩ | ⟨hE, rA, rc, es, hrb, hesl, hes, rfl⟩⟩
  · have hE1 : (E1 == 0) = false := by simpa using hE
    obtain ⟨W5, HW5⟩ : ∃ q, Hid (w4.alloc (.cells #[.string ⟨#[]⟩, .slice none 0 0, .slice none 0 0] 25) = q) := ⟨_, Lib.hid rfl⟩
    have hb34 := HB3.out.trans (hb4.mono HB3.out.size)
    have hb5 : Below W0.heap.size W0 W5 := by rw [← HW5.out]; exact hb34.alloc hb34.size _
    clear hE x0 x1 y0 y1 y2 hb4 hb34
    obtain ⟨x0, x1, y0, y1, y2⟩ := HC.out W5 hb5
    rw [← HW5.out] at x0 x1 y0 y1 y2
    have HUm := Lib.hid (show Calls Tryz.prog 24 #[.agg #[.string mlb, .slice mA MU mc, .slice eA ME ec], .slice kA K kc] (w4.alloc (.cells #[.string ⟨#[]⟩, .slice none 0 0, .slice none 0 0] 25)) (UnbR mlb muses mA mc mds known (w4.alloc (.cells #[.string ⟨#[]⟩, .slice none 0 0, .slice none 0 0] 25))) from by
      obtain ⟨_, _, _, hsmu, hsmd, hsk⟩ := HX.out _ hb5
      have h := bUnbind_any mlb muses mA mc mds eA ec known kA kc _ hsmu hsmd HS.out.2.2.1 HS.out.2.2.2.1 hsk
      rw [HMU.out, HME.out, HK.out] at h
      exact HW5.out ▸ h)
    have HB5 := Lib.hid hb5
    clear hb5
    go_wp2_with fail
    refine HUm.out.mono ?_
    rintro e v1 ⟨hv1, ⟨hE2, rfl⟩ | ⟨hE2, rA2, rc2, es2, hrb2, hesl2, hes2, rfl⟩⟩
    · have hE3 : (unbE mlb muses mds known != 0) = true := by simpa using hE2
      obtain ⟨V2, HV2⟩ : ∃ q, Hid (v1.alloc (.cells #[.slice none 0 0, .slice none 0 0] 40) = q) := ⟨_, Lib.hid rfl⟩
      have hv01 := HB5.out.trans ((HW5.out ▸ hv1).mono HB5.out.size)
      have hv2 : Below W0.heap.size W0 V2 := by rw [← HV2.out]; exact hv01.alloc hv01.size _
      have HA := Lib.hid (HAw.out V2 hv2)
      have q0 : V2.cell? ⟨v1.heap.size, 0, none⟩ = some (.slice none 0 0) := by rw [← HV2.out]; exact cell_of_row _ _ 0 _ _ (0, 0) (heap_alloc_new _ _)
      have q1 : V2.cell? ⟨v1.heap.size, 1, none⟩ = some (.slice none 0 0) := by rw [← HV2.out]; exact cell_of_row _ _ 1 _ _ (0, 0) (heap_alloc_new _ _)
      rw [← HV2.out] at q0 q1 HA
      clear hE2 hv1 hv01 hv2 x0 x1 y0 y1 y2
      go_wp2_with fail
      refine HA.out.mono ?_
      rintro e v3 ⟨rfl, hv3⟩
      have HV3 := Lib.hid (HX.out v3 hv3).1
      clear hv3 q0 q1
      go_wp2
      go_ret
      exact ⟨rfl, HV3.out⟩
    · obtain ⟨V2, hV2⟩ : ∃ q, v1.alloc (.cells #[.slice mA muses.length mc, .slice rA2 mds.length rc2] 40) = q := ⟨_, rfl⟩
      rw [HMU.out, HME.out] at hV2
      have hv01 := HB5.out.trans ((HW5.out ▸ hv1).mono HB5.out.size)
      have hv12 : Below v1.heap.size v1 V2 := by rw [← hV2]; exact (Below.refl _ _).alloc (Nat.le_refl _) _
      have hv2 := hv01.trans (hv12.mono hv01.size)
      have hr2 : V2.heap[v1.heap.size]? = some (.cells #[.slice mA MU mc, .slice rA2 ME rc2] 40 (0, 0)) := by rw [← hV2]; exact heap_alloc_new _ _
      have hz2 : v1.heap.size < V2.heap.size := by rw [← hV2]; simp
      rw [HMU.out, HME.out]
      obtain ⟨_, _, _, hsmu, _, hsk⟩ := HX.out V2 hv2
      have hes3 := hes2.keep hv12.size fun p hp => hv12.cell hp
      have hbd := rt_bind hE2 HDis.out hrb2 HS.out.2.2.1 HS.out.2.2.2.2.2.1 hsmu hes3 hsk
      unfold RtB at hbd
      rw [HME.out, HMU.out, HK.out] at hbd
      have HBd := Lib.hid hbd
      have HS2 := Lib.hid (And.intro hv2 (And.intro hes3 (And.intro hr2 (And.intro hz2 (And.intro hE2 hrb2)))))
      have hE4 : (unbE mlb muses mds known != 0) = false := by rw [hE2]; rfl
      clear x0 x1 y0 y1 y2
      obtain ⟨x0, x1, y0, y1, y2⟩ := HC.out V2 hv2
      have q0 : V2.cell? ⟨v1.heap.size, 0, none⟩ = some (.slice mA MU mc) := cell_of_row V2 _ 0 _ _ (0, 0) hr2
      have q1 : V2.cell? ⟨v1.heap.size, 1, none⟩ = some (.slice rA2 ME rc2) := cell_of_row V2 _ 1 _ _ (0, 0) hr2
      clear hE2 hv1 hv01 hv12 hv2 hr2 hz2 hes2 hes3 hrb2 hesl2 hbd hsmu hsk
      go_wp2_with fail
      refine HBd.out.mono ?_
      rintro e v3 ⟨hv3, ⟨hex, rfl⟩ | ⟨xA, xc, xs, heq, hxl, hxd, rfl⟩⟩
      · obtain ⟨V4, HV4⟩ : ∃ q, Hid (v3.alloc (.cells #[.string ⟨#[]⟩, .slice none 0 0, .slice none 0 0] 25) = q) := ⟨_, Lib.hid rfl⟩
        have hv03 := HS2.out.1.trans (hv3.mono HS2.out.1.size)
        have hv4 : Below W0.heap.size W0 V4 := by rw [← HV4.out]; exact hv03.alloc hv03.size _
        have HEx := Lib.hid hex
        clear x0 x1 y0 y1 y2 q0 q1 hv3 hv03 hex
        obtain ⟨x0, x1, y0, y1, y2⟩ := HC.out V4 hv4
        rw [← HV4.out] at x0 x1 y0 y1 y2
        have HV4b := Lib.hid hv4
        clear hv4
        go_wp2
        go_loopg [18, 91] MU (fun gg _ ct wr => ∃ j : Nat, gg = MU - j ∧ j ≤ MU ∧ ct = .int .i64 j ∧ Hid (∀ u ∈ muses.take j, (faceO known u).isSome = true) ∧ Below W0.heap.size W0 wr)
        case atStart => exact ⟨0, rfl, by omega, rfl, Lib.hid (by simp), by have := HV4b.out; rw [← HV4.out] at this; exact this⟩
        case round =>
          obtain ⟨j, HGj, hj, rfl, HP, hB⟩ := hrel
          by_cases hlt : j < MU
          · have hlt' : j < muses.length := by rw [HMU.out]; exact hlt
            obtain ⟨u, hu⟩ : ∃ y, muses[j]? = some y := ⟨_, List.getElem?_eq_getElem hlt'⟩
            obtain ⟨_, _, _, hsmu, _, hsk⟩ := HX.out wr hB
            obtain ⟨b, o, hbo, hbb, hcl⟩ := hsmu.2.2 (by intro e; rw [e] at hlt'; simp at hlt')
            have cu := hcl j u hu
            subst hbo
            obtain ⟨V6, hV6⟩ : ∃ q, wr.alloc (.cells #[.string u] 9) = q := ⟨_, rfl⟩
            have hb6 : Below wr.heap.size wr V6 := by rw [← hV6]; exact (Below.refl _ _).alloc (Nat.le_refl _) _
            have hr6 : V6.heap[wr.heap.size]? = some (.cells #[.string u] 9 (0, 0)) := by rw [← hV6]; exact heap_alloc_new _ _
            have hcf := containsFnI_any known u wr.heap.size kA kc V6 (hsk.below hb6) (cell_of_row V6 _ 0 _ _ (0, 0) hr6)
            obtain ⟨fb, Hfb⟩ : ∃ Q, Hid ((faceO known u).isSome = Q) := ⟨_, Lib.hid rfl⟩
            rw [HK.out, Hfb.out] at hcf
            have HCf := Lib.hid hcf
            have HJ := Lib.hid (And.intro HGj (And.intro hu (hB.trans (hb6.mono hB.size))))
            have hmf : ∀ (fn : Fn) (first cap : Array Value) (w : World), (Instr.makeFunc fn first cap).run Tryz.prog w = .ok (.func fn first cap) w := fun _ _ _ _ => rfl
            have hj0 : (0 : Int) ≤ (j : Int) := by omega
            have hj1 : (j : Int) < (MU : Int) := by omega
            clear HGj hu hsmu hsk hcl hb6 hr6 hcf hB
            go_wp2_with fail
            refine HCf.out.mono ?_
            rintro e v7 ⟨rfl, hv7⟩
            have hv07 := HJ.out.2.2.trans (hv7.mono HJ.out.2.2.size)
            clear hv7 cu
            cases fb with
            | false =>
              have HA := Lib.hid (HAw.out v7 hv07)
              clear hv07
              go_wp2_with fail
              refine HA.out.mono ?_
              rintro e v8 ⟨rfl, hv8⟩
              have HV8 := Lib.hid (HX.out v8 hv8).1
              clear hv8
              go_wp2
              go_ret
              exact ⟨rfl, HV8.out⟩
            | true =>
              have HV7 := Lib.hid hv07
              clear hv07
              go_wp2
              go_roundg (MU - (j + 1))
              case measure => rw [HJ.out.1]; omega
              case rel =>
                refine ⟨j + 1, rfl, by omega, by go_num, Lib.hid fun y hy => ?_, HV7.out⟩
                rcases mem_take_succ HJ.out.2.1 hy with h | rfl
                · exact HP.out y h
                · exact Hfb.out
          · exfalso
            obtain ⟨u, hu, hn⟩ := HEx.out
            have := HP.out u (by rw [List.take_of_length_le (by rw [HMU.out]; omega)]; exact hu)
            rw [Option.isNone_iff_eq_none] at hn
            rw [hn] at this
            cases this
      · obtain ⟨V4, hV4⟩ : ∃ q, v3.alloc (.cells #[.string mlb, .slice mA MU mc, .slice xA ME xc] 25) = q := ⟨_, rfl⟩
        have hv03 := HS2.out.1.trans (hv3.mono HS2.out.1.size)
        have hv34 : Below v3.heap.size v3 V4 := by rw [← hV4]; exact (Below.refl _ _).alloc (Nat.le_refl _) _
        have hv4 := hv03.trans (hv34.mono hv03.size)
        have hr4 : V4.heap[v3.heap.size]? = some (.cells #[.string mlb, .slice mA MU mc, .slice xA ME xc] 25 (0, 0)) := by rw [← hV4]; exact heap_alloc_new _ _
        have hz4 : v3.heap.size < V4.heap.size := by rw [← hV4]; simp
        have hv24 := hv3.trans (hv34.mono hv3.size)
        have HS4 := Lib.hid (And.intro hv4 (And.intro hv24 (And.intro (hxd.keep hv34.size fun p hp => hv34.cell hp) (And.intro hr4 (And.intro hz4 (And.intro heq hxl))))))
        clear x0 x1 y0 y1 y2 q0 q1 hv3 hv03 hv34 hr4 hz4 hv24 hxd heq hxl
        obtain ⟨x0, x1, y0, y1, y2⟩ := HC.out V4 hv4
        clear hv4
        go_wp2
        go_loopg [18, 91] MU (fun gg _ ct wr => ∃ j : Nat, gg = MU - j ∧ j ≤ MU ∧ ct = .int .i64 j ∧ Below V4.heap.size V4 wr)
        case atStart => exact ⟨0, rfl, by omega, rfl, Below.refl _ _⟩
        case round =>
          obtain ⟨j, HGj, hj, rfl, hB⟩ := hrel
          have hB0 := HS4.out.1.trans (hB.mono HS4.out.1.size)
          by_cases hlt : j < MU
          · have hlt' : j < muses.length := by rw [HMU.out]; exact hlt
            obtain ⟨u, hu⟩ : ∃ y, muses[j]? = some y := ⟨_, List.getElem?_eq_getElem hlt'⟩
            obtain ⟨_, _, _, hsmu, _, _⟩ := HX.out wr hB0
            obtain ⟨b, o, hbo, hbb, hcl⟩ := hsmu.2.2 (by intro e; rw [e] at hlt'; simp at hlt')
            have cu := hcl j u hu
            subst hbo
            obtain ⟨V6, hV6⟩ : ∃ q, wr.alloc (.cells #[.string u] 9) = q := ⟨_, rfl⟩
            have hb6 : Below wr.heap.size wr V6 := by rw [← hV6]; exact (Below.refl _ _).alloc (Nat.le_refl _) _
            have HJ := Lib.hid (And.intro HGj (hB.trans (hb6.mono hB.size)))
            have hj0 : (0 : Int) ≤ (j : Int) := by omega
            have hj1 : (j : Int) < (MU : Int) := by omega
            clear HGj hu hsmu hcl hb6 hB hB0 x0 x1 y0 y1 y2
            go_wp2
            go_roundg (MU - (j + 1))
            case measure => rw [HJ.out.1]; omega
            case rel => exact ⟨j + 1, rfl, by omega, by go_num, HJ.out.2⟩
          · obtain rfl : j = MU := by omega
            have hBw2 := HS4.out.2.1.trans (hB.mono HS4.out.2.1.size)
            clear x0 x1 y0 y1 y2 HGj
            obtain ⟨_, _, y0, y1, y2⟩ := HC.out wr hB0
            obtain ⟨_, _, _, hsmu, hsmd, _⟩ := HX.out wr hB0
            have hr9 := (hB.block _ HS4.out.2.2.2.2.1).trans HS4.out.2.2.2.1
            have r0 : wr.cell? ⟨v3.heap.size, 0, none⟩ = some (.string mlb) := cell_of_row wr _ 0 _ _ (0, 0) hr9
            have r1 : wr.cell? ⟨v3.heap.size, 1, none⟩ = some (.slice mA j mc) := cell_of_row wr _ 1 _ _ (0, 0) hr9
            have r2 : wr.cell? ⟨v3.heap.size, 2, none⟩ = some (.slice xA ME xc) := cell_of_row wr _ 2 _ _ (0, 0) hr9
            have hsm := same24_any mlb mlb muses muses mA mc mA mc xs mds xA xc eA ec wr hsmu hsmu (HS4.out.2.2.1.keep hB.size fun p hp => hB.cell hp) hsmd
            rw [HS4.out.2.2.2.2.2.2, HME.out, HMU.out] at hsm
            have HSm := Lib.hid hsm
            have HBw := Lib.hid (And.intro hB0 hBw2)
            have i4 : decide ((j : Int) < (j : Int)) = false := by simp
            clear hsm hsmu hsmd hr9 hB0 hBw2 hB
            go_wp2_with fail
            refine HSm.out.mono ?_
            rintro e v8 ⟨bs, rfl, hbs, hv8⟩
            obtain rfl : bs = true := hbs.2 ⟨by simp, by simp, HS4.out.2.2.2.2.2.1⟩
            have hv08 := HBw.out.1.trans (hv8.mono HBw.out.1.size)
            have hv28 := HBw.out.2.trans (hv8.mono HBw.out.2.size)
            have hr8 := (hv28.block _ HS2.out.2.2.2.1).trans HS2.out.2.2.1
            have q0 : v8.cell? ⟨v1.heap.size, 0, none⟩ = some (.slice mA j mc) := cell_of_row v8 _ 0 _ _ (0, 0) hr8
            have q1 : v8.cell? ⟨v1.heap.size, 1, none⟩ = some (.slice rA2 ME rc2) := cell_of_row v8 _ 1 _ _ (0, 0) hr8
            obtain ⟨_, _, _, hsmu, _, _⟩ := HX.out v8 hv08
            have hcs := checkSourceD_any muses mA mc es2 rA2 rc2 v8 hsmu (HS2.out.2.1.keep hv28.size fun p hp => hv28.cell hp) (rt_str HS2.out.2.2.2.2.2 HS.out.2.2.1)
            rw [(unb_round HS2.out.2.2.2.2.1 HDis.out HS2.out.2.2.2.2.2).1, rbDs_len HS2.out.2.2.2.2.2, HME.out, HMU.out] at hcs
            have HCs := Lib.hid hcs
            have HV8 := Lib.hid hv08
            clear hbs hv8 hv08 hv28 hr8 hsmu hcs y0 y1 y2 r0 r1 r2
            go_wp2_with fail
            refine HCs.out.mono ?_
            rintro e v9 ⟨rfl, hv9⟩
            have HA := Lib.hid (HAw.out v9 (HV8.out.trans (hv9.mono HV8.out.size)))
            clear hv9 q0 q1
            go_wp2_with fail
            refine HA.out.mono ?_
            rintro e v10 ⟨rfl, hv10⟩
            have HV10 := Lib.hid (HX.out v10 hv10).1
            clear hv10
            go_wp2
            go_ret
            exact ⟨rfl, HV10.out⟩
  · subst hE
    obtain ⟨W5, hW5⟩ : ∃ q, w4.alloc (.cells #[.string label, .slice uA U uc, .slice rA N rc] 25) = q := ⟨_, rfl⟩
    have hb34 := HB3.out.trans (hb4.mono HB3.out.size)
    have hb45 : Below w4.heap.size w4 W5 := by rw [← hW5]; exact (Below.refl _ _).alloc (Nat.le_refl _) _
    have hb5 := hb34.trans (hb45.mono hb34.size)
    have hr5 : W5.heap[w4.heap.size]? = some (.cells #[.string label, .slice uA U uc, .slice rA N rc] 25 (0, 0)) := by rw [← hW5]; exact heap_alloc_new _ _
    have hz5 : w4.heap.size < W5.heap.size := by rw [← hW5]; simp
    obtain ⟨_, hsu, _, _, _, hsk⟩ := HX.out W5 hb5
    have hun := rt_unbind HE1.out HDis.out hrb HS.out.1 hsu (hes.keep hb45.size fun p hp => hb45.cell hp) hsk
    unfold RtU at hun
    rw [HN.out, HU.out, HK.out] at hun
    have HUn := Lib.hid hun
    have HRd := Lib.hid (And.intro hb5 (And.intro hrb (And.intro (hes.keep hb45.size fun p hp => hb45.cell hp) (And.intro hr5 hz5))))
    have z0 : W5.cell? ⟨w4.heap.size, 0, none⟩ = some (.string label) := cell_of_row W5 _ 0 _ _ (0, 0) hr5
    have z1 : W5.cell? ⟨w4.heap.size, 1, none⟩ = some (.slice uA U uc) := cell_of_row W5 _ 1 _ _ (0, 0) hr5
    have z2 : W5.cell? ⟨w4.heap.size, 2, none⟩ = some (.slice rA N rc) := cell_of_row W5 _ 2 _ _ (0, 0) hr5
    clear hun hb4 hb34 hb45 hb5 hr5 hz5 hsu hsk hrb hesl hes x0 x1 y0 y1 y2
    go_wp2_with fail
    refine HUn.out.mono ?_
    rintro e w6 ⟨hb6, fA, fc, fs, hfs, hfl, hfd, rfl⟩
    obtain ⟨W7, hW7⟩ : ∃ q, w6.alloc (.cells #[.slice uA U uc, .slice fA N fc] 40) = q := ⟨_, rfl⟩
    have hb67 : Below w6.heap.size w6 W7 := by rw [← hW7]; exact (Below.refl _ _).alloc (Nat.le_refl _) _
    have hb57 := hb6.trans (hb67.mono hb6.size)
    have hb7 := HRd.out.1.trans (hb57.mono HRd.out.1.size)
    have hr7 : W7.heap[w6.heap.size]? = some (.cells #[.slice uA U uc, .slice fA N fc] 40 (0, 0)) := by rw [← hW7]; exact heap_alloc_new _ _
    obtain ⟨_, hsu, hsd, _, _, _⟩ := HX.out W7 hb7
    have hss := sameSource_any uses uses uA uc uA uc ds fs dA dc fA fc W7 hsu hsu hsd (hfd.keep hb67.size fun p hp => hb67.cell hp)
    rw [hfl, HN.out, HU.out] at hss
    have HSs := Lib.hid hss
    have HEqF := Lib.hid hfs
    have HB7 := Lib.hid (And.intro hb7 (And.intro hb57 (And.intro hr7 hb67)))
    obtain ⟨x0, x1, _, _, _⟩ := HC.out W7 hb7
    have z0' : W7.cell? ⟨w4.heap.size, 0, none⟩ = some (.string label) := (hb57.cell (p := ⟨w4.heap.size, 0, none⟩) HRd.out.2.2.2.2).trans z0
    have z1' : W7.cell? ⟨w4.heap.size, 1, none⟩ = some (.slice uA U uc) := (hb57.cell (p := ⟨w4.heap.size, 1, none⟩) HRd.out.2.2.2.2).trans z1
    have z2' : W7.cell? ⟨w4.heap.size, 2, none⟩ = some (.slice rA N rc) := (hb57.cell (p := ⟨w4.heap.size, 2, none⟩) HRd.out.2.2.2.2).trans z2
    have u0 : W7.cell? ⟨w6.heap.size, 0, none⟩ = some (.slice uA U uc) := cell_of_row W7 _ 0 _ _ (0, 0) hr7
    have u1 : W7.cell? ⟨w6.heap.size, 1, none⟩ = some (.slice fA N fc) := cell_of_row W7 _ 1 _ _ (0, 0) hr7
    clear z0 z1 z2 hss hb6 hb67 hb57 hb7 hr7 hsu hsd hfs hfl hfd
    go_wp2_with fail
    refine HSs.out.mono ?_
    rintro e w8 ⟨bs, rfl, hbs, hb8⟩
    obtain rfl : bs = true := hbs.2 ⟨by simp, HEqF.out⟩
    have hb08 := HB7.out.1.trans (hb8.mono HB7.out.1.size)
    have hb58 := HB7.out.2.1.trans (hb8.mono HB7.out.2.1.size)
    obtain ⟨_, hsu, _, _, _, _⟩ := HX.out w8 hb08
    have hck := bCheck_any label uses uA uc es rA rc w8 hsu (HRd.out.2.2.1.keep hb58.size fun p hp => hb58.cell hp)
    rw [(bind_round HE1.out HDis.out HRd.out.2.1).1, rbDs_len HRd.out.2.1, HN.out, HU.out] at hck
    have HCk := Lib.hid hck
    have z0 : w8.cell? ⟨w4.heap.size, 0, none⟩ = some (.string label) := (hb8.cell (p := ⟨w4.heap.size, 0, none⟩) (by have := HRd.out.2.2.2.2; have := HB7.out.2.1.size; simp; omega)).trans z0'
    have z1 : w8.cell? ⟨w4.heap.size, 1, none⟩ = some (.slice uA U uc) := (hb8.cell (p := ⟨w4.heap.size, 1, none⟩) (by have := HRd.out.2.2.2.2; have := HB7.out.2.1.size; simp; omega)).trans z1'
    have z2 : w8.cell? ⟨w4.heap.size, 2, none⟩ = some (.slice rA N rc) := (hb8.cell (p := ⟨w4.heap.size, 2, none⟩) (by have := HRd.out.2.2.2.2; have := HB7.out.2.1.size; simp; omega)).trans z2'
    have HB8 := Lib.hid hb08
    clear hck hbs hb8 hb08 hb58 hsu z0' z1' z2' u0 u1 x0 x1
    go_wp2_with fail
    refine HCk.out.mono ?_
    rintro e W5' ⟨rfl, hb9⟩
    have hb5 := HB8.out.trans (hb9.mono HB8.out.size)
    clear hb9 z0 z1 z2
    obtain ⟨x0, x1, y0, y1, y2⟩ := HC.out W5' hb5
    have HUm := Lib.hid (show Calls Tryz.prog 24 #[.agg #[.string mlb, .slice mA MU mc, .slice eA ME ec], .slice kA K kc] W5' (UnbR mlb muses mA mc mds known W5') from by
      obtain ⟨_, _, _, hsmu, hsmd, hsk⟩ := HX.out _ hb5
      have h := bUnbind_any mlb muses mA mc mds eA ec known kA kc _ hsmu hsmd HS.out.2.2.1 HS.out.2.2.2.1 hsk
      rw [HMU.out, HME.out, HK.out] at h
      exact h)
    have HB5 := Lib.hid hb5
    clear hb5
    go_wp2_with fail
    refine HUm.out.mono ?_
    rintro e v1 ⟨hv1, ⟨hE2, rfl⟩ | ⟨hE2, rA2, rc2, es2, hrb2, hesl2, hes2, rfl⟩⟩
    · have hE3 : (unbE mlb muses mds known != 0) = true := by simpa using hE2
      obtain ⟨V2, HV2⟩ : ∃ q, Hid (v1.alloc (.cells #[.slice none 0 0, .slice none 0 0] 40) = q) := ⟨_, Lib.hid rfl⟩
      have hv01 := HB5.out.trans ((hv1).mono HB5.out.size)
      have hv2 : Below W0.heap.size W0 V2 := by rw [← HV2.out]; exact hv01.alloc hv01.size _
      have HA := Lib.hid (HAw.out V2 hv2)
      have q0 : V2.cell? ⟨v1.heap.size, 0, none⟩ = some (.slice none 0 0) := by rw [← HV2.out]; exact cell_of_row _ _ 0 _ _ (0, 0) (heap_alloc_new _ _)
      have q1 : V2.cell? ⟨v1.heap.size, 1, none⟩ = some (.slice none 0 0) := by rw [← HV2.out]; exact cell_of_row _ _ 1 _ _ (0, 0) (heap_alloc_new _ _)
      rw [← HV2.out] at q0 q1 HA
      clear hE2 hv1 hv01 hv2 x0 x1 y0 y1 y2
      go_wp2_with fail
      refine HA.out.mono ?_
      rintro e v3 ⟨rfl, hv3⟩
      have HV3 := Lib.hid (HX.out v3 hv3).1
      clear hv3 q0 q1
      go_wp2
      go_ret
      exact ⟨rfl, HV3.out⟩
    · obtain ⟨V2, hV2⟩ : ∃ q, v1.alloc (.cells #[.slice mA muses.length mc, .slice rA2 mds.length rc2] 40) = q := ⟨_, rfl⟩
      rw [HMU.out, HME.out] at hV2
      have hv01 := HB5.out.trans ((hv1).mono HB5.out.size)
      have hv12 : Below v1.heap.size v1 V2 := by rw [← hV2]; exact (Below.refl _ _).alloc (Nat.le_refl _) _
      have hv2 := hv01.trans (hv12.mono hv01.size)
      have hr2 : V2.heap[v1.heap.size]? = some (.cells #[.slice mA MU mc, .slice rA2 ME rc2] 40 (0, 0)) := by rw [← hV2]; exact heap_alloc_new _ _
      have hz2 : v1.heap.size < V2.heap.size := by rw [← hV2]; simp
      rw [HMU.out, HME.out]
      obtain ⟨_, _, _, hsmu, _, hsk⟩ := HX.out V2 hv2
      have hes3 := hes2.keep hv12.size fun p hp => hv12.cell hp
      have hbd := rt_bind hE2 HDis.out hrb2 HS.out.2.2.1 HS.out.2.2.2.2.2.1 hsmu hes3 hsk
      unfold RtB at hbd
      rw [HME.out, HMU.out, HK.out] at hbd
      have HBd := Lib.hid hbd
      have HS2 := Lib.hid (And.intro hv2 (And.intro hes3 (And.intro hr2 (And.intro hz2 (And.intro hE2 hrb2)))))
      have hE4 : (unbE mlb muses mds known != 0) = false := by rw [hE2]; rfl
      clear x0 x1 y0 y1 y2
      obtain ⟨x0, x1, y0, y1, y2⟩ := HC.out V2 hv2
      have q0 : V2.cell? ⟨v1.heap.size, 0, none⟩ = some (.slice mA MU mc) := cell_of_row V2 _ 0 _ _ (0, 0) hr2
      have q1 : V2.cell? ⟨v1.heap.size, 1, none⟩ = some (.slice rA2 ME rc2) := cell_of_row V2 _ 1 _ _ (0, 0) hr2
      clear hE2 hv1 hv01 hv12 hv2 hr2 hz2 hes2 hes3 hrb2 hesl2 hbd hsmu hsk
      go_wp2_with fail
      refine HBd.out.mono ?_
      rintro e v3 ⟨hv3, ⟨hex, rfl⟩ | ⟨xA, xc, xs, heq, hxl, hxd, rfl⟩⟩
      · obtain ⟨V4, HV4⟩ : ∃ q, Hid (v3.alloc (.cells #[.string ⟨#[]⟩, .slice none 0 0, .slice none 0 0] 25) = q) := ⟨_, Lib.hid rfl⟩
        have hv03 := HS2.out.1.trans (hv3.mono HS2.out.1.size)
        have hv4 : Below W0.heap.size W0 V4 := by rw [← HV4.out]; exact hv03.alloc hv03.size _
        have HEx := Lib.hid hex
        clear x0 x1 y0 y1 y2 q0 q1 hv3 hv03 hex
        obtain ⟨x0, x1, y0, y1, y2⟩ := HC.out V4 hv4
        rw [← HV4.out] at x0 x1 y0 y1 y2
        have HV4b := Lib.hid hv4
        clear hv4
        go_wp2
        go_loopg [18, 91] MU (fun gg _ ct wr => ∃ j : Nat, gg = MU - j ∧ j ≤ MU ∧ ct = .int .i64 j ∧ Hid (∀ u ∈ muses.take j, (faceO known u).isSome = true) ∧ Below W0.heap.size W0 wr)
        case atStart => exact ⟨0, rfl, by omega, rfl, Lib.hid (by simp), by have := HV4b.out; rw [← HV4.out] at this; exact this⟩
        case round =>
          obtain ⟨j, HGj, hj, rfl, HP, hB⟩ := hrel
          by_cases hlt : j < MU
          · have hlt' : j < muses.length := by rw [HMU.out]; exact hlt
            obtain ⟨u, hu⟩ : ∃ y, muses[j]? = some y := ⟨_, List.getElem?_eq_getElem hlt'⟩
            obtain ⟨_, _, _, hsmu, _, hsk⟩ := HX.out wr hB
            obtain ⟨b, o, hbo, hbb, hcl⟩ := hsmu.2.2 (by intro e; rw [e] at hlt'; simp at hlt')
            have cu := hcl j u hu
            subst hbo
            obtain ⟨V6, hV6⟩ : ∃ q, wr.alloc (.cells #[.string u] 9) = q := ⟨_, rfl⟩
            have hb6 : Below wr.heap.size wr V6 := by rw [← hV6]; exact (Below.refl _ _).alloc (Nat.le_refl _) _
            have hr6 : V6.heap[wr.heap.size]? = some (.cells #[.string u] 9 (0, 0)) := by rw [← hV6]; exact heap_alloc_new _ _
            have hcf := containsFnI_any known u wr.heap.size kA kc V6 (hsk.below hb6) (cell_of_row V6 _ 0 _ _ (0, 0) hr6)
            obtain ⟨fb, Hfb⟩ : ∃ Q, Hid ((faceO known u).isSome = Q) := ⟨_, Lib.hid rfl⟩
            rw [HK.out, Hfb.out] at hcf
            have HCf := Lib.hid hcf
            have HJ := Lib.hid (And.intro HGj (And.intro hu (hB.trans (hb6.mono hB.size))))
            have hmf : ∀ (fn : Fn) (first cap : Array Value) (w : World), (Instr.makeFunc fn first cap).run Tryz.prog w = .ok (.func fn first cap) w := fun _ _ _ _ => rfl
            have hj0 : (0 : Int) ≤ (j : Int) := by omega
            have hj1 : (j : Int) < (MU : Int) := by omega
            clear HGj hu hsmu hsk hcl hb6 hr6 hcf hB
            go_wp2_with fail
            refine HCf.out.mono ?_
            rintro e v7 ⟨rfl, hv7⟩
            have hv07 := HJ.out.2.2.trans (hv7.mono HJ.out.2.2.size)
            clear hv7 cu
            cases fb with
            | false =>
              have HA := Lib.hid (HAw.out v7 hv07)
              clear hv07
              go_wp2_with fail
              refine HA.out.mono ?_
              rintro e v8 ⟨rfl, hv8⟩
              have HV8 := Lib.hid (HX.out v8 hv8).1
              clear hv8
              go_wp2
              go_ret
              exact ⟨rfl, HV8.out⟩
            | true =>
              have HV7 := Lib.hid hv07
              clear hv07
              go_wp2
              go_roundg (MU - (j + 1))
              case measure => rw [HJ.out.1]; omega
              case rel =>
                refine ⟨j + 1, rfl, by omega, by go_num, Lib.hid fun y hy => ?_, HV7.out⟩
                rcases mem_take_succ HJ.out.2.1 hy with h | rfl
                · exact HP.out y h
                · exact Hfb.out
          · exfalso
            obtain ⟨u, hu, hn⟩ := HEx.out
            have := HP.out u (by rw [List.take_of_length_le (by rw [HMU.out]; omega)]; exact hu)
            rw [Option.isNone_iff_eq_none] at hn
            rw [hn] at this
            cases this
      · obtain ⟨V4, hV4⟩ : ∃ q, v3.alloc (.cells #[.string mlb, .slice mA MU mc, .slice xA ME xc] 25) = q := ⟨_, rfl⟩
        have hv03 := HS2.out.1.trans (hv3.mono HS2.out.1.size)
        have hv34 : Below v3.heap.size v3 V4 := by rw [← hV4]; exact (Below.refl _ _).alloc (Nat.le_refl _) _
        have hv4 := hv03.trans (hv34.mono hv03.size)
        have hr4 : V4.heap[v3.heap.size]? = some (.cells #[.string mlb, .slice mA MU mc, .slice xA ME xc] 25 (0, 0)) := by rw [← hV4]; exact heap_alloc_new _ _
        have hz4 : v3.heap.size < V4.heap.size := by rw [← hV4]; simp
        have hv24 := hv3.trans (hv34.mono hv3.size)
        have HS4 := Lib.hid (And.intro hv4 (And.intro hv24 (And.intro (hxd.keep hv34.size fun p hp => hv34.cell hp) (And.intro hr4 (And.intro hz4 (And.intro heq hxl))))))
        clear x0 x1 y0 y1 y2 q0 q1 hv3 hv03 hv34 hr4 hz4 hv24 hxd heq hxl
        obtain ⟨x0, x1, y0, y1, y2⟩ := HC.out V4 hv4
        clear hv4
        go_wp2
        go_loopg [18, 91] MU (fun gg _ ct wr => ∃ j : Nat, gg = MU - j ∧ j ≤ MU ∧ ct = .int .i64 j ∧ Below V4.heap.size V4 wr)
        case atStart => exact ⟨0, rfl, by omega, rfl, Below.refl _ _⟩
        case round =>
          obtain ⟨j, HGj, hj, rfl, hB⟩ := hrel
          have hB0 := HS4.out.1.trans (hB.mono HS4.out.1.size)
          by_cases hlt : j < MU
          · have hlt' : j < muses.length := by rw [HMU.out]; exact hlt
            obtain ⟨u, hu⟩ : ∃ y, muses[j]? = some y := ⟨_, List.getElem?_eq_getElem hlt'⟩
            obtain ⟨_, _, _, hsmu, _, _⟩ := HX.out wr hB0
            obtain ⟨b, o, hbo, hbb, hcl⟩ := hsmu.2.2 (by intro e; rw [e] at hlt'; simp at hlt')
            have cu := hcl j u hu
            subst hbo
            obtain ⟨V6, hV6⟩ : ∃ q, wr.alloc (.cells #[.string u] 9) = q := ⟨_, rfl⟩
            have hb6 : Below wr.heap.size wr V6 := by rw [← hV6]; exact (Below.refl _ _).alloc (Nat.le_refl _) _
            have HJ := Lib.hid (And.intro HGj (hB.trans (hb6.mono hB.size)))
            have hj0 : (0 : Int) ≤ (j : Int) := by omega
            have hj1 : (j : Int) < (MU : Int) := by omega
            clear HGj hu hsmu hcl hb6 hB hB0 x0 x1 y0 y1 y2
            go_wp2
            go_roundg (MU - (j + 1))
            case measure => rw [HJ.out.1]; omega
            case rel => exact ⟨j + 1, rfl, by omega, by go_num, HJ.out.2⟩
          · obtain rfl : j = MU := by omega
            have hBw2 := HS4.out.2.1.trans (hB.mono HS4.out.2.1.size)
            clear x0 x1 y0 y1 y2 HGj
            obtain ⟨_, _, y0, y1, y2⟩ := HC.out wr hB0
            obtain ⟨_, _, _, hsmu, hsmd, _⟩ := HX.out wr hB0
            have hr9 := (hB.block _ HS4.out.2.2.2.2.1).trans HS4.out.2.2.2.1
            have r0 : wr.cell? ⟨v3.heap.size, 0, none⟩ = some (.string mlb) := cell_of_row wr _ 0 _ _ (0, 0) hr9
            have r1 : wr.cell? ⟨v3.heap.size, 1, none⟩ = some (.slice mA j mc) := cell_of_row wr _ 1 _ _ (0, 0) hr9
            have r2 : wr.cell? ⟨v3.heap.size, 2, none⟩ = some (.slice xA ME xc) := cell_of_row wr _ 2 _ _ (0, 0) hr9
            have hsm := same24_any mlb mlb muses muses mA mc mA mc xs mds xA xc eA ec wr hsmu hsmu (HS4.out.2.2.1.keep hB.size fun p hp => hB.cell hp) hsmd
            rw [HS4.out.2.2.2.2.2.2, HME.out, HMU.out] at hsm
            have HSm := Lib.hid hsm
            have HBw := Lib.hid (And.intro hB0 hBw2)
            have i4 : decide ((j : Int) < (j : Int)) = false := by simp
            clear hsm hsmu hsmd hr9 hB0 hBw2 hB
            go_wp2_with fail
            refine HSm.out.mono ?_
            rintro e v8 ⟨bs, rfl, hbs, hv8⟩
            obtain rfl : bs = true := hbs.2 ⟨by simp, by simp, HS4.out.2.2.2.2.2.1⟩
            have hv08 := HBw.out.1.trans (hv8.mono HBw.out.1.size)
            have hv28 := HBw.out.2.trans (hv8.mono HBw.out.2.size)
            have hr8 := (hv28.block _ HS2.out.2.2.2.1).trans HS2.out.2.2.1
            have q0 : v8.cell? ⟨v1.heap.size, 0, none⟩ = some (.slice mA j mc) := cell_of_row v8 _ 0 _ _ (0, 0) hr8
            have q1 : v8.cell? ⟨v1.heap.size, 1, none⟩ = some (.slice rA2 ME rc2) := cell_of_row v8 _ 1 _ _ (0, 0) hr8
            obtain ⟨_, _, _, hsmu, _, _⟩ := HX.out v8 hv08
            have hcs := checkSourceD_any muses mA mc es2 rA2 rc2 v8 hsmu (HS2.out.2.1.keep hv28.size fun p hp => hv28.cell hp) (rt_str HS2.out.2.2.2.2.2 HS.out.2.2.1)
            rw [(unb_round HS2.out.2.2.2.2.1 HDis.out HS2.out.2.2.2.2.2).1, rbDs_len HS2.out.2.2.2.2.2, HME.out, HMU.out] at hcs
            have HCs := Lib.hid hcs
            have HV8 := Lib.hid hv08
            clear hbs hv8 hv08 hv28 hr8 hsmu hcs y0 y1 y2 r0 r1 r2
            go_wp2_with fail
            refine HCs.out.mono ?_
            rintro e v9 ⟨rfl, hv9⟩
            have HA := Lib.hid (HAw.out v9 (HV8.out.trans (hv9.mono HV8.out.size)))
            clear hv9 q0 q1
            go_wp2_with fail
            refine HA.out.mono ?_
            rintro e v10 ⟨rfl, hv10⟩
            have HV10 := Lib.hid (HX.out v10 hv10).1
            clear hv10
            go_wp2
            go_ret
            exact ⟨rfl, HV10.out⟩
end Go.Proofs.YtacjjkbkhpdhnaaGreatDoor
