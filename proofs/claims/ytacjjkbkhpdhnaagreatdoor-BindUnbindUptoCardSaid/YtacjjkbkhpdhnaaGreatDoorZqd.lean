/- ref24.Unbind -/
import Derived.Test.YtacjjkbkhpdhnaaGreatDoorSxg
import Derived.Test.YtacjjkbkhpdhnaaGreatDoorUbd
import Derived.Test.YtacjjkbkhpdhnaaGreatDoorZqc
import Derived.Test.YtacjjkbkhpdhnaaGreatDoorZqe
import Derived.Test.YtacjjkbkhpdhnaaGreatDoorZmg
import Derived.Test.YtacjjkbkhpdhnaaGreatDoorSmm
import Derived.Test.YtacjjkbkhpdhnaaGreatDoorZpn
import Derived.Test.YtacjjkbkhpdhnaaGreatDoorGkn
import Derived.Test.YtacjjkbkhpdhnaaGreatDoorZpk
import Derived.Test.YtacjjkbkhpdhnaaGreatDoorZll
import Derived.Test.YtacjjkbkhpdhnaaGreatDoorZln
namespace Go.Proofs.YtacjjkbkhpdhnaaGreatDoor
open Go Go.RowKit Go.Proofs Go.Shelf
theorem dec_set {W : World} {b : Nat} {t : TypeId} {c0 c1 c2 c3 c4 c5 c6 c7 c8 c9 c10 : Value} (h : W.heap[b]? = some (.cells #[c0, c1, c2, c3, c4, c5, c6, c7, c8, c9, c10] t (0, 0))) (u0 u1 u2 u3 u4 u5 : Value) :
    ((((((W.setCell ⟨b, 5, none⟩ u0).setCell ⟨b, 6, none⟩ u1).setCell ⟨b, 7, none⟩ u2).setCell ⟨b, 8, none⟩ u3).setCell ⟨b, 9, none⟩ u4).setCell ⟨b, 10, none⟩ u5).heap[b]? = some (.cells #[c0, c1, c2, c3, c4, u0, u1, u2, u3, u4, u5] t (0, 0)) := by
  simp [World.setCell, Array.getElem?_modify, h]
theorem r5_of_pre : ∀ (s : Fo) (dp : Nat), (∀ x ∈ s.pre dp, x.k = 5 → x.len = 0) → s.R5
  | .nil, _, _ => trivial
  | .cons k n m i d A c s r, dp, h => ⟨fun hk => h ⟨dp, k, n, m, i, d, A, s.len, c⟩ (by simp [Fo.pre]) hk, r5_of_pre s (dp + 1) fun x hx => h x (by simp only [Fo.pre, List.mem_cons, List.mem_append]; exact .inr (.inl hx)), r5_of_pre r dp fun x hx => h x (by simp only [Fo.pre, List.mem_cons, List.mem_append]; exact .inr (.inr hx))⟩
theorem r5_decl {x : Dc} (h : exprE x.pre = 0) : (x.k = 5 → x.s.len = 0) ∧ x.s.R5 := by
  obtain ⟨_, _, e3⟩ := exprE_zero h
  have h5 : ∀ z ∈ x.pre, z.k = 5 → z.len = 0 := fun z hz hk => by
    have h1 : nodeE z.k z.n z.m z.i z.d z.len = 0 := e3 z hz
    rw [hk] at h1
    exact (err5.1 h1).2.2.2.1
  exact ⟨fun hk => h5 ⟨1, x.k, x.n, x.m, x.i, x.d, x.A, x.s.len, x.c⟩ (by simp [Dc.pre]) hk, r5_of_pre x.s 2 fun z hz => h5 z (by simp only [Dc.pre, List.mem_cons]; exact .inr hz)⟩
theorem rbDs_snoc {g : Repl} : ∀ {ds es : List Dc} {x y : Dc}, RbDs g ds es → RbDc g x y → RbDs g (ds ++ [x]) (es ++ [y])
  | [], [], _, _, _, h => ⟨h, trivial⟩
  | _ :: _, _ :: _, _, _, h, h' => ⟨h.1, rbDs_snoc h.2 h'⟩
  | [], _ :: _, _, _, h, _ => absurd h (by simp [RbDs])
  | _ :: _, [], _, _, h, _ => absurd h (by simp [RbDs])
theorem rbAllE_all0 {g : Repl} : ∀ {ds : List Dc}, (∀ x ∈ ds, (rbD g x).1 = 0) → rbAllE g ds = 0
  | [], _ => rfl
  | x :: r, h => by
    rw [rbAllE, if_neg (by rw [h x List.mem_cons_self]; simp)]
    exact rbAllE_all0 fun y hy => h y (List.mem_cons_of_mem _ hy)
def unb24E (label : ByteArray) (uses : List ByteArray) (ds : List Dc) (known : List If) : Int :=
  if checkE label uses ds ≠ 0 then checkE label uses ds else if clashB ds = true then 17 else rbAllE (gUk uses ds known) ds
def Unb24R (label : ByteArray) (uses : List ByteArray) (uA : Option Addr) (uc : Nat) (ds : List Dc) (known : List If) (w : World) (e : Ending) (w' : World) : Prop :=
  Below w.heap.size w w' ∧ ((unb24E label uses ds known ≠ 0 ∧ e = .returned (.tuple #[.agg #[.slice none 0 0, .slice none 0 0], .int .i64 (unb24E label uses ds known)])) ∨
    (unb24E label uses ds known = 0 ∧ ∃ A c es, RbDs (gUk uses ds known) ds es ∧ es.length = ds.length ∧ SlD w' w'.heap.size A c es ∧ e = .returned (.tuple #[.agg #[.slice uA uses.length uc, .slice A ds.length c], .int .i64 0])))
set_option maxRecDepth 100000 in
set_option maxHeartbeats 16000000 in
theorem unbind24_any (label : ByteArray) (uses : List ByteArray) (uA : Option Addr) (uc : Nat) (ds : List Dc) (dA : Option Addr) (dc : Nat) (known : List If) (kA : Option Addr) (kc : Nat) (w : World) (hu : SlS w w.heap.size uA uc uses) (hd : SlD w w.heap.size dA dc ds) (hnm : NmIn ds) (hms : ModS label uses ds) (hk : SlI w w.heap.size kA kc known) (hkn : ∀ x ∈ known, ∀ s ∈ x.sigs, s.name.size ≤ 9223372036854775807) :
    Calls Tryz.prog 25 #[.agg #[.string label, .slice uA uses.length uc, .slice dA ds.length dc], .slice kA known.length kc] w (Unb24R label uses uA uc ds known w) := by
  obtain ⟨i0, hi, hz0, hz1, hz2⟩ := info_parts Tryz.infoDecl
  obtain ⟨M, HM⟩ : ∃ Q, Hid (uses.length = Q) := ⟨_, Lib.hid rfl⟩
  obtain ⟨N, HN⟩ : ∃ Q, Hid (ds.length = Q) := ⟨_, Lib.hid rfl⟩
  obtain ⟨K, HK⟩ : ∃ Q, Hid (known.length = Q) := ⟨_, Lib.hid rfl⟩
  obtain ⟨W0, hW0⟩ : ∃ W0, (w.alloc (.cells #[.string label, .slice uA M uc, .slice dA N dc] 25)).alloc (.cells #[.slice none 0 0, .slice none 0 0] 40) = W0 := ⟨_, rfl⟩
  have hb0 : Below w.heap.size w W0 := by rw [← hW0]; exact ((Below.refl _ _).alloc (Nat.le_refl _) _).alloc (by simp) _
  have hzW : W0.heap.size = w.heap.size + 2 := by rw [← hW0]; simp
  have hr4 : W0.heap[w.heap.size]? = some (.cells #[.string label, .slice uA M uc, .slice dA N dc] 25 (0, 0)) := by rw [← hW0]; exact (Below.heap_alloc _ _ _ (by simp)).trans (heap_alloc_new w _)
  have hr6 : W0.heap[w.heap.size + 1]? = some (.cells #[.slice none 0 0, .slice none 0 0] 40 (0, 0)) := by
    have h := heap_alloc_new (w.alloc (.cells #[.string label, .slice uA M uc, .slice dA N dc] 25)) (.cells #[.slice none 0 0, .slice none 0 0] 40)
    rw [hW0] at h
    simpa using h
  have hul1 := hu.1
  have hul2 := hu.2.1
  have hdl1 := hd.1
  have hdl2 := hd.2.1
  have hkl2 := hk.2.1
  unfold maxLen at hul2 hdl2 hkl2
  rw [HM.out] at hul1
  rw [HN.out] at hdl1
  have HX := Lib.hid (show ∀ X : World, Below W0.heap.size W0 X → Below w.heap.size w X ∧ SlS X X.heap.size uA uc uses ∧ SlD X X.heap.size dA dc ds ∧ SlI X X.heap.size kA kc known ∧ X.heap[w.heap.size]? = some (.cells #[.string label, .slice uA M uc, .slice dA N dc] 25 (0, 0)) ∧ X.heap[w.heap.size + 1]? = some (.cells #[.slice none 0 0, .slice none 0 0] 40 (0, 0)) ∧ w.heap.size + 1 < X.heap.size from fun X hX => by
    have h1 := hb0.trans (hX.mono hb0.size)
    have h2 := hX.size
    exact ⟨h1, hu.keep h1.size (fun p hp => h1.cell hp), hd.keep h1.size (fun p hp => h1.cell hp), hk.below h1, (hX.block _ (by omega)).trans hr4, (hX.block _ (by omega)).trans hr6, by omega⟩)
  obtain ⟨_, hsu, hsd, hsk, _, _, _⟩ := HX.out W0 (Below.refl _ _)
  have hck := check24_any label uses uA uc ds dA dc W0 hsu hsd hms
  obtain ⟨E1, HE1⟩ : ∃ Q, Hid (checkE label uses ds = Q) := ⟨_, Lib.hid rfl⟩
  rw [HM.out, HN.out, HE1.out] at hck
  have t0 : W0.cell? ⟨w.heap.size, 0, none⟩ = some (.string label) := cell_of_row W0 _ 0 _ _ (0, 0) hr4
  have t1 : W0.cell? ⟨w.heap.size, 1, none⟩ = some (.slice uA M uc) := cell_of_row W0 _ 1 _ _ (0, 0) hr4
  have t2 : W0.cell? ⟨w.heap.size, 2, none⟩ = some (.slice dA N dc) := cell_of_row W0 _ 2 _ _ (0, 0) hr4
  have HCk := Lib.hid hck
  have HH := Lib.hid (And.intro hnm (And.intro hkn hb0))
  obtain ⟨EE, HEE⟩ : ∃ Q, Hid (unb24E label uses ds known = Q) := ⟨_, Lib.hid rfl⟩
  have HD := Lib.hid (show EE = if E1 ≠ 0 then E1 else if clashB ds = true then 17 else rbAllE (gUk uses ds known) ds by rw [← HEE.out]; unfold unb24E; rw [HE1.out])
  have HDd := Lib.hid hd
  unfold Unb24R
  rw [HEE.out, HM.out, HN.out, HK.out]
  clear hu hd hnm hms hk hkn hr4 hr6 hck hsu hsd hsk hb0
  go_enter Tryz.func25, Tryz.ntmps25
  go_wp2_with fail
  refine HCk.out.mono ?_
  rintro e w1 ⟨rfl, hb1⟩
  have HB1 := Lib.hid hb1
  clear hb1 HCk t0 t1 t2 hW0
  by_cases he1 : E1 = 0
  rotate_left
  · have HR := Lib.hid (show EE = E1 from HD.out.trans (if_pos he1))
    have HE0 := Lib.hid he1
    have he1' : (E1 != 0) = true := by simpa using he1
    obtain ⟨hBx, _, _, _, _, hr, _⟩ := HX.out w1 HB1.out
    clear he1
    obtain ⟨y0, y1, z0, z1⟩ := row2 hr
    have HS := Lib.hid (pair_set hr (.slice none 0 0) (.slice none 0 0))
    have HBx := Lib.hid hBx
    clear hr hBx
    go_wp2
    obtain ⟨W9, hW9, s0, s1, hBf, hsz, hbk⟩ := out2 HS.out HBx.out (by omega)
    rw [hW9]
    refine bodyPost_ret (v := .tuple #[.agg #[.slice none 0 0, .slice none 0 0], .int .i64 E1]) (by simp [results, Tryz.results25, go_sem, s0, s1]) rfl ?_
    exact ⟨hBf, .inl ⟨by rw [HR.out]; exact HE0.out, by rw [HR.out]⟩⟩
  subst he1
  have HD1 := Lib.hid (HD.out.trans (if_neg (by simp)))
  obtain ⟨_, _, _, hl100, hde⟩ := checkE_parts HE1.out
  have HV0 := Lib.hid (declsE_mem hde)
  have HIn := Lib.hid (show RbIn ds from rbIn_of HH.out.1 fun x hx => (declE_expr (HV0.out x hx)).2.2)
  obtain ⟨_, _, hsd1, _, hrm1, _, _⟩ := HX.out w1 HB1.out
  have htw := clash24_any ds dA dc w1 hsd1
  obtain ⟨tb, Htb⟩ : ∃ Q, Hid (clashB ds = Q) := ⟨_, Lib.hid rfl⟩
  rw [HN.out, Htb.out] at htw
  rw [HN.out] at hl100
  have HTw := Lib.hid htw
  have t1 : w1.cell? ⟨w.heap.size, 1, none⟩ = some (.slice uA M uc) := cell_of_row w1 _ 1 _ _ (0, 0) hrm1
  have t2 : w1.cell? ⟨w.heap.size, 2, none⟩ = some (.slice dA N dc) := cell_of_row w1 _ 2 _ _ (0, 0) hrm1
  clear hde hsd1 hrm1 htw
  go_wp2_with fail
  refine HTw.out.mono ?_
  rintro e w2 ⟨rfl, hb2⟩
  have HB2 := Lib.hid (HB1.out.trans (hb2.mono HB1.out.size))
  clear hb2 HTw t1 t2
  cases tb with
  | true =>
    have HR := Lib.hid (show EE = 17 from HD1.out.trans (if_pos Htb.out))
    obtain ⟨hBx, _, _, _, _, hr, _⟩ := HX.out w2 HB2.out
    obtain ⟨y0, y1, z0, z1⟩ := row2 hr
    have HS := Lib.hid (pair_set hr (.slice none 0 0) (.slice none 0 0))
    have HBx := Lib.hid hBx
    clear hr hBx
    go_wp2
    obtain ⟨W9, hW9, s0, s1, hBf, hsz, hbk⟩ := out2 HS.out HBx.out (by omega)
    rw [hW9]
    refine bodyPost_ret (v := .tuple #[.agg #[.slice none 0 0, .slice none 0 0], .int .i64 17]) (by simp [results, Tryz.results25, go_sem, s0, s1]) rfl ?_
    exact ⟨hBf, .inl ⟨by rw [HR.out]; simp, by rw [HR.out]⟩⟩
  | false =>
  have HD2 := Lib.hid (HD1.out.trans (if_neg (by rw [Htb.out]; simp)))
  obtain ⟨_, _, _, _, hrm2, _, _⟩ := HX.out w2 HB2.out
  have t1 : w2.cell? ⟨w.heap.size, 1, none⟩ = some (.slice uA M uc) := cell_of_row w2 _ 1 _ _ (0, 0) hrm2
  obtain ⟨V1, hV1⟩ : ∃ q, w2.alloc (.cells #[.slice uA M uc, .slice none 0 0] 40) = q := ⟨_, rfl⟩
  have hbV : Below w2.heap.size w2 V1 := by rw [← hV1]; exact (Below.refl _ _).alloc (Nat.le_refl _) _
  have hn2 : V1.heap[w2.heap.size]? = some (.cells #[.slice uA M uc, .slice none 0 0] 40 (0, 0)) := by rw [← hV1]; exact heap_alloc_new _ _
  have HR0 := Lib.hid (show DRw w.heap.size w2 w2.heap.size [.slice uA M uc] 40 (.slice none 0 0) [] (V1.setCell ⟨w2.heap.size, 1, none⟩ (.slice none 0 0)) from ⟨by simp [World.setCell, Array.getElem?_modify, hn2], World.ownsRow_nil _ _ _ _, (fun x hx => absurd hx (by simp)), hbV.setCell (by simp) _, (HX.out w2 HB2.out).1.size⟩)
  have n1 := cell_of_row V1 w2.heap.size 1 _ _ (0, 0) hn2
  have f1 := frozen_of_row V1 w2.heap.size 1 _ _ hn2
  simp at n1
  clear hrm2 hbV hn2
  go_wp2_with fail
  clear t1 hV1 n1 f1
  go_loopg [8] N (fun gg ct wr => ∃ (j : Nat) (es : List Dc) (v : Value), gg = N - j ∧ j ≤ N ∧ ct = .int .i64 j ∧ DRw w.heap.size w2 w2.heap.size [.slice uA M uc] 40 v es wr ∧ es.length = j ∧ Hid (RbDs (gUk uses ds known) (ds.take j) es) ∧ Hid (∀ q y, q < j → ds[q]? = some y → (rbD (gUk uses ds known) y).1 = 0))
  case atStart => exact ⟨0, [], .slice none 0 0, rfl, by omega, rfl, HR0.out, rfl, Lib.hid trivial, Lib.hid (fun q _ hq => absurd hq (Nat.not_lt_zero q))⟩
  case round =>
    obtain ⟨j, es, v, HG, hj, rfl, hR, hel, hRb, hZ⟩ := hrel
    have hB0 := HB2.out.trans (hR.bw.mono HB2.out.size)
    obtain ⟨hBw, hsu, hsd, hsk, hrm, hrr, hzr⟩ := HX.out wr hB0
    have t0 : wr.cell? ⟨w.heap.size, 0, none⟩ = some (.string label) := cell_of_row wr _ 0 _ _ (0, 0) hrm
    have t1 : wr.cell? ⟨w.heap.size, 1, none⟩ = some (.slice uA M uc) := cell_of_row wr _ 1 _ _ (0, 0) hrm
    have t2 : wr.cell? ⟨w.heap.size, 2, none⟩ = some (.slice dA N dc) := cell_of_row wr _ 2 _ _ (0, 0) hrm
    have hwl := lt_of_block hR.nb
    by_cases hlt : j < N
    · have hlt' : j < ds.length := by rw [HN.out]; exact hlt
      obtain ⟨x, hx⟩ : ∃ x, ds[j]? = some x := ⟨_, List.getElem?_eq_getElem hlt'⟩
      have hxm := List.mem_of_getElem? hx
      obtain ⟨b, o, hA, hbb, x0, x1, x2, x3, x4, x5, x6, x7, x8, x9, x10, xok⟩ := HDd.out.cells_at (wr := wr) (fun p hp => hBw.cell hp) hx
      subst hA
      have HTk := Lib.hid (show ds.take (j + 1) = ds.take j ++ [x] by
        rw [List.take_succ_eq_append_getElem hlt', (List.getElem?_eq_some_iff.1 hx).2])
      have hexp := (declE_expr (HV0.out x hxm)).2.2
      have HIx := Lib.hid (And.intro (HIn.out x hxm) (r5_decl hexp))
      obtain ⟨W3, hW3⟩ : ∃ q, wr.alloc (.cells #[.int .i64 x.id, .int .i64 x.kind, .bool x.pub, .slice x.nA x.names.length x.nc, .bool x.doubt, .int .i64 x.k, .string x.n, .string x.m, .int .i64 x.i, .int .i64 x.d, .slice x.A x.s.len x.c] 63) = q := ⟨_, rfl⟩
      have hb3 : Below wr.heap.size wr W3 := by rw [← hW3]; exact (Below.refl _ _).alloc (Nat.le_refl _) _
      have hx3 : W3.heap[wr.heap.size]? = some (.cells #[.int .i64 x.id, .int .i64 x.kind, .bool x.pub, .slice x.nA x.names.length x.nc, .bool x.doubt, .int .i64 x.k, .string x.n, .string x.m, .int .i64 x.i, .int .i64 x.d, .slice x.A x.s.len x.c] 63 (0, 0)) := by rw [← hW3]; exact heap_alloc_new _ _
      have hz3 : wr.heap.size < W3.heap.size := by rw [← hW3]; simp
      have hB3 := hB0.trans (hb3.mono hB0.size)
      obtain ⟨hBw3, hsu3, hsd3, hsk3, hrm3, _, _⟩ := HX.out W3 hB3
      obtain ⟨q, Hq⟩ : ∃ q, Hid (rbD (gUk uses ds known) x = q) := ⟨_, Lib.hid rfl⟩
      have hun := unbound24_any label uses ds known uA uc (some ⟨b, o, none⟩) dc kA kc HH.out.2.1 x.s x.k x.n x.m x.i x.d x.A x.c [] none 0 W3 (xok.2.keep hBw3.size fun p hp => hBw3.cell hp) HIx.out.1.1 HIx.out.1.2.2.1 HIx.out.2.1 HIx.out.2.2 ⟨hsu3, hsd3, hsk3⟩ (VarsAt.nil _) (by have := HIx.out.1.2.2.2; simp; omega)
      unfold rbD at Hq
      rw [Hq.out, HM.out, HN.out, HK.out] at hun
      have HUn := Lib.hid hun
      have u0 : W3.cell? ⟨w.heap.size, 0, none⟩ = some (.string label) := cell_of_row W3 _ 0 _ _ (0, 0) hrm3
      have u1 : W3.cell? ⟨w.heap.size, 1, none⟩ = some (.slice uA M uc) := cell_of_row W3 _ 1 _ _ (0, 0) hrm3
      have u2 : W3.cell? ⟨w.heap.size, 2, none⟩ = some (.slice (some ⟨b, o, none⟩) N dc) := cell_of_row W3 _ 2 _ _ (0, 0) hrm3
      have f5 := cell_of_row W3 wr.heap.size 5 _ _ (0, 0) hx3
      have f6 := cell_of_row W3 wr.heap.size 6 _ _ (0, 0) hx3
      have f7 := cell_of_row W3 wr.heap.size 7 _ _ (0, 0) hx3
      have f8 := cell_of_row W3 wr.heap.size 8 _ _ (0, 0) hx3
      have f9 := cell_of_row W3 wr.heap.size 9 _ _ (0, 0) hx3
      have f10 := cell_of_row W3 wr.heap.size 10 _ _ (0, 0) hx3
      simp at f5 f6 f7 f8 f9 f10
      have j0 : (0 : Int) ≤ (j : Int) := by omega
      have j1 : (j : Int) < (N : Int) := by omega
      obtain ⟨E2, ⟨qk, qn, qm, qi, qd⟩, qt⟩ := q
      have HT := Lib.hid (And.intro HG (And.intro hR (And.intro hel (And.intro hRb (And.intro hZ (And.intro hx (And.intro hb3 (And.intro hx3 (And.intro hz3 (And.intro xok (And.intro hwl hB0)))))))))))
      clear HG hR hel hRb hZ hx hb3 hx3 hz3 xok hwl hB0 hBw hsu hsd hsk hrm hrr hzr hxm hexp hB3 hsu3 hsd3 hsk3 hrm3 hun hlt' hBw3
      go_wp2_with fail
      refine HUn.out.mono ?_
      rintro e w4 ⟨hb4, uk, un, um, ui, ud, vA5, ul5, vc5, rfl, hq⟩
      obtain ⟨W5, hW5⟩ : ∃ q, w4.alloc (.cells #[.int .i64 uk, .string un, .string um, .int .i64 ui, .int .i64 ud, .slice vA5 ul5 vc5] 28) = q := ⟨_, rfl⟩
      have hb45 : Below w4.heap.size w4 W5 := by rw [← hW5]; exact (Below.refl _ _).alloc (Nat.le_refl _) _
      have hx5 : W5.heap[w4.heap.size]? = some (.cells #[.int .i64 uk, .string un, .string um, .int .i64 ui, .int .i64 ud, .slice vA5 ul5 vc5] 28 (0, 0)) := by rw [← hW5]; exact heap_alloc_new _ _
      have hb35 := hb4.trans (hb45.mono hb4.size)
      have hbr5 := HT.out.2.2.2.2.2.2.1.trans (hb35.mono (Nat.le_of_lt HT.out.2.2.2.2.2.2.2.2.1))
      have hB5 := HT.out.2.2.2.2.2.2.2.2.2.2.2.trans (hbr5.mono HT.out.2.2.2.2.2.2.2.2.2.2.2.size)
      cases he : E2 == 0 with
      | false =>
        have he' : (E2 != 0) = true := by rw [bne, he]; rfl
        have HE2 := Lib.hid (show E2 ≠ 0 by simpa using he)
        have HR := Lib.hid (show EE = E2 by
          rw [HD2.out, rbAllE_at HT.out.2.2.2.2.1.out HT.out.2.2.2.2.2.1 (by unfold rbD; rw [Hq.out]; exact HE2.out)]
          unfold rbD
          rw [Hq.out])
        obtain ⟨hBx, _, _, _, _, hr, _⟩ := HX.out W5 hB5
        clear hb4 hq hb45 hx5 hb35 hbr5 hB5 u0 u1 u2 f5 f6 f7 f8 f9 f10
        obtain ⟨y0, y1, z0, z1⟩ := row2 hr
        have HS := Lib.hid (pair_set hr (.slice none 0 0) (.slice none 0 0))
        have HBx := Lib.hid hBx
        clear hr hBx
        go_wp2
        obtain ⟨W9, hW9, s0, s1, hBf, hsz, hbk⟩ := out2 HS.out HBx.out (by omega)
        rw [hW9]
        refine bodyPost_ret (v := .tuple #[.agg #[.slice none 0 0, .slice none 0 0], .int .i64 E2]) (by simp [results, Tryz.results25, go_sem, s0, s1]) rfl ?_
        exact ⟨hBf, .inl ⟨by rw [HR.out]; exact HE2.out, by rw [HR.out]⟩⟩
      | true =>
        obtain rfl : E2 = 0 := by simpa using he
        have hq0 := hq rfl
        simp only at hq0
        obtain ⟨rfl, rfl, rfl, rfl, rfl, t, htp, rfl, hts⟩ := hq0
        obtain ⟨vA, vc, rfl⟩ := own_formR HT.out.2.1.own
        have hd5 := (hb35.block _ HT.out.2.2.2.2.2.2.2.2.1).trans HT.out.2.2.2.2.2.2.2.1
        have hlt4 : wr.heap.size < w4.heap.size := Nat.lt_of_lt_of_le HT.out.2.2.2.2.2.2.2.2.1 hb4.size
        have b0 := cell_of_row W5 w4.heap.size 0 _ _ (0, 0) hx5
        have b1 := cell_of_row W5 w4.heap.size 1 _ _ (0, 0) hx5
        have b2 := cell_of_row W5 w4.heap.size 2 _ _ (0, 0) hx5
        have b3 := cell_of_row W5 w4.heap.size 3 _ _ (0, 0) hx5
        have b4 := cell_of_row W5 w4.heap.size 4 _ _ (0, 0) hx5
        have b5 := cell_of_row W5 w4.heap.size 5 _ _ (0, 0) hx5
        have y5 := cell_of_row W5 wr.heap.size 5 _ _ (0, 0) hd5
        have y6 := cell_of_row W5 wr.heap.size 6 _ _ (0, 0) hd5
        have y7 := cell_of_row W5 wr.heap.size 7 _ _ (0, 0) hd5
        have y8 := cell_of_row W5 wr.heap.size 8 _ _ (0, 0) hd5
        have y9 := cell_of_row W5 wr.heap.size 9 _ _ (0, 0) hd5
        have y10 := cell_of_row W5 wr.heap.size 10 _ _ (0, 0) hd5
        have z5 := frozen_of_row W5 wr.heap.size 5 _ _ hd5
        have z6 := frozen_of_row W5 wr.heap.size 6 _ _ hd5
        have z7 := frozen_of_row W5 wr.heap.size 7 _ _ hd5
        have z8 := frozen_of_row W5 wr.heap.size 8 _ _ hd5
        have z9 := frozen_of_row W5 wr.heap.size 9 _ _ hd5
        have z10 := frozen_of_row W5 wr.heap.size 10 _ _ hd5
        simp at b0 b1 b2 b3 b4 b5 y5 y6 y7 y8 y9 y10
        have hz45 : w4.heap.size ≤ W5.heap.size := hb45.size
        have HB := Lib.hid (And.intro hb4 (And.intro hbr5 (And.intro hts (And.intro htp (And.intro hlt4 (And.intro hd5 (show ∀ q, q < w4.heap.size → W5.heap[q]? = w4.heap[q]? from fun q hq => hb45.block q hq)))))))
        clear hb4 hq hb45 hx5 hb35 hbr5 hB5 u0 u1 u2 f5 f6 f7 f8 f9 f10 hts htp hlt4 hd5
        go_upto_region 15 with fail
        clear hW5
        have hs6 := dec_set HB.out.2.2.2.2.2.1 (.int .i64 uk) (.string un) (.string um) (.int .i64 ui) (.int .i64 ud) (.slice vA5 t.len vc5)
        have hb6 : Below wr.heap.size wr (((((((W5.setCell ⟨wr.heap.size, 5, none⟩ (.int .i64 uk)).setCell ⟨wr.heap.size, 6, none⟩ (.string un)).setCell ⟨wr.heap.size, 7, none⟩ (.string um)).setCell ⟨wr.heap.size, 8, none⟩ (.int .i64 ui)).setCell ⟨wr.heap.size, 9, none⟩ (.int .i64 ud)).setCell ⟨wr.heap.size, 10, none⟩ (.slice vA5 t.len vc5))) := (((((HB.out.2.1.setCell (by simp) _).setCell (by simp) _).setCell (by simp) _).setCell (by simp) _).setCell (by simp) _).setCell (by simp) _
        have hk6 : ∀ q, q ≠ wr.heap.size → (((((((W5.setCell ⟨wr.heap.size, 5, none⟩ (.int .i64 uk)).setCell ⟨wr.heap.size, 6, none⟩ (.string un)).setCell ⟨wr.heap.size, 7, none⟩ (.string um)).setCell ⟨wr.heap.size, 8, none⟩ (.int .i64 ui)).setCell ⟨wr.heap.size, 9, none⟩ (.int .i64 ud)).setCell ⟨wr.heap.size, 10, none⟩ (.slice vA5 t.len vc5))).heap[q]? = W5.heap[q]? := fun q hq => (heap_setCell_other _ _ _ _ (by simpa using hq)).trans ((heap_setCell_other _ _ _ _ (by simpa using hq)).trans ((heap_setCell_other _ _ _ _ (by simpa using hq)).trans ((heap_setCell_other _ _ _ _ (by simpa using hq)).trans ((heap_setCell_other _ _ _ _ (by simpa using hq)).trans (heap_setCell_other _ _ _ _ (by simpa using hq))))))
        have hz6 : w4.heap.size ≤ (((((((W5.setCell ⟨wr.heap.size, 5, none⟩ (.int .i64 uk)).setCell ⟨wr.heap.size, 6, none⟩ (.string un)).setCell ⟨wr.heap.size, 7, none⟩ (.string um)).setCell ⟨wr.heap.size, 8, none⟩ (.int .i64 ui)).setCell ⟨wr.heap.size, 9, none⟩ (.int .i64 ud)).setCell ⟨wr.heap.size, 10, none⟩ (.slice vA5 t.len vc5))).heap.size := by simpa using hz45
        generalize ((((((W5.setCell ⟨wr.heap.size, 5, none⟩ (.int .i64 uk)).setCell ⟨wr.heap.size, 6, none⟩ (.string un)).setCell ⟨wr.heap.size, 7, none⟩ (.string um)).setCell ⟨wr.heap.size, 8, none⟩ (.int .i64 ui)).setCell ⟨wr.heap.size, 9, none⟩ (.int .i64 ud)).setCell ⟨wr.heap.size, 10, none⟩ (.slice vA5 t.len vc5)) = W6 at hs6 hb6 hk6 hz6 ⊢
        have hR6 := HT.out.2.1.keep hb6
        have c0 := cell_of_row W6 wr.heap.size 0 _ _ (0, 0) hs6
        have c1 := cell_of_row W6 wr.heap.size 1 _ _ (0, 0) hs6
        have c2 := cell_of_row W6 wr.heap.size 2 _ _ (0, 0) hs6
        have c3 := cell_of_row W6 wr.heap.size 3 _ _ (0, 0) hs6
        have c4 := cell_of_row W6 wr.heap.size 4 _ _ (0, 0) hs6
        have c5 := cell_of_row W6 wr.heap.size 5 _ _ (0, 0) hs6
        have c6 := cell_of_row W6 wr.heap.size 6 _ _ (0, 0) hs6
        have c7 := cell_of_row W6 wr.heap.size 7 _ _ (0, 0) hs6
        have c8 := cell_of_row W6 wr.heap.size 8 _ _ (0, 0) hs6
        have c9 := cell_of_row W6 wr.heap.size 9 _ _ (0, 0) hs6
        have c10 := cell_of_row W6 wr.heap.size 10 _ _ (0, 0) hs6
        have n1 := cell_of_row W6 w2.heap.size 1 _ _ (0, 0) hR6.nb
        simp at c0 c1 c2 c3 c4 c5 c6 c7 c8 c9 c10 n1
        have hR8 := hR6.keep ((Below.refl W6.heap.size W6).alloc (Nat.le_refl _) (.cells #[.int .i64 x.id, .int .i64 x.kind, .bool x.pub, .slice x.nA x.names.length x.nc, .bool x.doubt, .int .i64 uk, .string un, .string um, .int .i64 ui, .int .i64 ud, .slice vA5 t.len vc5] 63))
        have HNW := Lib.hid (show ∀ Y : World, (W6.alloc (.cells #[.int .i64 x.id, .int .i64 x.kind, .bool x.pub, .slice x.nA x.names.length x.nc, .bool x.doubt, .int .i64 uk, .string un, .string um, .int .i64 ui, .int .i64 ud, .slice vA5 t.len vc5] 63)).grownBy Y (Value.slice vA es.length vc).ownBlock → Y.cell? ⟨w2.heap.size, 1, none⟩ = some (.slice vA es.length vc) ∧ Y.frozen? ⟨w2.heap.size, 1, none⟩ = false from fun Y hg => by
          have h1 : Y.heap[w2.heap.size]? = _ := (hg.block _ (lt_of_block hR8.nb) (fun e => by have := (World.ownsRow.lt hR8.own _ e.symm).1; omega)).trans hR8.nb
          exact ⟨by simpa using cell_of_row Y _ 1 _ _ (0, 0) h1, frozen_of_row Y _ 1 _ _ h1⟩)
        have hwl := HT.out.2.2.2.2.2.2.2.2.2.2.1
        have hBw6 := (HX.out W6 (HT.out.2.2.2.2.2.2.2.2.2.2.2.trans (hb6.mono HT.out.2.2.2.2.2.2.2.2.2.2.2.size))).1
        have hwL := (HX.out w2 HB2.out).2.2.2.2.2.2
        have HLs := Lib.hid (show (rbDc x uk un um ui ud vA5 vc5 t).Lies (W6.alloc (.cells #[.int .i64 x.id, .int .i64 x.kind, .bool x.pub, .slice x.nA x.names.length x.nc, .bool x.doubt, .int .i64 uk, .string un, .string um, .int .i64 ui, .int .i64 ud, .slice vA5 t.len vc5] 63)) (fun q => (q < w.heap.size ∨ w2.heap.size < q) ∧ q < (W6.alloc (.cells #[.int .i64 x.id, .int .i64 x.kind, .bool x.pub, .slice x.nA x.names.length x.nc, .bool x.doubt, .int .i64 uk, .string un, .string um, .int .i64 ui, .int .i64 ud, .slice vA5 t.len vc5] 63)).heap.size ∧ (Value.slice vA es.length vc).ownBlock ≠ some q) by
          have hsz6 : (W6.alloc (.cells #[.int .i64 x.id, .int .i64 x.kind, .bool x.pub, .slice x.nA x.names.length x.nc, .bool x.doubt, .int .i64 uk, .string un, .string um, .int .i64 ui, .int .i64 ud, .slice vA5 t.len vc5] 63)).heap.size = W6.heap.size + 1 := by simp
          have hwz := hBw6.size
          have hz3 := HT.out.2.2.2.2.2.2.2.2.1
          refine ⟨(HT.out.2.2.2.2.2.2.2.2.2.1.1.nmP).keep (fun k hk => ⟨.inl hk, by omega, fun e => ?_⟩) (fun p hp => ?_), HB.out.2.2.1.keep (fun k hk => ⟨.inr (by omega), by omega, fun e => ?_⟩) (fun p hp => ?_)⟩
          · have := (World.ownsRow.lt HT.out.2.1.own _ e).1
            omega
          · exact (World.cell?_alloc_lt W6 _ p (by omega)).trans (hBw6.cell hp)
          · have := (World.ownsRow.lt HT.out.2.1.own _ e).2
            omega
          · refine (World.cell?_alloc_lt W6 _ p (by omega)).trans (World.cell?_of_block ((hk6 p.block (by omega)).trans (HB.out.2.2.2.2.2.2 p.block hp.2))))
        have HO7 := Lib.hid hR6.own
        have HR8 := Lib.hid hR8
        have hel := HT.out.2.2.1
        have m1' : es.length + 1 ≤ maxLen := by unfold maxLen; omega
        have m2' : (es.length + 1) * 136 ≤ 140737488355328 := by omega
        have m3' : w2.heap.size + 1 ≤ (W6.alloc (.cells #[.int .i64 x.id, .int .i64 x.kind, .bool x.pub, .slice x.nA x.names.length x.nc, .bool x.doubt, .int .i64 uk, .string un, .string um, .int .i64 ui, .int .i64 ud, .slice vA5 t.len vc5] 63)).heap.size := by have := lt_of_block hR8.nb; omega
        have HM' := Lib.hid (And.intro m1' (And.intro m2' m3'))
        clear m1' m2' m3' hel hR6 hR8 hwl hBw6 hwL hs6 hb6 hk6 hz6 b0 b1 b2 b3 b4 b5 y5 y6 y7 y8 y9 y10 z5 z6 z7 z8 z9 z10
        go_wp2_with (at_builtin; refine wpList_append_own_at _ rfl _ _ 23 rfl (w2.heap.size + 1) 63 i0 _ 11 136 Tryz.underlying23 hi hz0 hz1 hz2 rfl (by decide) _ _ _ rfl (HO7.out.alloc _) ⟨W6.heap.size, 0, none⟩ 1 1 [.int .i64 x.id, .int .i64 x.kind, .bool x.pub, .slice x.nA x.names.length x.nc, .bool x.doubt, .int .i64 uk, .string un, .string um, .int .i64 ui, .int .i64 ud, .slice vA5 t.len vc5] rfl rfl (World.news_of_block (cs := #[.int .i64 x.id, .int .i64 x.kind, .bool x.pub, .slice x.nA x.names.length x.nc, .bool x.doubt, .int .i64 uk, .string un, .string um, .int .i64 ui, .int .i64 ud, .slice vA5 t.len vc5]) (t := 63) (fr := (0, 0)) (heap_alloc_new _ _)) (by simp [Value.oneCell']) HM'.out.1 HM'.out.2.1 HM'.out.2.2 ?_; intro v9 w9 hown9 hg9 _ hat9; have HS9 := Lib.hid (And.intro hown9 (And.intro hg9 hat9)); obtain ⟨n9, f9⟩ := HNW.out w9 hg9; obtain ⟨g9, c9, rfl⟩ := ownsRow_succ hown9; clear hown9 hg9 hat9)
        go_roundg (N - (j + 1))
        case measure => rw [HT.out.1]; omega
        case rel =>
          have hP := HR8.out.push (x := rbDc x uk un um ui ud vA5 vc5 t) HS9.out.2.1 HLs.out HS9.out.1 HS9.out.2.2
          have hQ : rbD (gUk uses ds known) x = (0, ⟨uk, un, um, ui, ud⟩, qt) := by unfold rbD; exact Hq.out
          refine ⟨j + 1, es ++ [rbDc x uk un um ui ud vA5 vc5 t], _, rfl, by omega, by go_num, hP, by rw [List.length_append, HT.out.2.2.1]; rfl, Lib.hid ?_, Lib.hid fun q y hq hy => ?_⟩
          · rw [HTk.out]
            exact rbDs_snoc HT.out.2.2.2.1.out ⟨rfl, rfl, rfl, rfl, rfl, rfl, rfl, by rw [hQ]; rfl, by rw [hQ]; rfl, by rw [hQ]; rfl, by rw [hQ]; rfl, by rw [hQ]; rfl, by rw [hQ]; exact HB.out.2.2.2.1⟩
          · by_cases hqj : q = j
            · subst hqj
              have h1 := HT.out.2.2.2.2.2.1
              rw [hy] at h1
              cases h1
              rw [hQ]
            · exact HT.out.2.2.2.2.1.out q y (by omega) hy
    · have hjN : j = N := by omega
      subst hjN
      have HR := Lib.hid (show EE = 0 by
        rw [HD2.out]
        refine rbAllE_all0 fun y hy => ?_
        obtain ⟨q, hq⟩ := List.getElem?_of_mem hy
        exact hZ.out q y (by have := (List.getElem?_eq_some_iff.1 hq).1; rw [HN.out] at this; exact this) hq)
      have HRs := Lib.hid (show RbDs (gUk uses ds known) ds es by have h := hRb.out; rwa [List.take_of_length_le (by rw [HN.out]; exact Nat.le_refl _)] at h)
      have hnb := hR.nb
      obtain ⟨rA, rc, rfl, hsld⟩ := hR.sld
      have n0 := cell_of_row wr w2.heap.size 0 _ _ (0, 0) hnb
      have n1 := cell_of_row wr w2.heap.size 1 _ _ (0, 0) hnb
      simp at n0 n1
      rw [hel] at n1
      have HDs := Lib.hid (And.intro hel hR)
      have hw2 := (HX.out w2 HB2.out).2.2.2.2.2.2
      have hr := hrr
      have hBx := hBw
      have i2 : decide ((j : Int) < (j : Int)) = false := by simp
      have i3 : decide (j < j) = false := by simp
      clear hR hsld hnb hrm hrr hsu hsd hsk hRb hZ hB0 hBw hel HG
      obtain ⟨y0, y1, z0, z1⟩ := row2 hr
      have HS := Lib.hid (pair_set hr (.slice uA M uc) (.slice rA j rc))
      have HBx := Lib.hid hBx
      clear hr hBx
      go_wp2
      obtain ⟨W9, hW9, s0, s1, hBf, hsz, hbk⟩ := out2 HS.out HBx.out (by omega)
      rw [hW9]
      refine bodyPost_ret (v := .tuple #[.agg #[.slice uA M uc, .slice rA j rc], .int .i64 0]) (by simp [results, Tryz.results25, go_sem, s0, s1]) rfl ?_
      obtain ⟨rA2, rc2, hve, hsl⟩ := HDs.out.2.sldX (Y := W9) (by rw [hsz]; exact Nat.le_refl _) (fun q hq => hbk q (by omega))
      simp only [Value.slice.injEq] at hve
      obtain ⟨rfl, _, rfl⟩ := hve
      exact ⟨hBf, .inr ⟨HR.out, rA, rc, es, HRs.out, HDs.out.1, hsl, rfl⟩⟩
end Go.Proofs.YtacjjkbkhpdhnaaGreatDoor
/- law24.BindUnbind in plain words: the reference's Unbind and Rename are the program's -/
namespace Go.Proofs.YtacjjkbkhpdhnaaGreatDoor
open Go Go.RowKit Go.Proofs Go.Shelf

theorem first_last {ds : List Dc} (hu : IdU ds) (i : Int) : firstD ds i = lastD ds i := by
  unfold firstD
  cases h : lastD ds i with
  | none =>
    rw [List.find?_eq_none]
    intro x hx he
    have h1 : x.id = i := by simpa using he
    have h2 := lastD_some hu hx
    rw [h1, h] at h2
    cases h2
  | some y =>
    obtain ⟨hy, hi⟩ := lastD_find h
    cases hf : ds.find? (fun x => x.id == i) with
    | none =>
      rw [List.find?_eq_none] at hf
      exact absurd (by simpa using hi) (hf y hy)
    | some z =>
      have hz := List.mem_of_find?_eq_some hf
      have hzi : z.id = i := by have := List.find?_some hf; simpa using this
      have h2 := lastD_some hu hz
      rw [hzi, h] at h2
      exact h2.symm
theorem gUk_eq {uses : List ByteArray} {ds : List Dc} {known : List If} (hu : IdU ds) (hn : ∀ y ∈ ds, y.names.length ≠ 0) : gUk uses ds known = gUnb uses ds known := by
  funext x sc
  unfold gUk gUnb
  by_cases hk : x.k = 5
  · rw [if_pos hk, if_pos hk]
    unfold gBack
    cases he : x.n.toList.isEmpty with
    | true =>
      rw [if_pos rfl, if_neg (by simp), first_last hu]
      cases hl : lastD ds x.i with
      | none => rfl
      | some y =>
        have h0 := hn y (lastD_find hl).1
        simp only
        rw [hasS_hasN]
        by_cases h1 : y.names.length = 1
        · simp [h1]
        · rw [if_pos h1, if_neg h0, if_pos (by omega)]
    | false =>
      rw [if_neg (by simp), if_pos rfl]
      unfold dotG sigsOf
      cases hf : faceO known x.n with
      | none => simp [noIf, sigO]
      | some f =>
        by_cases hs : hasS uses x.n = true
        · simp only [hs, if_true, Option.isSome_some, Option.getD_some, and_self]
          cases sigO f.sigs (fun s => s.id == x.i) <;> rfl
        · simp [hs]
  · rw [if_neg hk, if_neg hk]
theorem rbDs_eq {g : Repl} : ∀ {ds es fs : List Dc}, RbDs g ds es → RbDs g ds fs → EqDs es fs
  | [], [], [], _, _ => trivial
  | _ :: _, _ :: _, _ :: _, h, h' => ⟨⟨h.1.id.trans h'.1.id.symm, h.1.kind.trans h'.1.kind.symm, h.1.pub.trans h'.1.pub.symm, h.1.doubt.trans h'.1.doubt.symm, h.1.names.trans h'.1.names.symm, h.1.k.trans h'.1.k.symm, h.1.n.trans h'.1.n.symm, h.1.m.trans h'.1.m.symm, h.1.i.trans h'.1.i.symm, h.1.d.trans h'.1.d.symm, h.1.s.trans h'.1.s.symm⟩, rbDs_eq h.2 h'.2⟩
  | [], _ :: _, _, h, _ => h.elim
  | [], [], _ :: _, _, h => h.elim
  | _ :: _, [], _, h, _ => h.elim
  | _ :: _, _ :: _, [], _, h => h.elim
theorem valid_ids {label : ByteArray} {uses : List ByteArray} {ds : List Dc} (h : checkE label uses ds = 0) : IdU ds ∧ ∀ y ∈ ds, y.names.length ≠ 0 := by
  have h1 := (checkE_parts h).2.2.2.2
  refine ⟨(decls_ids h1).2, fun y hy h0 => ?_⟩
  have h2 := (declE_parts (declsE_mem h1 y hy)).2.2.2.1
  unfold dnE at h2
  rw [h0] at h2
  simp at h2
theorem unbE_eq (label : ByteArray) (uses : List ByteArray) (ds : List Dc) (known : List If) : unb24E label uses ds known = unbE label uses ds known ∧ (unbE label uses ds known = 0 → gUk uses ds known = gUnb uses ds known) := by
  unfold unb24E unbE
  by_cases h : checkE label uses ds = 0
  · obtain ⟨h1, h2⟩ := valid_ids h
    simp only [h, ne_eq, not_true_eq_false, if_false]
    rw [clash_tw, gUk_eq h1 h2]
    exact ⟨rfl, fun _ => rfl⟩
  · rw [if_pos h, if_pos h]
    exact ⟨rfl, fun h' => absurd h' h⟩
theorem idU_inj {ds : List Dc} (hu : IdU ds) {i j : Nat} {x y : Dc} (hx : ds[i]? = some x) (hy : ds[j]? = some y) (h : x.id = y.id) : i = j := by
  obtain ⟨hi, rfl⟩ := List.getElem?_eq_some_iff.1 hx
  obtain ⟨hj, rfl⟩ := List.getElem?_eq_some_iff.1 hy
  have hp := List.pairwise_iff_getElem.1 hu
  rcases Nat.lt_trichotomy i j with h1 | h1 | h1
  · have := hp i j hi hj h1
    omega
  · exact h1
  · have := hp j i hj hi h1
    omega
theorem idxD_at {ds : List Dc} {id : Int} {q : Nat} (h : idxD ds id = some q) : ∃ x, ds[q]? = some x ∧ x.id = id := by
  unfold idxD at h
  obtain ⟨hq, hp, _⟩ := List.findIdx?_eq_some_iff_getElem.1 h
  exact ⟨ds[q], List.getElem?_eq_getElem hq, by simpa using hp⟩
theorem ren_eq {label : ByteArray} {uses : List ByteArray} {ds : List Dc} {id : Int} {name : ByteArray} {er : Int} (h : RenE label uses ds id name er) : ren24E label uses ds id name = er := by
  unfold ren24E
  rcases h with ⟨h1, h2⟩ | ⟨hc, h⟩
  · rw [if_pos (by rw [← h1]; exact h2), h1]
  · obtain ⟨hu, _⟩ := valid_ids hc
    rw [if_neg (by simp [hc])]
    rcases h with ⟨h1, rfl⟩ | ⟨h1, h⟩
    · rw [if_pos h1]
    · rw [if_neg (by rw [h1]; simp)]
      rcases h with ⟨h2, rfl⟩ | ⟨q, h2, h⟩
      · rw [if_pos]
        unfold idxD at h2
        rw [List.findIdx?_eq_none_iff] at h2
        rw [List.any_eq_false]
        intro x hx
        rw [h2 x hx]
        simp
      · obtain ⟨x, hx, hxi⟩ := idxD_at h2
        rw [if_neg (by
          intro h3
          rw [List.any_eq_false] at h3
          exact h3 x (List.mem_of_getElem? hx) (by simpa using hxi))]
        rcases h with ⟨⟨j, z, hj, hz, hz1, hzn⟩, rfl⟩ | ⟨ho, rfl⟩
        · rw [if_pos]
          rw [List.any_eq_true]
          have hne : z.id ≠ id := fun e => hj (idU_inj hu hz hx (e.trans hxi.symm))
          exact ⟨z, List.mem_of_getElem? hz, by simp [othR, hne, hz1]; simpa using hzn⟩
        · rw [if_neg]
          intro ha
          rw [List.any_eq_true] at ha
          obtain ⟨z, hz, hzo⟩ := ha
          obtain ⟨j, hj⟩ := List.getElem?_of_mem hz
          simp only [othR, Bool.and_eq_true, decide_eq_true_iff] at hzo
          refine ho ⟨j, z, fun e => ?_, hj, hzo.2.1, hzo.2.2⟩
          subst e
          rw [hx] at hj
          cases hj
          exact hzo.1 hxi
theorem eqDs_of {l l' : List Dc} (hl : l.length = l'.length) (h : ∀ (j : Nat) (x y : Dc), l[j]? = some x → l'[j]? = some y → EqDc x y) : EqDs l l' := by
  induction l generalizing l' with
  | nil =>
    cases l' with
    | nil => trivial
    | cons => simp at hl
  | cons a r ih =>
    cases l' with
    | nil => simp at hl
    | cons b s => exact ⟨h 0 a b rfl rfl, ih (l' := s) (by simpa using hl) fun j x y hx hy => h (j + 1) x y (by simpa using hx) (by simpa using hy)⟩
theorem rnDs_at {id : Int} {name : ByteArray} : ∀ {ds es : List Dc} {j : Nat} {x y : Dc}, RnDs id name ds es → ds[j]? = some x → es[j]? = some y → RnDc id name x y
  | [], _, _, _, _, _, h, _ => by simp at h
  | _ :: _, [], _, _, _, h, _, _ => h.elim
  | _ :: _, _ :: _, 0, _, _, h, hx, hy => by
    simp only [List.getElem?_cons_zero, Option.some.injEq] at hx hy
    subst hx
    subst hy
    exact h.1
  | _ :: _, _ :: _, j + 1, _, _, h, hx, hy => rnDs_at (j := j) h.2 (by simpa using hx) (by simpa using hy)
theorem rn_eq {id : Int} {name : ByteArray} {ds es : List Dc} {q : Nat} {x : Dc} {nA : Option Addr} {nc : Nat} (hu : IdU ds) (hq : idxD ds id = some q) (hx : ds[q]? = some x) (hr : RnDs id name ds es) (hl : es.length = ds.length) : EqDs (ds.set q { x with nA := nA, nc := nc, names := [name] }) es := by
  obtain ⟨x', hx', hxi⟩ := idxD_at hq
  rw [hx] at hx'
  cases hx'
  refine eqDs_of (by rw [List.length_set, hl]) fun j a b ha hb => ?_
  have hjl : j < ds.length := by
    have := (List.getElem?_eq_some_iff.1 hb).1
    omega
  obtain ⟨z, hz⟩ : ∃ z, ds[j]? = some z := ⟨_, List.getElem?_eq_getElem hjl⟩
  obtain ⟨nA', nc', hb'⟩ := rnDs_at hr hz hb
  by_cases hj : j = q
  · subst hj
    rw [hx] at hz
    cases hz
    rw [List.getElem?_set_self hjl] at ha
    cases ha
    rw [if_pos hxi] at hb'
    subst hb'
    exact ⟨rfl, rfl, rfl, rfl, rfl, rfl, rfl, rfl, rfl, rfl, rfl⟩
  · rw [List.getElem?_set_ne (by omega), hz] at ha
    cases ha
    rw [if_neg (fun e => hj (idU_inj hu hz hx (e.trans hxi.symm)))] at hb'
    subst hb'
    exact ⟨rfl, rfl, rfl, rfl, rfl, rfl, rfl, rfl, rfl, rfl, rfl⟩
end Go.Proofs.YtacjjkbkhpdhnaaGreatDoor
/- law24.BindUnbind -/
namespace Go.Proofs.YtacjjkbkhpdhnaaGreatDoor
open Go.RowKit Go.Proofs Go.Shelf
def UnG (E : Int) (P : List ByteArray → List Dc → Prop) (w : World) (e : Ending) (w' : World) : Prop :=
  Below w.heap.size w w' ∧ ∃ (u : List ByteArray) (a1 : Option Addr) (c1 : Nat) (l : List Dc) (a2 : Option Addr) (c2 : Nat), e = .returned (.tuple #[.agg #[.slice a1 u.length c1, .slice a2 l.length c2], .int .i64 E]) ∧ SlS w' w'.heap.size a1 c1 u ∧ SlD w' w'.heap.size a2 c2 l ∧ P u l
def RnG (E : Int) (P : ByteArray → List ByteArray → List Dc → Prop) (w : World) (e : Ending) (w' : World) : Prop :=
  Below w.heap.size w w' ∧ ∃ (lb : ByteArray) (u : List ByteArray) (a1 : Option Addr) (c1 : Nat) (l : List Dc) (a2 : Option Addr) (c2 : Nat), e = .returned (.tuple #[.agg #[.string lb, .slice a1 u.length c1, .slice a2 l.length c2], .int .i64 E]) ∧ SlS w' w'.heap.size a1 c1 u ∧ SlD w' w'.heap.size a2 c2 l ∧ P lb u l
def UnP (E : Int) (uses : List ByteArray) (ds : List Dc) (g : Repl) (u : List ByteArray) (l : List Dc) : Prop := (E ≠ 0 ∧ u = [] ∧ l = []) ∨ (E = 0 ∧ u = uses ∧ RbDs g ds l)
theorem slS_nil (w : World) : SlS w w.heap.size none 0 [] := ⟨Nat.zero_le _, by decide, fun h => absurd rfl h⟩
theorem slD_nil (w : World) : SlD w w.heap.size none 0 [] := ⟨Nat.zero_le _, by decide, fun h => absurd rfl h⟩
theorem unG1 {label : ByteArray} {uses : List ByteArray} {uA : Option Addr} {uc : Nat} {ds : List Dc} {dA : Option Addr} {dc : Nat} {known : List If} {kA : Option Addr} {kc : Nat} {w : World} (hu : SlS w w.heap.size uA uc uses) (hd : SlD w w.heap.size dA dc ds) (hst : StrD ds) (hnm : NmIn ds) (hk : SlI w w.heap.size kA kc known) :
    Calls Tryz.prog 24 #[.agg #[.string label, .slice uA uses.length uc, .slice dA ds.length dc], .slice kA known.length kc] w (UnG (unbE label uses ds known) (UnP (unbE label uses ds known) uses ds (gUnb uses ds known)) w) := by
  refine Calls.mono (bUnbind_any label uses uA uc ds dA dc known kA kc w hu hd hst hnm hk) ?_
  rintro e w' ⟨hb, ⟨hE, rfl⟩ | ⟨hE, A, c, es, hr, hl, hs, rfl⟩⟩
  · exact ⟨hb, [], none, 0, [], none, 0, rfl, slS_nil _, slD_nil _, .inl ⟨hE, rfl, rfl⟩⟩
  · exact ⟨hb, uses, uA, uc, es, A, c, by rw [hl, hE], hu.keep hb.size (fun p hp => hb.cell hp), hs, .inr ⟨hE, rfl, hr⟩⟩
theorem unG2 {label : ByteArray} {uses : List ByteArray} {uA : Option Addr} {uc : Nat} {ds : List Dc} {dA : Option Addr} {dc : Nat} {known : List If} {kA : Option Addr} {kc : Nat} {w : World} (hu : SlS w w.heap.size uA uc uses) (hd : SlD w w.heap.size dA dc ds) (hnm : NmIn ds) (hms : ModS label uses ds) (hk : SlI w w.heap.size kA kc known) (hkn : KnS known) :
    Calls Tryz.prog 25 #[.agg #[.string label, .slice uA uses.length uc, .slice dA ds.length dc], .slice kA known.length kc] w (UnG (unbE label uses ds known) (UnP (unbE label uses ds known) uses ds (gUnb uses ds known)) w) := by
  refine Calls.mono (unbind24_any label uses uA uc ds dA dc known kA kc w hu hd hnm hms hk (fun x hx s hs => Nat.le_trans ((hkn.2 x hx).2.2 s hs) (by decide))) ?_
  obtain ⟨h1, h2⟩ := unbE_eq label uses ds known
  rintro e w' ⟨hb, ⟨hE, rfl⟩ | ⟨hE, A, c, es, hr, hl, hs, rfl⟩⟩
  · rw [h1] at hE ⊢
    exact ⟨hb, [], none, 0, [], none, 0, rfl, slS_nil _, slD_nil _, .inl ⟨hE, rfl, rfl⟩⟩
  · rw [h1] at hE
    rw [h2 hE] at hr
    exact ⟨hb, uses, uA, uc, es, A, c, by rw [hl, hE], hu.keep hb.size (fun p hp => hb.cell hp), hs, .inr ⟨hE, rfl, hr⟩⟩
theorem unP_eq {E : Int} {uses : List ByteArray} {ds : List Dc} {g : Repl} {u u' : List ByteArray} {l l' : List Dc} (h : UnP E uses ds g u l) (h' : UnP E uses ds g u' l') : u = u' ∧ EqDs l l' := by
  rcases h with ⟨hE, rfl, rfl⟩ | ⟨hE, rfl, hr⟩
  · rcases h' with ⟨_, rfl, rfl⟩ | ⟨hE', _⟩
    · exact ⟨rfl, trivial⟩
    · exact absurd hE' hE
  · rcases h' with ⟨hE', _⟩ | ⟨_, rfl, hr'⟩
    · exact absurd hE hE'
    · exact ⟨rfl, rbDs_eq hr hr'⟩
def RnP1 (label : ByteArray) (uses : List ByteArray) (ds : List Dc) (id : Int) (name : ByteArray) (lb : ByteArray) (u : List ByteArray) (l : List Dc) : Prop :=
  (ren24E label uses ds id name ≠ 0 ∧ lb = ⟨#[]⟩ ∧ u = [] ∧ l = []) ∨ (ren24E label uses ds id name = 0 ∧ lb = label ∧ u = uses ∧ checkE label uses ds = 0 ∧ ∃ (q : Nat) (x : Dc) (nA : Option Addr), idxD ds id = some q ∧ ds[q]? = some x ∧ l = ds.set q { x with nA := nA, nc := 1, names := [name] })
def RnP2 (label : ByteArray) (uses : List ByteArray) (ds : List Dc) (id : Int) (name : ByteArray) (lb : ByteArray) (u : List ByteArray) (l : List Dc) : Prop :=
  (ren24E label uses ds id name ≠ 0 ∧ lb = ⟨#[]⟩ ∧ u = [] ∧ l = []) ∨ (ren24E label uses ds id name = 0 ∧ lb = label ∧ u = uses ∧ RnDs id name ds l ∧ l.length = ds.length)
theorem rnP_eq {label : ByteArray} {uses : List ByteArray} {ds : List Dc} {id : Int} {name : ByteArray} {lb lb' : ByteArray} {u u' : List ByteArray} {l l' : List Dc} (h : RnP1 label uses ds id name lb u l) (h' : RnP2 label uses ds id name lb' u' l') : lb = lb' ∧ u = u' ∧ EqDs l l' := by
  rcases h with ⟨hE, rfl, rfl, rfl⟩ | ⟨hE, rfl, rfl, hc, q, x, nA, hq, hx, rfl⟩
  · rcases h' with ⟨_, rfl, rfl, rfl⟩ | ⟨hE', _⟩
    · exact ⟨rfl, rfl, trivial⟩
    · exact absurd hE' hE
  · rcases h' with ⟨hE', _⟩ | ⟨_, rfl, rfl, hr, hl⟩
    · exact absurd hE hE'
    · exact ⟨rfl, rfl, rn_eq (valid_ids hc).1 hq hx hr hl⟩
theorem rnG1 {label : ByteArray} {uses : List ByteArray} {uA : Option Addr} {uc : Nat} {ds : List Dc} {dA : Option Addr} {dc : Nat} {id : Int} {name : ByteArray} {w : World} (hu : SlS w w.heap.size uA uc uses) (hd : SlD w w.heap.size dA dc ds) :
    Calls Tryz.prog 26 #[.agg #[.string label, .slice uA uses.length uc, .slice dA ds.length dc], .int .i64 id, .string name] w (RnG (ren24E label uses ds id name) (RnP1 label uses ds id name) w) := by
  refine Calls.mono (renameX_any label uses uA uc ds dA dc id name w hu hd) ?_
  rintro e w' ⟨lb, a1, n1, c1, a2, n2, c2, er, rfl, hb, hre, hno, hyes⟩
  have her := ren_eq hre
  by_cases h0 : er = 0
  · obtain ⟨rfl, rfl, rfl, rfl, rfl, _, hc, q, x, nA, hq, hx, _, hs⟩ := hyes h0
    refine ⟨hb, lb, uses, a1, c1, _, a2, c2, ?_, hu.keep hb.size (fun p hp => hb.cell hp), hs, .inr ⟨her.trans h0, rfl, rfl, hc, q, x, nA, hq, hx, rfl⟩⟩
    rw [List.length_set, her]
  · obtain ⟨rfl, rfl, rfl, rfl, rfl, rfl, rfl⟩ := hno h0
    exact ⟨hb, _, [], none, 0, [], none, 0, by rw [her]; rfl, slS_nil _, slD_nil _, .inl ⟨by rw [her]; exact h0, rfl, rfl, rfl⟩⟩
theorem rnG2 {label : ByteArray} {uses : List ByteArray} {uA : Option Addr} {uc : Nat} {ds : List Dc} {dA : Option Addr} {dc : Nat} {id : Int} {name : ByteArray} {w : World} (hu : SlS w w.heap.size uA uc uses) (hd : SlD w w.heap.size dA dc ds) (hms : ModS label uses ds) (hnl : name.size ≤ 9223372036854775807) :
    Calls Tryz.prog 27 #[.agg #[.string label, .slice uA uses.length uc, .slice dA ds.length dc], .int .i64 id, .string name] w (RnG (ren24E label uses ds id name) (RnP2 label uses ds id name) w) := by
  refine Calls.mono (rename24_any label uses uA uc ds dA dc id name w hu hd hms hnl) ?_
  rintro e w' ⟨hb, ⟨hE, rfl⟩ | ⟨hE, A, c, es, hr, hl, hs, rfl⟩⟩
  · exact ⟨hb, ⟨#[]⟩, [], none, 0, [], none, 0, rfl, slS_nil _, slD_nil _, .inl ⟨hE, rfl, rfl, rfl⟩⟩
  · exact ⟨hb, label, uses, uA, uc, es, A, c, by rw [hl, hE], hu.keep hb.size (fun p hp => hb.cell hp), hs, .inr ⟨hE, rfl, rfl, hr, hl⟩⟩
set_option maxRecDepth 100000 in
set_option maxHeartbeats 16000000 in
theorem lawUnbind_any (label : ByteArray) (uses : List ByteArray) (uA : Option Addr) (uc : Nat) (ds : List Dc) (dA : Option Addr) (dc : Nat) (known : List If) (kA : Option Addr) (kc : Nat) (id : Int) (name : ByteArray) (w : World)
    (hu : SlS w w.heap.size uA uc uses) (hd : SlD w w.heap.size dA dc ds) (hds : ∀ x ∈ ds, Dc.Str x) (hcn : ∀ x ∈ ds, x.s.count ≤ 2000000) (hk : SlI w w.heap.size kA kc known) :
    Calls Tryz.prog 5 #[.agg #[.string label, .slice uA uses.length uc, .slice dA ds.length dc], .slice kA known.length kc, .int .i64 id, .string name] w fun e w' => e = .returned (.bool true) ∧ Below w.heap.size w w' := by
  obtain ⟨M, HM⟩ : ∃ Q, Hid (uses.length = Q) := ⟨_, Lib.hid rfl⟩
  obtain ⟨N, HN⟩ : ∃ Q, Hid (ds.length = Q) := ⟨_, Lib.hid rfl⟩
  obtain ⟨K, HK⟩ : ∃ Q, Hid (known.length = Q) := ⟨_, Lib.hid rfl⟩
  rw [HM.out, HN.out, HK.out]
  obtain ⟨W0, hW0⟩ : ∃ W0, w.alloc (.cells #[.string label, .slice uA M uc, .slice dA N dc] 25) = W0 := ⟨_, rfl⟩
  have hb0 : Below w.heap.size w W0 := by rw [← hW0]; exact (Below.refl _ _).alloc (Nat.le_refl _) _
  have hz0 : w.heap.size < W0.heap.size := by rw [← hW0]; simp
  have hm0 : W0.heap[w.heap.size]? = some (.cells #[.string label, .slice uA M uc, .slice dA N dc] 25 (0, 0)) := by rw [← hW0]; exact heap_alloc_new w _
  have HX := Lib.hid (show ∀ X : World, Below W0.heap.size W0 X → Below w.heap.size w X ∧ SlS X X.heap.size uA uc uses ∧ SlD X X.heap.size dA dc ds ∧ SlI X X.heap.size kA kc known from fun X hX => by
    have h1 := hb0.trans (hX.mono hb0.size)
    exact ⟨h1, hu.keep h1.size (fun p hp => h1.cell hp), hd.keep h1.size (fun p hp => h1.cell hp), hk.below h1⟩)
  have HC := Lib.hid (show ∀ X : World, Below W0.heap.size W0 X → X.cell? ⟨w.heap.size, 0, none⟩ = some (.string label) ∧ X.cell? ⟨w.heap.size, 1, none⟩ = some (.slice uA M uc) ∧ X.cell? ⟨w.heap.size, 2, none⟩ = some (.slice dA N dc) from fun X hX => by
    have h1 := (hX.block _ hz0).trans hm0
    exact ⟨cell_of_row X _ 0 _ _ (0, 0) h1, cell_of_row X _ 1 _ _ (0, 0) h1, cell_of_row X _ 2 _ _ (0, 0) h1⟩)
  obtain ⟨g1, Hg1⟩ : ∃ Q, Hid (greatM label uses ds = Q) := ⟨_, Lib.hid rfl⟩
  have HG1 := Lib.hid (show ∀ X : World, Below W0.heap.size W0 X → Calls Tryz.prog 9 #[.agg #[.string label, .slice uA M uc, .slice dA N dc]] X (fun e Y => e = .returned (.bool g1) ∧ Below W0.heap.size W0 Y) from fun X hX => by
    have h := great24_any label uses uA uc ds dA dc X (HX.out X hX).2.1 (HX.out X hX).2.2.1
    rw [HM.out, HN.out, Hg1.out] at h
    exact h.mono fun _ _ ⟨h1, h2⟩ => ⟨h1, hX.trans (h2.mono hX.size)⟩)
  have HG2 := Lib.hid (show ∀ X : World, Below W0.heap.size W0 X → Calls Tryz.prog 23 #[.slice kA K kc] X (fun e Y => ∃ b, e = .returned (.bool b) ∧ Hid (b = false → KnS known) ∧ Below W0.heap.size W0 Y) from fun X hX => by
    have h := greatKnown_any known kA kc X (HX.out X hX).2.2.2
    rw [HK.out] at h
    exact h.mono fun _ _ ⟨b, h1, h2, h3⟩ => ⟨b, h1, Lib.hid h2, by rw [h3]; exact hX⟩)
  have HAw := Lib.hid (show ∀ X : World, Below W0.heap.size W0 X → Calls Tryz.prog 11 #[] X (fun e Y => e = .returned (.bool true) ∧ Below w.heap.size w Y) from fun X hX => (awake24_any X).mono fun _ _ ⟨h1, h2⟩ => ⟨h1, (HX.out X hX).1.trans (h2.mono (HX.out X hX).1.size)⟩)
  have HD := Lib.hid (And.intro hds (And.intro hcn (show StrD ds ∧ NmIn ds from ⟨fun x hx => (hds x hx).1, fun x hx => (hds x hx).2⟩)))
  obtain ⟨x0, x1, x2⟩ := HC.out W0 (Below.refl _ _)
  clear hu hd hds hcn hk hb0 hz0 hm0
  go_enter Tryz.func5, Tryz.ntmps5
  go_wp2_with fail
  refine (HG1.out _ (Below.refl _ _)).mono ?_
  rintro e w1 ⟨rfl, hb1⟩
  clear hW0 x0 x1 x2
  cases g1 with
  | true =>
    have HA := Lib.hid (HAw.out w1 hb1)
    clear hb1
    go_wp2_with fail
    refine HA.out.mono ?_
    rintro e w2 ⟨rfl, hb2⟩
    have HB2 := Lib.hid hb2
    clear hb2
    go_wp2
    go_ret
    exact ⟨rfl, HB2.out⟩
  | false =>
  have HMS := Lib.hid (small_mod' Hg1.out HD.out.2.1).1
  have H2 := Lib.hid (HG2.out w1 hb1)
  clear hb1
  go_wp2_with fail
  refine H2.out.mono ?_
  rintro e w2 ⟨b2, rfl, hkn, hb2⟩
  clear H2
  cases b2 with
  | true =>
    have HA := Lib.hid (HAw.out w2 hb2)
    clear hb2 hkn
    go_wp2_with fail
    refine HA.out.mono ?_
    rintro e w3 ⟨rfl, hb3⟩
    have HB3 := Lib.hid hb3
    clear hb3
    go_wp2
    go_ret
    exact ⟨rfl, HB3.out⟩
  | false =>
  have HKn := Lib.hid (hkn.out rfl)
  clear hkn
  by_cases hnl : 100 < name.size
  · have hl1 : decide ((name.size : Int) > 100) = true := by simp; omega
    have hl2 : decide (name.size > 100) = true := by simp; omega
    have hl3 : decide (100 < name.size) = true := by simp; omega
    have hl4 : decide ((100 : Int) < (name.size : Int)) = true := by simp; omega
    have HA := Lib.hid (HAw.out w2 hb2)
    clear hb2
    go_wp2_with fail
    refine HA.out.mono ?_
    rintro e w3 ⟨rfl, hb3⟩
    have HB3 := Lib.hid hb3
    clear hb3
    go_wp2
    go_ret
    exact ⟨rfl, HB3.out⟩
  have HNl := Lib.hid (show name.size ≤ 9223372036854775807 by omega)
  have hl1 : decide ((name.size : Int) > 100) = false := by simp; omega
  have hl2 : decide (name.size > 100) = false := by simp; omega
  have hl3 : decide (100 < name.size) = false := by simp; omega
  have hl4 : decide ((100 : Int) < (name.size : Int)) = false := by simp; omega
  obtain ⟨x0, x1, x2⟩ := HC.out w2 hb2
  obtain ⟨E, HE⟩ : ∃ Q, Hid (unbE label uses ds known = Q) := ⟨_, Lib.hid rfl⟩
  obtain ⟨R, HR⟩ : ∃ Q, Hid (ren24E label uses ds id name = Q) := ⟨_, Lib.hid rfl⟩
  have hc1 := unG1 (label := label) (HX.out w2 hb2).2.1 (HX.out w2 hb2).2.2.1 HD.out.2.2.1 HD.out.2.2.2 (HX.out w2 hb2).2.2.2
  rw [HM.out, HN.out, HK.out, HE.out] at hc1
  have HC1 := Lib.hid hc1
  have HB2 := Lib.hid hb2
  clear hc1 hb2 hnl
  go_wp2_with fail
  refine HC1.out.mono ?_
  rintro e w3 ⟨hb3, u1, a1, s1, l1, d1, t1, rfl, hu1, hd1, hP1⟩
  obtain ⟨V3, hV3⟩ : ∃ q, w3.alloc (.cells #[.slice a1 u1.length s1, .slice d1 l1.length t1] 40) = q := ⟨_, rfl⟩
  have hbV3 : Below w3.heap.size w3 V3 := by rw [← hV3]; exact (Below.refl _ _).alloc (Nat.le_refl _) _
  have hrV3 : V3.heap[w3.heap.size]? = some (.cells #[.slice a1 u1.length s1, .slice d1 l1.length t1] 40 (0, 0)) := by rw [← hV3]; exact heap_alloc_new _ _
  have hzV3 : w3.heap.size < V3.heap.size := by rw [← hV3]; simp
  have hB3 := HB2.out.trans ((hb3.trans (hbV3.mono hb3.size)).mono HB2.out.size)
  have HF1 := Lib.hid (show ∀ X : World, Below V3.heap.size V3 X → Below W0.heap.size W0 X ∧ X.cell? ⟨w3.heap.size, 0, none⟩ = some (.slice a1 u1.length s1) ∧ X.cell? ⟨w3.heap.size, 1, none⟩ = some (.slice d1 l1.length t1) ∧ SlS X X.heap.size a1 s1 u1 ∧ SlD X X.heap.size d1 t1 l1 from fun X hX => by
    have h1 := (hX.block _ hzV3).trans hrV3
    have h2 := hbV3.trans (hX.mono hbV3.size)
    exact ⟨hB3.trans (hX.mono hB3.size), cell_of_row X _ 0 _ _ (0, 0) h1, cell_of_row X _ 1 _ _ (0, 0) h1, hu1.keep h2.size (fun p hp => h2.cell hp), hd1.keep h2.size (fun p hp => h2.cell hp)⟩)
  have HP1 := Lib.hid hP1
  clear hb3 hu1 hd1 hP1 hbV3 hrV3 hzV3 hB3 x0 x1 x2 HC1
  obtain ⟨x0, x1, x2⟩ := HC.out V3 (HF1.out V3 (Below.refl _ _)).1
  have hX3 := HX.out V3 (HF1.out V3 (Below.refl _ _)).1
  have hc2 := unG2 (label := label) hX3.2.1 hX3.2.2.1 HD.out.2.2.2 HMS.out hX3.2.2.2 HKn.out
  rw [HM.out, HN.out, HK.out, HE.out] at hc2
  have HC2 := Lib.hid hc2
  clear hc2 hX3
  go_wp2_with fail
  refine HC2.out.mono ?_
  rintro e w4 ⟨hb4, u2, a2, s2, l2, d2, t2, rfl, hu2, hd2, hP2⟩
  have HQ1 := Lib.hid (unP_eq HP1.out hP2)
  obtain ⟨V4, hV4⟩ : ∃ q, w4.alloc (.cells #[.slice a2 u2.length s2, .slice d2 l2.length t2] 40) = q := ⟨_, rfl⟩
  have hbV4 : Below w4.heap.size w4 V4 := by rw [← hV4]; exact (Below.refl _ _).alloc (Nat.le_refl _) _
  have hrV4 : V4.heap[w4.heap.size]? = some (.cells #[.slice a2 u2.length s2, .slice d2 l2.length t2] 40 (0, 0)) := by rw [← hV4]; exact heap_alloc_new _ _
  have hzV4 : w4.heap.size < V4.heap.size := by rw [← hV4]; simp
  have hB4 := hb4.trans (hbV4.mono hb4.size)
  have HF2 := Lib.hid (show ∀ X : World, Below V4.heap.size V4 X → Below V3.heap.size V3 X ∧ X.cell? ⟨w4.heap.size, 0, none⟩ = some (.slice a2 u2.length s2) ∧ X.cell? ⟨w4.heap.size, 1, none⟩ = some (.slice d2 l2.length t2) ∧ SlS X X.heap.size a2 s2 u2 ∧ SlD X X.heap.size d2 t2 l2 from fun X hX => by
    have h1 := (hX.block _ hzV4).trans hrV4
    have h2 := hbV4.trans (hX.mono hbV4.size)
    exact ⟨hB4.trans (hX.mono hB4.size), cell_of_row X _ 0 _ _ (0, 0) h1, cell_of_row X _ 1 _ _ (0, 0) h1, hu2.keep h2.size (fun p hp => h2.cell hp), hd2.keep h2.size (fun p hp => h2.cell hp)⟩)
  clear hb4 hu2 hd2 hP2 hbV4 hrV4 hzV4 hB4 x0 x1 x2 HC2 hV3 HP1
  have HW4 := Lib.hid (show ∀ X : World, Below V4.heap.size V4 X → Below W0.heap.size W0 X from fun X hX => (HF1.out X (HF2.out X hX).1).1)
  obtain ⟨x0, x1, x2⟩ := HC.out V4 (HW4.out V4 (Below.refl _ _))
  have hX4 := HX.out V4 (HW4.out V4 (Below.refl _ _))
  have hc3 := rnG1 (label := label) (id := id) (name := name) hX4.2.1 hX4.2.2.1
  rw [HM.out, HN.out, HR.out] at hc3
  have HC3 := Lib.hid hc3
  clear hc3 hX4
  go_wp2_with fail
  refine HC3.out.mono ?_
  rintro e w5 ⟨hb5, lb3, u3, a3, s3, l3, d3, t3, rfl, hu3, hd3, hP3⟩
  obtain ⟨V5, hV5⟩ : ∃ q, w5.alloc (.cells #[.string lb3, .slice a3 u3.length s3, .slice d3 l3.length t3] 25) = q := ⟨_, rfl⟩
  have hbV5 : Below w5.heap.size w5 V5 := by rw [← hV5]; exact (Below.refl _ _).alloc (Nat.le_refl _) _
  have hrV5 : V5.heap[w5.heap.size]? = some (.cells #[.string lb3, .slice a3 u3.length s3, .slice d3 l3.length t3] 25 (0, 0)) := by rw [← hV5]; exact heap_alloc_new _ _
  have hzV5 : w5.heap.size < V5.heap.size := by rw [← hV5]; simp
  have hB5 := hb5.trans (hbV5.mono hb5.size)
  have HF3 := Lib.hid (show ∀ X : World, Below V5.heap.size V5 X → Below V4.heap.size V4 X ∧ X.cell? ⟨w5.heap.size, 0, none⟩ = some (.string lb3) ∧ X.cell? ⟨w5.heap.size, 1, none⟩ = some (.slice a3 u3.length s3) ∧ X.cell? ⟨w5.heap.size, 2, none⟩ = some (.slice d3 l3.length t3) ∧ SlS X X.heap.size a3 s3 u3 ∧ SlD X X.heap.size d3 t3 l3 from fun X hX => by
    have h1 := (hX.block _ hzV5).trans hrV5
    have h2 := hbV5.trans (hX.mono hbV5.size)
    exact ⟨hB5.trans (hX.mono hB5.size), cell_of_row X _ 0 _ _ (0, 0) h1, cell_of_row X _ 1 _ _ (0, 0) h1, cell_of_row X _ 2 _ _ (0, 0) h1, hu3.keep h2.size (fun p hp => h2.cell hp), hd3.keep h2.size (fun p hp => h2.cell hp)⟩)
  have HP3 := Lib.hid hP3
  clear hb5 hu3 hd3 hP3 hbV5 hrV5 hzV5 hB5 x0 x1 x2 HC3 hV4
  have HW5 := Lib.hid (show ∀ X : World, Below V5.heap.size V5 X → Below W0.heap.size W0 X from fun X hX => HW4.out X (HF3.out X hX).1)
  obtain ⟨x0, x1, x2⟩ := HC.out V5 (HW5.out V5 (Below.refl _ _))
  have hX5 := HX.out V5 (HW5.out V5 (Below.refl _ _))
  have hc4 := rnG2 (label := label) (id := id) (name := name) hX5.2.1 hX5.2.2.1 HMS.out HNl.out
  rw [HM.out, HN.out, HR.out] at hc4
  have HC4 := Lib.hid hc4
  clear hc4 hX5
  go_wp2_with fail
  refine HC4.out.mono ?_
  rintro e w6 ⟨hb6, lb4, u4, a4, s4, l4, d4, t4, rfl, hu4, hd4, hP4⟩
  have HQ2 := Lib.hid (rnP_eq HP3.out hP4)
  obtain ⟨V6, hV6⟩ : ∃ q, w6.alloc (.cells #[.string lb4, .slice a4 u4.length s4, .slice d4 l4.length t4] 25) = q := ⟨_, rfl⟩
  have hbV6 : Below w6.heap.size w6 V6 := by rw [← hV6]; exact (Below.refl _ _).alloc (Nat.le_refl _) _
  have hrV6 : V6.heap[w6.heap.size]? = some (.cells #[.string lb4, .slice a4 u4.length s4, .slice d4 l4.length t4] 25 (0, 0)) := by rw [← hV6]; exact heap_alloc_new _ _
  have hzV6 : w6.heap.size < V6.heap.size := by rw [← hV6]; simp
  have hB6 := hb6.trans (hbV6.mono hb6.size)
  have HF4 := Lib.hid (show ∀ X : World, Below V6.heap.size V6 X → Below V5.heap.size V5 X ∧ X.cell? ⟨w6.heap.size, 0, none⟩ = some (.string lb4) ∧ X.cell? ⟨w6.heap.size, 1, none⟩ = some (.slice a4 u4.length s4) ∧ X.cell? ⟨w6.heap.size, 2, none⟩ = some (.slice d4 l4.length t4) ∧ SlS X X.heap.size a4 s4 u4 ∧ SlD X X.heap.size d4 t4 l4 from fun X hX => by
    have h1 := (hX.block _ hzV6).trans hrV6
    have h2 := hbV6.trans (hX.mono hbV6.size)
    exact ⟨hB6.trans (hX.mono hB6.size), cell_of_row X _ 0 _ _ (0, 0) h1, cell_of_row X _ 1 _ _ (0, 0) h1, cell_of_row X _ 2 _ _ (0, 0) h1, hu4.keep h2.size (fun p hp => h2.cell hp), hd4.keep h2.size (fun p hp => h2.cell hp)⟩)
  clear hb6 hu4 hd4 hP4 hbV6 hrV6 hzV6 hB6 x0 x1 x2 HC4 hV5 HP3
  have HAll := Lib.hid (show ∀ X : World, Below V6.heap.size V6 X → Below V5.heap.size V5 X ∧ Below V4.heap.size V4 X ∧ Below V3.heap.size V3 X ∧ Below W0.heap.size W0 X from fun X hX => by
    have h5 := (HF4.out X hX).1
    have h4 := (HF3.out X h5).1
    exact ⟨h5, h4, (HF2.out X h4).1, HW5.out X h5⟩)
  obtain ⟨h65, h64, h63, h60⟩ := HAll.out V6 (Below.refl _ _)
  obtain ⟨_, y0, y1, hs1, hs2⟩ := HF1.out V6 h63
  obtain ⟨_, z0, z1, hs3, hs4⟩ := HF2.out V6 h64
  have hss := sameSource_any u1 u2 a1 s1 a2 s2 l1 l2 d1 t1 d2 t2 V6 hs1 hs3 hs2 hs4
  have HSS := Lib.hid hss
  clear h65 h64 h63 h60 hs1 hs2 hs3 hs4 hss
  go_wp2_with fail
  refine HSS.out.mono ?_
  rintro e w7 ⟨b7, rfl, hb7i, hb7⟩
  have H7 := Lib.hid hb7
  obtain rfl : b7 = true := hb7i.2 HQ1.out
  clear hb7i hb7 y0 y1 z0 z1 HSS hV6
  obtain ⟨h65, h64, h63, h60⟩ := HAll.out w7 H7.out
  obtain ⟨_, y0, y1, y2, hs1, hs2⟩ := HF3.out w7 h65
  obtain ⟨_, z0, z1, z2, hs3, hs4⟩ := HF4.out w7 H7.out
  have hsm := same24_any lb3 lb4 u3 u4 a3 s3 a4 s4 l3 l4 d3 t3 d4 t4 w7 hs1 hs3 hs2 hs4
  have HSM := Lib.hid hsm
  clear h65 h64 h63 h60 hs1 hs2 hs3 hs4 hsm
  go_wp2_with fail
  refine HSM.out.mono ?_
  rintro e w8 ⟨b8, rfl, hb8i, hb8⟩
  have H8 := Lib.hid (H7.out.trans (hb8.mono H7.out.size))
  obtain rfl : b8 = true := hb8i.2 HQ2.out
  clear hb8i hb8 y0 y1 y2 z0 z1 z2 HSM
  have HA := Lib.hid (HAw.out w8 (HAll.out w8 H8.out).2.2.2)
  go_wp2_with fail
  refine HA.out.mono ?_
  rintro e w9 ⟨rfl, hb9⟩
  have HB9 := Lib.hid hb9
  clear hb9
  go_wp2
  go_ret
  exact ⟨rfl, HB9.out⟩
end Go.Proofs.YtacjjkbkhpdhnaaGreatDoor
