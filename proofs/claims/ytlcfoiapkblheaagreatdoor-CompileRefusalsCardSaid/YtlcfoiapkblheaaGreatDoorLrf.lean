/- law28.CompileRefusals -/
import Derived.Test.YtlcfoiapkblheaaGreatDoorRfe
import Derived.Test.YtlcfoiapkblheaaGreatDoorLnm
import Derived.Test.YtlcfoiapkblheaaGreatDoorLsz
import Derived.Deep.CutBlock
import Derived.Deep.DeepCutAuto
namespace Go.Proofs.YtlcfoiapkblheaaGreatDoor
open Go.RowKit Go.Proofs Go.Shelf

theorem uses_le {label : ByteArray} {uses : List ByteArray} {decls : List Dc} (h : checkE label uses decls = 0) : uses.length ≤ 20 := by
  unfold checkE at h
  by_cases h1 : labelB label = false
  · rw [if_pos h1] at h; simp at h
  rw [if_neg h1] at h
  by_cases h2 : srcE uses ≠ 0
  · rw [if_pos h2] at h; exact absurd h h2
  have h3 : srcE uses = 0 := by simpa using h2
  unfold srcE at h3
  by_cases h4 : 20 < uses.length
  · rw [if_pos h4] at h3; simp at h3
  · omega

set_option maxRecDepth 100000 in
set_option maxHeartbeats 20000000 in
theorem lawRefusals_any (label : ByteArray) (uses : List ByteArray) (uA : Option Addr) (uc : Nat) (decls : List Dc) (dA : Option Addr) (dc : Nat) (w : World) (hu : SlS w w.heap.size uA uc uses) (hd : SlD w w.heap.size dA dc decls) (hus : ∀ s ∈ uses, s.size ≤ maxLen) :
    Calls Tryz.prog 4 #[.agg #[.string label, .slice uA uses.length uc, .slice dA decls.length dc]] w fun e w' => e = .returned (.bool true) ∧ Below w.heap.size w w' := by
  have hmm := @run_makeMap Tryz.prog
  obtain ⟨N, HN⟩ : ∃ Q, Hid (decls.length = Q) := ⟨_, Lib.hid rfl⟩
  obtain ⟨NU, HNU⟩ : ∃ Q, Hid (uses.length = Q) := ⟨_, Lib.hid rfl⟩
  obtain ⟨W0, hW0⟩ : ∃ W0, w.alloc (.cells #[.string label, .slice uA NU uc, .slice dA N dc] 25) = W0 := ⟨_, rfl⟩
  have hzw : w.heap.size < W0.heap.size := by subst hW0; simp
  have hB0 : Below w.heap.size w W0 := by subst hW0; exact (Below.refl _ _).alloc (Nat.le_refl _) _
  have hx0 : W0.heap[w.heap.size]? = some (.cells #[.string label, .slice uA NU uc, .slice dA N dc] 25 (0, 0)) := by rw [← hW0]; exact heap_alloc_new w _
  have HROW : Hid (∀ X : World, X.heap[w.heap.size]? = some (.cells #[.string label, .slice uA NU uc, .slice dA N dc] 25 (0, 0)) → X.cell? ⟨w.heap.size, 0, none⟩ = some (.string label) ∧ X.cell? ⟨w.heap.size, 1, none⟩ = some (.slice uA NU uc) ∧ X.cell? ⟨w.heap.size, 2, none⟩ = some (.slice dA N dc)) := fun X hx =>
    ⟨cell_of_row X w.heap.size 0 _ _ (0, 0) hx, cell_of_row X w.heap.size 1 _ _ (0, 0) hx, cell_of_row X w.heap.size 2 _ _ (0, 0) hx⟩
  have HC : Hid (∀ X, Below W0.heap.size W0 X → Below w.heap.size w X ∧ w.heap.size < X.heap.size ∧ SlS X X.heap.size uA uc uses ∧ SlD X X.heap.size dA dc decls ∧ X.heap[w.heap.size]? = some (.cells #[.string label, .slice uA NU uc, .slice dA N dc] 25 (0, 0))) := fun X hX => by
    have hx := (hX.block w.heap.size (by omega)).trans hx0
    have hb := hB0.trans (hX.mono (by omega))
    exact ⟨hb, Nat.lt_of_lt_of_le hzw hX.size, hu.keep (by have := hb.size; omega) (fun p hp => hb.cell hp), hd.keep (by have := hb.size; omega) (fun p hp => hb.cell hp), hx⟩
  have HAW : Hid (∀ X, Below w.heap.size w X → Calls Tryz.prog 16 #[] X fun e Y => e = .returned (.bool true) ∧ Below w.heap.size w Y) := fun X hX => (awake28_any X).mono fun e Y ⟨h1, h2⟩ => ⟨h1, hX.trans (h2.mono hX.size)⟩
  have hdl := hd.1
  have hdl2 := hd.2.1
  have hul := hu.1
  have hul2 := hu.2.1
  unfold maxLen at hdl2 hul2
  rw [HNU.out] at hul ⊢
  rw [HN.out] at hdl ⊢
  obtain ⟨_, _, hsa, hda, hxa⟩ := HC.out W0 (Below.refl _ _)
  obtain ⟨y0, y1, y2⟩ := HROW.out W0 hxa
  have hgr := great24_any label uses uA uc decls dA dc W0 hsa hda
  obtain ⟨G, HG⟩ : ∃ Q, Hid (greatM label uses decls = Q) := ⟨_, Lib.hid rfl⟩
  rw [HNU.out, HN.out, HG.out] at hgr
  have HGR := Lib.hid hgr
  have HUD := Lib.hid (And.intro hu (And.intro hd hus))
  clear hgr hu hd hus hB0 hx0 hsa hda hxa
  go_enter Tryz.func4, Tryz.ntmps4
  go_wp2_with fail
  refine HGR.out.mono ?_
  rintro e w1 ⟨rfl, hb1⟩
  have HB1 := Lib.hid hb1
  clear hb1 y0 y1 y2 hW0 HGR
  cases G
  rotate_left
  · have HA := Lib.hid (HAW.out w1 (HC.out w1 HB1.out).1)
    go_wp2_with fail
    refine HA.out.mono ?_
    rintro e w2 ⟨rfl, hb2⟩
    have HB2 := Lib.hid hb2
    clear hb2
    go_wp2
    go_ret
    exact ⟨rfl, HB2.out⟩
  obtain ⟨_, hz1, hs1, hd1, hx1⟩ := HC.out w1 HB1.out
  obtain ⟨y0, y1, y2⟩ := HROW.out w1 hx1
  obtain ⟨E1, HE1⟩ : ∃ Q, Hid (checkE label uses decls = Q) := ⟨_, Lib.hid rfl⟩
  have hck := bCheck_any label uses uA uc decls dA dc w1 hs1 hd1
  rw [HNU.out, HN.out, HE1.out] at hck
  have HCK := Lib.hid hck
  clear hck hs1 hd1 hx1
  go_wp2_with fail
  refine HCK.out.mono ?_
  rintro e w2 ⟨rfl, hb2⟩
  have hb12 := HB1.out.trans (hb2.mono HB1.out.size)
  have HB2 := Lib.hid (And.intro hb12 (HC.out w2 hb12))
  clear HCK y0 y1 y2 hb2 hb12
  by_cases e1 : E1 = 0
  rotate_left
  · have e1' : (E1 != 0) = true := by simpa using e1
    have HA := Lib.hid (HAW.out w2 HB2.out.2.1)
    clear e1
    go_wp2_with fail
    refine HA.out.mono ?_
    rintro e w3 ⟨rfl, hb3⟩
    have HB3 := Lib.hid hb3
    clear hb3
    go_wp2
    go_ret
    exact ⟨rfl, HB3.out⟩
  subst e1
  obtain ⟨_, hNl, hval⟩ := checkE_zero HE1.out
  have hUl := uses_le HE1.out
  rw [HN.out] at hNl
  rw [HNU.out] at hUl
  have HVAL := Lib.hid hval
  clear hval
  obtain ⟨W3, hW3⟩ : ∃ W3, ((w2.alloc (.map #[] 0)).alloc (.map #[] 0)).alloc (.map #[] 0) = W3 := ⟨_, rfl⟩
  have hz3 : w2.heap.size + 1 + 1 < W3.heap.size := by rw [← hW3]; simp
  have hb3 : Below w2.heap.size w2 W3 := by rw [← hW3]; exact (((Below.refl _ _).alloc (Nat.le_refl _) _).alloc (by simp) _).alloc (by simp; omega) _
  have hn3 : SetK W3 9 w2.heap.size [] := by
    rw [← hW3]
    exact (SetK.made w2 9).keep ((Below.heap_alloc _ _ _ (by simp; omega)).trans (Below.heap_alloc _ _ _ (by simp)))
  have hi3 : SetK W3 3 (w2.heap.size + 1) [] := by
    rw [← hW3]
    have h := (SetK.made (w2.alloc (.map #[] 0)) 3).keep (Below.heap_alloc ((w2.alloc (.map #[] 0)).alloc (.map #[] 0)) (.map #[] 0) (w2.alloc (.map #[] 0)).heap.size (by simp))
    simpa using h
  have hu3 : SetK W3 9 (w2.heap.size + 1 + 1) [] := by
    rw [← hW3]
    have h := SetK.made ((w2.alloc (.map #[] 0)).alloc (.map #[] 0)) 9
    simpa using h
  have hx3 := (hb3.block w.heap.size HB2.out.2.2.1).trans HB2.out.2.2.2.2.2
  obtain ⟨y0, y1, y2⟩ := HROW.out W3 hx3
  have hzw2 := HB2.out.2.2.1
  have hB3 := HB2.out.2.1.trans (hb3.mono (by omega))
  have H3 := Lib.hid (And.intro hn3 (And.intro hi3 (And.intro hu3 (And.intro hx3 hB3))))
  clear hb3 hn3 hi3 hu3 hx3 hB3
  go_wp2
  go_loopg [9, 32] NU (fun g _ ct wr => ∃ j : Nat, g = NU - j ∧ j ≤ NU ∧ ct = .int .i64 j ∧ SetK wr 9 (w2.heap.size + 1 + 1) ((uses.take j).map keyS) ∧ Below w.heap.size w wr ∧ W3.heap.size ≤ wr.heap.size ∧ ∀ i, i < W3.heap.size → i ≠ w2.heap.size + 1 + 1 → wr.heap[i]? = W3.heap[i]?)
  case atStart => exact ⟨0, rfl, by omega, rfl, H3.out.2.2.1, H3.out.2.2.2.2, Nat.le_refl _, fun _ _ _ => rfl⟩
  case round =>
    obtain ⟨j, HGm, hj, rfl, hset, hBr, hzr, hfr⟩ := hrel
    by_cases hlt : j < NU
    · have hlt' : j < uses.length := by rw [HNU.out]; exact hlt
      obtain ⟨b, o, rfl, hb, hcell⟩ := HUD.out.1.at_ hlt'
      have hc := (hBr.cell (p := ⟨b, o + j, none⟩) hb).trans hcell
      have hsz := HUD.out.2.2 _ (List.getElem_mem hlt')
      have htk : uses.take (j + 1) = uses.take j ++ [uses[j]] := List.take_succ_eq_append_getElem hlt'
      have HT := Lib.hid (And.intro HGm (And.intro hset (And.intro hBr (And.intro hfr (And.intro hsz htk)))))
      clear HGm hset hBr hfr hsz htk hcell
      generalize uses[j] = s at hc HT
      go_wp2_with (at_mapUpdate; refine wpList_setAdd _ rfl _ _ _ 37 rfl 9 strKeyed Tryz.underlying37 (w2.heap.size + 1 + 1) ((uses.take j).map keyS) rfl HT.out.2.1 (by rw [List.length_map, List.length_take]; omega) _ (keyS s) rfl rfl (keyS_of HT.out.2.2.2.2.1) ?_; intro w5 hset5 hg5)
      go_roundg (NU - (j + 1))
      case measure => rw [HT.out.1]; omega
      case rel =>
        have hz5 := hg5.size
        refine ⟨j + 1, rfl, by omega, by go_num, ?_, HT.out.2.2.1.grown hg5 (by omega) (fun q hq => by cases hq; omega), by omega, fun i hi hne => (hg5.block i (by omega) (fun e => hne (by cases e; rfl))).trans (HT.out.2.2.2.1 i hi hne)⟩
        rw [HT.out.2.2.2.2.2, List.map_append]
        exact hset5
    · rw [List.take_of_length_le (by rw [HNU.out]; omega)] at hset
      obtain ⟨w4, rfl⟩ : ∃ w4 : World, w4 = wr := ⟨_, rfl⟩
      have hn4 := H3.out.1.keep (hfr w2.heap.size (by omega) (by omega))
      have hi4 := H3.out.2.1.keep (hfr (w2.heap.size + 1) (by omega) (by omega))
      have hx4 := (hfr w.heap.size (by omega) (by omega)).trans H3.out.2.2.2.1
      clear y0 y1 y2
      obtain ⟨y0, y1, y2⟩ := HROW.out w4 hx4
      obtain ⟨ob, Hob⟩ : ∃ Q : Obj, Hid ((Obj.cells #[.string label, .slice uA NU uc, .slice dA N dc] 25 (0, 0)) = Q) := ⟨_, Lib.hid rfl⟩
      have hR4 : Rg ob w2.heap.size w uses [] w4 := ⟨hi4, hset, by rw [← Hob.out]; exact hx4, hBr, by omega⟩
      have H4 := Lib.hid (And.intro hn4 hR4)
      clear hn4 hi4 hset hx4 hBr hfr HGm hR4
      obtain ⟨E, HE⟩ : ∃ Q, Hid (confB [] decls = Q) := ⟨_, Lib.hid rfl⟩
      obtain ⟨ids, Hids⟩ : ∃ Q, Hid (decls.map Dc.id = Q) := ⟨_, Lib.hid rfl⟩
      go_upto_block 2 with fail
      go_cut [3, 11] from 42 to 79 (fun s3 _ wx => s3 = .bool E ∧ ∃ L : List Int, (E = false → L = ids) ∧ L.length ≤ 100 ∧ Rg ob w2.heap.size w uses L wx)
      case first =>
        go_wp2_with fail
        go_loopg [3, 11, 42] N (fun g s3 _ ct wr => ∃ (k : Nat) (met : List ByteArray), g = N - k ∧ k ≤ N ∧ ct = .int .i64 k ∧ s3 = .bool false ∧ E = confB met (decls.drop k) ∧ met.length = k ∧ SetK wr 9 w2.heap.size (met.map keyS) ∧ Rg ob w2.heap.size w uses (ids.take k) wr)
        case atStart => exact ⟨0, [], rfl, by omega, rfl, rfl, by rw [← HE.out]; rfl, rfl, H4.out.1, by simpa using H4.out.2⟩
        case round =>
          obtain ⟨k, met, HGm, hk, rfl, rfl, HA, hml, hset, hR⟩ := hrel
          by_cases hlt : k < N
          · have hlt' : k < decls.length := by rw [HN.out]; exact hlt
            have hj3 : decls[k]? = some decls[k] := List.getElem?_eq_getElem hlt'
            have hBr := hR.2.2.2.1
            have hzr := hR.2.2.2.2
            obtain ⟨b, o, rfl, hb, d0, d1, d2, d3, d4, d5, d6, d7, d8, d9, d10, hxok⟩ := HUD.out.2.1.cells_at (fun p hp => hBr.cell hp) hj3
            have hv := HVAL.out _ (List.mem_of_getElem? hj3)
            have htk : ids.take (k + 1) = ids.take k ++ [decls[k].id] := by
              rw [← Hids.out, List.take_succ_eq_append_getElem (by simpa using hlt')]
              simp
            have hstr := strD_of HVAL.out _ (List.mem_of_getElem? hj3)
            have hdr : decls.drop k = decls[k] :: decls.drop (k + 1) := List.drop_eq_getElem_cons hlt'
            have hcf : E = confB met (decls[k] :: decls.drop (k + 1)) := by rw [← hdr]; exact HA
            have HT := Lib.hid (And.intro HGm (And.intro hcf (And.intro hv (And.intro htk (And.intro hstr hxok)))))
            clear HGm HA hv htk hstr hdr hcf hxok hj3
            generalize decls[k] = x at d0 d1 d2 d3 d4 d5 d6 d7 d8 d9 d10 HT
            obtain ⟨db, Hdb⟩ : ∃ Q, Hid (x.doubt = Q) := ⟨_, Lib.hid rfl⟩
            rw [Hdb.out] at d4
            obtain ⟨W5, hW5⟩ : ∃ W5, wr.alloc (.cells #[.int .i64 x.id, .int .i64 x.kind, .bool x.pub, .slice x.nA x.names.length x.nc, .bool db, .int .i64 x.k, .string x.n, .string x.m, .int .i64 x.i, .int .i64 x.d, .slice x.A x.s.len x.c] 43) = W5 := ⟨_, rfl⟩
            have hb5 : Below wr.heap.size wr W5 := by rw [← hW5]; exact (Below.refl _ _).alloc (Nat.le_refl _) _
            have hz5 : wr.heap.size < W5.heap.size := by rw [← hW5]; simp
            have hx5 : W5.heap[wr.heap.size]? = some (.cells #[.int .i64 x.id, .int .i64 x.kind, .bool x.pub, .slice x.nA x.names.length x.nc, .bool db, .int .i64 x.k, .string x.n, .string x.m, .int .i64 x.i, .int .i64 x.d, .slice x.A x.s.len x.c] 43 (0, 0)) := by rw [← hW5]; exact heap_alloc_new wr _
            have HF : Hid (∀ X, Below W5.heap.size W5 X → X.cell? ⟨wr.heap.size, 0, none⟩ = some (.int .i64 x.id) ∧ X.cell? ⟨wr.heap.size, 3, none⟩ = some (.slice x.nA x.names.length x.nc) ∧ X.cell? ⟨wr.heap.size, 4, none⟩ = some (.bool db) ∧ X.cell? ⟨wr.heap.size, 5, none⟩ = some (.int .i64 x.k) ∧ X.cell? ⟨wr.heap.size, 6, none⟩ = some (.string x.n) ∧ X.cell? ⟨wr.heap.size, 7, none⟩ = some (.string x.m) ∧ X.cell? ⟨wr.heap.size, 8, none⟩ = some (.int .i64 x.i) ∧ X.cell? ⟨wr.heap.size, 9, none⟩ = some (.int .i64 x.d) ∧ X.cell? ⟨wr.heap.size, 10, none⟩ = some (.slice x.A x.s.len x.c)) := fun X hX => by
              have h := (hX.block _ hz5).trans hx5
              exact ⟨cell_of_row X _ 0 _ _ (0, 0) h, cell_of_row X _ 3 _ _ (0, 0) h, cell_of_row X _ 4 _ _ (0, 0) h, cell_of_row X _ 5 _ _ (0, 0) h, cell_of_row X _ 6 _ _ (0, 0) h, cell_of_row X _ 7 _ _ (0, 0) h, cell_of_row X _ 8 _ _ (0, 0) h, cell_of_row X _ 9 _ _ (0, 0) h, cell_of_row X _ 10 _ _ (0, 0) h⟩
            have hR5 := hR.below hzw2 hb5
            have hset5 := hset.keep (hb5.block _ hset.lt)
            have H5 := Lib.hid (And.intro hset5 hR5)
            have HCUT : Hid (E = true → ∀ X, Rg ob w2.heap.size w uses (ids.take k) X → Value.bool true = .bool E ∧ ∃ L : List Int, (E = false → L = ids) ∧ L.length ≤ 100 ∧ Rg ob w2.heap.size w uses L X) := fun he X hX => ⟨by rw [he], ids.take k, ⟨(fun h => by rw [he] at h; cases h), (by rw [List.length_take]; omega), hX⟩⟩
            clear hb5 hx5 hR hset hR5 hset5 hBr
            by_cases hn1 : x.names.length = 1
            rotate_left
            · have hn1' : ((x.names.length : Int) != 1) = true := by simp; omega
              have HR := Lib.hid (HCUT.out (by rw [HT.out.2.1]; simp [confB, hn1]) W5 H5.out.2)
              obtain ⟨f0, f3, f4, _⟩ := HF.out W5 (Below.refl _ _)
              clear hn1
              go_wp2_with fail
              go_meet
              exact HR.out
            obtain ⟨nbk, no, hnA, hnb, hncell⟩ := HT.out.2.2.2.2.2.1.at_ (j := 0) (by omega)
            rw [names_one hn1, Nat.add_zero] at hncell
            have hnc2 := HT.out.2.2.2.2.2.1.1
            have hnc3 := HT.out.2.2.2.2.2.1.2.1
            unfold maxLen at hnc3
            rw [hn1] at hnc2
            have hns : (nameOf x).size ≤ maxLen := HT.out.2.2.2.2.1 _ (by obtain ⟨s, hs⟩ := List.length_eq_one_iff.1 hn1; unfold nameOf; rw [hs]; simp)
            obtain ⟨nm, Hnm⟩ : ∃ Q, Hid (nameOf x = Q) := ⟨_, Lib.hid rfl⟩
            rw [Hnm.out] at hncell hns
            rw [hn1, hnA] at HF d3 hW5
            have hnw : ∀ X, Below w.heap.size w X → X.cell? ⟨nbk, no, none⟩ = some (.string nm) := fun X hX => (hX.cell (p := ⟨nbk, no, none⟩) hnb).trans hncell
            have HNS := Lib.hid (And.intro hns (And.intro hn1 hnw))
            clear hns hncell hn1 hnw
            have hE2 : E = if (db || (x.k == 15 || x.s.sum) || hasN met nm) = true then true else confB (met ++ [nm]) (decls.drop (k + 1)) := by
              rw [HT.out.2.1]
              simp [confB, Hdb.out, Hnm.out, HNS.out.2.1]
            have HE2 := Lib.hid hE2
            clear hE2
            obtain ⟨f0, f3, f4, f5, f6, f7, f8, f9, f10⟩ := HF.out W5 (Below.refl _ _)
            cases db
            rotate_left
            · have HR := Lib.hid (HCUT.out (by rw [HE2.out]; simp) W5 H5.out.2)
              go_wp2_with fail
              go_meet
              exact HR.out
            have hcell5 := HNS.out.2.2 W5 H5.out.2.2.2.2.1
            obtain ⟨q, Hq⟩ : ∃ Q, Hid (hasN met nm = Q) := ⟨_, Lib.hid rfl⟩
            rw [Hq.out] at HE2
            have hlk : (Instr.lookup 37 (.map (some w2.heap.size)) (.string nm) false).run Tryz.prog W5 = .ok (.bool q) W5 := by
              rw [← Hq.out, ← keyS_has]
              exact H5.out.1.look strKeyed Tryz.underlying37 (keyS_of HNS.out.1)
            cases q
            rotate_left
            · have HR := Lib.hid (HCUT.out (by rw [HE2.out]; simp) W5 H5.out.2)
              go_wp2_with fail
              go_meet
              exact HR.out
            have hsl : x.s.Sl w w.heap.size x.A x.c := HT.out.2.2.2.2.2.2
            have hcnt := HT.out.2.2.1.cnt
            obtain ⟨W6, hW6⟩ : ∃ W6, W5.alloc (.cells #[.int .i64 15] 3) = W6 := ⟨_, rfl⟩
            have hb6 : Below W5.heap.size W5 W6 := by rw [← hW6]; exact (Below.refl _ _).alloc (Nat.le_refl _) _
            have hr6 : W6.heap[W5.heap.size]? = some (.cells #[.int .i64 15] 3 (0, 0)) := by rw [← hW6]; exact heap_alloc_new W5 _
            have hR6 := H5.out.2.below hzw2 hb6
            have hset6 := H5.out.1.keep (hb6.block _ H5.out.1.lt)
            obtain ⟨a, Ha⟩ : ∃ Q, Hid (kindN x.k [15] + x.s.kn [15] = Q) := ⟨_, Lib.hid rfl⟩
            have hab : a ≤ 1000 := by
              have k1 := kindN_le x.k [15]
              have k2 := Fo.kn_le [15] x.s
              simp only [List.length_cons, List.length_nil] at k1 k2
              have e := Ha.out
              omega
            have HSM : Hid ((x.k == 15 || x.s.sum) = decide (0 < a)) := by show _ = _; rw [← Ha.out]; exact Dc.sum_kn x
            rw [HSM.out] at HE2
            have HLN : Hid (Calls Tryz.prog 21 #[.agg #[.int .i64 x.k, .string x.n, .string x.m, .int .i64 x.i, .int .i64 x.d, .slice x.A x.s.len x.c], .slice (some ⟨W5.heap.size, 0, none⟩) 1 1] W6 fun e Y => e = .returned (.int .i64 a) ∧ Below W6.heap.size W6 Y) := by
              refine (ln_any [15] x.s x.k x.n x.m x.i x.d x.A x.c _ _ W6 (hsl.keep (by have := hR6.2.2.2.1.size; omega) fun p hp => hR6.2.2.2.1.cell hp) (slI_row [15] (by simp) hr6)).mono ?_
              rintro e Y ⟨rfl, hY⟩
              refine ⟨?_, hY⟩
              rw [← Ha.out, wrap64_small (by have := Ha.out; omega) (by have := Ha.out; omega)]
              simp
            have H6 := Lib.hid (And.intro hset6 (And.intro hR6 hb6))
            clear hsl hb6 hr6 hR6 hset6 hcnt
            go_wp2_with fail
            refine HLN.out.mono ?_
            rintro e w7 ⟨rfl, hb7⟩
            have hR7 := H6.out.2.1.below hzw2 hb7
            have hset7 := H6.out.1.keep (hb7.block _ H6.out.1.lt)
            have hb57 := H6.out.2.2.trans (hb7.mono H6.out.2.2.size)
            by_cases ha : 0 < a
            · have HR := Lib.hid (HCUT.out (by rw [HE2.out]; simp [ha]) w7 hR7)
              clear hR7 hset7 hb57 hb7 f0 f3 f4 f5 f6 f7 f8 f9 f10 hcell5 hlk HLN
              go_wp2_with fail
              go_meet
              exact HR.out
            · have hE3 : E = confB (met ++ [nm]) (decls.drop (k + 1)) := by rw [HE2.out]; simp [ha]
              have HE3 := Lib.hid hE3
              have hw7 := hR7.2.2.2.1
              clear hE3 f0 f3 f4 f5 f6 f7 f8 f9 f10 hlk HLN
              obtain ⟨f0, f3, f4, f5, f6, f7, f8, f9, f10⟩ := HF.out w7 hb57
              have hcell7 := HNS.out.2.2 w7 hw7
              have hwf := wf64 HT.out.2.2.1.id
              have hord := rf_orders (X := w7.drew) (Ln := met) (Li := ids.take k) (nm := nm) (id := x.id) hset7 hR7.drew hzw2 HNS.out.1 hwf (by omega) (by rw [List.length_take]; omega)
              obtain ⟨v0, st, Xa, Xb, Xc, Xd, v1, st1, Xe, F1, F2, F3, e1, s1, u1, u2, s2, u3, e3, s3, ⟨ga, gb, gd⟩, r1, r2, r3⟩ := hord
              have hz7 := hb57.size
              have hza := ga.size
              have hnbz : nbk < w2.heap.size := by omega
              have hw7z : w7.drew.heap.size = w7.heap.size := rfl
              have fa0 : Xa.cell? ⟨wr.heap.size, 0, none⟩ = some (.int .i64 x.id) := (World.cell?_of_block (w := w7.drew) (ga.block wr.heap.size (by omega) (by simp; omega))).trans f0
              have fb0 : Xb.cell? ⟨wr.heap.size, 0, none⟩ = some (.int .i64 x.id) := (World.cell?_of_block (w := Xa) (gb.block wr.heap.size (by omega) (by simp; omega))).trans fa0
              have fd3 : Xd.cell? ⟨wr.heap.size, 3, none⟩ = some (.slice (some ⟨nbk, no, none⟩) 1 x.nc) := (World.cell?_of_block (w := w7.drew) (gd.block wr.heap.size (by omega) (by simp; omega))).trans f3
              have fdn : Xd.cell? ⟨nbk, no, none⟩ = some (.string nm) := (World.cell?_of_block (w := w7.drew) (gd.block nbk (by omega) (by simp; omega))).trans hcell7
              have HRR := Lib.hid (And.intro r1 (And.intro r2 r3))
              clear ga gb gd hw7z hza
              clear r1 r2 r3 hwf hR7 hset7 hb57 hb7 hw7 hcell5
              go_upto_region 15 with fail
              go_region
              all_goals (
                go_wp2_with fail
                go_roundg (N - (k + 1))
                case measure => rw [HT.out.1]; omega
                case rel =>
                  refine ⟨k + 1, met ++ [nm], rfl, by omega, by go_num, rfl, HE3.out, by simp [hml], ?_, ?_⟩
                  · first | exact HRR.out.1.1 | exact HRR.out.2.1.1 | exact HRR.out.2.2.1
                  · rw [HT.out.2.2.2.1]; first | exact HRR.out.1.2 | exact HRR.out.2.1.2 | exact HRR.out.2.2.2)
          · have HEf := Lib.hid (show E = false by rw [HA, List.drop_of_length_le (by rw [HN.out]; omega)]; rfl)
            have HR : Hid (Value.bool false = .bool E ∧ ∃ L : List Int, (E = false → L = ids) ∧ L.length ≤ 100 ∧ Rg ob w2.heap.size w uses L wr) := ⟨by rw [HEf.out], ids.take k, ⟨(fun _ => List.take_of_length_le (by rw [← Hids.out, List.length_map, HN.out]; omega)), (by rw [List.length_take]; omega), hR⟩⟩
            clear HA hml hset hR HGm
            go_wp2_with fail
            go_meet
            exact HR.out
      case rest =>
        obtain ⟨rfl, L, hLE, hLl, hR⟩ := hcut
        clear y0 y1 y2
        obtain ⟨y0, y1, y2⟩ := HROW.out wc (by rw [Hob.out]; exact hR.2.2.1)
        have hzc := hR.2.2.2.2
        have HRc := Lib.hid (And.intro hLE hR)
        clear hLE hR
        go_wp2
        go_loopg [4, 13, 83] N (fun g s4 _ ct wr => ∃ q : Nat, g = N - q ∧ q ≤ N ∧ ct = .int .i64 q ∧ s4 = .bool ((decls.take q).all fun x => x.refs.all (lawRef L uses)) ∧ Below wc.heap.size wc wr)
        case atStart => exact ⟨0, rfl, by omega, rfl, rfl, Below.refl _ _⟩
        case round =>
          obtain ⟨q, HGm, hq, rfl, rfl, hB2⟩ := hrel
          have hz2 := hB2.size
          have hRq := HRc.out.2.below hzw2 hB2
          have hBw := hRq.2.2.2.1
          by_cases hlt : q < N
          · have hlt' : q < decls.length := by rw [HN.out]; exact hlt
            have hj3 : decls[q]? = some decls[q] := List.getElem?_eq_getElem hlt'
            obtain ⟨b, o, rfl, hb, d0, d1, d2, d3, d4, d5, d6, d7, d8, d9, d10, hxok⟩ := HUD.out.2.1.cells_at (fun p hp => hBw.cell hp) hj3
            obtain ⟨_, hcnt, hrefs⟩ := okR_of HVAL.out _ (List.mem_of_getElem? hj3)
            have htk : ((decls.take (q + 1)).all fun x => x.refs.all (lawRef L uses)) = (((decls.take q).all fun x => x.refs.all (lawRef L uses)) && decls[q].refs.all (lawRef L uses)) := by
              rw [List.take_succ_eq_append_getElem hlt', List.all_append]
              simp
            obtain ⟨P0, HP0⟩ : ∃ Q, Hid (((decls.take q).all fun x => x.refs.all (lawRef L uses)) = Q) := ⟨_, Lib.hid rfl⟩
            rw [HP0.out] at htk ⊢
            have hxsl := hxok.2
            have HT := Lib.hid (And.intro HGm (And.intro htk (And.intro hB2 (And.intro hrefs hBw))))
            clear HGm htk hB2 hrefs hj3 hxok hRq
            generalize decls[q] = x at d0 d1 d2 d3 d4 d5 d6 d7 d8 d9 d10 HT hcnt hxsl
            obtain ⟨W5, hW5⟩ : ∃ W5, wr.alloc (.cells #[.int .i64 x.id, .int .i64 x.kind, .bool x.pub, .slice x.nA x.names.length x.nc, .bool x.doubt, .int .i64 x.k, .string x.n, .string x.m, .int .i64 x.i, .int .i64 x.d, .slice x.A x.s.len x.c] 43) = W5 := ⟨_, rfl⟩
            have hb5 : Below wr.heap.size wr W5 := by subst hW5; exact (Below.refl _ _).alloc (Nat.le_refl _) _
            have hz5 : wr.heap.size < W5.heap.size := by subst hW5; simp
            have f5 : W5.cell? ⟨wr.heap.size, 5, none⟩ = some (.int .i64 x.k) := by subst hW5; go_simp
            have f6 : W5.cell? ⟨wr.heap.size, 6, none⟩ = some (.string x.n) := by subst hW5; go_simp
            have f7 : W5.cell? ⟨wr.heap.size, 7, none⟩ = some (.string x.m) := by subst hW5; go_simp
            have f8 : W5.cell? ⟨wr.heap.size, 8, none⟩ = some (.int .i64 x.i) := by subst hW5; go_simp
            have f9 : W5.cell? ⟨wr.heap.size, 9, none⟩ = some (.int .i64 x.d) := by subst hW5; go_simp
            have f10 : W5.cell? ⟨wr.heap.size, 10, none⟩ = some (.slice x.A x.s.len x.c) := by subst hW5; go_simp
            have hBc5 := HT.out.2.2.1.trans (hb5.mono hz2)
            have hBw5 := hBw.trans (hb5.mono hBw.size)
            have HRF := Lib.hid (refs_any x.k x.n x.m x.i x.d x.A x.c x.s W5 (hxsl.keep (by have := hBw5.size; omega) fun p hp => hBw5.cell hp) hcnt)
            have HBc5 := Lib.hid hBc5
            clear hb5 hBc5 hBw5 hBw
            obtain ⟨R, HR⟩ : ∃ Q, Hid (x.refs = Q) := ⟨_, Lib.hid rfl⟩
            have HRR : Hid (refsOf (Fo.cons x.k x.n x.m x.i x.d x.A x.c x.s .nil).vis = R) := HR.out
            rw [HRR.out] at HRF
            go_wp2_with fail
            refine HRF.out.mono ?_
            rintro e w6 ⟨v, rfl, hown6, hb6⟩
            obtain ⟨rA, rc, rfl⟩ : ∃ A c, v = .slice A R.length c := (refs_tail R _ v w6 hown6).1
            have hrc : R.length ≤ 9223372036854775807 := by
              rcases hown6.2 with ⟨_, h0⟩ | ⟨_, _, _, _, _, _, h1, h2, _⟩
              · omega
              · unfold maxLen at h2; omega
            have hz6 := hb6.size
            have HBc6 := Lib.hid (HBc5.out.trans (hb6.mono (by omega)))
            have HO6 := Lib.hid hown6
            have hzc6 := HBc6.out.size
            clear hown6 hb6 hW5 d0 d1 d2 d3 d4 d5 d6 d7 d8 d9 d10 f5 f6 f7 f8 f9 f10 HRF
            go_wp2
            go_loopg [4, 15, 91] R.length (fun g s4 _ ct wr => ∃ p : Nat, g = R.length - p ∧ p ≤ R.length ∧ ct = .int .i64 p ∧ s4 = .bool (P0 && (R.take p).all (lawRef L uses)) ∧ Below w6.heap.size w6 wr)
            case atStart => exact ⟨0, rfl, by omega, rfl, by simp, Below.refl _ _⟩
            case round =>
              obtain ⟨p, HG6, hp, rfl, rfl, hB7⟩ := hrel
              have hz7 := hB7.size
              by_cases hlt3 : p < R.length
              · have hp3 : R[p]? = some R[p] := List.getElem?_eq_getElem hlt3
                have htk : (R.take (p + 1)).all (lawRef L uses) = ((R.take p).all (lawRef L uses) && lawRef L uses R[p]) := by rw [List.take_succ_eq_append_getElem hlt3, List.all_append]; simp
                obtain ⟨gr, rcap, hform, hcap1, hcap2⟩ := own_pos2 HO6.out (by omega)
                simp only [Value.slice.injEq, true_and] at hform
                obtain ⟨rfl, rfl⟩ := hform
                obtain ⟨n0, n1⟩ := namesC_at _ R p hp3
                obtain ⟨hsz, hwf⟩ := HT.out.2.2.2.1 R[p] (by rw [HR.out]; exact List.mem_of_getElem? hp3)
                have hgr := (HO6.out.lt gr rfl).2
                have c0 : wr.cell? ⟨gr, p * 2, none⟩ = some (.string R[p].1) := (hB7.cell (p := ⟨gr, p * 2, none⟩) hgr).trans ((HO6.out.cellAt _ (by omega)).trans n0)
                have c1 : wr.cell? ⟨gr, p * 2 + 1, none⟩ = some (.int .i64 R[p].2) := (hB7.cell (p := ⟨gr, p * 2 + 1, none⟩) hgr).trans ((HO6.out.cellAt _ (by omega)).trans n1)
                obtain ⟨lv, Hlv⟩ : ∃ Q, Hid ((P0 && (R.take p).all (lawRef L uses)) = Q) := ⟨_, Lib.hid rfl⟩
                have hnx : (P0 && (R.take (p + 1)).all (lawRef L uses)) = (lv && lawRef L uses R[p]) := by rw [htk, ← Hlv.out, Bool.and_assoc]
                have HP := Lib.hid (And.intro HG6 (And.intro hsz (And.intro hwf hnx)))
                rw [Hlv.out]
                clear n0 n1 hp3 hsz hwf htk hnx HG6
                generalize R[p] = r at c0 c1 HP
                obtain ⟨rn, ri⟩ := r
                simp only at c0 c1 HP
                obtain ⟨W7, hW7⟩ : ∃ W7, wr.alloc (.cells #[.string rn, .int .i64 ri] 48) = W7 := ⟨_, rfl⟩
                have hb7 : Below wr.heap.size wr W7 := by subst hW7; exact (Below.refl _ _).alloc (Nat.le_refl _) _
                have k0 : W7.cell? ⟨wr.heap.size, 0, none⟩ = some (.string rn) := by subst hW7; go_simp
                have k1 : W7.cell? ⟨wr.heap.size, 1, none⟩ = some (.int .i64 ri) := by subst hW7; go_simp
                have hb67 := hB7.trans (hb7.mono hz7)
                have HB67 := Lib.hid hb67
                have hR7 := HRc.out.2.below hzw2 (HBc6.out.trans (hb67.mono hzc6))
                obtain ⟨q0, Hq0⟩ : ∃ Q, Hid (lawRef L uses (rn, ri) = Q) := ⟨_, Lib.hid rfl⟩
                rw [Hq0.out] at HP
                have hlkI : (Instr.lookup 38 (.map (some (w2.heap.size + 1))) (.int .i64 ri) false).run Tryz.prog W7 = .ok (.bool (hasI L ri)) W7 := by
                  rw [← keyI_has]
                  exact hR7.1.look intKeyed Tryz.underlying38 (keyI_of HP.out.2.2.1)
                have hlkS : (Instr.lookup 37 (.map (some (w2.heap.size + 1 + 1))) (.string rn) false).run Tryz.prog W7 = .ok (.bool (hasN uses rn)) W7 := by
                  rw [← keyS_has]
                  exact hR7.2.1.look strKeyed Tryz.underlying37 (keyS_of HP.out.2.1)
                clear hb7 hb67 hR7 hB7
                cases lv
                · clear hlkI hlkS
                  go_wp2
                  go_roundg (R.length - (p + 1))
                  case measure => rw [HP.out.1]; omega
                  case rel => exact ⟨p + 1, rfl, by omega, by go_num, by rw [HP.out.2.2.2]; rfl, HB67.out⟩
                · by_cases hn : rn.toList.isEmpty = true
                  · have hn' : rn.toList = [] := by simpa using hn
                    have HQ : Hid (hasI L ri = q0) := by show _ = _; rw [← Hq0.out, lawRef, if_pos hn]
                    rw [HQ.out] at hlkI
                    clear hlkS
                    cases q0
                    · go_wp2
                      go_roundg (R.length - (p + 1))
                      case measure => rw [HP.out.1]; omega
                      case rel => exact ⟨p + 1, rfl, by omega, by go_num, by rw [HP.out.2.2.2]; rfl, HB67.out⟩
                    · go_wp2
                      go_roundg (R.length - (p + 1))
                      case measure => rw [HP.out.1]; omega
                      case rel => exact ⟨p + 1, rfl, by omega, by go_num, by rw [HP.out.2.2.2]; rfl, HB67.out⟩
                  · have hn' : rn.toList.isEmpty = false := by simpa using hn
                    have hn2 : (!rn.toList.isEmpty) = true := by simp [hn']
                    have HQ : Hid (hasN uses rn = q0) := by show _ = _; rw [← Hq0.out, lawRef, if_neg hn]
                    rw [HQ.out] at hlkS
                    clear hlkI hn
                    cases q0
                    · go_wp2
                      go_roundg (R.length - (p + 1))
                      case measure => rw [HP.out.1]; omega
                      case rel => exact ⟨p + 1, rfl, by omega, by go_num, by rw [HP.out.2.2.2]; rfl, HB67.out⟩
                    · go_wp2
                      go_roundg (R.length - (p + 1))
                      case measure => rw [HP.out.1]; omega
                      case rel => exact ⟨p + 1, rfl, by omega, by go_num, by rw [HP.out.2.2.2]; rfl, HB67.out⟩
              · have hall : (P0 && (R.take p).all (lawRef L uses)) = ((decls.take (q + 1)).all fun x => x.refs.all (lawRef L uses)) := by
                  rw [HT.out.2.1, HR.out, List.take_of_length_le (by omega)]
                rw [hall]
                clear hall HG6
                go_wp2
                go_roundg (N - (q + 1))
                case measure => rw [HT.out.1]; omega
                case rel => exact ⟨q + 1, rfl, by omega, by go_num, rfl, HBc6.out.trans (hB7.mono hzc6)⟩
          · have hP : ((decls.take q).all fun x => x.refs.all (lawRef L uses)) = decls.all fun x => x.refs.all (lawRef L uses) := by rw [List.take_of_length_le (by rw [HN.out]; omega)]
            obtain ⟨P, HP⟩ : ∃ Q, Hid ((decls.all fun x => x.refs.all (lawRef L uses)) = Q) := ⟨_, Lib.hid rfl⟩
            rw [hP, HP.out]
            clear y0 y1 y2
            obtain ⟨y0, y1, y2⟩ := HROW.out wr (by rw [Hob.out]; exact hRq.2.2.1)
            have hmo := module_any label uses uA uc decls dA dc wr (HUD.out.1.keep (by have := hBw.size; omega) fun p hp => hBw.cell hp) (HUD.out.2.1.keep (by have := hBw.size; omega) fun p hp => hBw.cell hp)
            rw [HNU.out, HN.out] at hmo
            have HMO := Lib.hid hmo
            obtain ⟨M, HM⟩ : ∃ Q, Hid (modE label uses decls = Q) := ⟨_, Lib.hid rfl⟩
            have hMv : M = if E = true then 17 else if P = true then 0 else 21 := by
              rw [← HM.out]
              unfold modE
              rw [HE1.out, if_neg (by simp), HE.out]
              by_cases hE : E = true
              · rw [if_pos hE, if_pos hE]
              · have hE' : E = false := by simpa using hE
                have hld : leadsB L uses decls = P := by
                  rw [← HP.out]
                  unfold leadsB
                  congr 1
                  funext x
                  congr 1
                  funext r
                  exact (lawRef_eq L uses r).symm
                rw [if_neg hE, if_neg hE, Hids.out, ← HRc.out.1 hE', hld]
            have HMV := Lib.hid hMv
            have HBW := Lib.hid hBw
            clear hmo hP hMv hBw hRq hB2 HGm
            go_wp2_with fail
            refine HMO.out.mono ?_
            intro e w5 hm5
            obtain ⟨lb, A1, m1, k1, A2, m2, k2, rfl, hb5, _⟩ := hm5.forms
            rw [HM.out]
            obtain ⟨W6, hW6⟩ : ∃ W6, w5.alloc (.cells #[.string lb, .slice A1 m1 k1, .slice A2 m2 k2] 31) = W6 := ⟨_, rfl⟩
            have hb6 : Below w.heap.size w W6 := by
              have hBw5 := HBW.out.trans (hb5.mono HBW.out.size)
              rw [← hW6]
              exact hBw5.alloc hBw5.size _
            have HA := Lib.hid (HAW.out W6 hb6)
            have hMV := HMV.out
            clear hm5 hb5 hb6 y0 y1 y2 HMO
            cases E
            · cases P
              · have hM : M = 21 := by simpa using hMV
                subst hM
                clear hMV
                go_wp2_with fail
                refine HA.out.mono ?_
                rintro e w7 ⟨rfl, hb7⟩
                have HB7 := Lib.hid hb7
                clear hb7
                go_wp2
                go_ret
                exact ⟨rfl, HB7.out⟩
              · have hM : M = 0 := by simpa using hMV
                subst hM
                clear hMV
                go_wp2_with fail
                refine HA.out.mono ?_
                rintro e w7 ⟨rfl, hb7⟩
                have HB7 := Lib.hid hb7
                clear hb7
                go_wp2
                go_ret
                exact ⟨rfl, HB7.out⟩
            · have hM : M = 17 := by simpa using hMV
              subst hM
              clear hMV
              go_wp2_with fail
              refine HA.out.mono ?_
              rintro e w7 ⟨rfl, hb7⟩
              have HB7 := Lib.hid hb7
              clear hb7
              go_wp2
              go_ret
              exact ⟨rfl, HB7.out⟩
end Go.Proofs.YtlcfoiapkblheaaGreatDoor
