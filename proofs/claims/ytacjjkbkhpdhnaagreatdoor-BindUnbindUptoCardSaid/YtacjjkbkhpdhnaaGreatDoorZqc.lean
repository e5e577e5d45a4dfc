/- A row of declarations that grows, held by the last cell of a box; their names and bodies lie elsewhere -/
import Derived.Test.YtacjjkbkhpdhnaaGreatDoorZpf
import Derived.Test.YtacjjkbkhpdhnaaGreatDoorZpc
import Derived.Test.YtacjjkbkhpdhnaaGreatDoorSxg
import Derived.Test.YtacjjkbkhpdhnaaGreatDoorZqa
import Derived.Test.YtacjjkbkhpdhnaaGreatDoorZpk
import Derived.Test.YtacjjkbkhpdhnaaGreatDoorZmg
import Derived.Test.YtacjjkbkhpdhnaaGreatDoorZqe
namespace Go.Proofs.YtacjjkbkhpdhnaaGreatDoor
open Go.RowKit Go.Proofs Go.Shelf
theorem dcC_app : ∀ (a b : List Dc), dcC (a ++ b) = dcC a ++ dcC b
  | [], _ => rfl
  | x :: r, b => by simp only [List.cons_append, dcC, dcC_app r b, List.append_assoc]
theorem Fo.At.atP {w : World} {B : Nat} : ∀ {s : Fo} {b o : Nat}, s.At w B b o → s.AtP w (· < B) b o
  | .nil, _, _, _ => trivial
  | .cons _ _ _ _ _ _ _ s r, b, o, h => by
    obtain ⟨h0, h1, h2, h3, h4, ⟨h5, hc, hm, hs⟩, hr⟩ := h
    refine ⟨h0, h1, h2, h3, h4, ⟨h5, hc, hm, fun hne => ?_⟩, Fo.At.atP hr⟩
    obtain ⟨b', o', e, hb', hs'⟩ := hs hne
    exact ⟨b', o', e, hb', Fo.At.atP hs'⟩
theorem Fo.Sl.slP {w : World} {B : Nat} {A : Option Addr} {c : Nat} {s : Fo} (h : s.Sl w B A c) : s.SlP w (· < B) A c :=
  ⟨h.1, h.2.1, fun hne => by
    obtain ⟨b, o, e, hb, hs⟩ := h.2.2 hne
    exact ⟨b, o, e, hb, hs.atP⟩⟩
def NmP (w : World) (P : Nat → Prop) (A : Option Addr) (c : Nat) (l : List ByteArray) : Prop :=
  l.length ≤ c ∧ c ≤ maxLen ∧ (l ≠ [] → ∃ b o, A = some ⟨b, o, none⟩ ∧ P b ∧ ∀ j s, l[j]? = some s → w.cell? ⟨b, o + j, none⟩ = some (.string s))
theorem NmP.keep {w w' : World} {P P' : Nat → Prop} {A : Option Addr} {c : Nat} {l : List ByteArray} (h : NmP w P A c l) (hP : ∀ k, P k → P' k) (hk : ∀ p : Addr, P p.block → w'.cell? p = w.cell? p) : NmP w' P' A c l :=
  ⟨h.1, h.2.1, fun hne => by
    obtain ⟨b, o, e, hb, hs⟩ := h.2.2 hne
    exact ⟨b, o, e, hP _ hb, fun j s hj => (hk ⟨b, o + j, none⟩ hb).trans (hs j s hj)⟩⟩
theorem NmP.sls {w : World} {P : Nat → Prop} {B : Nat} {A : Option Addr} {c : Nat} {l : List ByteArray} (h : NmP w P A c l) (hP : ∀ k, P k → k < B) : SlS w B A c l :=
  ⟨h.1, h.2.1, fun hne => by
    obtain ⟨b, o, e, hb, hs⟩ := h.2.2 hne
    exact ⟨b, o, e, hP _ hb, hs⟩⟩
theorem SlS.nmP {w : World} {B : Nat} {A : Option Addr} {c : Nat} {l : List ByteArray} (h : SlS w B A c l) : NmP w (· < B) A c l :=
  ⟨h.1, h.2.1, fun hne => by
    obtain ⟨b, o, e, hb, hs⟩ := h.2.2 hne
    exact ⟨b, o, e, hb, hs⟩⟩
def Dc.Lies (x : Dc) (w : World) (P : Nat → Prop) : Prop := NmP w P x.nA x.nc x.names ∧ x.s.SlP w P x.A x.c
theorem Dc.Lies.keep {x : Dc} {w w' : World} {P P' : Nat → Prop} (h : x.Lies w P) (hP : ∀ k, P k → P' k) (hk : ∀ p : Addr, P p.block → w'.cell? p = w.cell? p) : x.Lies w' P' := ⟨h.1.keep hP hk, h.2.keep hP hk⟩
theorem Dc.Ok.lies {x : Dc} {w : World} {B : Nat} (h : x.Ok w B) : x.Lies w (· < B) := ⟨h.1.nmP, h.2.slP⟩
structure DRw (L : Nat) (W1 : World) (B : Nat) (hd : List Value) (ty : TypeId) (v : Value) (es : List Dc) (X : World) : Prop where
  nb : X.heap[B]? = some (.cells (hd ++ [v]).toArray ty (0, 0))
  own : X.ownsRow (B + 1) 63 11 v es.length (dcC es)
  sub : ∀ x ∈ es, x.Lies X (fun q => (q < L ∨ B < q) ∧ q < X.heap.size ∧ v.ownBlock ≠ some q)
  bw : Below B W1 X
  hL : L ≤ B
section
variable {L : Nat} {W1 : World} {B : Nat} {hd : List Value} {ty : TypeId} {v : Value} {es : List Dc} {X : World}
theorem DRw.keep (h : DRw L W1 B hd ty v es X) {Y : World} (hb : Below X.heap.size X Y) : DRw L W1 B hd ty v es Y :=
  ⟨(hb.block _ (lt_of_block h.nb)).trans h.nb, row_keepE h.own fun _ _ _ _ hc => hb.block _ (lt_of_block hc),
    fun x hx => (h.sub x hx).keep (fun _ hq => ⟨hq.1, Nat.lt_of_lt_of_le hq.2.1 hb.size, hq.2.2⟩) (fun _ hp => hb.cell hp.2.1), h.bw.trans (hb.mono (Nat.le_of_lt (lt_of_block h.nb))), h.hL⟩
theorem DRw.push (h : DRw L W1 B hd ty v es X) {Y : World} (hg : X.grownBy Y v.ownBlock) {v' : Value} {x : Dc}
    (hx : x.Lies X (fun q => (q < L ∨ B < q) ∧ q < X.heap.size ∧ v.ownBlock ≠ some q))
    (hown : Y.ownsRow (B + 1) 63 11 v' (es.length + 1) (dcC es ++ x.cells.toList))
    (hat : v'.ownBlock = v.ownBlock ∨ v'.ownBlock = some X.heap.size) :
    DRw L W1 B hd ty v' (es ++ [x]) (Y.setCell ⟨B, hd.length, none⟩ v') := by
  have hlo : ∀ q, q ≤ B → some q ≠ v.ownBlock := fun q hq e => by have := (World.ownsRow.lt h.own q e.symm).1; omega
  have hlt := lt_of_block h.nb
  have hkeep : ∀ q, q < B → (Y.setCell ⟨B, hd.length, none⟩ v').heap[q]? = X.heap[q]? := fun q hq => (Below.heap_setCell _ _ _ _ (by simp <;> omega)).trans (hg.block q (by omega) (hlo q (by omega)))
  have hnbY : Y.heap[B]? = _ := (hg.block B hlt (hlo B (Nat.le_refl _))).trans h.nb
  have hcell : ∀ p : Addr, ((p.block < L ∨ B < p.block) ∧ p.block < X.heap.size ∧ v.ownBlock ≠ some p.block) → (Y.setCell ⟨B, hd.length, none⟩ v').cell? p = X.cell? p := fun p hp =>
    World.cell?_of_block ((heap_setCell_other _ _ _ _ (by have := hp.1; have := h.hL; simp; omega)).trans (hg.block p.block hp.2.1 (fun e => hp.2.2 e.symm)))
  have hP : ∀ q, ((q < L ∨ B < q) ∧ q < X.heap.size ∧ v.ownBlock ≠ some q) → ((q < L ∨ B < q) ∧ q < (Y.setCell ⟨B, hd.length, none⟩ v').heap.size ∧ v'.ownBlock ≠ some q) := fun q hq => by
    have h1 := hg.size
    refine ⟨hq.1, by simp [World.setCell] at h1 ⊢; omega, fun e => ?_⟩
    rcases hat with h2 | h2
    · exact hq.2.2 (h2.symm.trans e)
    · rw [h2] at e
      have := Option.some.inj e
      omega
  refine ⟨?_, ?_, fun y hy => ?_, ⟨hg.os.trans h.bw.os, hg.tape.trans h.bw.tape, hg.output.trans h.bw.output, ?_, fun q hq => (hkeep q hq).trans (h.bw.block q hq)⟩, h.hL⟩
  · have h1 := heap_setCell_same Y B hd.length _ ty v' hnbY
    rw [h1]
    congr 2
    apply Array.ext'
    simp
  · rw [List.length_append, dcC_app]
    refine ownsRow_setCell_other (by simpa [dcC] using hown) (fun e => ?_) _
    have := (World.ownsRow.lt hown B e).1
    omega
  · rcases List.mem_append.1 hy with hy | hy
    · exact (h.sub y hy).keep hP hcell
    · obtain rfl := List.mem_singleton.1 hy
      exact hx.keep hP hcell
  · have h1 := hg.size
    have h2 := h.bw.size
    simp [World.setCell] at h1 ⊢
    omega
theorem DRw.sldX (h : DRw L W1 B hd ty v es X) {Y : World} (hz : X.heap.size ≤ Y.heap.size) (hY : ∀ q, q < L ∨ B < q → Y.heap[q]? = X.heap[q]?) : ∃ A c, v = .slice A es.length c ∧ SlD Y Y.heap.size A c es := by
  by_cases h0 : es.length = 0
  · obtain ⟨A, c, rfl⟩ := own_formR h.own
    have hc : es.length ≤ c ∧ c ≤ maxLen := by
      rcases h.own.2 with ⟨e, _⟩ | ⟨g, cap, cur, e, _, _, h1, h2, _⟩
      · simp only [Value.slice.injEq] at e
        unfold maxLen
        omega
      · simp only [Value.slice.injEq] at e
        omega
    refine ⟨A, c, rfl, hc.1, hc.2, fun hne => ?_⟩
    exact absurd (List.length_eq_zero_iff.1 h0) hne
  · obtain ⟨g, c, rfl, hc1, hc2⟩ := own_posR h.own (by omega)
    have hg := World.ownsRow.lt h.own g rfl
    refine ⟨_, c, rfl, hc1, by unfold maxLen; omega, fun _ => ⟨g, 0, rfl, by omega, fun j x hx => ⟨fun q u hq => ?_, ?_⟩⟩⟩
    · have hjl := (List.getElem?_eq_some_iff.1 hx).1
      have hql : q < 11 := (Array.getElem?_eq_some_iff.1 hq).1
      have h1 := h.own.cellAt (j * 11 + q) (by omega)
      rw [dcC_at es j x hx q u hq] at h1
      rw [Nat.zero_add]
      exact (World.cell?_of_block (hY g (by omega))).trans h1
    · have h1 := (h.sub x (List.mem_of_getElem? hx)).keep (w' := Y) (P' := fun q => q < Y.heap.size) (fun k hk => by omega) (fun p hp => World.cell?_of_block (hY p.block hp.1))
      exact ⟨h1.1.sls fun _ hk => hk, Fo.SlP.sl (fun _ hk => hk) h1.2⟩
theorem DRw.sld (h : DRw L W1 B hd ty v es X) : ∃ A c, v = .slice A es.length c ∧ SlD X X.heap.size A c es := by
  by_cases h0 : es.length = 0
  · obtain ⟨A, c, rfl⟩ := own_formR h.own
    have hc : es.length ≤ c ∧ c ≤ maxLen := by
      rcases h.own.2 with ⟨e, _⟩ | ⟨g, cap, cur, e, _, _, h1, h2, _⟩
      · simp only [Value.slice.injEq] at e
        unfold maxLen
        omega
      · simp only [Value.slice.injEq] at e
        omega
    refine ⟨A, c, rfl, hc.1, hc.2, fun hne => ?_⟩
    exact absurd (List.length_eq_zero_iff.1 h0) hne
  · obtain ⟨g, c, rfl, hc1, hc2⟩ := own_posR h.own (by omega)
    refine ⟨_, c, rfl, hc1, by unfold maxLen; omega, fun _ => ⟨g, 0, rfl, (World.ownsRow.lt h.own g rfl).2, fun j x hx => ⟨fun q u hq => ?_, ?_⟩⟩⟩
    · have hjl := (List.getElem?_eq_some_iff.1 hx).1
      have hql : q < 11 := (Array.getElem?_eq_some_iff.1 hq).1
      have h1 := h.own.cellAt (j * 11 + q) (by omega)
      rw [dcC_at es j x hx q u hq] at h1
      rw [Nat.zero_add]
      exact h1
    · have h1 := h.sub x (List.mem_of_getElem? hx)
      exact ⟨h1.1.sls fun _ hk => hk.2.1, Fo.SlP.sl (fun _ hk => hk.2.1) h1.2⟩
end
end Go.Proofs.YtacjjkbkhpdhnaaGreatDoor
/- ref24.Rename -/
namespace Go.Proofs.YtacjjkbkhpdhnaaGreatDoor
open Go.RowKit Go.Proofs Go.Shelf
def othR (id : Int) (name : ByteArray) (x : Dc) : Bool := decide (x.id ≠ id) && (decide (x.names.length = 1) && ((nameOf x).toList == name.toList))
def ren24E (label : ByteArray) (uses : List ByteArray) (ds : List Dc) (id : Int) (name : ByteArray) : Int :=
  if checkE label uses ds ≠ 0 then checkE label uses ds else if nameB name = false then 6 else if (ds.any fun x => x.id == id) = false then 8 else if ds.any (othR id name) = true then 7 else 0
def RnDc (id : Int) (name : ByteArray) (x y : Dc) : Prop := ∃ nA nc, y = if x.id = id then { x with nA := nA, nc := nc, names := [name] } else x
def RnDs (id : Int) (name : ByteArray) : List Dc → List Dc → Prop
  | [], [] => True
  | x :: r, y :: s => RnDc id name x y ∧ RnDs id name r s
  | _, _ => False
theorem rnDs_snoc {id : Int} {name : ByteArray} : ∀ {ds es : List Dc} {x y : Dc}, RnDs id name ds es → RnDc id name x y → RnDs id name (ds ++ [x]) (es ++ [y])
  | [], [], _, _, _, h => ⟨h, trivial⟩
  | _ :: _, _ :: _, _, _, h, h' => ⟨h.1, rnDs_snoc h.2 h'⟩
  | [], _ :: _, _, _, h, _ => absurd h (by simp [RnDs])
  | _ :: _, [], _, _, h, _ => absurd h (by simp [RnDs])
def Ren24R (label : ByteArray) (uses : List ByteArray) (uA : Option Addr) (uc : Nat) (ds : List Dc) (id : Int) (name : ByteArray) (w : World) (e : Ending) (w' : World) : Prop :=
  Below w.heap.size w w' ∧ ((ren24E label uses ds id name ≠ 0 ∧ e = .returned (.tuple #[.agg #[.string ⟨#[]⟩, .slice none 0 0, .slice none 0 0], .int .i64 (ren24E label uses ds id name)])) ∨
    (ren24E label uses ds id name = 0 ∧ ∃ A c es, RnDs id name ds es ∧ es.length = ds.length ∧ SlD w' w'.heap.size A c es ∧ e = .returned (.tuple #[.agg #[.string label, .slice uA uses.length uc, .slice A ds.length c], .int .i64 0])))
set_option maxRecDepth 100000 in
set_option maxHeartbeats 16000000 in
theorem rename24_any (label : ByteArray) (uses : List ByteArray) (uA : Option Addr) (uc : Nat) (ds : List Dc) (dA : Option Addr) (dc : Nat) (id : Int) (name : ByteArray) (w : World) (hu : SlS w w.heap.size uA uc uses) (hd : SlD w w.heap.size dA dc ds) (hms : ModS label uses ds) (hnl : name.size ≤ 9223372036854775807) :
    Calls Tryz.prog 27 #[.agg #[.string label, .slice uA uses.length uc, .slice dA ds.length dc], .int .i64 id, .string name] w (Ren24R label uses uA uc ds id name w) := by
  obtain ⟨i0, hi, hz0, hz1, hz2⟩ := info_parts Tryz.infoDecl
  obtain ⟨M, HM⟩ : ∃ Q, Hid (uses.length = Q) := ⟨_, Lib.hid rfl⟩
  obtain ⟨N, HN⟩ : ∃ Q, Hid (ds.length = Q) := ⟨_, Lib.hid rfl⟩
  obtain ⟨W0, hW0⟩ : ∃ W0, (w.alloc (.cells #[.string label, .slice uA M uc, .slice dA N dc] 25)).alloc (.cells #[.string ⟨#[]⟩, .slice none 0 0, .slice none 0 0] 25) = W0 := ⟨_, rfl⟩
  have hb0 : Below w.heap.size w W0 := by rw [← hW0]; exact ((Below.refl _ _).alloc (Nat.le_refl _) _).alloc (by simp) _
  have hzW : W0.heap.size = w.heap.size + 2 := by rw [← hW0]; simp
  have hr4 : W0.heap[w.heap.size]? = some (.cells #[.string label, .slice uA M uc, .slice dA N dc] 25 (0, 0)) := by rw [← hW0]; exact (Below.heap_alloc _ _ _ (by simp)).trans (heap_alloc_new w _)
  have hr6 : W0.heap[w.heap.size + 1]? = some (.cells #[.string ⟨#[]⟩, .slice none 0 0, .slice none 0 0] 25 (0, 0)) := by
    have h := heap_alloc_new (w.alloc (.cells #[.string label, .slice uA M uc, .slice dA N dc] 25)) (.cells #[.string ⟨#[]⟩, .slice none 0 0, .slice none 0 0] 25)
    rw [hW0] at h
    simpa using h
  have hul1 := hu.1
  have hul2 := hu.2.1
  have hdl1 := hd.1
  have hdl2 := hd.2.1
  unfold maxLen at hul2 hdl2
  rw [HM.out] at hul1
  rw [HN.out] at hdl1
  have HX := Lib.hid (show ∀ X : World, Below W0.heap.size W0 X → Below w.heap.size w X ∧ SlS X X.heap.size uA uc uses ∧ SlD X X.heap.size dA dc ds ∧ X.heap[w.heap.size]? = some (.cells #[.string label, .slice uA M uc, .slice dA N dc] 25 (0, 0)) ∧ X.heap[w.heap.size + 1]? = some (.cells #[.string ⟨#[]⟩, .slice none 0 0, .slice none 0 0] 25 (0, 0)) ∧ w.heap.size + 1 < X.heap.size from fun X hX => by
    have h1 := hb0.trans (hX.mono hb0.size)
    have h2 := hX.size
    exact ⟨h1, hu.keep h1.size (fun p hp => h1.cell hp), hd.keep h1.size (fun p hp => h1.cell hp), (hX.block _ (by omega)).trans hr4, (hX.block _ (by omega)).trans hr6, by omega⟩)
  obtain ⟨_, hsu, hsd, _, _, _⟩ := HX.out W0 (Below.refl _ _)
  have hck := check24_any label uses uA uc ds dA dc W0 hsu hsd hms
  obtain ⟨E1, HE1⟩ : ∃ Q, Hid (checkE label uses ds = Q) := ⟨_, Lib.hid rfl⟩
  rw [HM.out, HN.out, HE1.out] at hck
  have t0 : W0.cell? ⟨w.heap.size, 0, none⟩ = some (.string label) := cell_of_row W0 _ 0 _ _ (0, 0) hr4
  have t1 : W0.cell? ⟨w.heap.size, 1, none⟩ = some (.slice uA M uc) := cell_of_row W0 _ 1 _ _ (0, 0) hr4
  have t2 : W0.cell? ⟨w.heap.size, 2, none⟩ = some (.slice dA N dc) := cell_of_row W0 _ 2 _ _ (0, 0) hr4
  have HCk := Lib.hid hck
  have HNl := Lib.hid hnl
  obtain ⟨EE, HEE⟩ : ∃ Q, Hid (ren24E label uses ds id name = Q) := ⟨_, Lib.hid rfl⟩
  obtain ⟨nb, Hnb⟩ : ∃ Q, Hid (nameB name = Q) := ⟨_, Lib.hid rfl⟩
  obtain ⟨ub, Hub⟩ : ∃ Q, Hid ((ds.any fun x => x.id == id) = Q) := ⟨_, Lib.hid rfl⟩
  have HD := Lib.hid (show EE = if E1 ≠ 0 then E1 else if nb = false then 6 else if ub = false then 8 else if ds.any (othR id name) = true then 7 else 0 by rw [← HEE.out]; unfold ren24E; rw [HE1.out, Hnb.out, Hub.out])
  have HDd := Lib.hid hd
  unfold Ren24R
  rw [HEE.out, HM.out, HN.out]
  clear hu hd hms hnl hr4 hr6 hck hsu hsd hb0
  go_enter Tryz.func27, Tryz.ntmps27
  go_wp2_with fail
  refine HCk.out.mono ?_
  rintro e w1 ⟨rfl, hb1⟩
  have HB1 := Lib.hid hb1
  clear hb1 HCk t0 t1 t2 hW0
  by_cases he1 : E1 = 0
  rotate_left
  · have HR := Lib.hid (show EE = E1 from HD.out.trans (if_pos he1))
    have HE0 := Lib.hid he1
    have he1' : (E1 != 0) = true := by simpa using he1
    obtain ⟨hBx, _, _, _, hr, _⟩ := HX.out w1 HB1.out
    clear he1
    obtain ⟨y0, y1, y2, z0, z1, z2⟩ := row3 hr
    have HS := Lib.hid (three_set' hr (.string ⟨#[]⟩) (.slice none 0 0) (.slice none 0 0))
    have HBx := Lib.hid hBx
    clear hr hBx
    go_wp2
    obtain ⟨W9, hW9, s0, s1, s2, hBf, hsz, hbk⟩ := out3 HS.out HBx.out (by omega)
    rw [hW9]
    refine bodyPost_ret (v := .tuple #[.agg #[.string ⟨#[]⟩, .slice none 0 0, .slice none 0 0], .int .i64 E1]) (by simp [results, Tryz.results27, go_sem, s0, s1, s2]) rfl ?_
    exact ⟨hBf, .inl ⟨by rw [HR.out]; exact HE0.out, by rw [HR.out]⟩⟩
  subst he1
  have HD1 := Lib.hid (HD.out.trans (if_neg (by simp)))
  obtain ⟨_, _, _, hl100, _⟩ := checkE_parts HE1.out
  rw [HN.out] at hl100
  have HNm := Lib.hid (name21_any name w1 HNl.out)
  rw [Hnb.out] at HNm
  go_wp2_with fail
  refine HNm.out.mono ?_
  rintro e w2a ⟨rfl, hb2⟩
  have HB2 := Lib.hid (HB1.out.trans (hb2.mono HB1.out.size))
  clear hb2 HNm
  cases nb with
  | false =>
    have HR := Lib.hid (show EE = 6 from HD1.out.trans (if_pos rfl))
    obtain ⟨hBx, _, _, _, hr, _⟩ := HX.out w2a HB2.out
    obtain ⟨y0, y1, y2, z0, z1, z2⟩ := row3 hr
    have HS := Lib.hid (three_set' hr (.string ⟨#[]⟩) (.slice none 0 0) (.slice none 0 0))
    have HBx := Lib.hid hBx
    clear hr hBx
    go_wp2
    obtain ⟨W9, hW9, s0, s1, s2, hBf, hsz, hbk⟩ := out3 HS.out HBx.out (by omega)
    rw [hW9]
    refine bodyPost_ret (v := .tuple #[.agg #[.string ⟨#[]⟩, .slice none 0 0, .slice none 0 0], .int .i64 6]) (by simp [results, Tryz.results27, go_sem, s0, s1, s2]) rfl ?_
    exact ⟨hBf, .inl ⟨by rw [HR.out]; simp, by rw [HR.out]⟩⟩
  | true =>
  have HD2 := Lib.hid (HD1.out.trans (if_neg (by simp)))
  obtain ⟨w2, rfl⟩ : ∃ q, q = w2a := ⟨_, rfl⟩
  obtain ⟨_, _, hsd2, hrm2, _, _⟩ := HX.out w2 HB2.out
  have HUs := Lib.hid (used24_any ds dA dc id w2 hsd2)
  rw [Hub.out, HN.out] at HUs
  have t0 : w2.cell? ⟨w.heap.size, 0, none⟩ = some (.string label) := cell_of_row w2 _ 0 _ _ (0, 0) hrm2
  have t1 : w2.cell? ⟨w.heap.size, 1, none⟩ = some (.slice uA M uc) := cell_of_row w2 _ 1 _ _ (0, 0) hrm2
  have t2 : w2.cell? ⟨w.heap.size, 2, none⟩ = some (.slice dA N dc) := cell_of_row w2 _ 2 _ _ (0, 0) hrm2
  clear hsd2 hrm2
  go_wp2_with fail
  refine HUs.out.mono ?_
  rintro e w2' ⟨rfl, rfl⟩
  clear HUs
  cases ub with
  | false =>
    have HR := Lib.hid (show EE = 8 from HD2.out.trans (if_pos rfl))
    obtain ⟨hBx, _, _, _, hr, _⟩ := HX.out w2 HB2.out
    obtain ⟨y0, y1, y2, z0, z1, z2⟩ := row3 hr
    have HS := Lib.hid (three_set' hr (.string ⟨#[]⟩) (.slice none 0 0) (.slice none 0 0))
    have HBx := Lib.hid hBx
    clear hr hBx
    go_wp2
    obtain ⟨W9, hW9, s0, s1, s2, hBf, hsz, hbk⟩ := out3 HS.out HBx.out (by omega)
    rw [hW9]
    refine bodyPost_ret (v := .tuple #[.agg #[.string ⟨#[]⟩, .slice none 0 0, .slice none 0 0], .int .i64 8]) (by simp [results, Tryz.results27, go_sem, s0, s1, s2]) rfl ?_
    exact ⟨hBf, .inl ⟨by rw [HR.out]; simp, by rw [HR.out]⟩⟩
  | true =>
  have HD3 := Lib.hid (HD2.out.trans (if_neg (by simp)))
  obtain ⟨V1, hV1⟩ : ∃ q, w2.alloc (.cells #[.string label, .slice uA M uc, .slice none 0 0] 25) = q := ⟨_, rfl⟩
  have hbV : Below w2.heap.size w2 V1 := by rw [← hV1]; exact (Below.refl _ _).alloc (Nat.le_refl _) _
  have hn2 : V1.heap[w2.heap.size]? = some (.cells #[.string label, .slice uA M uc, .slice none 0 0] 25 (0, 0)) := by rw [← hV1]; exact heap_alloc_new _ _
  have HR0 := Lib.hid (show DRw w.heap.size w2 w2.heap.size [.string label, .slice uA M uc] 25 (.slice none 0 0) [] (V1.setCell ⟨w2.heap.size, 2, none⟩ (.slice none 0 0)) from ⟨by simp [World.setCell, Array.getElem?_modify, hn2], World.ownsRow_nil _ _ _ _, (fun x hx => absurd hx (by simp)), hbV.setCell (by simp) _, (HX.out w2 HB2.out).1.size⟩)
  have n1 := cell_of_row V1 w2.heap.size 2 _ _ (0, 0) hn2
  have f1 := frozen_of_row V1 w2.heap.size 2 _ _ hn2
  simp at n1
  clear hbV hn2
  go_wp2_with fail
  clear t0 t1 t2 hV1 n1 f1
  go_loopg [10] N (fun gg ct wr => ∃ (j : Nat) (es : List Dc) (v : Value), gg = N - j ∧ j ≤ N ∧ ct = .int .i64 j ∧ DRw w.heap.size w2 w2.heap.size [.string label, .slice uA M uc] 25 v es wr ∧ es.length = j ∧ Hid (RnDs id name (ds.take j) es) ∧ Hid (∀ q y, q < j → ds[q]? = some y → othR id name y = false))
  case atStart => exact ⟨0, [], .slice none 0 0, rfl, by omega, rfl, HR0.out, rfl, Lib.hid trivial, Lib.hid (fun q _ hq => absurd hq (Nat.not_lt_zero q))⟩
  case round =>
    obtain ⟨j, es, v, HG, hj, rfl, hR, hel, hRb, hZ⟩ := hrel
    have hB0 := HB2.out.trans (hR.bw.mono HB2.out.size)
    obtain ⟨hBw, hsu, hsd, hrm, hrr, hzr⟩ := HX.out wr hB0
    have t0 : wr.cell? ⟨w.heap.size, 0, none⟩ = some (.string label) := cell_of_row wr _ 0 _ _ (0, 0) hrm
    have t1 : wr.cell? ⟨w.heap.size, 1, none⟩ = some (.slice uA M uc) := cell_of_row wr _ 1 _ _ (0, 0) hrm
    have t2 : wr.cell? ⟨w.heap.size, 2, none⟩ = some (.slice dA N dc) := cell_of_row wr _ 2 _ _ (0, 0) hrm
    have hwl := lt_of_block hR.nb
    by_cases hlt : j < N
    · have hlt' : j < ds.length := by rw [HN.out]; exact hlt
      obtain ⟨x, hx⟩ : ∃ x, ds[j]? = some x := ⟨_, List.getElem?_eq_getElem hlt'⟩
      have hxm := Lib.hid (List.mem_of_getElem? hx)
      obtain ⟨b, o, hA, hbb, x0, x1, x2, x3, x4, x5, x6, x7, x8, x9, x10, xok⟩ := HDd.out.cells_at (wr := wr) (fun p hp => hBw.cell hp) hx
      subst hA
      have HTk := Lib.hid (show ds.take (j + 1) = ds.take j ++ [x] by
        rw [List.take_succ_eq_append_getElem hlt', (List.getElem?_eq_some_iff.1 hx).2])
      obtain ⟨vA, vc, rfl⟩ := own_formR hR.own
      have HT := Lib.hid (And.intro HG (And.intro hel (And.intro hRb (And.intro hZ hx))))
      have j0 : (0 : Int) ≤ (j : Int) := by omega
      have j1 : (j : Int) < (N : Int) := by omega
      clear HG hRb hZ hx hlt'
      obtain ⟨xid, xkind, xpub, xnA, xnc, xnames, xdoubt, xk, xn, xm, xi, xd, xA, xc, xs⟩ := x
      simp only at x0 x1 x2 x3 x4 x5 x6 x7 x8 x9 x10
      have xc1 := xok.1.1
      have xc2 := xok.1.2.1
      simp only at xc1 xc2
      unfold maxLen at xc2
      by_cases hid : xid = id
      · subst hid
        have HNew := Lib.hid (show RnDc xid name ⟨xid, xkind, xpub, xnA, xnc, xnames, xdoubt, xk, xn, xm, xi, xd, xA, xc, xs⟩ ⟨xid, xkind, xpub, some ⟨wr.heap.size + 1, 0, none⟩, 1, [name], xdoubt, xk, xn, xm, xi, xd, xA, xc, xs⟩ from ⟨some ⟨wr.heap.size + 1, 0, none⟩, 1, by rw [if_pos rfl]⟩)
        have HOth := Lib.hid (show othR xid name ⟨xid, xkind, xpub, xnA, xnc, xnames, xdoubt, xk, xn, xm, xi, xd, xA, xc, xs⟩ = false by simp [othR])
        obtain ⟨W3, hW3⟩ : ∃ q, wr.alloc (.cells #[.int .i64 xid, .int .i64 xkind, .bool xpub, .slice xnA xnames.length xnc, .bool xdoubt, .int .i64 xk, .string xn, .string xm, .int .i64 xi, .int .i64 xd, .slice xA xs.len xc] 63) = q := ⟨_, rfl⟩
        have hb3 : Below wr.heap.size wr W3 := by rw [← hW3]; exact (Below.refl _ _).alloc (Nat.le_refl _) _
        have hx3 : W3.heap[wr.heap.size]? = some (.cells #[.int .i64 xid, .int .i64 xkind, .bool xpub, .slice xnA xnames.length xnc, .bool xdoubt, .int .i64 xk, .string xn, .string xm, .int .i64 xi, .int .i64 xd, .slice xA xs.len xc] 63 (0, 0)) := by rw [← hW3]; exact heap_alloc_new _ _
        have hz3 : wr.heap.size < W3.heap.size := by rw [← hW3]; simp
        have hR3 := hR.keep hb3
        have hBw3 := (HX.out W3 (hB0.trans (hb3.mono hB0.size))).1
        have c0 := cell_of_row W3 wr.heap.size 0 _ _ (0, 0) hx3
        have c1 := cell_of_row W3 wr.heap.size 1 _ _ (0, 0) hx3
        have c2 := cell_of_row W3 wr.heap.size 2 _ _ (0, 0) hx3
        have c3 := cell_of_row W3 wr.heap.size 3 _ _ (0, 0) hx3
        have c4 := cell_of_row W3 wr.heap.size 4 _ _ (0, 0) hx3
        have c5 := cell_of_row W3 wr.heap.size 5 _ _ (0, 0) hx3
        have c6 := cell_of_row W3 wr.heap.size 6 _ _ (0, 0) hx3
        have c7 := cell_of_row W3 wr.heap.size 7 _ _ (0, 0) hx3
        have c8 := cell_of_row W3 wr.heap.size 8 _ _ (0, 0) hx3
        have c9 := cell_of_row W3 wr.heap.size 9 _ _ (0, 0) hx3
        have c10 := cell_of_row W3 wr.heap.size 10 _ _ (0, 0) hx3
        have n1 := cell_of_row W3 w2.heap.size 2 _ _ (0, 0) hR3.nb
        have z3 := frozen_of_row W3 wr.heap.size 3 _ _ hx3
        simp at c0 c1 c2 c3 c4 c5 c6 c7 c8 c9 c10 n1
        have hsz3 : W3.heap.size = wr.heap.size + 1 := by rw [← hW3]; simp
        go_upto_region 17 with fail
        have hs6 : ((W3.setCell ⟨wr.heap.size, 3, none⟩ (.slice (some ⟨wr.heap.size + 1, 0, none⟩) 1 1)).alloc (.cells #[.string name] 9)).heap[wr.heap.size]? = some (.cells #[.int .i64 xid, .int .i64 xkind, .bool xpub, .slice (some ⟨wr.heap.size + 1, 0, none⟩) 1 1, .bool xdoubt, .int .i64 xk, .string xn, .string xm, .int .i64 xi, .int .i64 xd, .slice xA xs.len xc] 63 (0, 0)) := (Below.heap_alloc _ _ _ (by simp; omega)).trans (by simp [World.setCell, Array.getElem?_modify, hx3])
        have hb6 : Below wr.heap.size wr ((W3.setCell ⟨wr.heap.size, 3, none⟩ (.slice (some ⟨wr.heap.size + 1, 0, none⟩) 1 1)).alloc (.cells #[.string name] 9)) := (hb3.setCell (by simp) _).alloc (by simp; omega) _
        have hnm6 : ((W3.setCell ⟨wr.heap.size, 3, none⟩ (.slice (some ⟨wr.heap.size + 1, 0, none⟩) 1 1)).alloc (.cells #[.string name] 9)).cell? ⟨wr.heap.size + 1, 0, none⟩ = some (.string name) := by
          have h := heap_alloc_new (W3.setCell ⟨wr.heap.size, 3, none⟩ (.slice (some ⟨wr.heap.size + 1, 0, none⟩) 1 1)) (.cells #[.string name] 9)
          rw [show (W3.setCell ⟨wr.heap.size, 3, none⟩ (.slice (some ⟨wr.heap.size + 1, 0, none⟩) 1 1)).heap.size = wr.heap.size + 1 by simp; omega] at h
          exact cell_of_row _ _ 0 _ _ (0, 0) h
        have hz6 : ((W3.setCell ⟨wr.heap.size, 3, none⟩ (.slice (some ⟨wr.heap.size + 1, 0, none⟩) 1 1)).alloc (.cells #[.string name] 9)).heap.size = wr.heap.size + 1 + 1 := by simp; omega
        generalize ((W3.setCell ⟨wr.heap.size, 3, none⟩ (.slice (some ⟨wr.heap.size + 1, 0, none⟩) 1 1)).alloc (.cells #[.string name] 9)) = W6 at hs6 hb6 hnm6 hz6 ⊢
        clear c0 c1 c2 c3 c4 c5 c6 c7 c8 c9 c10 n1 z3 hW3 hsz3 hz3 hR3 hBw3 hx3 hb3
        have hR6 := hR.keep hb6
        have hBw6 := (HX.out W6 (hB0.trans (hb6.mono hB0.size))).1
        have c0 := cell_of_row W6 wr.heap.size 0 _ _ (0, 0) hs6
        have c1 := cell_of_row W6 wr.heap.size 1 _ _ (0, 0) hs6
        have c2 := cell_of_row W6 wr.heap.size 2 _ _ (0, 0) hs6
        have c3 := cell_of_row W6 wr.heap.size 3 _ _ (0, 0) hs6
        have c4 := cell_of_row W6 wr.heap.size 4 _ _ (0, 0) hs6
        have c5 := cell_of_row W6 wr.heap.size 5 _ _ (0, 0) hs6
        have c6 := cell_of_row W6 wr.heap.size 6 _ _ (0, 0) hs6
        have c7 := cell_of_row W6 wr.heap.size 7 _ _ (0, 0) hs6
        have c8 := cell_of_row W6 wr.heap.size 8 _ _ (0, 0) hs6
        have c9 := cell_of_row W6 wr.heap.size 9 _ _ (0, 0) hs6
        have c10 := cell_of_row W6 wr.heap.size 10 _ _ (0, 0) hs6
        have n1 := cell_of_row W6 w2.heap.size 2 _ _ (0, 0) hR6.nb
        simp at c0 c1 c2 c3 c4 c5 c6 c7 c8 c9 c10 n1
        have hR8 := hR6.keep ((Below.refl W6.heap.size W6).alloc (Nat.le_refl _) (.cells #[.int .i64 xid, .int .i64 xkind, .bool xpub, .slice (some ⟨wr.heap.size + 1, 0, none⟩) 1 1, .bool xdoubt, .int .i64 xk, .string xn, .string xm, .int .i64 xi, .int .i64 xd, .slice xA xs.len xc] 63))
        have HNW := Lib.hid (show ∀ Y : World, (W6.alloc (.cells #[.int .i64 xid, .int .i64 xkind, .bool xpub, .slice (some ⟨wr.heap.size + 1, 0, none⟩) 1 1, .bool xdoubt, .int .i64 xk, .string xn, .string xm, .int .i64 xi, .int .i64 xd, .slice xA xs.len xc] 63)).grownBy Y (Value.slice vA es.length vc).ownBlock → Y.cell? ⟨w2.heap.size, 2, none⟩ = some (.slice vA es.length vc) ∧ Y.frozen? ⟨w2.heap.size, 2, none⟩ = false from fun Y hg => by
          have h1 : Y.heap[w2.heap.size]? = _ := (hg.block _ (lt_of_block hR8.nb) (fun e => by have := (World.ownsRow.lt hR8.own _ e.symm).1; omega)).trans hR8.nb
          exact ⟨by simpa using cell_of_row Y _ 2 _ _ (0, 0) h1, frozen_of_row Y _ 2 _ _ h1⟩)
        have HLs := Lib.hid (show Dc.Lies ⟨xid, xkind, xpub, some ⟨wr.heap.size + 1, 0, none⟩, 1, [name], xdoubt, xk, xn, xm, xi, xd, xA, xc, xs⟩ (W6.alloc (.cells #[.int .i64 xid, .int .i64 xkind, .bool xpub, .slice (some ⟨wr.heap.size + 1, 0, none⟩) 1 1, .bool xdoubt, .int .i64 xk, .string xn, .string xm, .int .i64 xi, .int .i64 xd, .slice xA xs.len xc] 63)) (fun q => (q < w.heap.size ∨ w2.heap.size < q) ∧ q < (W6.alloc (.cells #[.int .i64 xid, .int .i64 xkind, .bool xpub, .slice (some ⟨wr.heap.size + 1, 0, none⟩) 1 1, .bool xdoubt, .int .i64 xk, .string xn, .string xm, .int .i64 xi, .int .i64 xd, .slice xA xs.len xc] 63)).heap.size ∧ (Value.slice vA es.length vc).ownBlock ≠ some q) by
          have hsz6 : (W6.alloc (.cells #[.int .i64 xid, .int .i64 xkind, .bool xpub, .slice (some ⟨wr.heap.size + 1, 0, none⟩) 1 1, .bool xdoubt, .int .i64 xk, .string xn, .string xm, .int .i64 xi, .int .i64 xd, .slice xA xs.len xc] 63)).heap.size = W6.heap.size + 1 := by simp
          have hwz := hBw.size
          refine ⟨⟨Nat.le_refl _, by simp [maxLen], fun _ => ⟨wr.heap.size + 1, 0, rfl, ⟨.inr (by omega), by omega, fun e => ?_⟩, fun i s hi => ?_⟩⟩, (xok.2.slP).keep (fun k hk => ⟨.inl hk, by omega, fun e => ?_⟩) (fun p hp => ?_)⟩
          · have := (World.ownsRow.lt hR.own _ e).2
            omega
          · match i, hi with
            | 0, hi =>
              simp only [List.getElem?_cons_zero, Option.some.injEq] at hi
              subst hi
              exact (World.cell?_alloc_lt W6 _ _ (by show wr.heap.size + 1 < W6.heap.size; omega)).trans hnm6
            | i + 1, hi => simp at hi
          · have := (World.ownsRow.lt hR.own _ e).1
            omega
          · exact (World.cell?_alloc_lt W6 _ p (by omega)).trans (hBw6.cell hp))
        have HO7 := Lib.hid hR6.own
        have HR8 := Lib.hid hR8
        have m1' : es.length + 1 ≤ maxLen := by unfold maxLen; omega
        have m2' : (es.length + 1) * 136 ≤ 140737488355328 := by omega
        have m3' : w2.heap.size + 1 ≤ (W6.alloc (.cells #[.int .i64 xid, .int .i64 xkind, .bool xpub, .slice (some ⟨wr.heap.size + 1, 0, none⟩) 1 1, .bool xdoubt, .int .i64 xk, .string xn, .string xm, .int .i64 xi, .int .i64 xd, .slice xA xs.len xc] 63)).heap.size := by have := lt_of_block hR8.nb; omega
        have HM' := Lib.hid (And.intro m1' (And.intro m2' m3'))
        clear m1' m2' m3' hR8 hR hB0 hBw hsu hsd hrm hrr hzr xok hwl hs6 hb6 hnm6 hz6 hR6 hBw6 hel
        go_wp2_with (at_builtin; refine wpList_append_own_at _ rfl _ _ 23 rfl (w2.heap.size + 1) 63 i0 _ 11 136 Tryz.underlying23 hi hz0 hz1 hz2 rfl (by decide) _ _ _ rfl (HO7.out.alloc _) ⟨W6.heap.size, 0, none⟩ 1 1 [.int .i64 xid, .int .i64 xkind, .bool xpub, .slice (some ⟨wr.heap.size + 1, 0, none⟩) 1 1, .bool xdoubt, .int .i64 xk, .string xn, .string xm, .int .i64 xi, .int .i64 xd, .slice xA xs.len xc] rfl rfl (World.news_of_block (cs := #[.int .i64 xid, .int .i64 xkind, .bool xpub, .slice (some ⟨wr.heap.size + 1, 0, none⟩) 1 1, .bool xdoubt, .int .i64 xk, .string xn, .string xm, .int .i64 xi, .int .i64 xd, .slice xA xs.len xc]) (t := 63) (fr := (0, 0)) (heap_alloc_new _ _)) (by simp [Value.oneCell']) HM'.out.1 HM'.out.2.1 HM'.out.2.2 ?_; intro v9 w9 hown9 hg9 _ hat9; have HS9 := Lib.hid (And.intro hown9 (And.intro hg9 hat9)); obtain ⟨n9, f9⟩ := HNW.out w9 hg9; obtain ⟨g9, c9, rfl⟩ := ownsRow_succ hown9; clear hown9 hg9 hat9)
        go_roundg (N - (j + 1))
        case measure => rw [HT.out.1]; omega
        case rel =>
          have hP := HR8.out.push (x := ⟨xid, xkind, xpub, some ⟨wr.heap.size + 1, 0, none⟩, 1, [name], xdoubt, xk, xn, xm, xi, xd, xA, xc, xs⟩) HS9.out.2.1 HLs.out HS9.out.1 HS9.out.2.2
          refine ⟨j + 1, es ++ [⟨xid, xkind, xpub, some ⟨wr.heap.size + 1, 0, none⟩, 1, [name], xdoubt, xk, xn, xm, xi, xd, xA, xc, xs⟩], _, rfl, by omega, by go_num, hP, by rw [List.length_append, HT.out.2.1]; rfl, Lib.hid (by rw [HTk.out]; exact rnDs_snoc HT.out.2.2.1.out HNew.out), Lib.hid fun q y hq hy => ?_⟩
          by_cases hqj : q = j
          · subst hqj
            have h1 := HT.out.2.2.2.2
            rw [hy] at h1
            cases h1
            exact HOth.out
          · exact HT.out.2.2.2.1.out q y (by omega) hy
      · have hI0 : (xid == id) = false := by simpa using hid
        have hI1 : (xid != id) = true := by simpa using hid
        have HNew := Lib.hid (show RnDc id name ⟨xid, xkind, xpub, xnA, xnc, xnames, xdoubt, xk, xn, xm, xi, xd, xA, xc, xs⟩ ⟨xid, xkind, xpub, xnA, xnc, xnames, xdoubt, xk, xn, xm, xi, xd, xA, xc, xs⟩ from ⟨none, 0, by rw [if_neg hid]⟩)
        by_cases hl1 : xnames.length = 1
        · obtain ⟨s, rfl⟩ := List.length_eq_one_iff.1 hl1
          obtain ⟨nb', no', rfl, hnb', hnc'⟩ := xok.1.2.2 (by simp)
          have hnc' : wr.cell? ⟨nb', no', none⟩ = some (.string s) := (hBw.cell (p := ⟨nb', no', none⟩) hnb').trans (by have := hnc' 0 s rfl; simpa using this)
          simp only [List.length_cons, List.length_nil, Nat.zero_add] at x3 xc1
          cases heq : s.toList == name.toList with
          | true =>
            have HOt := Lib.hid (show othR id name ⟨xid, xkind, xpub, some ⟨nb', no', none⟩, xnc, [s], xdoubt, xk, xn, xm, xi, xd, xA, xc, xs⟩ = true by simp [othR, hid, nameOf]; simpa using heq)
            have HR := Lib.hid (show EE = 7 by
              rw [HD3.out, if_pos (List.any_eq_true.2 ⟨_, hxm.out, HOt.out⟩)])
            obtain ⟨W3, hW3⟩ : ∃ q, wr.alloc (.cells #[.int .i64 xid, .int .i64 xkind, .bool xpub, (.slice (some ⟨nb', no', none⟩) 1 xnc), .bool xdoubt, .int .i64 xk, .string xn, .string xm, .int .i64 xi, .int .i64 xd, .slice xA xs.len xc] 63) = q := ⟨_, rfl⟩
            have hb3 : Below wr.heap.size wr W3 := by rw [← hW3]; exact (Below.refl _ _).alloc (Nat.le_refl _) _
            have hx3 : W3.heap[wr.heap.size]? = some (.cells #[.int .i64 xid, .int .i64 xkind, .bool xpub, (.slice (some ⟨nb', no', none⟩) 1 xnc), .bool xdoubt, .int .i64 xk, .string xn, .string xm, .int .i64 xi, .int .i64 xd, .slice xA xs.len xc] 63 (0, 0)) := by rw [← hW3]; exact heap_alloc_new _ _
            have hz3 : wr.heap.size < W3.heap.size := by rw [← hW3]; simp
            have hR3 := hR.keep hb3
            have hBw3 := (HX.out W3 (hB0.trans (hb3.mono hB0.size))).1
            have c0 := cell_of_row W3 wr.heap.size 0 _ _ (0, 0) hx3
            have c1 := cell_of_row W3 wr.heap.size 1 _ _ (0, 0) hx3
            have c2 := cell_of_row W3 wr.heap.size 2 _ _ (0, 0) hx3
            have c3 := cell_of_row W3 wr.heap.size 3 _ _ (0, 0) hx3
            have c4 := cell_of_row W3 wr.heap.size 4 _ _ (0, 0) hx3
            have c5 := cell_of_row W3 wr.heap.size 5 _ _ (0, 0) hx3
            have c6 := cell_of_row W3 wr.heap.size 6 _ _ (0, 0) hx3
            have c7 := cell_of_row W3 wr.heap.size 7 _ _ (0, 0) hx3
            have c8 := cell_of_row W3 wr.heap.size 8 _ _ (0, 0) hx3
            have c9 := cell_of_row W3 wr.heap.size 9 _ _ (0, 0) hx3
            have c10 := cell_of_row W3 wr.heap.size 10 _ _ (0, 0) hx3
            have n1 := cell_of_row W3 w2.heap.size 2 _ _ (0, 0) hR3.nb
            simp at c0 c1 c2 c3 c4 c5 c6 c7 c8 c9 c10 n1
            have hnc3 : W3.cell? ⟨nb', no', none⟩ = some (.string s) := (hb3.cell (p := ⟨nb', no', none⟩) (by show nb' < wr.heap.size; have := hBw.size; omega)).trans hnc'
            obtain ⟨hBx, _, _, _, hr, _⟩ := HX.out W3 (hB0.trans (hb3.mono hB0.size))
            clear hR hB0 hBw hsu hsd hrm hrr hzr xok hwl hb3 hx3 hz3 hR3 hBw3 hnc' hnb'
            obtain ⟨y0, y1, y2, z0, z1, z2⟩ := row3 hr
            have HS := Lib.hid (three_set' hr (.string ⟨#[]⟩) (.slice none 0 0) (.slice none 0 0))
            have HBx := Lib.hid hBx
            clear hr hBx
            go_wp2
            obtain ⟨W9, hW9, s0, s1, s2, hBf, hsz, hbk⟩ := out3 HS.out HBx.out (by omega)
            rw [hW9]
            refine bodyPost_ret (v := .tuple #[.agg #[.string ⟨#[]⟩, .slice none 0 0, .slice none 0 0], .int .i64 7]) (by simp [results, Tryz.results27, go_sem, s0, s1, s2]) rfl ?_
            exact ⟨hBf, .inl ⟨by rw [HR.out]; simp, by rw [HR.out]⟩⟩
          | false =>
            have HOth := Lib.hid (show othR id name ⟨xid, xkind, xpub, some ⟨nb', no', none⟩, xnc, [s], xdoubt, xk, xn, xm, xi, xd, xA, xc, xs⟩ = false by
              have : ¬ (s.toList = name.toList) := by simpa using heq
              simp [othR, nameOf, this])
            obtain ⟨W3, hW3⟩ : ∃ q, wr.alloc (.cells #[.int .i64 xid, .int .i64 xkind, .bool xpub, (.slice (some ⟨nb', no', none⟩) 1 xnc), .bool xdoubt, .int .i64 xk, .string xn, .string xm, .int .i64 xi, .int .i64 xd, .slice xA xs.len xc] 63) = q := ⟨_, rfl⟩
            have hb3 : Below wr.heap.size wr W3 := by rw [← hW3]; exact (Below.refl _ _).alloc (Nat.le_refl _) _
            have hx3 : W3.heap[wr.heap.size]? = some (.cells #[.int .i64 xid, .int .i64 xkind, .bool xpub, (.slice (some ⟨nb', no', none⟩) 1 xnc), .bool xdoubt, .int .i64 xk, .string xn, .string xm, .int .i64 xi, .int .i64 xd, .slice xA xs.len xc] 63 (0, 0)) := by rw [← hW3]; exact heap_alloc_new _ _
            have hz3 : wr.heap.size < W3.heap.size := by rw [← hW3]; simp
            have hR3 := hR.keep hb3
            have hBw3 := (HX.out W3 (hB0.trans (hb3.mono hB0.size))).1
            have c0 := cell_of_row W3 wr.heap.size 0 _ _ (0, 0) hx3
            have c1 := cell_of_row W3 wr.heap.size 1 _ _ (0, 0) hx3
            have c2 := cell_of_row W3 wr.heap.size 2 _ _ (0, 0) hx3
            have c3 := cell_of_row W3 wr.heap.size 3 _ _ (0, 0) hx3
            have c4 := cell_of_row W3 wr.heap.size 4 _ _ (0, 0) hx3
            have c5 := cell_of_row W3 wr.heap.size 5 _ _ (0, 0) hx3
            have c6 := cell_of_row W3 wr.heap.size 6 _ _ (0, 0) hx3
            have c7 := cell_of_row W3 wr.heap.size 7 _ _ (0, 0) hx3
            have c8 := cell_of_row W3 wr.heap.size 8 _ _ (0, 0) hx3
            have c9 := cell_of_row W3 wr.heap.size 9 _ _ (0, 0) hx3
            have c10 := cell_of_row W3 wr.heap.size 10 _ _ (0, 0) hx3
            have n1 := cell_of_row W3 w2.heap.size 2 _ _ (0, 0) hR3.nb
            simp at c0 c1 c2 c3 c4 c5 c6 c7 c8 c9 c10 n1
            have hnc3 : W3.cell? ⟨nb', no', none⟩ = some (.string s) := (hb3.cell (p := ⟨nb', no', none⟩) (by show nb' < wr.heap.size; have := hBw.size; omega)).trans hnc'
            have hR8 := hR3.keep ((Below.refl W3.heap.size W3).alloc (Nat.le_refl _) (.cells #[.int .i64 xid, .int .i64 xkind, .bool xpub, (.slice (some ⟨nb', no', none⟩) 1 xnc), .bool xdoubt, .int .i64 xk, .string xn, .string xm, .int .i64 xi, .int .i64 xd, .slice xA xs.len xc] 63))
            have HNW := Lib.hid (show ∀ Y : World, (W3.alloc (.cells #[.int .i64 xid, .int .i64 xkind, .bool xpub, (.slice (some ⟨nb', no', none⟩) 1 xnc), .bool xdoubt, .int .i64 xk, .string xn, .string xm, .int .i64 xi, .int .i64 xd, .slice xA xs.len xc] 63)).grownBy Y (Value.slice vA es.length vc).ownBlock → Y.cell? ⟨w2.heap.size, 2, none⟩ = some (.slice vA es.length vc) ∧ Y.frozen? ⟨w2.heap.size, 2, none⟩ = false from fun Y hg => by
              have h1 : Y.heap[w2.heap.size]? = _ := (hg.block _ (lt_of_block hR8.nb) (fun e => by have := (World.ownsRow.lt hR8.own _ e.symm).1; omega)).trans hR8.nb
              exact ⟨by simpa using cell_of_row Y _ 2 _ _ (0, 0) h1, frozen_of_row Y _ 2 _ _ h1⟩)
            have HLs := Lib.hid (show Dc.Lies ⟨xid, xkind, xpub, some ⟨nb', no', none⟩, xnc, [s], xdoubt, xk, xn, xm, xi, xd, xA, xc, xs⟩ (W3.alloc (.cells #[.int .i64 xid, .int .i64 xkind, .bool xpub, (.slice (some ⟨nb', no', none⟩) 1 xnc), .bool xdoubt, .int .i64 xk, .string xn, .string xm, .int .i64 xi, .int .i64 xd, .slice xA xs.len xc] 63)) (fun q => (q < w.heap.size ∨ w2.heap.size < q) ∧ q < (W3.alloc (.cells #[.int .i64 xid, .int .i64 xkind, .bool xpub, (.slice (some ⟨nb', no', none⟩) 1 xnc), .bool xdoubt, .int .i64 xk, .string xn, .string xm, .int .i64 xi, .int .i64 xd, .slice xA xs.len xc] 63)).heap.size ∧ (Value.slice vA es.length vc).ownBlock ≠ some q) by
              have hsz6 : (W3.alloc (.cells #[.int .i64 xid, .int .i64 xkind, .bool xpub, (.slice (some ⟨nb', no', none⟩) 1 xnc), .bool xdoubt, .int .i64 xk, .string xn, .string xm, .int .i64 xi, .int .i64 xd, .slice xA xs.len xc] 63)).heap.size = W3.heap.size + 1 := by simp
              have hwz := hBw.size
              refine ⟨(xok.1.nmP).keep (fun k hk => ⟨.inl hk, by omega, fun e => ?_⟩) (fun p hp => ?_), (xok.2.slP).keep (fun k hk => ⟨.inl hk, by omega, fun e => ?_⟩) (fun p hp => ?_)⟩
              · have := (World.ownsRow.lt hR.own _ e).1
                omega
              · exact (World.cell?_alloc_lt W3 _ p (by omega)).trans (hBw3.cell hp)
              · have := (World.ownsRow.lt hR.own _ e).1
                omega
              · exact (World.cell?_alloc_lt W3 _ p (by omega)).trans (hBw3.cell hp))
            have HO7 := Lib.hid hR3.own
            have HR8 := Lib.hid hR8
            have m1' : es.length + 1 ≤ maxLen := by unfold maxLen; omega
            have m2' : (es.length + 1) * 136 ≤ 140737488355328 := by omega
            have m3' : w2.heap.size + 1 ≤ (W3.alloc (.cells #[.int .i64 xid, .int .i64 xkind, .bool xpub, (.slice (some ⟨nb', no', none⟩) 1 xnc), .bool xdoubt, .int .i64 xk, .string xn, .string xm, .int .i64 xi, .int .i64 xd, .slice xA xs.len xc] 63)).heap.size := by have := lt_of_block hR8.nb; omega
            have HM' := Lib.hid (And.intro m1' (And.intro m2' m3'))
            clear m1' m2' m3' hR8 hR hB0 hBw hsu hsd hrm hrr hzr xok hwl hb3 hx3 hz3 hR3 hBw3 hnc' hnb' hel
            go_wp2_with (at_builtin; refine wpList_append_own_at _ rfl _ _ 23 rfl (w2.heap.size + 1) 63 i0 _ 11 136 Tryz.underlying23 hi hz0 hz1 hz2 rfl (by decide) _ _ _ rfl (HO7.out.alloc _) ⟨W3.heap.size, 0, none⟩ 1 1 [.int .i64 xid, .int .i64 xkind, .bool xpub, (.slice (some ⟨nb', no', none⟩) 1 xnc), .bool xdoubt, .int .i64 xk, .string xn, .string xm, .int .i64 xi, .int .i64 xd, .slice xA xs.len xc] rfl rfl (World.news_of_block (cs := #[.int .i64 xid, .int .i64 xkind, .bool xpub, (.slice (some ⟨nb', no', none⟩) 1 xnc), .bool xdoubt, .int .i64 xk, .string xn, .string xm, .int .i64 xi, .int .i64 xd, .slice xA xs.len xc]) (t := 63) (fr := (0, 0)) (heap_alloc_new _ _)) (by simp [Value.oneCell']) HM'.out.1 HM'.out.2.1 HM'.out.2.2 ?_; intro v9 w9 hown9 hg9 _ hat9; have HS9 := Lib.hid (And.intro hown9 (And.intro hg9 hat9)); obtain ⟨n9, f9⟩ := HNW.out w9 hg9; obtain ⟨g9, c9, rfl⟩ := ownsRow_succ hown9; clear hown9 hg9 hat9)
            go_roundg (N - (j + 1))
            case measure => rw [HT.out.1]; omega
            case rel =>
              have hP := HR8.out.push (x := ⟨xid, xkind, xpub, some ⟨nb', no', none⟩, xnc, [s], xdoubt, xk, xn, xm, xi, xd, xA, xc, xs⟩) HS9.out.2.1 HLs.out HS9.out.1 HS9.out.2.2
              refine ⟨j + 1, es ++ [⟨xid, xkind, xpub, some ⟨nb', no', none⟩, xnc, [s], xdoubt, xk, xn, xm, xi, xd, xA, xc, xs⟩], _, rfl, by omega, by go_num, hP, by rw [List.length_append, HT.out.2.1]; rfl, Lib.hid (by rw [HTk.out]; exact rnDs_snoc HT.out.2.2.1.out HNew.out), Lib.hid fun q y hq hy => ?_⟩
              by_cases hqj : q = j
              · subst hqj
                have h1 := HT.out.2.2.2.2
                rw [hy] at h1
                cases h1
                exact HOth.out
              · exact HT.out.2.2.2.1.out q y (by omega) hy
        · have HOth := Lib.hid (show othR id name ⟨xid, xkind, xpub, xnA, xnc, xnames, xdoubt, xk, xn, xm, xi, xd, xA, xc, xs⟩ = false by simp [othR, hl1])
          have hl1' : ((xnames.length : Int) == 1) = false := by simp; omega
          obtain ⟨W3, hW3⟩ : ∃ q, wr.alloc (.cells #[.int .i64 xid, .int .i64 xkind, .bool xpub, .slice xnA xnames.length xnc, .bool xdoubt, .int .i64 xk, .string xn, .string xm, .int .i64 xi, .int .i64 xd, .slice xA xs.len xc] 63) = q := ⟨_, rfl⟩
          have hb3 : Below wr.heap.size wr W3 := by rw [← hW3]; exact (Below.refl _ _).alloc (Nat.le_refl _) _
          have hx3 : W3.heap[wr.heap.size]? = some (.cells #[.int .i64 xid, .int .i64 xkind, .bool xpub, .slice xnA xnames.length xnc, .bool xdoubt, .int .i64 xk, .string xn, .string xm, .int .i64 xi, .int .i64 xd, .slice xA xs.len xc] 63 (0, 0)) := by rw [← hW3]; exact heap_alloc_new _ _
          have hz3 : wr.heap.size < W3.heap.size := by rw [← hW3]; simp
          have hR3 := hR.keep hb3
          have hBw3 := (HX.out W3 (hB0.trans (hb3.mono hB0.size))).1
          have c0 := cell_of_row W3 wr.heap.size 0 _ _ (0, 0) hx3
          have c1 := cell_of_row W3 wr.heap.size 1 _ _ (0, 0) hx3
          have c2 := cell_of_row W3 wr.heap.size 2 _ _ (0, 0) hx3
          have c3 := cell_of_row W3 wr.heap.size 3 _ _ (0, 0) hx3
          have c4 := cell_of_row W3 wr.heap.size 4 _ _ (0, 0) hx3
          have c5 := cell_of_row W3 wr.heap.size 5 _ _ (0, 0) hx3
          have c6 := cell_of_row W3 wr.heap.size 6 _ _ (0, 0) hx3
          have c7 := cell_of_row W3 wr.heap.size 7 _ _ (0, 0) hx3
          have c8 := cell_of_row W3 wr.heap.size 8 _ _ (0, 0) hx3
          have c9 := cell_of_row W3 wr.heap.size 9 _ _ (0, 0) hx3
          have c10 := cell_of_row W3 wr.heap.size 10 _ _ (0, 0) hx3
          have n1 := cell_of_row W3 w2.heap.size 2 _ _ (0, 0) hR3.nb
          simp at c0 c1 c2 c3 c4 c5 c6 c7 c8 c9 c10 n1
          have hR8 := hR3.keep ((Below.refl W3.heap.size W3).alloc (Nat.le_refl _) (.cells #[.int .i64 xid, .int .i64 xkind, .bool xpub, .slice xnA xnames.length xnc, .bool xdoubt, .int .i64 xk, .string xn, .string xm, .int .i64 xi, .int .i64 xd, .slice xA xs.len xc] 63))
          have HNW := Lib.hid (show ∀ Y : World, (W3.alloc (.cells #[.int .i64 xid, .int .i64 xkind, .bool xpub, .slice xnA xnames.length xnc, .bool xdoubt, .int .i64 xk, .string xn, .string xm, .int .i64 xi, .int .i64 xd, .slice xA xs.len xc] 63)).grownBy Y (Value.slice vA es.length vc).ownBlock → Y.cell? ⟨w2.heap.size, 2, none⟩ = some (.slice vA es.length vc) ∧ Y.frozen? ⟨w2.heap.size, 2, none⟩ = false from fun Y hg => by
            have h1 : Y.heap[w2.heap.size]? = _ := (hg.block _ (lt_of_block hR8.nb) (fun e => by have := (World.ownsRow.lt hR8.own _ e.symm).1; omega)).trans hR8.nb
            exact ⟨by simpa using cell_of_row Y _ 2 _ _ (0, 0) h1, frozen_of_row Y _ 2 _ _ h1⟩)
          have HLs := Lib.hid (show Dc.Lies ⟨xid, xkind, xpub, xnA, xnc, xnames, xdoubt, xk, xn, xm, xi, xd, xA, xc, xs⟩ (W3.alloc (.cells #[.int .i64 xid, .int .i64 xkind, .bool xpub, .slice xnA xnames.length xnc, .bool xdoubt, .int .i64 xk, .string xn, .string xm, .int .i64 xi, .int .i64 xd, .slice xA xs.len xc] 63)) (fun q => (q < w.heap.size ∨ w2.heap.size < q) ∧ q < (W3.alloc (.cells #[.int .i64 xid, .int .i64 xkind, .bool xpub, .slice xnA xnames.length xnc, .bool xdoubt, .int .i64 xk, .string xn, .string xm, .int .i64 xi, .int .i64 xd, .slice xA xs.len xc] 63)).heap.size ∧ (Value.slice vA es.length vc).ownBlock ≠ some q) by
            have hsz6 : (W3.alloc (.cells #[.int .i64 xid, .int .i64 xkind, .bool xpub, .slice xnA xnames.length xnc, .bool xdoubt, .int .i64 xk, .string xn, .string xm, .int .i64 xi, .int .i64 xd, .slice xA xs.len xc] 63)).heap.size = W3.heap.size + 1 := by simp
            have hwz := hBw.size
            refine ⟨(xok.1.nmP).keep (fun k hk => ⟨.inl hk, by omega, fun e => ?_⟩) (fun p hp => ?_), (xok.2.slP).keep (fun k hk => ⟨.inl hk, by omega, fun e => ?_⟩) (fun p hp => ?_)⟩
            · have := (World.ownsRow.lt hR.own _ e).1
              omega
            · exact (World.cell?_alloc_lt W3 _ p (by omega)).trans (hBw3.cell hp)
            · have := (World.ownsRow.lt hR.own _ e).1
              omega
            · exact (World.cell?_alloc_lt W3 _ p (by omega)).trans (hBw3.cell hp))
          have HO7 := Lib.hid hR3.own
          have HR8 := Lib.hid hR8
          have m1' : es.length + 1 ≤ maxLen := by unfold maxLen; omega
          have m2' : (es.length + 1) * 136 ≤ 140737488355328 := by omega
          have m3' : w2.heap.size + 1 ≤ (W3.alloc (.cells #[.int .i64 xid, .int .i64 xkind, .bool xpub, .slice xnA xnames.length xnc, .bool xdoubt, .int .i64 xk, .string xn, .string xm, .int .i64 xi, .int .i64 xd, .slice xA xs.len xc] 63)).heap.size := by have := lt_of_block hR8.nb; omega
          have HM' := Lib.hid (And.intro m1' (And.intro m2' m3'))
          clear m1' m2' m3' hR8 hR hB0 hBw hsu hsd hrm hrr hzr xok hwl hb3 hx3 hz3 hR3 hBw3 hel
          go_wp2_with (at_builtin; refine wpList_append_own_at _ rfl _ _ 23 rfl (w2.heap.size + 1) 63 i0 _ 11 136 Tryz.underlying23 hi hz0 hz1 hz2 rfl (by decide) _ _ _ rfl (HO7.out.alloc _) ⟨W3.heap.size, 0, none⟩ 1 1 [.int .i64 xid, .int .i64 xkind, .bool xpub, .slice xnA xnames.length xnc, .bool xdoubt, .int .i64 xk, .string xn, .string xm, .int .i64 xi, .int .i64 xd, .slice xA xs.len xc] rfl rfl (World.news_of_block (cs := #[.int .i64 xid, .int .i64 xkind, .bool xpub, .slice xnA xnames.length xnc, .bool xdoubt, .int .i64 xk, .string xn, .string xm, .int .i64 xi, .int .i64 xd, .slice xA xs.len xc]) (t := 63) (fr := (0, 0)) (heap_alloc_new _ _)) (by simp [Value.oneCell']) HM'.out.1 HM'.out.2.1 HM'.out.2.2 ?_; intro v9 w9 hown9 hg9 _ hat9; have HS9 := Lib.hid (And.intro hown9 (And.intro hg9 hat9)); obtain ⟨n9, f9⟩ := HNW.out w9 hg9; obtain ⟨g9, c9, rfl⟩ := ownsRow_succ hown9; clear hown9 hg9 hat9)
          go_roundg (N - (j + 1))
          case measure => rw [HT.out.1]; omega
          case rel =>
            have hP := HR8.out.push (x := ⟨xid, xkind, xpub, xnA, xnc, xnames, xdoubt, xk, xn, xm, xi, xd, xA, xc, xs⟩) HS9.out.2.1 HLs.out HS9.out.1 HS9.out.2.2
            refine ⟨j + 1, es ++ [⟨xid, xkind, xpub, xnA, xnc, xnames, xdoubt, xk, xn, xm, xi, xd, xA, xc, xs⟩], _, rfl, by omega, by go_num, hP, by rw [List.length_append, HT.out.2.1]; rfl, Lib.hid (by rw [HTk.out]; exact rnDs_snoc HT.out.2.2.1.out HNew.out), Lib.hid fun q y hq hy => ?_⟩
            by_cases hqj : q = j
            · subst hqj
              have h1 := HT.out.2.2.2.2
              rw [hy] at h1
              cases h1
              exact HOth.out
            · exact HT.out.2.2.2.1.out q y (by omega) hy
    · have hjN : j = N := by omega
      subst hjN
      have HR := Lib.hid (show EE = 0 by
        rw [HD3.out]
        refine if_neg ?_
        rw [List.any_eq_true]
        rintro ⟨y, hy, ho⟩
        obtain ⟨q, hq⟩ := List.getElem?_of_mem hy
        rw [hZ.out q y (by have := (List.getElem?_eq_some_iff.1 hq).1; rw [HN.out] at this; exact this) hq] at ho
        exact absurd ho (by simp))
      have HRs := Lib.hid (show RnDs id name ds es by have h := hRb.out; rwa [List.take_of_length_le (by rw [HN.out]; exact Nat.le_refl _)] at h)
      have hnb := hR.nb
      obtain ⟨rA, rc, rfl, hsld⟩ := hR.sld
      have n0 := cell_of_row wr w2.heap.size 0 _ _ (0, 0) hnb
      have n1 := cell_of_row wr w2.heap.size 1 _ _ (0, 0) hnb
      have n2 := cell_of_row wr w2.heap.size 2 _ _ (0, 0) hnb
      simp at n0 n1 n2
      rw [hel] at n2
      have HDs := Lib.hid (And.intro hel hR)
      have hw2 := (HX.out w2 HB2.out).2.2.2.2.2
      have hr := hrr
      have hBx := hBw
      have i2 : decide ((j : Int) < (j : Int)) = false := by simp
      have i3 : decide (j < j) = false := by simp
      clear hR hsld hnb hrm hrr hsu hsd hRb hZ hB0 hBw hel HG
      obtain ⟨y0, y1, y2, z0, z1, z2⟩ := row3 hr
      have HS := Lib.hid (three_set' hr (.string label) (.slice uA M uc) (.slice rA j rc))
      have HBx := Lib.hid hBx
      clear hr hBx
      go_wp2
      obtain ⟨W9, hW9, s0, s1, s2, hBf, hsz, hbk⟩ := out3 HS.out HBx.out (by omega)
      rw [hW9]
      refine bodyPost_ret (v := .tuple #[.agg #[.string label, .slice uA M uc, .slice rA j rc], .int .i64 0]) (by simp [results, Tryz.results27, go_sem, s0, s1, s2]) rfl ?_
      obtain ⟨rA2, rc2, hve, hsl⟩ := HDs.out.2.sldX (Y := W9) (by rw [hsz]; exact Nat.le_refl _) (fun q hq => hbk q (by omega))
      simp only [Value.slice.injEq] at hve
      obtain ⟨rfl, _, rfl⟩ := hve
      exact ⟨hBf, .inr ⟨HR.out, rA, rc, es, HRs.out, HDs.out.1, hsl, rfl⟩⟩
end Go.Proofs.YtacjjkbkhpdhnaaGreatDoor
