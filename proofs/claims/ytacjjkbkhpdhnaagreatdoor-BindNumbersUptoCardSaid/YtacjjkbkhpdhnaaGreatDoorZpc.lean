/- bind.bound -/
import Derived.Test.YtacjjkbkhpdhnaaGreatDoorZle
import Derived.Test.YtacjjkbkhpdhnaaGreatDoorZlg
import Derived.Shelf.SlMaps.Clone
import Derived.Deep.Onto
import Derived.Deep.RegionLaw
import Derived.Deep.AppendLies
import Derived.Deep.DrawnRows
namespace Go.Proofs.YtacjjkbkhpdhnaaGreatDoor
open Go.RowKit Go.Proofs Go.Shelf
def bndB (k : Int) (n m : ByteArray) (j : Int) : List ByteArray :=
  if k = 6 ∨ (k = 8 ∧ j = 1) then [n] else if k = 13 ∧ j = 2 then [n, m] else []
set_option maxRecDepth 100000 in
set_option maxHeartbeats 2000000 in
theorem bound_any (k : Int) (n m : ByteArray) (i d : Int) (A : Option Addr) (len c : Nat) (j : Int) (w : World) :
    Calls Tryz.prog 149 #[.agg #[.int .i64 k, .string n, .string m, .int .i64 i, .int .i64 d, .slice A len c], .int .i64 j] w fun e w' => ∃ A' c', e = .returned (.slice A' (bndB k n m j).length c') ∧ SlS w' w'.heap.size A' c' (bndB k n m j) ∧ Below w.heap.size w w' := by
  obtain ⟨W1, hW1⟩ : ∃ W1, w.alloc (.cells #[.int .i64 k, .string n, .string m, .int .i64 i, .int .i64 d, .slice A len c] 28) = W1 := ⟨_, rfl⟩
  have hB1 : Below w.heap.size w W1 := by rw [← hW1]; exact (Below.refl _ _).alloc (Nat.le_refl _) _
  have hx0 : W1.heap[w.heap.size]? = some (.cells #[.int .i64 k, .string n, .string m, .int .i64 i, .int .i64 d, .slice A len c] 28 (0, 0)) := by rw [← hW1]; exact heap_alloc_new w _
  have x0 := cell_of_row W1 w.heap.size 0 _ _ (0, 0) hx0
  have x1 := cell_of_row W1 w.heap.size 1 _ _ (0, 0) hx0
  have x2 := cell_of_row W1 w.heap.size 2 _ _ (0, 0) hx0
  simp at x0 x1 x2
  have HB1 := Lib.hid hB1
  have HONE : Hid (∀ s : ByteArray, SlS (W1.alloc (.cells #[.string s] 9)) (W1.alloc (.cells #[.string s] 9)).heap.size (some ⟨W1.heap.size, 0, none⟩) 1 [s]) := Lib.hid fun s => by
    refine ⟨by simp, by unfold maxLen; omega, fun _ => ⟨W1.heap.size, 0, rfl, by simp, fun q u hq => ?_⟩⟩
    have h := heap_alloc_new W1 (.cells #[.string s] 9)
    rw [cell_of_row _ _ _ _ _ _ h]
    simpa [List.getElem?_toArray] using (show ([Value.string s] : List Value)[0 + q]? = some (.string u) by
      rw [Nat.zero_add]
      match q, hq with
      | 0, hq => simp at hq; simp [hq]
      | q + 1, hq => simp at hq)
  have HTWO : Hid (SlS (W1.alloc (.cells #[.string n, .string m] 9)) (W1.alloc (.cells #[.string n, .string m] 9)).heap.size (some ⟨W1.heap.size, 0, none⟩) 2 [n, m]) := Lib.hid <| by
    refine ⟨by simp, by unfold maxLen; omega, fun _ => ⟨W1.heap.size, 0, rfl, by simp, fun q u hq => ?_⟩⟩
    have h := heap_alloc_new W1 (.cells #[.string n, .string m] 9)
    rw [cell_of_row _ _ _ _ _ _ h]
    simpa [List.getElem?_toArray] using (show ([Value.string n, Value.string m] : List Value)[0 + q]? = some (.string u) by
      rw [Nat.zero_add]
      match q, hq with
      | 0, hq => simp at hq; simp [hq]
      | 1, hq => simp at hq; simp [hq]
      | q + 2, hq => simp at hq)
  clear hB1 hx0
  by_cases h1 : k = 6 ∨ (k = 8 ∧ j = 1)
  · have HR := Lib.hid (show bndB k n m j = [n] by rw [bndB, if_pos h1])
    rcases h1 with rfl | ⟨rfl, rfl⟩
    all_goals (
      go_enter Tryz.func149, Tryz.ntmps149
      go_wp2
      go_ret
      rw [HR.out]
      exact ⟨_, 1, rfl, HONE.out n, HB1.out.alloc HB1.out.size _⟩)
  by_cases h2 : k = 13 ∧ j = 2
  · have HR := Lib.hid (show bndB k n m j = [n, m] by rw [bndB, if_neg h1, if_pos h2])
    obtain ⟨rfl, rfl⟩ := h2
    clear h1
    go_enter Tryz.func149, Tryz.ntmps149
    go_wp2
    go_ret
    rw [HR.out]
    exact ⟨_, 2, rfl, HTWO.out, HB1.out.alloc HB1.out.size _⟩
  have HR := Lib.hid (show bndB k n m j = [] by rw [bndB, if_neg h1, if_neg h2])
  have t6 : (k == 6) = false := by simp; omega
  obtain ⟨b8, h8⟩ : ∃ b, (k == 8) = b := ⟨_, rfl⟩
  obtain ⟨b1, hj1⟩ : ∃ b, (j == 1) = b := ⟨_, rfl⟩
  obtain ⟨b13, h13⟩ : ∃ b, (k == 13) = b := ⟨_, rfl⟩
  obtain ⟨b2, hj2⟩ : ∃ b, (j == 2) = b := ⟨_, rfl⟩
  have hb : (b8 && b1) = false ∧ (b13 && b2) = false := by
    rw [← h8, ← hj1, ← h13, ← hj2]
    simp
    omega
  clear h1 h2
  cases b8 <;> cases b1 <;> cases b13 <;> cases b2
  all_goals first
    | (exfalso; simp at hb; done)
    | (clear hb
       go_enter Tryz.func149, Tryz.ntmps149
       go_wp2
       go_ret
       rw [HR.out]
       exact ⟨none, 0, rfl, SlS.nil _ _ _ _ (by unfold maxLen; omega), HB1.out⟩)
end Go.Proofs.YtacjjkbkhpdhnaaGreatDoor
/- bind.rebuild in plain words -/
namespace Go.Proofs.YtacjjkbkhpdhnaaGreatDoor
open Go
inductive Pt where
  | nil
  | cons (k : Int) (n m : ByteArray) (i d : Int) (s r : Pt)
namespace Pt
def len : Pt → Nat
  | .nil => 0
  | .cons _ _ _ _ _ _ r => r.len + 1
def app : Pt → Pt → Pt
  | .nil, t => t
  | .cons k n m i d s r, t => .cons k n m i d s (r.app t)
theorem app_nil : ∀ s : Pt, s.app .nil = s
  | .nil => rfl
  | .cons _ _ _ _ _ _ r => by rw [app, app_nil r]
theorem app_assoc : ∀ s t u : Pt, (s.app t).app u = s.app (t.app u)
  | .nil, _, _ => rfl
  | .cons _ _ _ _ _ _ r, t, u => by rw [app, app, app, app_assoc r t u]
end Pt
def Fo.pt : Fo → Pt
  | .nil => .nil
  | .cons k n m i d _ _ s r => .cons k n m i d s.pt r.pt
theorem Fo.pt_len : ∀ s : Fo, s.pt.len = s.len
  | .nil => rfl
  | .cons _ _ _ _ _ _ _ _ r => by rw [Fo.pt, Pt.len, Fo.len, Fo.pt_len r]
structure Nx where
  k : Int
  n : ByteArray
  m : ByteArray
  i : Int
  d : Int
abbrev Repl := Nx → List ByteArray → Int × Nx
def rebL (g : Repl) : Pt → Int → ByteArray → ByteArray → Nat → List ByteArray → Int × Pt
  | .nil, _, _, _, _, _ => (0, .nil)
  | .cons k n m i d s r, pk, pn, pm, j, sc =>
    let q := g ⟨k, n, m, i, d⟩ (sc ++ bndB pk pn pm j)
    if q.1 = 0 then
      let a := rebL g s k n m 0 (sc ++ bndB pk pn pm j)
      if a.1 = 0 then
        let b := rebL g r pk pn pm (j + 1) sc
        if b.1 = 0 then (0, .cons q.2.k q.2.n q.2.m q.2.i q.2.d a.2 b.2) else (b.1, .nil)
      else (a.1, .nil)
    else (q.1, .nil)
def rebN (g : Repl) (x : Nx) (s : Pt) (sc : List ByteArray) : Int × Nx × Pt :=
  let q := g x sc
  if q.1 = 0 then
    let a := rebL g s x.k x.n x.m 0 sc
    if a.1 = 0 then (0, q.2, a.2) else (a.1, ⟨0, ⟨#[]⟩, ⟨#[]⟩, 0, 0⟩, .nil)
  else (q.1, ⟨0, ⟨#[]⟩, ⟨#[]⟩, 0, 0⟩, .nil)
theorem rebL_cons (g : Repl) (k : Int) (n m : ByteArray) (i d : Int) (s r : Pt) (pk : Int) (pn pm : ByteArray) (j : Nat) (sc : List ByteArray) :
    rebL g (.cons k n m i d s r) pk pn pm j sc =
      let a := rebN g ⟨k, n, m, i, d⟩ s (sc ++ bndB pk pn pm j)
      if a.1 = 0 then
        let b := rebL g r pk pn pm (j + 1) sc
        if b.1 = 0 then (0, .cons a.2.1.k a.2.1.n a.2.1.m a.2.1.i a.2.1.d a.2.2 b.2) else (b.1, .nil)
      else (a.1, .nil) := by
  rw [rebL]
  simp only [rebN]
  split
  · split
    · rfl
    · rfl
  · rfl
end Go.Proofs.YtacjjkbkhpdhnaaGreatDoor
/- Forests in memory, all of whose blocks meet P -/
namespace Go.Proofs.YtacjjkbkhpdhnaaGreatDoor
open Go.RowKit Go.Proofs Go.Shelf
namespace Fo
def AtP (w : World) (P : Nat → Prop) : Fo → Nat → Nat → Prop
  | .nil, _, _ => True
  | .cons k n m i d A c s r, b, o =>
    w.cell? ⟨b, o, none⟩ = some (.int .i64 k) ∧ w.cell? ⟨b, o + 1, none⟩ = some (.string n) ∧ w.cell? ⟨b, o + 2, none⟩ = some (.string m) ∧
    w.cell? ⟨b, o + 3, none⟩ = some (.int .i64 i) ∧ w.cell? ⟨b, o + 4, none⟩ = some (.int .i64 d) ∧
    (w.cell? ⟨b, o + 5, none⟩ = some (.slice A s.len c) ∧ s.len ≤ c ∧ c ≤ maxLen ∧ (s ≠ .nil → ∃ b' o', A = some ⟨b', o', none⟩ ∧ P b' ∧ s.AtP w P b' o')) ∧
    r.AtP w P b (o + 6)
def SlP (w : World) (P : Nat → Prop) (A : Option Addr) (c : Nat) (s : Fo) : Prop :=
  s.len ≤ c ∧ c ≤ maxLen ∧ (s ≠ .nil → ∃ b' o', A = some ⟨b', o', none⟩ ∧ P b' ∧ s.AtP w P b' o')
def SubsP (w : World) (P : Nat → Prop) : Fo → Prop
  | .nil => True
  | .cons _ _ _ _ _ A c s r => s.SlP w P A c ∧ r.SubsP w P
theorem AtP.keep {w w' : World} {P P' : Nat → Prop} (hP : ∀ k, P k → P' k) (hk : ∀ p : Addr, P p.block → w'.cell? p = w.cell? p) : ∀ {s : Fo} {b o : Nat}, P b → s.AtP w P b o → s.AtP w' P' b o
  | .nil, _, _, _, _ => trivial
  | .cons _ _ _ _ _ _ _ s r, b, o, hb, h => by
    obtain ⟨h0, h1, h2, h3, h4, ⟨h5, hc, hm, hs⟩, hr⟩ := h
    refine ⟨(hk _ hb).trans h0, (hk _ hb).trans h1, (hk _ hb).trans h2, (hk _ hb).trans h3, (hk _ hb).trans h4, ⟨(hk _ hb).trans h5, hc, hm, fun hne => ?_⟩, AtP.keep hP hk hb hr⟩
    obtain ⟨b', o', e, hb', hs'⟩ := hs hne
    exact ⟨b', o', e, hP _ hb', AtP.keep hP hk hb' hs'⟩
theorem SlP.keep {w w' : World} {P P' : Nat → Prop} {A : Option Addr} {c : Nat} {s : Fo} (h : SlP w P A c s) (hP : ∀ k, P k → P' k) (hk : ∀ p : Addr, P p.block → w'.cell? p = w.cell? p) : SlP w' P' A c s :=
  ⟨h.1, h.2.1, fun hne => by
    obtain ⟨b', o', e, hb', hs'⟩ := h.2.2 hne
    exact ⟨b', o', e, hP _ hb', hs'.keep hP hk hb'⟩⟩
theorem SubsP.keep {w w' : World} {P P' : Nat → Prop} (hP : ∀ k, P k → P' k) (hk : ∀ p : Addr, P p.block → w'.cell? p = w.cell? p) : ∀ {f : Fo}, f.SubsP w P → f.SubsP w' P'
  | .nil, _ => trivial
  | .cons _ _ _ _ _ _ _ _ _, ⟨h1, h2⟩ => ⟨h1.keep hP hk, SubsP.keep hP hk h2⟩
theorem SubsP.app {w : World} {P : Nat → Prop} {g : Fo} (hg : g.SubsP w P) : ∀ {f : Fo}, f.SubsP w P → (f.app g).SubsP w P
  | .nil, _ => hg
  | .cons _ _ _ _ _ _ _ _ _, ⟨h1, h2⟩ => ⟨h1, SubsP.app hg h2⟩
theorem AtP.at_ {w : World} {P : Nat → Prop} {B : Nat} (hP : ∀ k, P k → k < B) : ∀ {s : Fo} {b o : Nat}, s.AtP w P b o → s.At w B b o
  | .nil, _, _, _ => trivial
  | .cons _ _ _ _ _ _ _ s r, b, o, h => by
    obtain ⟨h0, h1, h2, h3, h4, ⟨h5, hc, hm, hs⟩, hr⟩ := h
    refine ⟨h0, h1, h2, h3, h4, ⟨h5, hc, hm, fun hne => ?_⟩, AtP.at_ hP hr⟩
    obtain ⟨b', o', e, hb', hs'⟩ := hs hne
    exact ⟨b', o', e, hP _ hb', AtP.at_ hP hs'⟩
theorem SlP.sl {w : World} {P : Nat → Prop} {B : Nat} (hP : ∀ k, P k → k < B) {A : Option Addr} {c : Nat} {s : Fo} (h : SlP w P A c s) : s.Sl w B A c :=
  ⟨h.1, h.2.1, fun hne => by
    obtain ⟨b', o', e, hb', hs'⟩ := h.2.2 hne
    exact ⟨b', o', e, hP _ hb', hs'.at_ hP⟩⟩
theorem AtP.of_cells {w : World} {P : Nat → Prop} : ∀ {f : Fo} {b o : Nat}, (∀ j u, f.cells[j]? = some u → w.cell? ⟨b, o + j, none⟩ = some u) → f.SubsP w P → f.AtP w P b o
  | .nil, _, _, _, _ => trivial
  | .cons _ _ _ _ _ _ _ _ r, b, o, h, ⟨h1, h2⟩ => by
    refine ⟨by simpa [Fo.cells] using h 0 _ rfl, h 1 _ rfl, h 2 _ rfl, h 3 _ rfl, h 4 _ rfl, ⟨h 5 _ rfl, h1⟩, AtP.of_cells (fun j u hj => ?_) h2⟩
    have := h (6 + j) u (by rw [Fo.cells, List.getElem?_append_right (by simp)]; simpa using hj)
    rwa [show o + 6 + j = o + (6 + j) by omega]
theorem pt_app (g : Fo) : ∀ f : Fo, (f.app g).pt = f.pt.app g.pt
  | .nil => rfl
  | .cons _ _ _ _ _ _ _ _ r => by rw [Fo.app, Fo.pt, Fo.pt, Pt.app, pt_app g r]
end Fo
end Go.Proofs.YtacjjkbkhpdhnaaGreatDoor
/- maps.Clone at map[string]bool -/
namespace Go.Proofs.YtacjjkbkhpdhnaaGreatDoor
open Go.RowKit Go.Proofs Go.Shelf

theorem SetK.clone {w : World} {kT : TypeId} {b : Nat} {L : List Lit} (h : SetK w kT b L) : ∃ es cl, w.heap[b]? = some (.map es cl) ∧ SetK (w.alloc (.map es cl)) kT w.heap.size L := by
  obtain ⟨n, D, ⟨es, cl, hb, r⟩, h2⟩ := h
  exact ⟨es, cl, hb, n, D, ⟨es, cl, heap_alloc_new w _, r⟩, h2⟩

set_option maxRecDepth 100000 in
set_option maxHeartbeats 2000000 in
theorem mapsClone_any (b : Nat) (L : List Lit) (w : World) (h : SetK w 9 b L) :
    Calls Tryz.prog 150 #[.map (some b)] w fun e w' => e = .returned (.map (some w.heap.size)) ∧ SetK w' 9 w.heap.size L ∧ Below w.heap.size w w' := by
  obtain ⟨es, cl, hb, hs⟩ := h.clone
  have HS := Lib.hid (And.intro hs ((Below.refl w.heap.size w).alloc (Nat.le_refl _) (.map es cl)))
  have hq := fun w => run_eql_map_nil_sl (P := Tryz.prog) w 89 _ _ (some b) Tryz.underlying89
  clear hs h
  go_enter Tryz.func150, Tryz.ntmps150
  go_wp2
  rw [run_callFunc_extern Tryz.func175 (by kernel_rfl) (by kernel_rfl) (by kernel_rfl) (e := Extern.MapsClone.clone) (by kernel_rfl), run_maps_clone_sl w 89 hb]
  simp only [Result.andThen]
  rw [Oper.upon_value]
  go_wp2
  rw [run_typeAssert_map_sl _ 89 _ _ _ _ Tryz.underlying89]
  simp only [Result.andThen]
  rw [Oper.upon_value]
  go_wp2
  go_ret
  exact ⟨rfl, HS.out.1, HS.out.2⟩
end Go.Proofs.YtacjjkbkhpdhnaaGreatDoor
/- bind.rebuild: its memory -/
namespace Go.Proofs.YtacjjkbkhpdhnaaGreatDoor
open Go.RowKit Go.Proofs Go.Shelf
theorem own_formR {X : World} {base : Nat} {e : TypeId} {size : Nat} {v : Value} {n : Nat} {xs : List Value} (h : X.ownsRow base e size v n xs) : ∃ A c, v = .slice A n c := by
  rcases h.2 with ⟨h1, h2⟩ | ⟨g, cap, cur, h1, _⟩
  · exact ⟨none, 0, by rw [h1, h2]⟩
  · exact ⟨_, _, h1⟩
theorem own_posR {X : World} {base : Nat} {e : TypeId} {size : Nat} {v : Value} {n : Nat} {xs : List Value} (h : X.ownsRow base e size v n xs) (hn : 0 < n) : ∃ g c, v = .slice (some ⟨g, 0, none⟩) n c ∧ n ≤ c ∧ c ≤ 9223372036854775807 := by
  rcases h.2 with ⟨_, h0⟩ | ⟨g, cap, cur, h1, _, _, hle, hmx, _⟩
  · omega
  · unfold maxLen at hmx; exact ⟨g, cap, h1, hle, hmx⟩
theorem Fo.SlP.of_row {X : World} {base : Nat} {v : Value} {st : Fo} {P P' : Nat → Prop} (h : X.ownsRow base 28 6 v st.len st.cells) (hs : st.SubsP X P) (hP : ∀ k, P k → P' k) (hown : ∀ g, v.ownBlock = some g → P' g) :
    ∃ A c, v = .slice A st.len c ∧ st.SlP X P' A c := by
  by_cases h0 : st.len = 0
  · obtain ⟨A, c, rfl⟩ := own_formR h
    have hc : st.len ≤ c ∧ c ≤ maxLen := by
      rcases h.2 with ⟨e, _⟩ | ⟨g, cap, cur, e, _, _, h1, h2, _⟩
      · simp only [Value.slice.injEq] at e
        unfold maxLen
        omega
      · simp only [Value.slice.injEq] at e
        omega
    refine ⟨A, c, rfl, hc.1, hc.2, fun hne => ?_⟩
    cases st with
    | nil => exact absurd rfl hne
    | cons => simp [Fo.len] at h0
  · obtain ⟨g, c, rfl, hc1, hc2⟩ := own_posR h (by omega)
    refine ⟨_, c, rfl, hc1, by unfold maxLen; omega, fun _ => ⟨g, 0, rfl, hown g rfl, ?_⟩⟩
    refine Fo.AtP.of_cells (fun j u hj => ?_) (hs.keep hP fun _ _ => rfl)
    have hjl : j < st.cells.length := (List.getElem?_eq_some_iff.1 hj).1
    rw [Fo.cells_length] at hjl
    rw [Nat.zero_add]
    exact (h.cellAt j (by omega)).trans hj
theorem row_keepE {B : Nat} {e : TypeId} {size : Nat} {X Y : World} {v : Value} {n : Nat} {xs : List Value} (h : X.ownsRow B e size v n xs) (hk : ∀ (k : Nat) (cur : Array Value) (fz : Nat × Nat), B ≤ k → X.heap[k]? = some (.cells cur e fz) → Y.heap[k]? = X.heap[k]?) : Y.ownsRow B e size v n xs := by
  refine ⟨h.1, ?_⟩
  rcases h.2 with h | ⟨g, cap, cur, h1, h2, h3, h4⟩
  · exact .inl h
  · exact .inr ⟨g, cap, cur, h1, h2, (hk g _ _ h2 h3).trans h3, h4⟩
structure RBd (w0 : World) (B : Nat) (old : Array Value) (k : Int) (n m : ByteArray) (i d : Int) (v : Value) (st : Fo) (X : World) : Prop where
  bx : X.heap[w0.heap.size]? = some (.cells old 28 (0, 0))
  rs : X.heap[w0.heap.size + 1]? = some (.cells #[.int .i64 0, .string ⟨#[]⟩, .string ⟨#[]⟩, .int .i64 0, .int .i64 0, .slice none 0 0] 28 (0, 0))
  nb : X.heap[B]? = some (.cells #[.int .i64 k, .string n, .string m, .int .i64 i, .int .i64 d, v] 28 (0, 0))
  hB : w0.heap.size + 1 < B
  own : X.ownsRow (B + 1) 28 6 v st.len st.cells
  sub : st.SubsP X (fun q => B < q ∧ q < X.heap.size ∧ v.ownBlock ≠ some q)
  bw : Below w0.heap.size w0 X
section
variable {w0 : World} {B : Nat} {old : Array Value} {k : Int} {n m : ByteArray} {i d : Int} {v : Value} {st : Fo} {X : World}
theorem RBd.keep (h : RBd w0 B old k n m i d v st X) {Y : World} (hb : Below X.heap.size X Y) : RBd w0 B old k n m i d v st Y :=
  ⟨(hb.block _ (lt_of_block h.bx)).trans h.bx, (hb.block _ (lt_of_block h.rs)).trans h.rs, (hb.block _ (lt_of_block h.nb)).trans h.nb, h.hB, row_keepE h.own fun _ _ _ _ hc => hb.block _ (lt_of_block hc),
    Fo.SubsP.keep (fun _ hq => ⟨hq.1, Nat.lt_of_lt_of_le hq.2.1 hb.size, hq.2.2⟩) (fun _ hp => hb.cell hp.2.1) h.sub, h.bw.trans (hb.mono h.bw.size)⟩
theorem RBd.push (h : RBd w0 B old k n m i d v st X) {Y : World} (hg : X.grownBy Y v.ownBlock) {v' : Value} {pk : Int} {pn pm : ByteArray} {pi pd : Int} {A : Option Addr} {c : Nat} {s : Fo}
    (hs : s.SlP X (fun q => B < q ∧ q < X.heap.size ∧ v.ownBlock ≠ some q) A c)
    (hown : Y.ownsRow (B + 1) 28 6 v' (st.len + 1) (st.cells ++ [.int .i64 pk, .string pn, .string pm, .int .i64 pi, .int .i64 pd, .slice A s.len c]))
    (hat : v'.ownBlock = v.ownBlock ∨ v'.ownBlock = some X.heap.size) :
    RBd w0 B old k n m i d v' (st.app (.cons pk pn pm pi pd A c s .nil)) (Y.setCell ⟨B, 5, none⟩ v') := by
  have hB := h.hB
  have hlo : ∀ q, q ≤ B → some q ≠ v.ownBlock := fun q hq e => by have := (World.ownsRow.lt h.own q e.symm).1; omega
  have hlt := lt_of_block h.nb
  have hkeep : ∀ q, q < B → (Y.setCell ⟨B, 5, none⟩ v').heap[q]? = X.heap[q]? := fun q hq => (Below.heap_setCell _ _ _ _ (by simp <;> omega)).trans (hg.block q (by omega) (hlo q (by omega)))
  have hnbY : Y.heap[B]? = _ := (hg.block B hlt (hlo B (Nat.le_refl _))).trans h.nb
  have hcell : ∀ p : Addr, (B < p.block ∧ p.block < X.heap.size ∧ v.ownBlock ≠ some p.block) → (Y.setCell ⟨B, 5, none⟩ v').cell? p = X.cell? p := fun p hp =>
    World.cell?_of_block ((Below.heap_setCell _ _ _ _ (by have := hp.1; simp <;> omega)).trans (hg.block p.block hp.2.1 (fun e => hp.2.2 e.symm)))
  have hP : ∀ q, (B < q ∧ q < X.heap.size ∧ v.ownBlock ≠ some q) → (B < q ∧ q < (Y.setCell ⟨B, 5, none⟩ v').heap.size ∧ v'.ownBlock ≠ some q) := fun q hq => by
    have h1 := hg.size
    refine ⟨hq.1, by simp [World.setCell] at h1 ⊢; omega, fun e => ?_⟩
    rcases hat with h2 | h2
    · exact hq.2.2 (h2.symm.trans e)
    · rw [h2] at e
      have := Option.some.inj e
      omega
  refine ⟨(hkeep _ (by omega)).trans h.bx, (hkeep _ (by omega)).trans h.rs, by simp [World.setCell, Array.getElem?_modify, hnbY], hB, ?_, ?_, ⟨hg.os.trans h.bw.os, hg.tape.trans h.bw.tape, hg.output.trans h.bw.output, ?_, fun q hq => (hkeep q (by omega)).trans (h.bw.block q hq)⟩⟩
  · rw [Fo.len_app, Fo.cells_app]
    refine ownsRow_setCell_other (by simpa [Fo.len, Fo.cells] using hown) (fun e => ?_) _
    have := (World.ownsRow.lt hown B e).1
    omega
  · have h1 := hs.keep hP hcell
    exact Fo.SubsP.app (g := .cons pk pn pm pi pd A c s .nil) ⟨h1, trivial⟩ (h.sub.keep hP hcell)
  · have h1 := hg.size
    have h2 := h.bw.size
    simp [World.setCell] at h1 ⊢
    omega
end
end Go.Proofs.YtacjjkbkhpdhnaaGreatDoor
