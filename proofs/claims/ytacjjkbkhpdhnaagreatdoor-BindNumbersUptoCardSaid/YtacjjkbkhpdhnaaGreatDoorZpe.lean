/- Interfaces in memory; interfaces and signatures in plain words -/
import Derived.Test.YtacjjkbkhpdhnaaGreatDoorZlj
import Derived.Test.YtacjjkbkhpdhnaaGreatDoorZlf
import Derived.Test.YtacjjkbkhpdhnaaGreatDoorZlp
import Derived.Deep.DeepCutAuto
import Derived.Deep.QuietTactic
import Derived.BigQuiet
import Derived.Test.YtacjjkbkhpdhnaaGreatDoorZpc
namespace Go.Proofs.YtacjjkbkhpdhnaaGreatDoor
open Go.RowKit Go.Proofs Go.Shelf
structure Sg where
  id : Int
  name : ByteArray
  vars : Int
  kind : Int
  var : Int
  tA : Option Addr
  tn : Nat
  tc : Nat
def Sg.cells (x : Sg) : Array Value := #[.int .i64 x.id, .string x.name, .int .i64 x.vars, .int .i64 x.kind, .int .i64 x.var, .slice x.tA x.tn x.tc]
def SlG (w : World) (B : Nat) (A : Option Addr) (c : Nat) (l : List Sg) : Prop :=
  l.length ≤ c ∧ c ≤ maxLen ∧ (l ≠ [] → ∃ b o, A = some ⟨b, o, none⟩ ∧ b < B ∧ ∀ j x, l[j]? = some x → ∀ q v, x.cells[q]? = some v → w.cell? ⟨b, o + j * 6 + q, none⟩ = some v)
theorem SlG.keep {w w' : World} {B B' : Nat} {A : Option Addr} {c : Nat} {l : List Sg} (h : SlG w B A c l) (hB : B ≤ B') (hk : ∀ p : Addr, p.block < B → w'.cell? p = w.cell? p) : SlG w' B' A c l :=
  ⟨h.1, h.2.1, fun hne => by
    obtain ⟨b, o, e, hb, hs⟩ := h.2.2 hne
    exact ⟨b, o, e, Nat.lt_of_lt_of_le hb hB, fun j x hj q v hq => (hk _ hb).trans (hs j x hj q v hq)⟩⟩
theorem SlG.nil (w : World) (B : Nat) (A : Option Addr) (c : Nat) (hc : c ≤ maxLen) : SlG w B A c [] := ⟨Nat.zero_le _, hc, fun h => absurd rfl h⟩
theorem SlG.at_ {w : World} {B : Nat} {A : Option Addr} {c : Nat} {l : List Sg} (h : SlG w B A c l) {j : Nat} {x : Sg} (hx : l[j]? = some x) : ∃ b o, A = some ⟨b, o, none⟩ ∧ b < B ∧
    w.cell? ⟨b, o + j * 6, none⟩ = some (.int .i64 x.id) ∧ w.cell? ⟨b, o + j * 6 + 1, none⟩ = some (.string x.name) ∧ w.cell? ⟨b, o + j * 6 + 2, none⟩ = some (.int .i64 x.vars) ∧ w.cell? ⟨b, o + j * 6 + 3, none⟩ = some (.int .i64 x.kind) ∧
    w.cell? ⟨b, o + j * 6 + 4, none⟩ = some (.int .i64 x.var) ∧ w.cell? ⟨b, o + j * 6 + 5, none⟩ = some (.slice x.tA x.tn x.tc) := by
  obtain ⟨b, o, e, hB, hall⟩ := h.2.2 (by intro e; subst e; simp at hx)
  have hcs := hall j x hx
  exact ⟨b, o, e, hB, hcs 0 _ rfl, hcs 1 _ rfl, hcs 2 _ rfl, hcs 3 _ rfl, hcs 4 _ rfl, hcs 5 _ rfl⟩
structure If where
  label : ByteArray
  sA : Option Addr
  sc : Nat
  sigs : List Sg
def If.cells (x : If) : Array Value := #[.string x.label, .slice x.sA x.sigs.length x.sc]
def SlI (w : World) (B : Nat) (A : Option Addr) (c : Nat) (l : List If) : Prop :=
  l.length ≤ c ∧ c ≤ maxLen ∧ (l ≠ [] → ∃ b o, A = some ⟨b, o, none⟩ ∧ b < B ∧ ∀ j x, l[j]? = some x → (∀ q v, x.cells[q]? = some v → w.cell? ⟨b, o + j * 2 + q, none⟩ = some v) ∧ SlG w B x.sA x.sc x.sigs)
theorem SlI.keep {w w' : World} {B B' : Nat} {A : Option Addr} {c : Nat} {l : List If} (h : SlI w B A c l) (hB : B ≤ B') (hk : ∀ p : Addr, p.block < B → w'.cell? p = w.cell? p) : SlI w' B' A c l :=
  ⟨h.1, h.2.1, fun hne => by
    obtain ⟨b, o, e, hb, hs⟩ := h.2.2 hne
    exact ⟨b, o, e, Nat.lt_of_lt_of_le hb hB, fun j x hj => ⟨fun q v hq => (hk _ hb).trans ((hs j x hj).1 q v hq), (hs j x hj).2.keep hB hk⟩⟩⟩
theorem SlI.below {w X : World} {A : Option Addr} {c : Nat} {l : List If} (h : SlI w w.heap.size A c l) (hb : Below w.heap.size w X) : SlI X X.heap.size A c l := h.keep hb.size fun _ hp => hb.cell hp
theorem SlI.at_ {w : World} {B : Nat} {A : Option Addr} {c : Nat} {l : List If} (h : SlI w B A c l) {j : Nat} {x : If} (hx : l[j]? = some x) : ∃ b o, A = some ⟨b, o, none⟩ ∧ b < B ∧
    w.cell? ⟨b, o + j * 2, none⟩ = some (.string x.label) ∧ w.cell? ⟨b, o + j * 2 + 1, none⟩ = some (.slice x.sA x.sigs.length x.sc) ∧ SlG w B x.sA x.sc x.sigs := by
  obtain ⟨b, o, e, hB, hall⟩ := h.2.2 (by intro e; subst e; simp at hx)
  obtain ⟨hcs, hs⟩ := hall j x hx
  exact ⟨b, o, e, hB, hcs 0 _ rfl, hcs 1 _ rfl, hs⟩
def faceO (known : List If) (label : ByteArray) : Option If := known.find? fun x => decide (x.label = label)
def sgB (s : Sg) : Bool := decide (1 ≤ s.id) && (decide (s.id ≤ 999999) && nameB s.name)
def sigO (l : List Sg) (p : Sg → Bool) : Option Sg := l.find? fun s => sgB s && p s
def noIf : If := ⟨⟨#[]⟩, none, 0, []⟩
def sigsOf (known : List If) (label : ByteArray) : List Sg := ((faceO known label).getD noIf).sigs
theorem faceO_drop {known : List If} {label : ByteArray} {j : Nat} {x : If} (hx : known[j]? = some x) : faceO (known.drop j) label = if x.label = label then some x else faceO (known.drop (j + 1)) label := by
  obtain ⟨hlt, rfl⟩ := List.getElem?_eq_some_iff.1 hx
  rw [List.drop_eq_getElem_cons hlt]
  unfold faceO
  rw [List.find?_cons]
  by_cases h : known[j].label = label
  · rw [if_pos h, decide_eq_true h]
  · rw [if_neg h, decide_eq_false h]
theorem sigO_drop {l : List Sg} {p : Sg → Bool} {j : Nat} {x : Sg} (hx : l[j]? = some x) : sigO (l.drop j) p = if (sgB x && p x) = true then some x else sigO (l.drop (j + 1)) p := by
  obtain ⟨hlt, rfl⟩ := List.getElem?_eq_some_iff.1 hx
  rw [List.drop_eq_getElem_cons hlt]
  unfold sigO
  rw [List.find?_cons]
  cases h : (sgB l[j] && p l[j]) <;> simp
end Go.Proofs.YtacjjkbkhpdhnaaGreatDoor
/- syntax.hasRef -/
namespace Go.Proofs.YtacjjkbkhpdhnaaGreatDoor
open Go.RowKit Go.Proofs Go.Shelf

attribute [local go_sem] Oper.semAt_some wide_fn wide_depth

theorem any_of {l pre : List Nd} {x : Nd} (h : pre ++ [x] <+: l) (hx : (x.k == 5) = true) : (l.any fun y => y.k == 5) = true := by
  obtain ⟨r, rfl⟩ := h
  simp [hx]
theorem any_no {l : List Nd} (h : ∀ x ∈ l, (x.k == 5) = false) : (l.any fun y => y.k == 5) = false := by
  rw [List.any_eq_false]
  intro x hx
  rw [h x hx]
  simp
set_option maxRecDepth 100000 in
set_option maxHeartbeats 2000000 in
theorem hasRef_any (k : Int) (n m : ByteArray) (i d : Int) (A : Option Addr) (c : Nat) (s : Fo) (w : World) (hs : s.Sl w w.heap.size A c) (hdp : ∀ x ∈ (⟨1, k, n, m, i, d, A, s.len, c⟩ :: s.pre 2 : List Nd), x.dep ≤ 1000) :
    Calls Tryz.prog 122 #[.agg #[.int .i64 k, .string n, .string m, .int .i64 i, .int .i64 d, .slice A s.len c]] w fun e w' =>
      e = .returned (.bool ((⟨1, k, n, m, i, d, A, s.len, c⟩ :: s.pre 2 : List Nd).any fun x => x.k == 5)) ∧ Below w.heap.size w w' := by
  have HS := Lib.hid hs
  clear hs
  obtain ⟨L, HL⟩ : ∃ L, Hid ((⟨1, k, n, m, i, d, A, s.len, c⟩ :: s.pre 2 : List Nd) = L) := ⟨_, rfl⟩
  rw [HL.out] at hdp ⊢
  refine (callsIn_wide (n := 0)).1 ?_
  refine callsIn_of_wp_marks Tryz.func122 rfl trivial ?_ rfl
  simp only [Tryz.ntmps122, List.size_toArray, List.length_cons, List.length_nil, Nat.reduceAdd, Nat.reduceSub, Array.replicate_succ, Array.replicate_zero, List.push_toArray, List.append_toArray, List.nil_append, List.cons_append]
  gi_wp2_with (gi_at_call 130; refine (callsIn_wide.2 (nodes_fn _ _ _ _ _ _ _)).mono ?_; rintro e w' ⟨rfl, rfl⟩)
  obtain ⟨W0, hW0⟩ : ∃ W0, ((w.alloc (.cells #[.int .i64 k, .string n, .string m, .int .i64 i, .int .i64 d, .slice A s.len c] 28)).alloc (.cells #[.bool false] 4)).alloc (.cells #[.int .i64 k, .string n, .string m, .int .i64 i, .int .i64 d, .slice A s.len c] 28) = W0 := ⟨_, rfl⟩
  have z0 : W0.heap.size = w.heap.size + 3 := by subst hW0; simp
  have q0 : W0.cell? ⟨w.heap.size + 1, 0, none⟩ = some (.bool false) := by subst hW0; go_simp
  have qf : W0.frozen? ⟨w.heap.size + 1, 0, none⟩ = false := by subst hW0; go_simp
  have b0 : W0.cell? ⟨w.heap.size + 1 + 1, 0, none⟩ = some (.int .i64 k) := by subst hW0; go_simp
  have b1 : W0.cell? ⟨w.heap.size + 1 + 1, 1, none⟩ = some (.string n) := by subst hW0; go_simp
  have b2 : W0.cell? ⟨w.heap.size + 1 + 1, 2, none⟩ = some (.string m) := by subst hW0; go_simp
  have b3 : W0.cell? ⟨w.heap.size + 1 + 1, 3, none⟩ = some (.int .i64 i) := by subst hW0; go_simp
  have b4 : W0.cell? ⟨w.heap.size + 1 + 1, 4, none⟩ = some (.int .i64 d) := by subst hW0; go_simp
  have b5 : W0.cell? ⟨w.heap.size + 1 + 1, 5, none⟩ = some (.slice A s.len c) := by subst hW0; go_simp
  have hB0 : Below w.heap.size w W0 := by rw [← hW0]; exact (((Below.refl _ _).alloc (Nat.le_refl _) _).alloc (by simp) _).alloc (by simp; omega) _
  rw [hW0]
  clear hW0
  have hS0 : s.Sl W0 w.heap.size A c := HS.out.below hB0
  have hit := nodes1_iter (w.heap.size + 1 + 1) w.heap.size k n m i d A c s W0 b0 b1 b2 b3 b4 b5 hS0 (by omega)
  rw [HL.out] at hit
  refine wpIn_rangeA (P := Tryz.prog) (w0 := W0) (gf := 163) rfl (fun args w => Tryz.call163 args w) hit (Keeps.refl _ _) (fun _ => rfl) (by omega) (by rintro k rfl; omega)
    (fun pre X => X.cell? ⟨w.heap.size + 1, 0, none⟩ = some (.bool false) ∧ X.frozen? ⟨w.heap.size + 1, 0, none⟩ = false ∧ (∀ x ∈ pre, (x.k == 5) = false) ∧ (∀ x ∈ pre, x.dep ≤ 1000) ∧ Below w.heap.size w X)
    (fun c pre X => c = .ret ∧ X.cell? ⟨w.heap.size + 1, 0, none⟩ = some (.bool true) ∧ (L.any fun x => x.k == 5) = true ∧ Below w.heap.size w X)
    ?told3 ?told4 (fun pre X h x hx => h.2.2.2.1 x hx) ⟨q0, qf, by simp, by simp, hB0⟩
    (fun x a' X => ∃ bx, W0.heap.size + 2 ≤ bx ∧ X.heap[bx]? = some (.cells #[.int .i64 x.k, .string x.n, .string x.m, .int .i64 x.i, .int .i64 x.d, .slice x.A x.len x.c] 28 (0, 0)) ∧ a' = { tmps := #[.agg #[.int .i64 k, .string n, .string m, .int .i64 i, .int .i64 d, .slice A s.len c], .pointer (some ⟨w.heap.size, 0, none⟩), .pointer (some ⟨w.heap.size + 1, 0, none⟩), undef, .pointer (some ⟨bx, 0, none⟩), .agg #[.int .i64 k, .string n, .string m, .int .i64 i, .int .i64 d, .slice A s.len c], .func (.func 163) #[] #[.pointer (some ⟨w.heap.size + 1 + 1, 0, none⟩)], .int .i64 x.dep, .agg #[.int .i64 x.k, .string x.n, .string x.m, .int .i64 x.i, .int .i64 x.d, .slice x.A x.len x.c], undef, undef, undef], defers := [] })
    ?tax ?assign2 ?body2 ?done2 ?stop2
  case told3 =>
    intro pre X Y ⟨h1, h2, h3, h4, h5⟩ hk
    have hl : w.heap.size + 1 < X.heap.size := World.block_lt_of_cell? X ⟨w.heap.size + 1, 0, none⟩ h1
    exact ⟨hk.cell (p := ⟨w.heap.size + 1, 0, none⟩) ⟨by simp; omega, by simp⟩ h1, (hk.frozen (p := ⟨w.heap.size + 1, 0, none⟩) hl ⟨by simp; omega, by simp⟩).trans h2, h3, h4,
      h5.trans (hk.to_below (by omega) fun k hk => ⟨by omega, by omega⟩)⟩
  case told4 =>
    intro c pre X Y ⟨h0, h1, h5, h6⟩ hk
    have hl : w.heap.size + 1 < X.heap.size := World.block_lt_of_cell? X ⟨w.heap.size + 1, 0, none⟩ h1
    exact ⟨h0, hk.cell (p := ⟨w.heap.size + 1, 0, none⟩) ⟨by simp; omega, by simp⟩ h1, h5, h6.trans (hk.to_below (by omega) fun k hk => ⟨by omega, by omega⟩)⟩
  case tax =>
    rintro x a' X Y ⟨bx, h1, h2, h3⟩ hk
    exact ⟨bx, h1, (hk.block bx (Array.getElem?_eq_some_iff.1 h2).1 ⟨by omega, by omega⟩).trans h2, h3⟩
  case assign2 =>
    rintro l pre x X K hpre ⟨h1, h2, h3, h4, h5⟩ hsz hK
    have hl : w.heap.size + 1 < X.heap.size := World.block_lt_of_cell? X ⟨w.heap.size + 1, 0, none⟩ h1
    have HK := Lib.hid hK
    clear hK
    simp only [Nd.encs]
    gi_wp2
    refine HK.out _ _ ((Keeps.refl _ _).alloc _) ⟨?_, ?_, h3, h4, h5.alloc (by omega) _⟩ ⟨X.heap.size, by omega, World.alloc_heap_new X _, rfl⟩
    · exact (World.cell?_alloc_lt X _ ⟨w.heap.size + 1, 0, none⟩ hl).trans h1
    · exact (World.frozen?_of_block (Below.heap_alloc X _ _ hl)).trans h2
  case body2 =>
    rintro l pre x a' X hpre ⟨h1, h2, h3, h4, h5⟩ ⟨bx, g1, g2, rfl⟩ hsz
    have x0 : X.cell? ⟨bx, 0, none⟩ = some (.int .i64 x.k) := cell_of_row X bx 0 _ _ (0, 0) g2
    have hdep : x.dep ≤ 1000 := hdp x (by obtain ⟨r, hr⟩ := hpre; rw [← hr]; simp)
    have HX := Lib.hid (And.intro hpre (And.intro h3 (And.intro h4 (And.intro h5 hdep))))
    clear hit b0 b1 b2 b3 b4 b5 q0 qf hB0 hS0 hpre h3 h4 h5 g2 hdep hdp
    cases he : (x.k == 5) with
    | false =>
      have HE := Lib.hid he
      gi_wp2
      refine ⟨Keeps.refl _ _, h1, h2, ?_, ?_, HX.out.2.2.2.1⟩
      · intro y hy
        rcases List.mem_append.1 hy with hy | hy
        · exact HX.out.2.1 y hy
        · simp only [List.mem_singleton] at hy; subst hy; exact HE.out
      · intro y hy
        rcases List.mem_append.1 hy with hy | hy
        · exact HX.out.2.2.1 y hy
        · simp only [List.mem_singleton] at hy; subst hy; exact HX.out.2.2.2.2
    | true =>
      have HE := Lib.hid (any_of HX.out.1 he)
      gi_wp2
      refine ⟨(Keeps.refl _ _).setCell (by simp; omega) _, rfl, ?_, HE.out, HX.out.2.2.2.1.setCell (by simp) _⟩
      rw [World.cell?_setCell_same' _ _ _ (by rw [h1]; rfl)]
  case done2 =>
    rintro D X hD ⟨h1, h2, h3, h4, h5⟩ hK
    have H3 := Lib.hid (any_no h3)
    clear h3 h4 hit b0 b1 b2 b3 b4 b5 q0 qf hB0 hS0 hdp
    gi_wp2
    have hs : (X.setCell ⟨w.heap.size + 1, 0, none⟩ (.bool false)).cell? ⟨w.heap.size + 1, 0, none⟩ = some (.bool false) := World.cell?_setCell_same' _ _ _ (by rw [h1]; rfl)
    have hK' : (X.setCell ⟨w.heap.size + 1, 0, none⟩ (.bool false)).heap[D]? = some (.deferred (some [])) := (Below.heap_setCell _ _ _ _ (by simp; omega)).trans hK
    have hc := cell_putObj (o' := .deferred none) hK' rfl hs
    refine ret_mark (v := .bool false) hK' ?_ ⟨by rw [H3.out], below_putObj (h5.setCell (by simp) _) (by omega) _⟩
    simp [results, Tryz.results122, go_sem, hc]
  case stop2 =>
    rintro D c' pre X hD hpre ⟨rfl, h1, h5, h6⟩ hK
    have H5 := Lib.hid h5
    clear hit b0 b1 b2 b3 b4 b5 q0 qf hB0 hS0 h5 hdp
    gi_wp2
    have hc := cell_putObj (o' := .deferred none) hK rfl h1
    refine ret_mark (v := .bool true) hK ?_ ⟨by rw [H5.out], below_putObj h6 (by omega) _⟩
    simp [results, Tryz.results122, go_sem, hc]
end Go.Proofs.YtacjjkbkhpdhnaaGreatDoor
/- syntax.checkDeclNames, checkDecl -/
namespace Go.Proofs.YtacjjkbkhpdhnaaGreatDoor
open Go.RowKit Go.Proofs Go.Shelf
set_option maxHeartbeats 1000000 in
theorem sCheckDeclNames_any (l : List ByteArray) (A : Option Addr) (c : Nat) (w : World) (hs : SlS w w.heap.size A c l) :
    Calls Tryz.prog 121 #[.slice A l.length c] w fun e w' => e = .returned (.int .i64 (dnE l)) ∧ Below w.heap.size w w' := by
  have hc1 := hs.1
  have hc2 := hs.2.1
  unfold maxLen at hc2
  obtain ⟨E, HE⟩ : ∃ E, Hid (E = dnE l) := ⟨_, rfl⟩
  rw [← HE.out]
  by_cases h1 : l.length = 1 ∨ l.length = 3
  · have HE1 := Lib.hid (HE.out.trans (show dnE l = if l.all (dnB l.length) = true then 0 else 6 by unfold dnE; rw [if_neg (by omega)]))
    obtain ⟨n, hn⟩ : ∃ n, l.length = n := ⟨_, rfl⟩
    rw [hn] at h1 hc1 ⊢
    have HE2 := Lib.hid (show E = if l.all (dnB n) = true then 0 else 6 by rw [HE1.out, hn])
    clear HE HE1
    have go : (n = 1 ∨ n = 3) → ∀ (bq : Bool), ((n : Int) == 1) = bq → ((n : Int) == 3) = !bq → ((n : Int) != 1) = !bq → ((n : Int) != 3) = bq →
        Calls Tryz.prog 121 #[.slice A n c] w fun e w' => e = .returned (.int .i64 E) ∧ Below w.heap.size w w' := by
      intro hn13 bq hq1 hq3 hq2 hq4
      have hnz : n ≠ 0 := by omega
      obtain ⟨b, o, rfl, hb, hcell⟩ := hs.2.2 (by intro e; subst e; simp at hn; omega)
      have HC := Lib.hid hcell
      have hn3 : n ≤ 3 := by omega
      have Hbq := Lib.hid (show bq = (n == 1) by rw [← hq1]; rcases hn13 with h | h <;> subst h <;> rfl)
      clear hn13 hcell hs
      cases bq <;> (
      go_enter Tryz.func121, Tryz.ntmps121
      go_wp2
      go_loopg [4, 15] n (fun g _ ct wr => ∃ j : Nat, g = n - j ∧ j ≤ n ∧ ct = .int .i64 j ∧ (l.take j).all (dnB n) = true ∧ Below w.heap.size w wr)
      case atStart => exact ⟨0, rfl, by omega, rfl, by simp, Below.refl _ _⟩
      case round =>
        obtain ⟨j, HG, hj, rfl, HA, HB⟩ := hrel
        have HG' := Lib.hid HG
        have HA' := Lib.hid HA
        clear HG HA
        have hz := HB.size
        by_cases hlt : j < n
        · have hjl : j < l.length := by omega
          have hj2 : l[j]? = some l[j] := List.getElem?_eq_getElem hjl
          have hcj : wr.cell? ⟨b, o + j, none⟩ = some (.string l[j]) := (HB.cell (p := ⟨b, o + j, none⟩) hb).trans (HC.out j _ hj2)
          have hstep : (l.take (j + 1)).all (dnB n) = dnB n l[j] := by
            rw [List.take_succ_eq_append_getElem hjl, List.all_append, HA'.out]
            simp
          have hno : dnB n l[j] = false → l.all (dnB n) = false := by
            intro h
            rw [List.all_eq_false]
            exact ⟨l[j], List.getElem_mem hjl, by rw [h]; simp⟩
          have HS := Lib.hid (And.intro hstep hno)
          clear hstep hno hj2
          generalize l[j] = v at hcj HS
          clear hjl
          have HD := Lib.hid (show dnB n v = (nameB v || (!(n == 1) && v.toList.isEmpty)) from rfl)
          cases hv : nameB v <;> cases hem : v.toList.isEmpty <;> (
            rw [hv, hem, ← Hbq.out] at HD
            go_wp2_with (go_at_call 152; refine (name_any _ _).mono ?_; rintro e w3 ⟨rfl, hb3⟩; rw [hv])
            first
            | (go_roundg (n - (j + 1))
               case measure => rw [HG'.out]; omega
               case rel => exact ⟨j + 1, rfl, by omega, by go_num, by rw [HS.out.1, HD.out]; rfl, HB.trans (hb3.mono (by omega))⟩)
            | (go_ret
               exact ⟨by rw [HE2.out, HS.out.2 (by rw [HD.out]; rfl)]; rfl, HB.trans (hb3.mono (by omega))⟩))
        · obtain rfl : j = n := by omega
          go_wp2
          go_ret
          exact ⟨by rw [HE2.out, if_pos (by rw [← HA'.out, List.take_of_length_le (by omega)])]; rfl, HB⟩)
    rcases h1 with h | h
    · exact go (.inl h) true (by rw [h]; rfl) (by rw [h]; rfl) (by rw [h]; rfl) (by rw [h]; rfl)
    · exact go (.inr h) false (by rw [h]; rfl) (by rw [h]; rfl) (by rw [h]; rfl) (by rw [h]; rfl)
  · have h2 : ((l.length : Int) != 1) = true := by simp; omega
    have h3 : ((l.length : Int) != 3) = true := by simp; omega
    have HR := Lib.hid (HE.out.trans (show dnE l = 1 by unfold dnE; rw [if_pos (by omega)]))
    clear hs
    go_enter Tryz.func121, Tryz.ntmps121
    go_wp2
    go_ret
    exact ⟨by rw [HR.out]; rfl, Below.refl _ _⟩
def sdE (x : Dc) : Int :=
  if x.id < 0 ∨ 999999 < x.id then 2 else
  if x.kind ≠ 1 ∧ x.kind ≠ 2 ∧ x.kind ≠ 3 then 9 else
  if dnE x.names ≠ 0 then dnE x.names else
  if exprE x.pre ≠ 0 then exprE x.pre else
  if x.pre.any (fun y => y.k == 5) = true then 9 else 0
theorem dep_of {l : List Nd} (h : exprE l = 0) : ∀ x ∈ l, x.dep ≤ 1000 := by
  intro x hx
  unfold exprE at h
  split at h
  · cases h
  · rename_i h1
    unfold limB at h1
    simp only [Bool.or_eq_true, decide_eq_true_eq, List.any_eq_true, not_or, not_exists, not_and] at h1
    have := h1.2 x hx
    omega
set_option maxRecDepth 100000 in
set_option maxHeartbeats 2000000 in
theorem sCheckDecl_any (x : Dc) (w : World) (hx : x.Ok w w.heap.size) :
    Calls Tryz.prog 85 #[.agg x.cells] w fun e w' => e = .returned (.int .i64 (sdE x)) ∧ Below w.heap.size w w' := by
  obtain ⟨E, HE⟩ : ∃ E, Hid (E = sdE x) := ⟨_, rfl⟩
  rw [← HE.out]
  obtain ⟨id, kind, pub, nA, nc, names, doubt, k, n, m, i, d, A, c, s⟩ := x
  simp only [Dc.cells]
  obtain ⟨W1, hW1⟩ : ∃ W1, w.alloc (.cells #[.int .i64 id, .int .i64 kind, .bool pub, .slice nA names.length nc, .bool doubt, .int .i64 k, .string n, .string m, .int .i64 i, .int .i64 d, .slice A s.len c] 63) = W1 := ⟨_, rfl⟩
  have hzw : w.heap.size < W1.heap.size := by subst hW1; simp
  have hB1 : Below w.heap.size w W1 := by subst hW1; exact (Below.refl _ _).alloc (Nat.le_refl _) _
  have h0 : W1.cell? ⟨w.heap.size, 0, none⟩ = some (.int .i64 id) := by subst hW1; go_simp
  have h1 : W1.cell? ⟨w.heap.size, 1, none⟩ = some (.int .i64 kind) := by subst hW1; go_simp
  have h3 : W1.cell? ⟨w.heap.size, 3, none⟩ = some (.slice nA names.length nc) := by subst hW1; go_simp
  have h5 : W1.cell? ⟨w.heap.size, 5, none⟩ = some (.int .i64 k) := by subst hW1; go_simp
  have h6 : W1.cell? ⟨w.heap.size, 6, none⟩ = some (.string n) := by subst hW1; go_simp
  have h7 : W1.cell? ⟨w.heap.size, 7, none⟩ = some (.string m) := by subst hW1; go_simp
  have h8 : W1.cell? ⟨w.heap.size, 8, none⟩ = some (.int .i64 i) := by subst hW1; go_simp
  have h9 : W1.cell? ⟨w.heap.size, 9, none⟩ = some (.int .i64 d) := by subst hW1; go_simp
  have h10 : W1.cell? ⟨w.heap.size, 10, none⟩ = some (.slice A s.len c) := by subst hW1; go_simp
  have hN := hx.1.keep (w' := W1) (B' := W1.heap.size) (by omega) fun p hp => hB1.cell hp
  have hS := hx.2.keep (w' := W1) (B' := W1.heap.size) (by omega) fun p hp => hB1.cell hp
  have HC : Hid (∀ X, Below W1.heap.size W1 X → Below w.heap.size w X ∧ w.heap.size < X.heap.size ∧ s.Sl X X.heap.size A c ∧ X.cell? ⟨w.heap.size, 5, none⟩ = some (.int .i64 k) ∧ X.cell? ⟨w.heap.size, 6, none⟩ = some (.string n) ∧ X.cell? ⟨w.heap.size, 7, none⟩ = some (.string m) ∧
      X.cell? ⟨w.heap.size, 8, none⟩ = some (.int .i64 i) ∧ X.cell? ⟨w.heap.size, 9, none⟩ = some (.int .i64 d) ∧ X.cell? ⟨w.heap.size, 10, none⟩ = some (.slice A s.len c)) := fun X hX =>
    ⟨hB1.trans (hX.mono (by omega)), Nat.lt_of_lt_of_le hzw hX.size, hS.keep hX.size (fun p hp => hX.cell hp), (hX.cell (p := ⟨w.heap.size, 5, none⟩) hzw).trans h5, (hX.cell (p := ⟨w.heap.size, 6, none⟩) hzw).trans h6, (hX.cell (p := ⟨w.heap.size, 7, none⟩) hzw).trans h7,
      (hX.cell (p := ⟨w.heap.size, 8, none⟩) hzw).trans h8, (hX.cell (p := ⟨w.heap.size, 9, none⟩) hzw).trans h9, (hX.cell (p := ⟨w.heap.size, 10, none⟩) hzw).trans h10⟩
  have HN := Lib.hid (sCheckDeclNames_any names nA nc W1 hN)
  have HB1 := Lib.hid hB1
  clear h5 h6 h7 h8 h9 h10 hN hS hB1 hx
  obtain ⟨E1, HE1⟩ : ∃ E1, Hid (dnE names = E1) := ⟨_, rfl⟩
  obtain ⟨E2, HE2⟩ : ∃ E2, Hid (exprE (Dc.pre ⟨id, kind, pub, nA, nc, names, doubt, k, n, m, i, d, A, c, s⟩) = E2) := ⟨_, rfl⟩
  obtain ⟨b4, Hb4⟩ : ∃ b4, Hid ((Dc.pre ⟨id, kind, pub, nA, nc, names, doubt, k, n, m, i, d, A, c, s⟩).any (fun y => y.k == 5) = b4) := ⟨_, rfl⟩
  have HD : Hid (E = if id < 0 ∨ 999999 < id then 2 else if kind ≠ 1 ∧ kind ≠ 2 ∧ kind ≠ 3 then 9 else if E1 ≠ 0 then E1 else if E2 ≠ 0 then E2 else if b4 = true then 9 else 0) := by
    show E = _
    rw [HE.out, sdE, HE2.out, HE1.out, Hb4.out]
  clear HE
  by_cases c1 : id < 0
  · have HR := Lib.hid (HD.out.trans (if_pos (.inl c1)))
    go_enter Tryz.func85, Tryz.ntmps85
    go_wp2
    go_ret
    exact ⟨by rw [HR.out]; rfl, HB1.out⟩
  have c1' : decide (id < 0) = false := by simpa using c1
  by_cases c2 : 999999 < id
  · have HR := Lib.hid (HD.out.trans (if_pos (.inr c2)))
    clear c1
    go_enter Tryz.func85, Tryz.ntmps85
    go_wp2
    go_ret
    exact ⟨by rw [HR.out]; rfl, HB1.out⟩
  have HD2 := Lib.hid (HD.out.trans (if_neg (by omega)))
  have c2' : decide (999999 < id) = false := by simpa using c2
  clear HD c1 c2
  by_cases c3 : kind ≠ 1 ∧ kind ≠ 2 ∧ kind ≠ 3
  · have HR := Lib.hid (HD2.out.trans (if_pos c3))
    have k1 : (kind != 1) = true := by simpa using c3.1
    have k2 : (kind != 2) = true := by simpa using c3.2.1
    have k3 : (kind != 3) = true := by simpa using c3.2.2
    clear c3
    go_enter Tryz.func85, Tryz.ntmps85
    go_wp2
    go_ret
    exact ⟨by rw [HR.out]; rfl, HB1.out⟩
  have HD3 := Lib.hid (HD2.out.trans (if_neg c3))
  clear HD2
  have hkk : kind = 1 ∨ kind = 2 ∨ kind = 3 := by omega
  clear c3
  rcases hkk with rfl | rfl | rfl
  all_goals
    go_enter Tryz.func85, Tryz.ntmps85
    go_wp2_with fail
    refine HN.out.mono ?_
    rintro e w2 ⟨rfl, hb2⟩
    rw [HE1.out]
    obtain ⟨hB2, hz2, hs2, y5, y6, y7, y8, y9, y10⟩ := HC.out w2 hb2
    have HB2 := Lib.hid (And.intro hb2 hB2)
    clear hb2 hB2 hW1 h0 h1 h3
    by_cases e1 : E1 = 0
    rotate_left
    · have HR := Lib.hid (HD3.out.trans (if_pos e1))
      have e1' : (E1 != 0) = true := by simpa using e1
      go_wp2
      go_ret
      exact ⟨by rw [HR.out]; rfl, HB2.out.2⟩
    subst e1
    have HD4 := Lib.hid (HD3.out.trans (if_neg (by simp)))
    have HC2 := Lib.hid (checkExpr_any k n m i d A c s w2 hs2)
    go_wp2_with fail
    refine HC2.out.mono ?_
    rintro e w3 ⟨rfl, hb3⟩
    have HE2' := HE2.out
    simp only [Dc.pre] at HE2'
    rw [HE2']
    have hb3' := HB2.out.1.trans (hb3.mono HB2.out.1.size)
    obtain ⟨hB3, hz3, hs3, z5, z6, z7, z8, z9, z10⟩ := HC.out w3 hb3'
    have HB3 := Lib.hid (And.intro hb3' hB3)
    clear hb3 hb3' hB3 y5 y6 y7 y8 y9 y10 hs2 HC2
    by_cases e2 : E2 = 0
    rotate_left
    · have HR := Lib.hid (HD4.out.trans (if_pos e2))
      have e2' : (E2 != 0) = true := by simpa using e2
      clear HE2'
      go_wp2
      go_ret
      exact ⟨by rw [HR.out]; rfl, HB3.out.2⟩
    subst e2
    have HD5 := Lib.hid (HD4.out.trans (if_neg (by simp)))
    have HC3 := Lib.hid (hasRef_any k n m i d A c s w3 hs3 (dep_of (by rw [HE2'])))
    clear HE2'
    go_wp2_with fail
    refine HC3.out.mono ?_
    rintro e w4 ⟨rfl, hb4⟩
    have Hb4' := Hb4.out
    simp only [Dc.pre] at Hb4'
    rw [Hb4']
    have HB4 := Lib.hid (HB3.out.2.trans (hb4.mono HB3.out.2.size))
    clear hb4 Hb4' z5 z6 z7 z8 z9 z10 hs3 HC3
    cases b4
    · have HR := Lib.hid (HD5.out.trans (if_neg (by simp)))
      go_wp2
      go_ret
      exact ⟨by rw [HR.out]; rfl, HB4.out⟩
    · have HR := Lib.hid (HD5.out.trans (if_pos rfl))
      go_wp2
      go_ret
      exact ⟨by rw [HR.out]; rfl, HB4.out⟩
end Go.Proofs.YtacjjkbkhpdhnaaGreatDoor
/- syntax.CheckSource -/
namespace Go.Proofs.YtacjjkbkhpdhnaaGreatDoor
open Go.RowKit Go.Proofs Go.Shelf
def ordBad : Option Int → Int → Bool
  | none, _ => false
  | some p, i => (i != 0) && ((p == 0) || decide (i ≤ p))
def sdsE : Option Int → List ByteArray → List Dc → Int
  | _, _, [] => 0
  | p, met, x :: r => if sdE x ≠ 0 then sdE x else if ordBad p x.id = true then 10 else if x.names.length = 1 then (if hasN met (nameOf x) = true then 7 else sdsE (some x.id) (met ++ [nameOf x]) r) else sdsE (some x.id) met r
def srcDE (l : List ByteArray) (ds : List Dc) : Int :=
  if 20 < l.length then 4 else if usesE none l ≠ 0 then usesE none l else if 100 < ds.length then 4 else sdsE none [] ds
set_option maxRecDepth 100000 in
set_option maxHeartbeats 4000000 in
theorem checkSourceD_any (l : List ByteArray) (A : Option Addr) (c : Nat) (ds : List Dc) (dA : Option Addr) (dc : Nat) (w : World) (hs : SlS w w.heap.size A c l) (hd : SlD w w.heap.size dA dc ds) (hst : StrD ds) :
    Calls Tryz.prog 32 #[.agg #[.slice A l.length c, .slice dA ds.length dc]] w fun e w' => e = .returned (.int .i64 (srcDE l ds)) ∧ Below w.heap.size w w' := by
  have hc1 := hs.1
  have hc2 := hs.2.1
  unfold maxLen at hc2
  have hmm := @run_makeMap Tryz.prog
  have HS := Lib.hid hs
  have hdl := hd.1
  have hdl2 := hd.2.1
  unfold maxLen at hdl2
  have HDs := Lib.hid (And.intro hd hst)
  obtain ⟨N2, HN2⟩ : ∃ Q, Hid (ds.length = Q) := ⟨_, Lib.hid rfl⟩
  rw [HN2.out] at hdl ⊢
  clear hs hd hst
  obtain ⟨E, HE⟩ : ∃ E, Hid (E = srcDE l ds) := ⟨_, rfl⟩
  rw [← HE.out]
  by_cases h1 : 20 < l.length
  · have HR := Lib.hid (HE.out.trans (show srcDE l ds = 4 by unfold srcDE; rw [if_pos h1]))
    go_enter Tryz.func32, Tryz.ntmps32
    go_wp2
    go_ret
    exact ⟨by rw [HR.out]; rfl, (Below.refl _ _).alloc (Nat.le_refl _) _⟩
  · obtain ⟨E3, HE3⟩ : ∃ Q, Hid ((if 100 < N2 then 4 else sdsE none [] ds) = Q) := ⟨_, Lib.hid rfl⟩
    have HE1 := Lib.hid (HE.out.trans (show srcDE l ds = if usesE none l ≠ 0 then usesE none l else E3 by unfold srcDE; rw [if_neg h1, HN2.out, HE3.out]))
    clear HE
    go_enter Tryz.func32, Tryz.ntmps32
    go_wp2
    obtain ⟨n, hn⟩ : ∃ n, l.length = n := ⟨_, rfl⟩
    rw [hn] at h1 hc1 ⊢
    have hn1 : n ≤ 20 := by omega
    clear h1
    obtain ⟨W0, hW0⟩ : ∃ W0, w.alloc (.cells #[.slice A n c, .slice dA N2 dc] 40) = W0 := ⟨_, rfl⟩
    have hB0 : Below w.heap.size w W0 := by subst hW0; exact (Below.refl _ _).alloc (Nat.le_refl _) _
    have hz0 : W0.heap.size = w.heap.size + 1 := by subst hW0; simp
    have hx0 : W0.cell? ⟨w.heap.size, 0, none⟩ = some (.slice A n c) := by subst hW0; go_simp
    have hx1 : W0.cell? ⟨w.heap.size, 1, none⟩ = some (.slice dA N2 dc) := by subst hW0; go_simp
    rw [hW0]
    clear hW0
    go_loopg [3, 4, 16] n (fun g _ _ ct wr => ∃ j : Nat, g = n - j ∧ j ≤ n ∧ ct = .int .i64 j ∧ E = (if usesE (prevO l j) (l.drop j) ≠ 0 then usesE (prevO l j) (l.drop j) else E3) ∧ Below W0.heap.size W0 wr)
    case atStart => exact ⟨0, rfl, by omega, rfl, by rw [HE1.out]; rfl, Below.refl _ _⟩
    case round =>
      obtain ⟨j, HG, hj, rfl, HA, HB⟩ := hrel
      have HG' := Lib.hid HG
      have HA' := Lib.hid HA
      clear HG HA
      have hz := HB.size
      have hB1 := hB0.trans (HB.mono (by omega))
      have hy0 : wr.cell? ⟨w.heap.size, 0, none⟩ = some (.slice A n c) := (HB.cell (p := ⟨w.heap.size, 0, none⟩) (by simp; omega)).trans hx0
      have hy1 : wr.cell? ⟨w.heap.size, 1, none⟩ = some (.slice dA N2 dc) := (HB.cell (p := ⟨w.heap.size, 1, none⟩) (by simp; omega)).trans hx1
      by_cases hlt : j < n
      · have hjl : j < l.length := by omega
        obtain ⟨b, o, rfl, hb, hcell⟩ := HS.out.2.2 (by intro e; subst e; simp at hjl)
        have hj2 : l[j]? = some l[j] := List.getElem?_eq_getElem hjl
        have hcj : wr.cell? ⟨b, o + j, none⟩ = some (.string l[j]) := (hB1.cell (p := ⟨b, o + j, none⟩) hb).trans (hcell j _ hj2)
        have hdrop : l.drop j = l[j] :: l.drop (j + 1) := List.drop_eq_getElem_cons hjl
        have hprev : prevO l (j + 1) = some l[j] := hj2
        rw [hdrop] at HA'
        have HP := Lib.hid hprev
        have HC := Lib.hid hcell
        clear hprev hdrop hj2 hcell
        generalize l[j] = u at hcj HP HA'
        cases hu : labelB u
        · have HR := Lib.hid (show E = 6 by rw [HA'.out]; cases prevO l j <;> simp [usesE, hu])
          go_wp2_with (go_at_call 46; refine (label_any _ _).mono ?_; rintro e w3 ⟨rfl, hb3⟩; rw [hu])
          go_ret
          exact ⟨by rw [HR.out]; rfl, hB1.trans (hb3.mono (by omega))⟩
        · cases j with
          | zero =>
            rw [Nat.add_zero] at hcj
            have HR := Lib.hid (show E = (if usesE (some u) (l.drop (0 + 1)) ≠ 0 then usesE (some u) (l.drop (0 + 1)) else E3) by rw [HA'.out, show usesE (prevO l 0) (u :: l.drop (0 + 1)) = usesE (some u) (l.drop (0 + 1)) by simp [prevO, usesE, hu]])
            go_wp2_with (go_at_call 46; refine (label_any _ _).mono ?_; rintro e w3 ⟨rfl, hb3⟩; rw [hu])
            go_roundg (n - (0 + 1))
            case measure => rw [HG'.out]; omega
            case rel => exact ⟨0 + 1, rfl, by omega, by go_num, by rw [HR.out, HP.out], HB.trans (hb3.mono (by omega))⟩
          | succ j =>
            have hk2 : l[j]? = some l[j] := List.getElem?_eq_getElem (by omega)
            have hck : wr.cell? ⟨b, o + j, none⟩ = some (.string l[j]) := (hB1.cell (p := ⟨b, o + j, none⟩) hb).trans (HC.out j _ hk2)
            have HQ := Lib.hid (show prevO l (j + 1) = some l[j] from hk2)
            have hidx : ((j + 1 : Nat) : Int) - 1 = j := by omega
            clear hk2
            generalize l[j] = q at hck HQ
            rw [HQ.out] at HA'
            cases hq : Op.bytesLess q.toList u.toList
            · have HR := Lib.hid (show E = 10 by rw [HA'.out, show usesE (some q) (u :: l.drop (j + 1 + 1)) = 10 by simp [usesE, hu, hq]]; rfl)
              go_wp2_with (go_at_call 46; refine (label_any _ _).mono ?_; rintro e w3 ⟨rfl, hb3⟩; rw [hu]; have hf1 := (hb3.cell (p := ⟨w.heap.size, 0, none⟩) (by simp; omega)).trans hy0; have hf2 := (hb3.cell (p := ⟨b, o + j, none⟩) (by simp; omega)).trans hck)
              go_ret
              exact ⟨by rw [HR.out]; rfl, hB1.trans (hb3.mono (by omega))⟩
            · have HR := Lib.hid (show E = (if usesE (some u) (l.drop (j + 1 + 1)) ≠ 0 then usesE (some u) (l.drop (j + 1 + 1)) else E3) by rw [HA'.out, show usesE (some q) (u :: l.drop (j + 1 + 1)) = usesE (some u) (l.drop (j + 1 + 1)) by simp [usesE, hu, hq]])
              go_wp2_with (go_at_call 46; refine (label_any _ _).mono ?_; rintro e w3 ⟨rfl, hb3⟩; rw [hu]; have hf1 := (hb3.cell (p := ⟨w.heap.size, 0, none⟩) (by simp; omega)).trans hy0; have hf2 := (hb3.cell (p := ⟨b, o + j, none⟩) (by simp; omega)).trans hck)
              go_roundg (n - (j + 1 + 1))
              case measure => rw [HG'.out]; omega
              case rel => exact ⟨j + 1 + 1, rfl, by omega, by go_num, by rw [HR.out, HP.out], HB.trans (hb3.mono (by omega))⟩
      · obtain rfl : j = n := by omega
        have HR := Lib.hid (show E = E3 by rw [HA'.out, show usesE (prevO l j) (l.drop j) = 0 by rw [List.drop_of_length_le (by omega)]; cases prevO l j <;> rfl]; rfl)
        by_cases h100 : 100 < N2
        · have HR2 := Lib.hid (show E = 4 by rw [HR.out, ← HE3.out, if_pos h100])
          go_wp2
          go_ret
          exact ⟨by rw [HR2.out]; rfl, hB1⟩
        have HR2 := Lib.hid (show E = sdsE none [] ds by rw [HR.out, ← HE3.out, if_neg h100])
        have hN2 : N2 ≤ 100 := by omega
        clear h100
        obtain ⟨mb, hmb⟩ : ∃ q, q = wr.heap.size := ⟨_, rfl⟩
        obtain ⟨V0, hV0⟩ : ∃ V0, wr.alloc (.map #[] 0) = V0 := ⟨_, rfl⟩
        have hbV : Below wr.heap.size wr V0 := by rw [← hV0]; exact (Below.refl _ _).alloc (Nat.le_refl _) _
        have hm0 : SetK V0 9 mb [] := by rw [hmb, ← hV0]; exact SetK.made wr 9
        have hzV : wr.heap.size < V0.heap.size := by rw [← hV0]; simp
        have hv1 : V0.cell? ⟨w.heap.size, 1, none⟩ = some (.slice dA N2 dc) := (hbV.cell (p := ⟨w.heap.size, 1, none⟩) (by simp; omega)).trans hy1
        have HV := Lib.hid (And.intro (HB.trans (hbV.mono (by omega))) (And.intro hm0 hv1))
        rw [← hmb] at hzV
        have HMB := Lib.hid hmb
        have hmbW : W0.heap.size ≤ mb := by omega
        clear hy0 hbV hm0 hB1 HB hz HG' HA' hx0 hx1 hmb
        go_wp2
        rw [← HMB.out]
        go_loopg [6, 7, 8, 45] N2 (fun g _ _ _ ct wr2 => ∃ (q : Nat) (met : List ByteArray), g = N2 - q ∧ q ≤ N2 ∧ ct = .int .i64 q ∧ E = sdsE (prevI ds q) met (ds.drop q) ∧ met.length ≤ q ∧ SetK wr2 9 mb (met.map keyS) ∧ Below W0.heap.size W0 wr2 ∧ wr2.cell? ⟨w.heap.size, 1, none⟩ = some (.slice dA N2 dc) ∧ mb < wr2.heap.size)
        case atStart => exact ⟨0, [], rfl, by omega, rfl, HR2.out, by simp, HV.out.2.1, HV.out.1, HV.out.2.2, by omega⟩
        case round =>
          obtain ⟨q, met, HG, hq, rfl, HA, hml, hset, hBr, hv1, hzr⟩ := hrel
          have hzW := hBr.size
          by_cases hlq : q < N2
          · have hlq' : q < ds.length := by rw [HN2.out]; exact hlq
            have hq3 : ds[q]? = some ds[q] := List.getElem?_eq_getElem hlq'
            obtain ⟨b, o, rfl, hb, hall⟩ := HDs.out.1.2.2 (by intro e; rw [e] at hlq'; simp at hlq')
            obtain ⟨hcs0, hok0⟩ := hall q _ hq3
            have hstr := HDs.out.2 ds[q] (List.mem_of_getElem? hq3)
            have HDR := Lib.hid (show ds.drop q = ds[q] :: ds.drop (q + 1) from List.drop_eq_getElem_cons hlq')
            have hprev : prevI ds (q + 1) = some ds[q].id := by show (ds[q]?).map Dc.id = _; rw [hq3]; rfl
            have hBw := hB0.trans (hBr.mono (by omega))
            have HPv := Lib.hid (show ∀ (q' : Nat), q = q' + 1 → ∃ pid : Int, prevI ds q = some pid ∧ wr.cell? ⟨b, o + q' * 11, none⟩ = some (.int .i64 pid) from fun q' e => by
              have h1 : ds[q']? = some (ds[q']'(by omega)) := List.getElem?_eq_getElem _
              refine ⟨_, ?_, (hBw.cell (p := ⟨b, o + q' * 11, none⟩) hb).trans ((hall q' _ h1).1 0 _ rfl)⟩
              subst e
              show (ds[q']?).map Dc.id = _
              rw [h1]
              rfl)
            clear hall hq3
            generalize ds[q] = x at hcs0 hok0 HDR hstr hprev
            have hcs : ∀ i v, x.cells[i]? = some v → wr.cell? ⟨b, o + q * 11 + i, none⟩ = some v := fun i v hi => (hBw.cell (p := ⟨b, o + q * 11 + i, none⟩) hb).trans (hcs0 i v hi)
            have hokx := hok0
            obtain ⟨xid, xkind, xpub, xnA, xnc, xnames, xdoubt, xk, xn, xm, xi, xd, xA, xc, xs⟩ := x
            simp only at hstr hprev
            have d0 : wr.cell? ⟨b, o + q * 11, none⟩ = some (.int .i64 xid) := hcs 0 _ rfl
            have d1 : wr.cell? ⟨b, o + q * 11 + 1, none⟩ = some (.int .i64 xkind) := hcs 1 _ rfl
            have d2 : wr.cell? ⟨b, o + q * 11 + 2, none⟩ = some (.bool xpub) := hcs 2 _ rfl
            have d3 : wr.cell? ⟨b, o + q * 11 + 3, none⟩ = some (.slice xnA xnames.length xnc) := hcs 3 _ rfl
            have d4 : wr.cell? ⟨b, o + q * 11 + 4, none⟩ = some (.bool xdoubt) := hcs 4 _ rfl
            have d5 : wr.cell? ⟨b, o + q * 11 + 5, none⟩ = some (.int .i64 xk) := hcs 5 _ rfl
            have d6 : wr.cell? ⟨b, o + q * 11 + 6, none⟩ = some (.string xn) := hcs 6 _ rfl
            have d7 : wr.cell? ⟨b, o + q * 11 + 7, none⟩ = some (.string xm) := hcs 7 _ rfl
            have d8 : wr.cell? ⟨b, o + q * 11 + 8, none⟩ = some (.int .i64 xi) := hcs 8 _ rfl
            have d9 : wr.cell? ⟨b, o + q * 11 + 9, none⟩ = some (.int .i64 xd) := hcs 9 _ rfl
            have d10 : wr.cell? ⟨b, o + q * 11 + 10, none⟩ = some (.slice xA xs.len xc) := hcs 10 _ rfl
            obtain ⟨W3, hW3⟩ : ∃ W3, wr.alloc (.cells #[.int .i64 xid, .int .i64 xkind, .bool xpub, .slice xnA xnames.length xnc, .bool xdoubt, .int .i64 xk, .string xn, .string xm, .int .i64 xi, .int .i64 xd, .slice xA xs.len xc] 63) = W3 := ⟨_, rfl⟩
            have hb3 : Below wr.heap.size wr W3 := by subst hW3; exact (Below.refl _ _).alloc (Nat.le_refl _) _
            have hz3 : wr.heap.size < W3.heap.size := by subst hW3; simp
            have hx3 : W3.heap[wr.heap.size]? = some (.cells #[.int .i64 xid, .int .i64 xkind, .bool xpub, .slice xnA xnames.length xnc, .bool xdoubt, .int .i64 xk, .string xn, .string xm, .int .i64 xi, .int .i64 xd, .slice xA xs.len xc] 63 (0, 0)) := by rw [← hW3]; exact heap_alloc_new wr _
            obtain ⟨f0, f1, f2, f3, f4, f5, f6, f7, f8, f9, f10⟩ : W3.cell? ⟨wr.heap.size, 0, none⟩ = some (.int .i64 xid) ∧ W3.cell? ⟨wr.heap.size, 1, none⟩ = some (.int .i64 xkind) ∧ W3.cell? ⟨wr.heap.size, 2, none⟩ = some (.bool xpub) ∧ W3.cell? ⟨wr.heap.size, 3, none⟩ = some (.slice xnA xnames.length xnc) ∧ W3.cell? ⟨wr.heap.size, 4, none⟩ = some (.bool xdoubt) ∧ W3.cell? ⟨wr.heap.size, 5, none⟩ = some (.int .i64 xk) ∧ W3.cell? ⟨wr.heap.size, 6, none⟩ = some (.string xn) ∧ W3.cell? ⟨wr.heap.size, 7, none⟩ = some (.string xm) ∧ W3.cell? ⟨wr.heap.size, 8, none⟩ = some (.int .i64 xi) ∧ W3.cell? ⟨wr.heap.size, 9, none⟩ = some (.int .i64 xd) ∧ W3.cell? ⟨wr.heap.size, 10, none⟩ = some (.slice xA xs.len xc) :=
              ⟨cell_of_row W3 _ 0 _ _ (0, 0) hx3, cell_of_row W3 _ 1 _ _ (0, 0) hx3, cell_of_row W3 _ 2 _ _ (0, 0) hx3, cell_of_row W3 _ 3 _ _ (0, 0) hx3, cell_of_row W3 _ 4 _ _ (0, 0) hx3, cell_of_row W3 _ 5 _ _ (0, 0) hx3, cell_of_row W3 _ 6 _ _ (0, 0) hx3, cell_of_row W3 _ 7 _ _ (0, 0) hx3, cell_of_row W3 _ 8 _ _ (0, 0) hx3, cell_of_row W3 _ 9 _ _ (0, 0) hx3, cell_of_row W3 _ 10 _ _ (0, 0) hx3⟩
            have hok3 : Dc.Ok ⟨xid, xkind, xpub, xnA, xnc, xnames, xdoubt, xk, xn, xm, xi, xd, xA, xc, xs⟩ W3 W3.heap.size := by
              have h1 := hBw.trans (hb3.mono (by omega))
              exact ⟨hokx.1.keep h1.size fun p hp => h1.cell hp, hokx.2.keep h1.size fun p hp => h1.cell hp⟩
            have hck := sCheckDecl_any ⟨xid, xkind, xpub, xnA, xnc, xnames, xdoubt, xk, xn, xm, xi, xd, xA, xc, xs⟩ W3 hok3
            obtain ⟨E4, HE4⟩ : ∃ Q, Hid (sdE ⟨xid, xkind, xpub, xnA, xnc, xnames, xdoubt, xk, xn, xm, xi, xd, xA, xc, xs⟩ = Q) := ⟨_, Lib.hid rfl⟩
            rw [HE4.out] at hck
            simp only [Dc.cells] at hck
            have HCk := Lib.hid hck
            obtain ⟨E5, HE5⟩ : ∃ Q, Hid ((if xnames.length = 1 then (if hasN met (nameOf ⟨xid, xkind, xpub, xnA, xnc, xnames, xdoubt, xk, xn, xm, xi, xd, xA, xc, xs⟩) = true then 7 else sdsE (some xid) (met ++ [nameOf ⟨xid, xkind, xpub, xnA, xnc, xnames, xdoubt, xk, xn, xm, xi, xd, xA, xc, xs⟩]) (ds.drop (q + 1))) else sdsE (some xid) met (ds.drop (q + 1))) = Q) := ⟨_, Lib.hid rfl⟩
            have HEq := Lib.hid (show E = (if E4 ≠ 0 then E4 else if ordBad (prevI ds q) xid = true then 10 else E5) by rw [HA, HDR.out, sdsE, HE4.out, HE5.out])
            have HS := Lib.hid (And.intro (hBr.trans (hb3.mono (by omega))) (And.intro hb3 (And.intro hx3 (And.intro hset (And.intro hok3 (And.intro hstr (And.intro HG (And.intro hml hprev))))))))
            clear hcs hcs0 hok0 hokx hset hBr hBw hb3 hx3 HG HA hok3 hstr hck hprev hzW
            clear hml
            go_wp2_with fail
            refine HCk.out.mono ?_
            rintro e w4 ⟨rfl, hb4⟩
            have hx4 := (hb4.block _ hz3).trans HS.out.2.2.1
            have hB4 := HS.out.1.trans (hb4.mono (by have := HS.out.1.size; omega))
            have HB4 := Lib.hid (And.intro hb4 (And.intro hx4 hB4))
            have hBw4 := hB0.trans (hB4.mono (by omega))
            clear hb4 hx4 hB4 f0 f1 f2 f3 f4 f5 f6 f7 f8 f9 f10 HCk hW3 d0 d1 d2 d3 d4 d5 d6 d7 d8 d9 d10
            by_cases he4 : E4 = 0
            rotate_left
            · have HR := Lib.hid (show E = E4 by rw [HEq.out, if_pos he4])
              have he4' : (E4 != 0) = true := by simpa using he4
              have HBw := Lib.hid hBw4
              clear he4 hBw4
              go_wp2
              go_ret
              exact ⟨by rw [HR.out]; rfl, HBw.out⟩
            subst he4
            have HEr := Lib.hid (show E = (if ordBad (prevI ds q) xid = true then 10 else E5) by rw [HEq.out, if_neg (by simp)])
            obtain ⟨bo, Hbo⟩ : ∃ Q, Hid (ordBad (prevI ds q) xid = Q) := ⟨_, Lib.hid rfl⟩
            rw [Hbo.out] at HEr
            have f0 : w4.cell? ⟨wr.heap.size, 0, none⟩ = some (.int .i64 xid) := cell_of_row w4 _ 0 _ _ (0, 0) HB4.out.2.1
            have v1 : w4.cell? ⟨w.heap.size, 1, none⟩ = some (.slice (some ⟨b, o, none⟩) N2 dc) := by
              have h1 := HS.out.2.1.trans (HB4.out.1.mono HS.out.2.1.size)
              exact (h1.cell (p := ⟨w.heap.size, 1, none⟩) (World.block_lt_of_cell? wr _ hv1)).trans hv1
            have HBw := Lib.hid hBw4
            have HV1 := Lib.hid hv1
            clear hv1 hBw4
            go_upto_region 20 with fail
            go_cut [83] (fun s83 wx => s83 = .bool bo ∧ ∃ nd, wx = w4.drewN nd)
            case first =>
              by_cases h0 : xid = 0
              · have h0' : (xid != 0) = false := by simpa using h0
                have HB0 := Lib.hid (show bo = false by rw [← Hbo.out]; cases prevI ds q <;> simp [ordBad, h0])
                clear h0
                go_quiet (fail)
                go_wp2
                go_meet
                exact ⟨by rw [HB0.out], _, rfl⟩
              · have h0' : (xid != 0) = true := by simpa using h0
                cases q with
                | zero =>
                  have HB0 := Lib.hid (show bo = false by rw [← Hbo.out]; rfl)
                  clear h0
                  go_quiet (fail)
                  go_wp2
                  go_meet
                  exact ⟨by rw [HB0.out], _, rfl⟩
                | succ q' =>
                  obtain ⟨pid, hp1, hp2⟩ := HPv.out q' rfl
                  have hpc : w4.cell? ⟨b, o + q' * 11, none⟩ = some (.int .i64 pid) := by
                    have h1 := HS.out.2.1.trans (HB4.out.1.mono HS.out.2.1.size)
                    exact (h1.cell (p := ⟨b, o + q' * 11, none⟩) (World.block_lt_of_cell? wr _ hp2)).trans hp2
                  have hidx : ((q' + 1 : Nat) : Int) - 1 = q' := by omega
                  have hq1 : (0 : Int) < ((q' + 1 : Nat) : Int) := by omega
                  have HB0 := Lib.hid (show bo = ((xid != 0) && ((pid == 0) || decide (xid ≤ pid))) by rw [← Hbo.out, hp1]; rfl)
                  rw [h0'] at HB0
                  clear h0 hp1 hp2
                  cases hp0 : (pid == 0) with
                  | true =>
                    rw [hp0] at HB0
                    go_quiet (fail)
                    go_wp2
                    go_meet
                    exact ⟨by rw [HB0.out]; rfl, _, rfl⟩
                  | false =>
                    rw [hp0] at HB0
                    go_quiet (fail)
                    go_wp2
                    go_meet
                    exact ⟨by rw [HB0.out]; simp, _, rfl⟩
            case rest =>
            obtain ⟨h83, nd, hnd⟩ := hcut
            subst h83
            obtain ⟨W5, rfl⟩ : ∃ q, q = wc := ⟨_, rfl⟩
            have hx5 : W5.heap[wr.heap.size]? = some (.cells #[.int .i64 xid, .int .i64 xkind, .bool xpub, .slice xnA xnames.length xnc, .bool xdoubt, .int .i64 xk, .string xn, .string xm, .int .i64 xi, .int .i64 xd, .slice xA xs.len xc] 63 (0, 0)) := by rw [hnd]; exact HB4.out.2.1
            have hB5 : Below W0.heap.size W0 W5 := by rw [hnd]; exact below_drewN HB4.out.2.2 nd
            have hbr5 : Below wr.heap.size wr W5 := by rw [hnd]; exact below_drewN (HS.out.2.1.trans (HB4.out.1.mono HS.out.2.1.size)) nd
            have hset5 : SetK W5 9 mb (met.map keyS) := HS.out.2.2.2.1.keep (hbr5.block _ HS.out.2.2.2.1.lt)
            have f3 : W5.cell? ⟨wr.heap.size, 3, none⟩ = some (.slice xnA xnames.length xnc) := cell_of_row W5 _ 3 _ _ (0, 0) hx5
            have hv5 : W5.cell? ⟨w.heap.size, 1, none⟩ = some (.slice (some ⟨b, o, none⟩) N2 dc) := (hbr5.cell (p := ⟨w.heap.size, 1, none⟩) (World.block_lt_of_cell? wr _ HV1.out)).trans HV1.out
            have hnm5 : SlS W5 W5.heap.size xnA xnc xnames := by
              have h1 := hB0.trans (hB5.mono (by omega))
              have h2 := HS.out.2.2.2.2.1.1
              have h3 : Below W3.heap.size W3 W5 := by rw [hnd]; exact below_drewN HB4.out.1 nd
              exact h2.keep h3.size fun p hp => h3.cell hp
            have H5 := Lib.hid (And.intro hB5 (And.intro hset5 (And.intro hv5 (And.intro hnm5 hbr5))))
            clear hnd hx5 hB5 hset5 hv5 hnm5 hbr5 f0 v1
            cases bo with
            | true =>
              have HR := Lib.hid (show E = 10 by rw [HEr.out, if_pos rfl])
              go_wp2
              go_ret
              exact ⟨by rw [HR.out]; rfl, hB0.trans (H5.out.1.mono (by omega))⟩
            | false =>
            have HE6 := Lib.hid (show E = E5 by rw [HEr.out, if_neg (by simp)])
            have hzr5 := H5.out.2.2.2.2.size
            by_cases hn1 : xnames.length = 1
            rotate_left
            · have hn1' : ((xnames.length : Int) == 1) = false := by simp; omega
              have HR := Lib.hid (show E = sdsE (prevI ds (q + 1)) met (ds.drop (q + 1)) by rw [HE6.out, ← HE5.out, if_neg hn1, HS.out.2.2.2.2.2.2.2.2])
              have HML := Lib.hid (show met.length ≤ q + 1 by have := HS.out.2.2.2.2.2.2.2.1; omega)
              clear hn1
              go_wp2
              go_roundg (N2 - (q + 1))
              case measure => rw [HS.out.2.2.2.2.2.2.1]; omega
              case rel => exact ⟨q + 1, met, rfl, by omega, by go_num, HR.out, HML.out, H5.out.2.1, H5.out.1, H5.out.2.2.1, by omega⟩
            obtain ⟨nm, rfl⟩ : ∃ nm, xnames = [nm] := List.length_eq_one_iff.1 hn1
            obtain ⟨nb, no, rfl, hnb, hncell⟩ := H5.out.2.2.2.1.at_ (j := 0) (by simp)
            have hnc2 := H5.out.2.2.2.1.1
            have hnc3 := H5.out.2.2.2.1.2.1
            unfold maxLen at hnc3
            simp only [List.length_singleton, List.getElem_cons_zero, Nat.add_zero] at hncell hnc2 f3
            have HNS := Lib.hid (show nm.size ≤ maxLen from HS.out.2.2.2.2.2.1 nm (by simp))
            have HCE : Hid (E = if hasN met nm = true then 7 else sdsE (prevI ds (q + 1)) (met ++ [nm]) (ds.drop (q + 1))) := by
              show _ = _
              rw [HE6.out, ← HE5.out, HS.out.2.2.2.2.2.2.2.2]
              simp [nameOf]
            clear hn1
            have HLK : Hid ((met.map keyS).any (fun x => x.sameKey (keyS nm)) = hasN met nm) := keyS_has met nm
            obtain ⟨hb', Hhb⟩ : ∃ Q, Hid (hasN met nm = Q) := ⟨_, Lib.hid rfl⟩
            rw [Hhb.out] at HLK HCE
            have hlk : (Instr.lookup 89 (.map (some mb)) (.string nm) false).run Tryz.prog W5 = .ok (.bool hb') W5 := by
              rw [← HLK.out]
              exact H5.out.2.1.look strKeyed Tryz.underlying89 (keyS_of HNS.out)
            cases hb'
            · have HML := Lib.hid (show (met ++ [nm]).length ≤ q + 1 by have := HS.out.2.2.2.2.2.2.2.1; rw [List.length_append, List.length_singleton]; omega)
              have HMM := Lib.hid (show (met.map keyS).length < 1000000 by have := HS.out.2.2.2.2.2.2.2.1; rw [List.length_map]; omega)
              go_wp2_with (at_mapUpdate; refine wpList_setAdd _ rfl _ _ _ 89 rfl 9 strKeyed Tryz.underlying89 mb (met.map keyS) rfl H5.out.2.1 HMM.out _ (keyS nm) rfl rfl (keyS_of HNS.out) ?_; intro w6 hset6 hg6)
              go_roundg (N2 - (q + 1))
              case measure => rw [HS.out.2.2.2.2.2.2.1]; omega
              case rel =>
                have hz6 := hg6.size
                refine ⟨q + 1, met ++ [nm], rfl, by omega, by go_num, by rw [HCE.out]; simp, HML.out, by simpa using hset6, H5.out.1.grown hg6 (by omega) (fun q hq => by cases hq; omega), ?_, by omega⟩
                exact (World.cell?_of_block (hg6.block _ (World.block_lt_of_cell? W5 _ H5.out.2.2.1) (by simp; omega))).trans H5.out.2.2.1
            · have HR := Lib.hid (show E = 7 by rw [HCE.out]; simp)
              go_wp2
              go_ret
              exact ⟨by rw [HR.out]; rfl, hB0.trans (H5.out.1.mono (by omega))⟩
          · have hqN : N2 = q := by omega
            have HR := Lib.hid (show E = 0 by rw [HA, List.drop_of_length_le (by rw [HN2.out]; omega)]; cases prevI ds q <;> rfl)
            have i2 : decide ((q : Int) < (N2 : Int)) = false := decide_eq_false (by omega)
            have i3 : decide (q < N2) = false := decide_eq_false (by omega)
            have HBf := Lib.hid (hB0.trans (hBr.mono (by omega)))
            clear HA hml hset hqN hBr
            go_wp2
            go_ret
            exact ⟨by rw [HR.out]; rfl, HBf.out⟩
end Go.Proofs.YtacjjkbkhpdhnaaGreatDoor
/- bind.Bind in plain words -/
namespace Go.Proofs.YtacjjkbkhpdhnaaGreatDoor
open Go Go.RowKit Go.Proofs Go.Shelf
def noNx : Nx := ⟨0, ⟨#[]⟩, ⟨#[]⟩, 0, 0⟩
def idsO (ds : List Dc) (s : ByteArray) : Option Int := ds.foldl (fun a x => if x.names.length = 1 ∧ nameOf x = s then some x.id else a) none
def labO (uses : List ByteArray) (s : ByteArray) : Option ByteArray := uses.foldl (fun a u => if aliasB u = s then some u else a) none
theorem idsO_step (ds : List Dc) (x : Dc) (s : ByteArray) : idsO (ds ++ [x]) s = if x.names.length = 1 ∧ nameOf x = s then some x.id else idsO ds s := by
  unfold idsO
  rw [List.foldl_append]
  rfl
theorem labO_step (uses : List ByteArray) (u s : ByteArray) : labO (uses ++ [u]) s = if aliasB u = s then some u else labO uses s := by
  unfold labO
  rw [List.foldl_append]
  rfl
def gBind (ids : ByteArray → Option Int) (labs : ByteArray → Option ByteArray) (known : List If) : Repl := fun x sc =>
  if x.k = 3 ∧ hasN sc x.n = false then
    match ids x.n with
    | some i => (0, ⟨5, ⟨#[]⟩, ⟨#[]⟩, i, 0⟩)
    | none => (21, noNx)
  else if x.k = 4 then
    match labs x.n with
    | none => (21, noNx)
    | some l =>
      match sigO (sigsOf known l) (fun s => s.name.toList == x.m.toList) with
      | none => (21, noNx)
      | some s => (0, ⟨5, l, ⟨#[]⟩, s.id, 0⟩)
  else (0, x)
def cbUses (label : ByteArray) (known : List If) (l : List ByteArray) : Nat → Nat → Int
  | 0, _ => 0
  | f + 1, j => if useE label l j ≠ 0 then useE label l j else if (faceO known (l.getD j ⟨#[]⟩)).isNone = true then 8 else cbUses label known l f (j + 1)
def cbE (label : ByteArray) (uses : List ByteArray) (ds : List Dc) (known : List If) : Int :=
  if labelB label = false then 6 else
  if srcDE uses ds ≠ 0 then srcDE uses ds else
  if ds.any (fun x => x.id == 0) = true then 2 else cbUses label known uses uses.length 0
def rbD (g : Repl) (x : Dc) : Int × Nx × Pt := rebN g ⟨x.k, x.n, x.m, x.i, x.d⟩ x.s.pt []
def rbAllE (g : Repl) : List Dc → Int
  | [] => 0
  | x :: r => if (rbD g x).1 ≠ 0 then (rbD g x).1 else rbAllE g r
structure RbDc (g : Repl) (x y : Dc) : Prop where
  id : y.id = x.id
  kind : y.kind = x.kind
  pub : y.pub = x.pub
  nA : y.nA = x.nA
  nc : y.nc = x.nc
  names : y.names = x.names
  doubt : y.doubt = x.doubt
  k : y.k = (rbD g x).2.1.k
  n : y.n = (rbD g x).2.1.n
  m : y.m = (rbD g x).2.1.m
  i : y.i = (rbD g x).2.1.i
  d : y.d = (rbD g x).2.1.d
  s : y.s.pt = (rbD g x).2.2
def RbDs (g : Repl) : List Dc → List Dc → Prop
  | [], [] => True
  | x :: r, y :: s => RbDc g x y ∧ RbDs g r s
  | _, _ => False
def bindG (uses : List ByteArray) (ds : List Dc) (known : List If) : Repl := gBind (idsO ds) (labO uses) known
def bindE (label : ByteArray) (uses : List ByteArray) (ds : List Dc) (known : List If) : Int :=
  if cbE label uses ds known ≠ 0 then cbE label uses ds known else rbAllE (bindG uses ds known) ds
theorem rbDs_of {g : Repl} : ∀ {ds es : List Dc}, es.length = ds.length → (∀ (j : Nat) (x y : Dc), ds[j]? = some x → es[j]? = some y → RbDc g x y) → RbDs g ds es
  | [], [], _, _ => trivial
  | [], _ :: _, h, _ => by simp at h
  | _ :: _, [], h, _ => by simp at h
  | x :: r, y :: s, h, H => ⟨H 0 x y rfl rfl, rbDs_of (by simpa using h) fun j a b ha hb => H (j + 1) a b (by simpa using ha) (by simpa using hb)⟩
end Go.Proofs.YtacjjkbkhpdhnaaGreatDoor
