/- syntax.Nodes -/
import Derived.Test.YtlcfoiapkblheaaGreatDoorGke
import Derived.Test.YtlcfoiapkblheaaGreatDoorGkj
namespace Go.Proofs.YtlcfoiapkblheaaGreatDoor
open Go.RowKit Go.Proofs Go.Shelf

attribute [local go_sem] Oper.semAt_some wide_fn wide_depth

set_option maxRecDepth 100000 in
set_option maxHeartbeats 2000000 in
theorem sNodes_any (k : Int) (n m : ByteArray) (i d : Int) (A : Option Addr) (c : Nat) (s : Fo) (w : World) (hs : s.Sl w w.heap.size A c) (hdp : ∀ x ∈ (⟨1, k, n, m, i, d, A, s.len, c⟩ :: s.pre 2 : List Nd), x.dep ≤ 1000) (hsm : s.count ≤ 1000000) :
    Calls Tryz.prog 23 #[.agg #[.int .i64 k, .string n, .string m, .int .i64 i, .int .i64 d, .slice A s.len c]] w fun e w' =>
      e = .returned (.int .i64 ((⟨1, k, n, m, i, d, A, s.len, c⟩ :: s.pre 2 : List Nd).length : Nat)) ∧ Below w.heap.size w w' := by
  have HS := Lib.hid hs
  clear hs
  obtain ⟨L, HL⟩ : ∃ L, Hid ((⟨1, k, n, m, i, d, A, s.len, c⟩ :: s.pre 2 : List Nd) = L) := ⟨_, rfl⟩
  rw [HL.out] at hdp ⊢
  refine (callsIn_wide (n := 0)).1 ?_
  refine callsIn_of_wp_marks Tryz.func23 rfl trivial ?_ rfl
  simp only [Tryz.ntmps23, List.size_toArray, List.length_cons, List.length_nil, Nat.reduceAdd, Nat.reduceSub, Array.replicate_succ, Array.replicate_zero, List.push_toArray, List.append_toArray, List.nil_append, List.cons_append]
  gi_wp2_with (gi_at_call 74; refine (callsIn_wide.2 (nodes_fn _ _ _ _ _ _ _)).mono ?_; rintro e w' ⟨rfl, rfl⟩)
  obtain ⟨W0, hW0⟩ : ∃ W0, ((w.alloc (.cells #[.int .i64 k, .string n, .string m, .int .i64 i, .int .i64 d, .slice A s.len c] 41)).alloc (.cells #[.int .i64 0] 3)).alloc (.cells #[.int .i64 k, .string n, .string m, .int .i64 i, .int .i64 d, .slice A s.len c] 41) = W0 := ⟨_, rfl⟩
  have z0 : W0.heap.size = w.heap.size + 3 := by subst hW0; simp
  have q0 : W0.cell? ⟨w.heap.size + 1, 0, none⟩ = some (.int .i64 0) := by subst hW0; go_simp
  have qf : W0.frozen? ⟨w.heap.size + 1, 0, none⟩ = false := by subst hW0; go_simp
  have b0 : W0.cell? ⟨w.heap.size + 1 + 1, 0, none⟩ = some (.int .i64 k) := by subst hW0; go_simp
  have b1 : W0.cell? ⟨w.heap.size + 1 + 1, 1, none⟩ = some (.string n) := by subst hW0; go_simp
  have b2 : W0.cell? ⟨w.heap.size + 1 + 1, 2, none⟩ = some (.string m) := by subst hW0; go_simp
  have b3 : W0.cell? ⟨w.heap.size + 1 + 1, 3, none⟩ = some (.int .i64 i) := by subst hW0; go_simp
  have b4 : W0.cell? ⟨w.heap.size + 1 + 1, 4, none⟩ = some (.int .i64 d) := by subst hW0; go_simp
  have b5 : W0.cell? ⟨w.heap.size + 1 + 1, 5, none⟩ = some (.slice A s.len c) := by subst hW0; go_simp
  have hB0 : Below w.heap.size w W0 := by rw [← hW0]; exact (((Below.refl _ _).alloc (Nat.le_refl _) _).alloc (by simp) _).alloc (by simp; omega) _
  rw [hW0]
  clear hW0
  have hS0 : s.Sl W0 w.heap.size A c := HS.out.below hB0
  have hit := nodes1_iter (w.heap.size + 1 + 1) w.heap.size k n m i d A c s W0 b0 b1 b2 b3 b4 b5 hS0 (by omega)
  rw [HL.out] at hit
  have hLl : L.length ≤ 1000001 := by rw [← HL.out, List.length_cons, Fo.pre_length]; omega
  refine wpIn_range (P := Tryz.prog) (w0 := W0) (gf := 151) rfl (fun args w => Tryz.call151 args w) hit (Keeps.refl _ _) (fun _ => rfl) (by omega) (by rintro k rfl; omega)
    (fun pre W => W.cell? ⟨w.heap.size + 1, 0, none⟩ = some (.int .i64 pre.length) ∧ W.frozen? ⟨w.heap.size + 1, 0, none⟩ = false ∧ (∀ x ∈ pre, x.dep ≤ 1000) ∧ Below w.heap.size w W)
    (fun _ _ _ => False)
    ?told1 (fun _ _ _ _ h _ => h.elim) (fun pre W h x hx => h.2.2.1 x hx) ⟨q0, qf, by simp, hB0⟩
    (fun x => { tmps := #[.agg #[.int .i64 k, .string n, .string m, .int .i64 i, .int .i64 d, .slice A s.len c], .pointer (some ⟨w.heap.size, 0, none⟩), .int .i64 0, .pointer (some ⟨w.heap.size + 1, 0, none⟩), .agg #[.int .i64 k, .string n, .string m, .int .i64 i, .int .i64 d, .slice A s.len c], .func (.func 151) #[] #[.pointer (some ⟨w.heap.size + 1 + 1, 0, none⟩)], .int .i64 x.dep, .agg #[.int .i64 x.k, .string x.n, .string x.m, .int .i64 x.i, .int .i64 x.d, .slice x.A x.len x.c], undef, undef, undef], defers := [] })
    ?assign ?body ?done ?stop
  case told1 =>
    intro pre X Y ⟨h1, h2, h3, h4⟩ hk
    have hl : w.heap.size + 1 < X.heap.size := World.block_lt_of_cell? X ⟨w.heap.size + 1, 0, none⟩ h1
    exact ⟨hk.cell (p := ⟨w.heap.size + 1, 0, none⟩) ⟨by simp; omega, by simp⟩ h1, (hk.frozen (p := ⟨w.heap.size + 1, 0, none⟩) hl ⟨by simp; omega, by simp⟩).trans h2, h3,
      h4.trans (hk.to_below (by omega) fun k hk => ⟨by omega, by omega⟩)⟩
  case assign =>
    intro l x W K hK
    simp only [Nd.encs]
    gi_wp2
    simpa using hK
  case body =>
    rintro l pre x W hpre ⟨h1, h2, h3, h4⟩ hsz
    have HH := Lib.hid (And.intro hpre (And.intro h3 h4))
    have hpl : pre.length ≤ 1000001 := by have := hpre.length_le; simp at this; omega
    have hdx : x.dep ≤ 1000 := hdp x (hpre.subset (by simp))
    clear hpre hit b0 b1 b2 b3 b4 b5 q0 qf hB0 h3 h4 hS0 hdp
    gi_wp2
    refine ⟨(Keeps.refl _ _).setCell (by simp; omega) _, ?_, ?_, ?_, HH.out.2.2.setCell (by simp) _⟩
    · rw [World.cell?_setCell_same' _ _ _ (by rw [h1]; rfl)]; simp
    · rw [World.frozen?_setCell]; exact h2
    · intro y hy
      rcases List.mem_append.1 hy with hy | hy
      · exact HH.out.2.1 y hy
      · simp only [List.mem_singleton] at hy; subst hy; exact hdx
  case done =>
    rintro D W hD ⟨h1, h2, h3, h4⟩ hK
    have HB := Lib.hid h4
    clear hit b0 b1 b2 b3 b4 b5 q0 qf hB0 h3 h4 hS0 hdp
    gi_wp2
    refine ret_mark (v := .int .i64 L.length) hK ?_ ⟨rfl, below_putObj HB.out (by omega) _⟩
    simp [results, Tryz.results23, go_sem]
  case stop => exact fun _ _ _ _ _ _ h => h.elim
end Go.Proofs.YtlcfoiapkblheaaGreatDoor
