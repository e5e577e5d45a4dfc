/- slices.Backward at strings -/
import Derived.Test.YtlpipoihinceiaaGreatDoorGkp
import Derived.Test.YtlpipoihinceiaaGreatDoorGkc
import Derived.RegionTactic
namespace Go.Proofs.YtlpipoihinceiaaGreatDoor
open Go.RowKit Go.Proofs Go.Shelf

attribute [local go_sem] Oper.semAt_some wide_fn wide_depth

/-- The first k elements of a list, with their indexes, backwards. -/
def backT (l : List ByteArray) : Nat → List (Nat × ByteArray)
  | 0 => []
  | k + 1 => (k, l.getD k ⟨#[]⟩) :: backT l k

theorem backward_any (l : List ByteArray) (A : Option Addr) (c : Nat) (w : World) : Calls Tryz.prog 241 #[.slice A l.length c] w fun e w' =>
    e = .returned (.func (.func 249) #[] #[.pointer (some ⟨w.heap.size, 0, none⟩)]) ∧ w.alloc (.cells #[.slice A l.length c] 22) = w' := by
  have hmf : ∀ (fn : Fn) (first cap : Array Value) (w : World), (Instr.makeFunc fn first cap).run Tryz.prog w = .ok (.func fn first cap) w := fun _ _ _ _ => rfl
  go_enter Tryz.func241, Tryz.ntmps241
  go_wp2
  go_ret
  exact ⟨rfl, rfl⟩

set_option maxRecDepth 100000 in
set_option maxHeartbeats 1000000 in
theorem backward1_iter (l : List ByteArray) (A : Option Addr) (c sb n₀ : Nat) (w : World) (h1 : w.cell? ⟨sb, 0, none⟩ = some (.slice A l.length c)) (hs : SlS w n₀ A c l) (hsb : sb < n₀) (hn : n₀ ≤ w.heap.size) (hl : l.length ≤ 1000000) :
    Iter Tryz.prog 249 #[.pointer (some ⟨sb, 0, none⟩)] (fun x : Nat × ByteArray => #[.int .i64 x.1, .string x.2]) (fun _ => False) n₀ (fun _ => True) (backT l l.length) w := by
  intro lp J Jx W hW hJ hJx _ hY h0
  have k1 := hW.cell (p := ⟨sb, 0, none⟩) trivial h1
  have ks : SlS W n₀ A c l := hs.keep (Nat.le_refl _) fun p hp => World.cell?_of_block (hW.block p.block (by omega) trivial)
  have hzW := hW.size
  have hcap := hs.1
  have HW := Lib.hid (And.intro hY ks)
  clear hJ hJx hY h1 hW hs ks
  obtain ⟨N, HN⟩ : ∃ N, Hid (l.length = N) := ⟨_, rfl⟩
  rw [HN.out] at k1 HW hl hcap ⊢
  refine callsIn_of_wp Tryz.func249 rfl trivial ?_ rfl
  simp only [Tryz.ntmps249, List.size_toArray, List.length_cons, List.length_nil, Nat.reduceAdd, Nat.reduceSub, Array.replicate_succ, Array.replicate_zero, List.push_toArray, List.append_toArray, List.nil_append, List.cons_append]
  gi_wp2
  gi_loopw [3] (fun iv wr => ∃ (k : Nat) (z : Int) (pre : List (Nat × ByteArray)), k ≤ N ∧ z + 1 = k ∧ iv = .int .i64 z ∧ pre ++ backT l k = backT l N ∧ J pre wr ∧ W.heap.size ≤ wr.heap.size ∧
      wr.cell? ⟨sb, 0, none⟩ = some (.slice A N c) ∧ SlS wr n₀ A c l)
    (fun iv _ => (intOf iv + 1).toNat)
  case atStart => exact ⟨N, _, [], Nat.le_refl _, by omega, rfl, rfl, h0, Nat.le_refl _, k1, HW.out.2⟩
  case round =>
    obtain ⟨k, z, pre, hk, hz, rfl, hpc, hJ, hsz', c1, cs⟩ := hrel
    have HP := Lib.hid (And.intro hpc cs)
    clear hpc cs
    cases k with
    | zero =>
      have hz' : decide (0 ≤ z) = false := by simp; omega
      clear hz
      gi_wp2
      go_end0
      refine ⟨⟨_, rfl⟩, .inl ?_⟩
      have := HP.out.1
      simp only [backT, List.append_nil] at this
      rw [← this]
      exact hJ
    | succ k =>
      obtain rfl : z = (k : Int) := by omega
      clear hz
      have hkl : k < l.length := by rw [HN.out]; omega
      obtain ⟨b, o, rfl, hb, hcell⟩ := HP.out.2.at_ hkl
      have hgd : l.getD k ⟨#[]⟩ = l[k] := by simp [List.getD_eq_getElem?_getD, List.getElem?_eq_getElem hkl]
      obtain ⟨fn, tmps, assign, body, hy, hR⟩ := HW.out.1 pre (k, l[k]) wr (by rw [← HP.out.1]; exact ⟨backT l k, by rw [backT, hgd]; simp⟩) hJ hsz'
      have HF := Lib.hid (show (pre ++ [(k, l[k])]) ++ backT l k = backT l N by rw [← HP.out.1, backT, hgd]; simp)
      generalize l[k] = x at hcell hy hR HF
      clear hgd hkl
      gi_wp2
      refine hR.mono ?_
      rintro e Y (⟨rfl, hJ', hkp⟩ | ⟨rfl, hJ'⟩)
      · have d1 := hkp.cell (p := ⟨sb, 0, none⟩) (.inr (.inr hsb)) c1
        have hs2 : SlS Y n₀ (some ⟨b, o, none⟩) c l := HP.out.2.keep (Nat.le_refl _) fun p hp => World.cell?_of_block (hkp.block p.block (by omega) (.inr (.inr hp)))
        have hsz2 := hkp.size
        have HS2 := Lib.hid (And.intro d1 hs2)
        clear hkp hs2 c1 hcell hR hy hJ d1
        gi_wp2
        exact ⟨⟨k, _, _, by omega, by omega, rfl, HF.out, hJ', by omega, HS2.out.1, HS2.out.2⟩, by simp [intOf]⟩
      · gi_wp2
        refine bodyPost_ret (results_none rfl _ _ _) rfl ?_
        exact ⟨⟨_, rfl⟩, .inr ⟨_, ⟨_, HF.out⟩, hJ'⟩⟩
end Go.Proofs.YtlpipoihinceiaaGreatDoor
/- maker.simple -/
namespace Go.Proofs.YtlpipoihinceiaaGreatDoor
open Go.RowKit Go.Proofs Go.Shelf

theorem lastV_snoc (n : ByteArray) (m : List ByteArray) (y : ByteArray) : lastV n (m ++ [y]) = if (y.toList == n.toList) = true then some m.length else lastV n m := by
  induction m with
  | nil => simp only [List.nil_append, lastV, List.length_nil]
  | cons z m ih =>
    by_cases h : (y.toList == n.toList) = true
    · rw [if_pos h] at ih ⊢
      simp only [List.cons_append, lastV, ih, List.length_cons]
    · rw [if_neg h] at ih ⊢
      simp only [List.cons_append, lastV, ih]
theorem backT_mem (l : List ByteArray) (n : ByteArray) : ∀ (k : Nat) (pre : List (Nat × ByteArray)) (x : Nat × ByteArray), k ≤ l.length → pre ++ [x] <+: backT l k → (∀ y ∈ pre, (y.2.toList == n.toList) = false) → (x.2.toList == n.toList) = true → lastV n (l.take k) = some x.1
  | 0, pre, x, _, h, _, _ => by simp [backT] at h
  | k + 1, pre, x, hk, h, hp, hx => by
    have hkl : k < l.length := by omega
    have e : l.take (k + 1) = l.take k ++ [l[k]] := by rw [List.take_succ_eq_append_getElem hkl]
    have hgd : l.getD k ⟨#[]⟩ = l[k] := by simp [List.getD_eq_getElem?_getD, List.getElem?_eq_getElem hkl]
    rw [e, lastV_snoc, List.length_take, Nat.min_eq_left (by omega)]
    cases pre with
    | nil =>
      rw [backT] at h
      simp only [List.nil_append, List.cons_prefix_cons] at h
      obtain ⟨rfl, _⟩ := h
      rw [hgd] at hx
      rw [if_pos hx]
    | cons y pre =>
      rw [backT] at h
      simp only [List.cons_append, List.cons_prefix_cons] at h
      obtain ⟨rfl, h⟩ := h
      have h1 := hp _ (List.mem_cons_self ..)
      rw [hgd] at h1
      rw [if_neg (by rw [h1]; simp)]
      exact backT_mem l n k pre x (by omega) h (fun y hy => hp y (List.mem_cons_of_mem _ hy)) hx
theorem backT_none (l : List ByteArray) (n : ByteArray) : ∀ k, k ≤ l.length → (∀ y ∈ backT l k, (y.2.toList == n.toList) = false) → lastV n (l.take k) = none
  | 0, _, _ => by simp [lastV]
  | k + 1, hk, h => by
    have hkl : k < l.length := by omega
    have hgd : l.getD k ⟨#[]⟩ = l[k] := by simp [List.getD_eq_getElem?_getD, List.getElem?_eq_getElem hkl]
    have e : l.take (k + 1) = l.take k ++ [l[k]] := by rw [List.take_succ_eq_append_getElem hkl]
    rw [backT] at h
    have h1 := h _ (List.mem_cons_self ..)
    rw [hgd] at h1
    rw [e, lastV_snoc, if_neg (by rw [h1]; simp)]
    exact backT_none l n k (by omega) fun y hy => h y (List.mem_cons_of_mem _ hy)

theorem below_drew {B : Nat} {w w' : World} (h : Below B w w') : Below B w w'.drew := ⟨h.os, h.tape, h.output, h.size, h.block⟩

/-- maker.simple, at every kind but a variable. -/
def SimpleP (x : Ins) (w : World) (e : Ending) (w' : World) : Prop := e = .returned (.agg #[.int .i64 x.op, .int .i64 x.a, .int .i64 x.b, .string x.nm]) ∧ Below w.heap.size w w'

set_option maxRecDepth 100000 in
set_option maxHeartbeats 1000000 in
theorem simple_not (label : ByteArray) (k : Int) (n m : ByteArray) (i d : Int) (A : Option Addr) (len c : Nat) (vars : List ByteArray) (vA : Option Addr) (vc mb : Nat) (X : World) (hm : X.cell? ⟨mb, 0, none⟩ = some (.string label)) (h3 : k ≠ 3) :
    Calls Tryz.prog 223 #[.pointer (some ⟨mb, 0, none⟩), .agg #[.int .i64 k, .string n, .string m, .int .i64 i, .int .i64 d, .slice A len c], .slice vA vars.length vc] X (SimpleP (simpleI label k n i d vars) X) := by
  have hmb : mb < X.heap.size := World.block_lt_of_cell? X ⟨mb, 0, none⟩ hm
  have k3 : (k == 3) = false := by simpa using h3
  clear h3
  obtain ⟨E, HE⟩ : ∃ E, Hid (simpleI label k n i d vars = E) := ⟨_, rfl⟩
  rw [HE.out]
  by_cases h1 : k = 1
  · subst h1
    have HR := Lib.hid (show E = ⟨1, i, 0, ⟨#[]⟩⟩ by rw [← HE.out]; rfl)
    go_enter Tryz.func223, Tryz.ntmps223
    go_wp2
    refine bodyPost_ret (v := .agg #[.int .i64 1, .int .i64 i, .int .i64 0, .string ⟨#[]⟩]) (by simp [results, Tryz.results223, go_sem]) rfl ⟨by rw [HR.out], ?_⟩
    exact ((Below.refl _ _).alloc (Nat.le_refl _) _).alloc (by simp) _
  have k1 : (k == 1) = false := by simpa using h1
  by_cases h2 : k = 2
  · subst h2
    have HR := Lib.hid (show E = ⟨2, i, 0, ⟨#[]⟩⟩ by rw [← HE.out]; rfl)
    clear h1
    go_enter Tryz.func223, Tryz.ntmps223
    go_wp2
    refine bodyPost_ret (v := .agg #[.int .i64 2, .int .i64 i, .int .i64 0, .string ⟨#[]⟩]) (by simp [results, Tryz.results223, go_sem]) rfl ⟨by rw [HR.out], ?_⟩
    exact ((Below.refl _ _).alloc (Nat.le_refl _) _).alloc (by simp) _
  have k2 : (k == 2) = false := by simpa using h2
  by_cases h14 : k = 14
  · subst h14
    have HR := Lib.hid (show E = ⟨16, i, d, ⟨#[]⟩⟩ by rw [← HE.out]; rfl)
    clear h1 h2
    go_enter Tryz.func223, Tryz.ntmps223
    go_wp2
    refine bodyPost_ret (v := .agg #[.int .i64 16, .int .i64 i, .int .i64 d, .string ⟨#[]⟩]) (by simp [results, Tryz.results223, go_sem]) rfl ⟨by rw [HR.out], ?_⟩
    exact ((Below.refl _ _).alloc (Nat.le_refl _) _).alloc (by simp) _
  have k14 : (k == 14) = false := by simpa using h14
  by_cases h5 : k = 5
  · subst h5
    clear h1 h2 h14
    by_cases hn : n.toList.isEmpty = true
    · have HR := Lib.hid (show E = ⟨4, i, 0, label⟩ by rw [← HE.out]; simp [simpleI, hn])
      have hn' : n.toList = [] := by simpa using hn
      have hc : ((X.alloc (.cells #[.int .i64 5, .string n, .string m, .int .i64 i, .int .i64 d, .slice A len c] 28)).alloc (.cells #[.int .i64 0, .int .i64 0, .int .i64 0, .string ⟨#[]⟩] 130)).cell? ⟨mb, 0, none⟩ = some (.string label) := by
        rw [World.cell?_alloc_lt _ _ _ (by simp; omega), World.cell?_alloc_lt _ _ _ hmb]; exact hm
      go_enter Tryz.func223, Tryz.ntmps223
      go_wp2
      go_region
      all_goals (
        go_wp2
        refine bodyPost_ret (v := .agg #[.int .i64 4, .int .i64 i, .int .i64 0, .string label]) (by simp [results, Tryz.results223, go_sem]) rfl ⟨by rw [HR.out], ?_⟩
        exact below_drew (((Below.refl _ _).alloc (Nat.le_refl _) _).alloc (by simp) _))
    · have HR := Lib.hid (show E = ⟨4, i, 0, n⟩ by rw [← HE.out]; simp [simpleI, hn])
      have hn' : n.toList.isEmpty = false := by simpa using hn
      have hn2 : (!n.toList.isEmpty) = true := by simp [hn']
      clear hn
      go_enter Tryz.func223, Tryz.ntmps223
      go_wp2
      refine bodyPost_ret (v := .agg #[.int .i64 4, .int .i64 i, .int .i64 0, .string n]) (by simp [results, Tryz.results223, go_sem]) rfl ⟨by rw [HR.out], ?_⟩
      exact ((Below.refl _ _).alloc (Nat.le_refl _) _).alloc (by simp) _
  have k5 : (k == 5) = false := by simpa using h5
  have HR := Lib.hid (show E = ⟨11, 0, 0, ⟨#[]⟩⟩ by rw [← HE.out]; simp [simpleI, h1, h2, h14, h5]; intro h; simp [h] at k3)
  clear h1 h2 h14 h5
  go_enter Tryz.func223, Tryz.ntmps223
  go_wp2
  refine bodyPost_ret (v := .agg #[.int .i64 11, .int .i64 0, .int .i64 0, .string ⟨#[]⟩]) (by simp [results, Tryz.results223, go_sem]) rfl ⟨by rw [HR.out], ?_⟩
  exact ((Below.refl _ _).alloc (Nat.le_refl _) _).alloc (by simp) _
end Go.Proofs.YtlpipoihinceiaaGreatDoor
/- maker.simple at a variable -/
namespace Go.Proofs.YtlpipoihinceiaaGreatDoor
open Go.RowKit Go.Proofs Go.Shelf

attribute [local go_sem] Oper.semAt_some wide_fn wide_depth

theorem four_set {W : World} {b : Nat} {a0 a1 a2 a3 : Value} {t : TypeId} (h : W.heap[b]? = some (.cells #[a0, a1, a2, a3] t (0, 0))) (u0 u1 u2 u3 : Value) :
    ((((W.setCell ⟨b, 0, none⟩ u0).setCell ⟨b, 1, none⟩ u1).setCell ⟨b, 2, none⟩ u2).setCell ⟨b, 3, none⟩ u3).heap[b]? = some (.cells #[u0, u1, u2, u3] t (0, 0)) := by
  have h0 := heap_setCell_same W b 0 _ t u0 h
  have h1 := heap_setCell_same _ b 1 _ t u1 h0
  have h2 := heap_setCell_same _ b 2 _ t u2 h1
  have h3 := heap_setCell_same _ b 3 _ t u3 h2
  rw [h3]
  rfl

set_option maxRecDepth 100000 in
set_option maxHeartbeats 2000000 in
theorem simple_var (label n m : ByteArray) (i d : Int) (A : Option Addr) (len c : Nat) (vars : List ByteArray) (vA : Option Addr) (vc mb : Nat) (X : World) (hv : VarsAt X vA vc vars) (hl : vars.length ≤ 1000000) :
    Calls Tryz.prog 223 #[.pointer (some ⟨mb, 0, none⟩), .agg #[.int .i64 3, .string n, .string m, .int .i64 i, .int .i64 d, .slice A len c], .slice vA vars.length vc] X (SimpleP (simpleI label 3 n i d vars) X) := by
  have HE1 := Lib.hid (fun j (h : lastV n vars = some j) => show simpleI label 3 n i d vars = ⟨3, j, 0, ⟨#[]⟩⟩ by simp [simpleI, h])
  have HE0 := Lib.hid (fun (h : lastV n vars = none) => show simpleI label 3 n i d vars = ⟨11, 0, 0, ⟨#[]⟩⟩ by simp [simpleI, h])
  obtain ⟨E, HE⟩ : ∃ E, Hid (simpleI label 3 n i d vars = E) := ⟨_, rfl⟩
  rw [HE.out] at HE1 HE0 ⊢
  have HV := Lib.hid hv.sls.1
  clear hv
  refine (callsIn_wide (n := 0)).1 ?_
  refine callsIn_of_wp_marks Tryz.func223 rfl trivial ?_ rfl
  simp only [Tryz.ntmps223, List.size_toArray, List.length_cons, List.length_nil, Nat.reduceAdd, Nat.reduceSub, Array.replicate_succ, Array.replicate_zero, List.push_toArray, List.append_toArray, List.nil_append, List.cons_append]
  gi_wp2_with (gi_at_call 241; refine (callsIn_wide.2 (backward_any _ _ _ _)).mono ?_; rintro e w' ⟨rfl, rfl⟩)
  obtain ⟨W0, hW0⟩ : ∃ W0, ((X.alloc (.cells #[.int .i64 3, .string n, .string m, .int .i64 i, .int .i64 d, .slice A len c] 28)).alloc (.cells #[.int .i64 0, .int .i64 0, .int .i64 0, .string ⟨#[]⟩] 130)).alloc (.cells #[.slice vA vars.length vc] 22) = W0 := ⟨_, rfl⟩
  have z0 : W0.heap.size = X.heap.size + 3 := by subst hW0; simp
  have e1 : W0.cell? ⟨X.heap.size, 1, none⟩ = some (.string n) := by subst hW0; go_simp
  have q0 : W0.heap[X.heap.size + 1]? = some (.cells #[.int .i64 0, .int .i64 0, .int .i64 0, .string ⟨#[]⟩] 130 (0, 0)) := by
    subst hW0
    refine (Below.heap_alloc _ _ _ (by simp)).trans ?_
    have h := World.alloc_heap_new (X.alloc (.cells #[.int .i64 3, .string n, .string m, .int .i64 i, .int .i64 d, .slice A len c] 28)) (.cells #[.int .i64 0, .int .i64 0, .int .i64 0, .string ⟨#[]⟩] 130)
    simpa using h
  have s0 : W0.cell? ⟨X.heap.size + 1 + 1, 0, none⟩ = some (.slice vA vars.length vc) := by subst hW0; go_simp
  have hB0 : Below X.heap.size X W0 := by rw [← hW0]; exact (((Below.refl _ _).alloc (Nat.le_refl _) _).alloc (by simp) _).alloc (by simp; omega) _
  rw [hW0]
  clear hW0
  have hit := backward1_iter vars vA vc (X.heap.size + 1 + 1) W0.heap.size W0 s0 (HV.out.keep (by omega) fun p hp => hB0.cell hp) (by omega) (Nat.le_refl _) hl
  refine wpIn_range (P := Tryz.prog) (w0 := W0) (gf := 249) rfl (fun args w => Tryz.call249 args w) hit (Keeps.refl _ _) (fun _ => rfl) (Nat.le_refl _) (by rintro k h; cases h)
    (fun pre W => W.heap[X.heap.size + 1]? = some (.cells #[.int .i64 0, .int .i64 0, .int .i64 0, .string ⟨#[]⟩] 130 (0, 0)) ∧ W.cell? ⟨X.heap.size, 1, none⟩ = some (.string n) ∧ (∀ y ∈ pre, (y.2.toList == n.toList) = false) ∧ Below X.heap.size X W)
    (fun c pre W => c = .ret ∧ ∃ j : Nat, lastV n vars = some j ∧ W.heap[X.heap.size + 1]? = some (.cells #[.int .i64 3, .int .i64 j, .int .i64 0, .string ⟨#[]⟩] 130 (0, 0)) ∧ Below X.heap.size X W)
    ?told1 ?told2 (fun _ _ _ => trivial) ⟨q0, e1, by simp, hB0⟩
    (fun x => { tmps := #[.pointer (some ⟨mb, 0, none⟩), .agg #[.int .i64 3, .string n, .string m, .int .i64 i, .int .i64 d, .slice A len c], .slice vA vars.length vc, undef, .pointer (some ⟨X.heap.size, 0, none⟩), undef, .pointer (some ⟨X.heap.size + 1, 0, none⟩), .int .i64 x.1, .string x.2, .pointer (some ⟨X.heap.size, 0, none⟩), .int .i64 3, .bool false, .bool false, undef, undef, undef, .bool false, .bool false, undef, undef, undef, .bool false, .bool false, undef, undef, undef, undef, undef, .bool false, .bool false, undef, undef, undef, undef, undef, undef, undef, undef, undef, undef, undef, undef, undef, undef, undef, .bool true, .bool true, .slice vA vars.length vc, .func (.func 249) #[] #[.pointer (some ⟨X.heap.size + 1 + 1, 0, none⟩)], .int .i64 x.1, .string x.2, undef, undef, undef, undef, undef, undef, undef], defers := [] })
    ?assign ?body ?done ?stop
  case told1 =>
    intro pre X' Y ⟨h1, h2, h3, h4⟩ hk
    have := hk.size
    have hl1 := lt_of_block h1
    exact ⟨(hk.block _ hl1 ⟨by omega, by simp⟩).trans h1, hk.cell (p := ⟨X.heap.size, 1, none⟩) ⟨by simp; omega, by simp⟩ h2, h3, h4.trans (hk.to_below (by omega) fun k hk => ⟨by omega, by simp⟩)⟩
  case told2 =>
    intro c pre X' Y ⟨h0, j, h1, h2, h4⟩ hk
    have hl1 := lt_of_block h2
    exact ⟨h0, j, h1, (hk.block _ hl1 ⟨by omega, by simp⟩).trans h2, h4.trans (hk.to_below (by omega) fun k hk => ⟨by omega, by simp⟩)⟩
  case assign =>
    intro l x W K hK
    gi_wp2
    exact hK
  case body =>
    rintro l pre x W hpre ⟨h1, h2, h3, h4⟩ hsz
    have c0 := cell_of_row W (X.heap.size + 1) 0 _ _ (0, 0) h1
    have c1 := cell_of_row W (X.heap.size + 1) 1 _ _ (0, 0) h1
    have c2 := cell_of_row W (X.heap.size + 1) 2 _ _ (0, 0) h1
    have c3 := cell_of_row W (X.heap.size + 1) 3 _ _ (0, 0) h1
    simp at c0 c1 c2 c3
    have f0 := frozen_of_row W (X.heap.size + 1) 0 _ _ h1
    have f1 := frozen_of_row W (X.heap.size + 1) 1 _ _ h1
    have f2 := frozen_of_row W (X.heap.size + 1) 2 _ _ h1
    have f3 := frozen_of_row W (X.heap.size + 1) 3 _ _ h1
    have hl1 := lt_of_block h1
    have HH := Lib.hid (And.intro hpre (And.intro h3 (And.intro h4 h1)))
    clear hpre h3 h4 h1 hit e1 q0 s0 hB0
    cases hx : (x.2.toList == n.toList)
    · gi_wp2
      refine ⟨Keeps.refl _ _, HH.out.2.2.2, h2, ?_, HH.out.2.2.1⟩
      intro y hy
      rcases List.mem_append.1 hy with hy | hy
      · exact HH.out.2.1 y hy
      · simp only [List.mem_singleton] at hy; subst hy; exact hx
    · have HL := Lib.hid (show lastV n vars = some x.1 by
        have := backT_mem vars n vars.length pre x (Nat.le_refl _) HH.out.1 HH.out.2.1 hx
        rwa [List.take_of_length_le (Nat.le_refl _)] at this)
      gi_wp2
      refine ⟨((((Keeps.refl _ _).setCell (by simp; omega) _).setCell (by simp; omega) _).setCell (by simp; omega) _).setCell (by simp; omega) _, rfl, x.1, HL.out, ?_, (((HH.out.2.2.1.setCell (by simp) _).setCell (by simp) _).setCell (by simp) _).setCell (by simp) _⟩
      exact four_set HH.out.2.2.2 _ _ _ _
  case done =>
    rintro D W hD ⟨h1, h2, h3, h4⟩ hK
    have HR := Lib.hid (HE0.out (by
      have := backT_none vars n vars.length (Nat.le_refl _) h3
      rwa [List.take_of_length_le (Nat.le_refl _)] at this))
    have c0 := cell_of_row W (X.heap.size + 1) 0 _ _ (0, 0) h1
    have c1 := cell_of_row W (X.heap.size + 1) 1 _ _ (0, 0) h1
    have c2 := cell_of_row W (X.heap.size + 1) 2 _ _ (0, 0) h1
    have c3 := cell_of_row W (X.heap.size + 1) 3 _ _ (0, 0) h1
    simp at c0 c1 c2 c3
    have f0 := frozen_of_row W (X.heap.size + 1) 0 _ _ h1
    have f1 := frozen_of_row W (X.heap.size + 1) 1 _ _ h1
    have f2 := frozen_of_row W (X.heap.size + 1) 2 _ _ h1
    have f3 := frozen_of_row W (X.heap.size + 1) 3 _ _ h1
    have HH := Lib.hid (And.intro h1 h4)
    clear h1 h3 h4 h2 hit e1 q0 s0 hB0
    gi_wp2
    have hfs := four_set HH.out.1 (.int .i64 11) (.int .i64 0) (.int .i64 0) (.string ⟨#[]⟩)
    have hne : X.heap.size + 1 ≠ D := by omega
    have hKD : ((((W.setCell ⟨X.heap.size + 1, 0, none⟩ (.int .i64 11)).setCell ⟨X.heap.size + 1, 1, none⟩ (.int .i64 0)).setCell ⟨X.heap.size + 1, 2, none⟩ (.int .i64 0)).setCell ⟨X.heap.size + 1, 3, none⟩ (.string ⟨#[]⟩)).heap[D]? = some (.deferred (some [])) := by
      rw [Below.heap_setCell _ _ _ _ (by simp; omega), Below.heap_setCell _ _ _ _ (by simp; omega), Below.heap_setCell _ _ _ _ (by simp; omega), Below.heap_setCell _ _ _ _ (by simp; omega)]
      exact hK
    have hq : ∀ j v, (#[.int .i64 11, .int .i64 0, .int .i64 0, .string ⟨#[]⟩] : Array Value)[j]? = some v → ((((((W.setCell ⟨X.heap.size + 1, 0, none⟩ (.int .i64 11)).setCell ⟨X.heap.size + 1, 1, none⟩ (.int .i64 0)).setCell ⟨X.heap.size + 1, 2, none⟩ (.int .i64 0)).setCell ⟨X.heap.size + 1, 3, none⟩ (.string ⟨#[]⟩))).putObj D (.deferred none)).cell? ⟨X.heap.size + 1, j, none⟩ = some v := by
      intro j v hv
      exact cell_putObj hKD rfl ((cell_of_row _ _ _ _ _ _ hfs).trans hv)
    have g0 := hq 0 _ rfl
    have g1 := hq 1 _ rfl
    have g2 := hq 2 _ rfl
    have g3 := hq 3 _ rfl
    refine ret_mark (v := .agg #[.int .i64 11, .int .i64 0, .int .i64 0, .string ⟨#[]⟩]) hKD ?_ ⟨by rw [HR.out], below_putObj ((((HH.out.2.setCell (by simp) _).setCell (by simp) _).setCell (by simp) _).setCell (by simp) _) (by omega) _⟩
    simp [results, Tryz.results223, go_sem, g0, g1, g2, g3]
  case stop =>
    rintro D c pre W hD hpre ⟨rfl, j, h1, h2, h4⟩ hK
    have HR := Lib.hid (HE1.out j h1)
    have hq : ∀ q v, (#[.int .i64 3, .int .i64 j, .int .i64 0, .string ⟨#[]⟩] : Array Value)[q]? = some v → (W.putObj D (.deferred none)).cell? ⟨X.heap.size + 1, q, none⟩ = some v := by
      intro q v hv
      exact cell_putObj hK rfl ((cell_of_row _ _ _ _ _ _ h2).trans hv)
    have g0 := hq 0 _ rfl
    have g1 := hq 1 _ rfl
    have g2 := hq 2 _ rfl
    have g3 := hq 3 _ rfl
    clear hq h1 hit e1 q0 s0 hB0
    gi_wp2
    refine ret_mark (v := .agg #[.int .i64 3, .int .i64 j, .int .i64 0, .string ⟨#[]⟩]) hK ?_ ⟨by rw [HR.out], below_putObj h4 (by omega) _⟩
    simp [results, Tryz.results223, go_sem, g0, g1, g2, g3]

theorem simple_any (label : ByteArray) (k : Int) (n m : ByteArray) (i d : Int) (A : Option Addr) (len c : Nat) (vars : List ByteArray) (vA : Option Addr) (vc mb : Nat) (X : World) (hm : X.cell? ⟨mb, 0, none⟩ = some (.string label)) (hv : VarsAt X vA vc vars) (hl : vars.length ≤ 1000000) :
    Calls Tryz.prog 223 #[.pointer (some ⟨mb, 0, none⟩), .agg #[.int .i64 k, .string n, .string m, .int .i64 i, .int .i64 d, .slice A len c], .slice vA vars.length vc] X (SimpleP (simpleI label k n i d vars) X) := by
  by_cases h3 : k = 3
  · subst h3
    exact simple_var label n m i d A len c vars vA vc mb X hv hl
  · exact simple_not label k n m i d A len c vars vA vc mb X hm h3
end Go.Proofs.YtlpipoihinceiaaGreatDoor
