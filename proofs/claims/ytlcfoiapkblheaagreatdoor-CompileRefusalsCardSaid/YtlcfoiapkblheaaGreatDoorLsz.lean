/- law28.CompileSize -/
import Derived.Test.YtlcfoiapkblheaaGreatDoorGkz
import Derived.Test.YtlcfoiapkblheaaGreatDoorSnd
import Derived.Test.YtlcfoiapkblheaaGreatDoorGkl
import Derived.Test.YtlcfoiapkblheaaGreatDoorAwm
import Derived.Deep.RegionHeld3
import Derived.Deep.DeepCutAuto
namespace Go.Proofs.YtlcfoiapkblheaaGreatDoor
open Go.RowKit Go.Proofs Go.Shelf

theorem wrapT (T a b c : Nat) (hT : T ≤ 400000) (ha : a ≤ 400) (hb : b ≤ 1200) (hc : c ≤ 400) : IntKind.i64.wrap ((T : Int) + IntKind.i64.wrap (IntKind.i64.wrap ((a : Int) + (b : Int)) + IntKind.i64.wrap (2 * (c : Int)))) = ((T + (a + b + 2 * c) : Nat) : Int) := by
  simp only [IntKind.wrap_i64]
  omega
theorem balloc {A X : World} {o : Obj} (h : Below A.heap.size A X) : Below A.heap.size A (X.alloc o) := h.alloc h.size o
theorem heap_new' (w : World) (o : Obj) (k : Nat) (h : k = w.heap.size) : (w.alloc o).heap[k]? = some o := by subst h; exact heap_alloc_new w o
theorem heap_drew' (w : World) (k : Nat) {c : Option Obj} (h : w.heap[k]? = c) : w.drew.heap[k]? = c := h
theorem slI_row {X : World} {b : Nat} (l : List Int) (hl : l.length ≤ 100) (h : X.heap[b]? = some (.cells (l.map (Value.int .i64)).toArray 3 (0, 0))) : SlI X X.heap.size (some ⟨b, 0, none⟩) l.length l :=
  ⟨Nat.le_refl _, by unfold maxLen; omega, fun _ => ⟨b, 0, rfl, lt_of_block h, fun j x hx => by
    have := cell_of_row X b j _ _ (0, 0) h
    rw [Nat.zero_add, this]
    simp [hx]⟩⟩
theorem kindN_le (k : Int) : ∀ K : List Int, kindN k K ≤ K.length
  | [] => Nat.le_refl _
  | x :: r => by
    have := kindN_le k r
    simp only [kindN, List.length_cons]
    split <;> omega
theorem Fo.kn_le (K : List Int) : ∀ f : Fo, f.kn K ≤ K.length * f.count
  | .nil => Nat.zero_le _
  | .cons k n m i d A c s r => by
    have h1 := kindN_le k K
    have h2 := s.kn_le K
    have h3 := r.kn_le K
    simp only [Fo.kn, Fo.count, Nat.mul_add, Nat.mul_one]
    omega
theorem sumN_append (f : Dc → Nat) (a b : List Dc) : sumN f (a ++ b) = sumN f a + sumN f b := by
  induction a with
  | nil => simp [sumN]
  | cons x a ih => simp [sumN, ih, Nat.add_assoc]
theorem sumN_le (f : Dc → Nat) (M : Nat) : ∀ l : List Dc, (∀ x ∈ l, f x ≤ M) → sumN f l ≤ M * l.length
  | [], _ => Nat.zero_le _
  | x :: r, h => by
    have h1 := h x (List.mem_cons_self ..)
    have h2 := sumN_le f M r fun y hy => h y (List.mem_cons_of_mem _ hy)
    simp only [sumN, List.length_cons, Nat.mul_add, Nat.mul_one]
    omega
theorem sumN_one (f : Dc → Nat) : ∀ l : List Dc, sumN (fun x => f x + 1) l = l.length + sumN f l
  | [] => rfl
  | x :: r => by simp only [sumN, sumN_one f r, List.length_cons]; omega

set_option maxRecDepth 100000 in
set_option maxHeartbeats 20000000 in
theorem lawSize_any (label : ByteArray) (uses : List ByteArray) (uA : Option Addr) (uc : Nat) (decls : List Dc) (dA : Option Addr) (dc : Nat) (w : World) (hu : SlS w w.heap.size uA uc uses) (hd : SlD w w.heap.size dA dc decls) :
    Calls Tryz.prog 5 #[.agg #[.string label, .slice uA uses.length uc, .slice dA decls.length dc]] w fun e w' => e = .returned (.bool true) ∧ Below w.heap.size w w' := by
  obtain ⟨N, HN⟩ : ∃ Q, Hid (decls.length = Q) := ⟨_, Lib.hid rfl⟩
  obtain ⟨NU, HNU⟩ : ∃ Q, Hid (uses.length = Q) := ⟨_, Lib.hid rfl⟩
  obtain ⟨W0, hW0⟩ : ∃ W0, w.alloc (.cells #[.string label, .slice uA NU uc, .slice dA N dc] 25) = W0 := ⟨_, rfl⟩
  have hzw : w.heap.size < W0.heap.size := by subst hW0; simp
  have hB0 : Below w.heap.size w W0 := by subst hW0; exact (Below.refl _ _).alloc (Nat.le_refl _) _
  have hx0 : W0.heap[w.heap.size]? = some (.cells #[.string label, .slice uA NU uc, .slice dA N dc] 25 (0, 0)) := by rw [← hW0]; exact heap_alloc_new w _
  have HC : Hid (∀ X, Below W0.heap.size W0 X → Below w.heap.size w X ∧ w.heap.size < X.heap.size ∧ SlS X X.heap.size uA uc uses ∧ SlD X X.heap.size dA dc decls ∧ X.cell? ⟨w.heap.size, 0, none⟩ = some (.string label) ∧ X.cell? ⟨w.heap.size, 1, none⟩ = some (.slice uA NU uc) ∧ X.cell? ⟨w.heap.size, 2, none⟩ = some (.slice dA N dc)) := fun X hX => by
    have hx := (hX.block w.heap.size (by omega)).trans hx0
    have hb := hB0.trans (hX.mono (by omega))
    exact ⟨hb, Nat.lt_of_lt_of_le hzw hX.size, hu.keep (by have := hb.size; omega) (fun p hp => hb.cell hp), hd.keep (by have := hb.size; omega) (fun p hp => hb.cell hp), cell_of_row X w.heap.size 0 _ _ (0, 0) hx, cell_of_row X w.heap.size 1 _ _ (0, 0) hx, cell_of_row X w.heap.size 2 _ _ (0, 0) hx⟩
  have hdl := hd.1
  have hdl2 := hd.2.1
  unfold maxLen at hdl2
  rw [HNU.out]
  rw [HN.out] at hdl ⊢
  obtain ⟨_, _, hsa, hda, y0, y1, y2⟩ := HC.out W0 (Below.refl _ _)
  have hgr := great24_any label uses uA uc decls dA dc W0 hsa hda
  obtain ⟨G, HG⟩ : ∃ Q, Hid (greatM label uses decls = Q) := ⟨_, Lib.hid rfl⟩
  rw [HNU.out, HN.out, HG.out] at hgr
  have HGR := Lib.hid hgr
  clear hgr hu hd hB0 hx0 hsa hda
  go_enter Tryz.func5, Tryz.ntmps5
  go_wp2_with fail
  refine HGR.out.mono ?_
  rintro e w1 ⟨rfl, hb1⟩
  have HB1 := Lib.hid hb1
  clear hb1 y0 y1 y2 hW0 HGR
  cases G
  rotate_left
  · have HA := Lib.hid (awake28_any w1)
    have hz1 := (HC.out w1 HB1.out).1
    have HZ := Lib.hid hz1
    clear hz1
    go_wp2_with fail
    refine HA.out.mono ?_
    rintro e w2 ⟨rfl, hb2⟩
    have HB2 := Lib.hid hb2
    clear hb2
    go_wp2
    go_ret
    exact ⟨rfl, HZ.out.trans (HB2.out.mono HZ.out.size)⟩
  obtain ⟨_, _, hs1, hd1, y0, y1, y2⟩ := HC.out w1 HB1.out
  have hmo := module_any label uses uA uc decls dA dc w1 hs1 hd1
  rw [HNU.out, HN.out] at hmo
  have HMO := Lib.hid hmo
  clear hmo hs1 hd1
  go_wp2_with fail
  refine HMO.out.mono ?_
  rintro e w2 ⟨lb, bv, dv, rfl, hb2, hcs⟩
  clear HMO y0 y1 y2
  have hb12 := HB1.out.trans (hb2.mono HB1.out.size)
  obtain ⟨hB2, hz2, hs2, hd2, y0, y1, y2⟩ := HC.out w2 hb12
  obtain ⟨er, Her⟩ : ∃ Q, Hid (modE label uses decls = Q) := ⟨_, Lib.hid rfl⟩
  rw [Her.out] at hcs ⊢
  have HB2 := Lib.hid (And.intro hb12 hB2)
  clear hb2 hb12 hB2
  by_cases he : er = 0
  rotate_left
  · have he' : (er != 0) = true := by simpa using he
    obtain ⟨_, rfl, rfl, rfl⟩ := hcs.resolve_left fun h => he h.1
    have HA := Lib.hid (awake28_any (w2.alloc (.cells #[.string ⟨#[]⟩, .slice none 0 0, .slice none 0 0] 31)))
    clear hcs hs2 hd2 y0 y1 y2
    go_wp2_with fail
    refine HA.out.mono ?_
    rintro e w3 ⟨rfl, hb3⟩
    have HB3 := Lib.hid hb3
    clear hb3
    go_wp2
    go_ret
    exact ⟨rfl, (HB2.out.2.alloc HB2.out.2.size _).trans (HB3.out.mono (by have := HB2.out.2.size; simp; omega))⟩
  subst he
  obtain ⟨_, hlb, hco⟩ := hcs.resolve_right fun h => h.1 rfl
  have hlb2 := hlb.symm
  subst hlb2
  obtain ⟨hbA, hcA⟩ := hco.at_
  obtain ⟨bA, bc, rfl, hbl⟩ := hbA.form
  obtain ⟨vA, vc, rfl, _⟩ := hcA.form
  clear hcs hco hcA
  obtain ⟨h1, h2, _⟩ := modE_zero Her.out
  obtain ⟨_, hNl, hval⟩ := checkE_zero h1
  rw [HN.out] at hNl
  have hms := mod_size Her.out
  rw [sumN_one, sumN_one, HN.out] at hms
  obtain ⟨bl, Hbl⟩ : ∃ Q, Hid ((modGo label 0 decls).1 = Q) := ⟨_, Lib.hid rfl⟩
  rw [Hbl.out] at hbA hbl hms ⊢
  have hszb : ∀ x ∈ decls, x.sz ≤ 3000 ∧ x.fn ≤ 400 := fun x hx => by
    have hc := (hval x hx).cnt
    have k1 := kindN_le x.k [8, 9, 6]
    have k2 := kindN_le x.k [13]
    have k3 := kindN_le x.k [6]
    have k4 := Fo.kn_le [8, 9, 6] x.s
    have k5 := Fo.kn_le [13] x.s
    have k6 := Fo.kn_le [6] x.s
    simp only [List.length_cons, List.length_nil] at k1 k2 k3 k4 k5 k6
    unfold Dc.sz Dc.fn
    rw [Fo.sz_eq, szN]
    omega
  have hsum1 := sumN_le Dc.sz 3000 decls fun x hx => (hszb x hx).1
  have hsum2 := sumN_le Dc.fn 400 decls fun x hx => (hszb x hx).2
  rw [HN.out] at hsum1 hsum2
  obtain ⟨W3, hW3⟩ : ∃ W3, w2.alloc (.cells #[.string label, .slice bA bl.length bc, .slice vA (modGo label 0 decls).2.length vc] 31) = W3 := ⟨_, rfl⟩
  have hB3 : Below w2.heap.size w2 W3 := by rw [← hW3]; exact (Below.refl _ _).alloc (Nat.le_refl _) _
  have hz3 : w2.heap.size < W3.heap.size := by rw [← hW3]; simp
  have hc3 : W3.heap[w2.heap.size]? = some (.cells #[.string label, .slice bA bl.length bc, .slice vA (modGo label 0 decls).2.length vc] 31 (0, 0)) := by rw [← hW3]; exact heap_alloc_new w2 _
  have hm3 : W3.cell? ⟨w.heap.size, 2, none⟩ = some (.slice dA N dc) := (hB3.cell (by show w.heap.size < w2.heap.size; omega)).trans y2
  have HV := Lib.hid (And.intro hval (And.intro hms (And.intro hszb (And.intro hc3 (And.intro hB3 (And.intro hbA hd2))))))
  have HSM := Lib.hid (And.intro hsum1 hsum2)
  obtain ⟨DL, HDL⟩ : ∃ Q, Hid ((modGo label 0 decls).2.length = Q) := ⟨_, Lib.hid rfl⟩
  rw [HDL.out] at hW3 ⊢
  clear hval hms hszb hc3 hB3 hbA hd2 hs2 h1 h2 y0 y1 y2 hsum1 hsum2
  go_wp2_with fail
  go_quiet (fail)
  go_wp2_with fail
  go_loopg [5, 6, 8, 31] N (fun g t5 t6 _ ct wr => ∃ j : Nat, g = N - j ∧ j ≤ N ∧ ct = .int .i64 j ∧ t5 = .int .i64 ((N + sumN Dc.sz (decls.take j) : Nat) : Int) ∧ t6 = .int .i64 ((N + sumN Dc.fn (decls.take j) : Nat) : Int) ∧ Below W3.heap.size W3 wr)
  case atStart => exact ⟨0, rfl, by omega, rfl, rfl, rfl, ⟨rfl, rfl, rfl, Nat.le_refl _, fun _ _ => rfl⟩⟩
  case round =>
    obtain ⟨j, HGm, hj, rfl, rfl, rfl, hBr⟩ := hrel
    have hzr := hBr.size
    by_cases hlt : j < N
    · have hlt' : j < decls.length := by rw [HN.out]; exact hlt
      have hj3 : decls[j]? = some decls[j] := List.getElem?_eq_getElem hlt'
      obtain ⟨b, o, rfl, hb, d0, d1, d2, d3, d4, d5, d6, d7, d8, d9, d10, hxok⟩ := HV.out.2.2.2.2.2.2.cells_at (wr := wr) (fun p hp => (hBr.cell (by omega)).trans (HV.out.2.2.2.2.1.cell hp)) hj3
      have htk1 : sumN Dc.sz (decls.take (j + 1)) = sumN Dc.sz (decls.take j) + decls[j].sz := by
        rw [List.take_succ_eq_append_getElem hlt', sumN_append]
        simp [sumN]
      have htk2 : sumN Dc.fn (decls.take (j + 1)) = sumN Dc.fn (decls.take j) + decls[j].fn := by
        rw [List.take_succ_eq_append_getElem hlt', sumN_append]
        simp [sumN]
      have hle1 : sumN Dc.sz (decls.take j) ≤ 300000 := by
        have h := sumN_le Dc.sz 3000 (decls.take j) fun x hx => (HV.out.2.2.1 x (List.mem_of_mem_take hx)).1
        rw [List.length_take] at h
        omega
      have hle2 : sumN Dc.fn (decls.take j) ≤ 200000 := by
        have h := sumN_le Dc.fn 400 (decls.take j) fun x hx => (HV.out.2.2.1 x (List.mem_of_mem_take hx)).2
        rw [List.length_take] at h
        omega
      have hcnt := (HV.out.1 _ (List.mem_of_getElem? hj3)).cnt
      have hsl := hxok.2
      obtain ⟨T1, HT1⟩ : ∃ Q, Hid (N + sumN Dc.sz (decls.take j) = Q) := ⟨_, Lib.hid rfl⟩
      obtain ⟨T2, HT2⟩ : ∃ Q, Hid (N + sumN Dc.fn (decls.take j) = Q) := ⟨_, Lib.hid rfl⟩
      rw [HT1.out, HT2.out]
      have hT1 : T1 ≤ 400000 := by rw [← HT1.out]; omega
      have hT2 : T2 ≤ 300000 := by rw [← HT2.out]; omega
      have HE := Lib.hid (And.intro HGm (And.intro htk1 (And.intro htk2 hBr)))
      clear HGm htk1 htk2 hle1 hle2 hj3 hxok hBr
      generalize decls[j] = x at d0 d1 d2 d3 d4 d5 d6 d7 d8 d9 d10 hcnt hsl HE
      obtain ⟨W5, hW5⟩ : ∃ W5, wr.alloc (.cells #[.int .i64 x.id, .int .i64 x.kind, .bool x.pub, .slice x.nA x.names.length x.nc, .bool x.doubt, .int .i64 x.k, .string x.n, .string x.m, .int .i64 x.i, .int .i64 x.d, .slice x.A x.s.len x.c] 43) = W5 := ⟨_, rfl⟩
      have hB5 : Below wr.heap.size wr W5 := by rw [← hW5]; exact (Below.refl _ _).alloc (Nat.le_refl _) _
      have hz5 : wr.heap.size < W5.heap.size := by rw [← hW5]; simp
      have hx5 : W5.heap[wr.heap.size]? = some (.cells #[.int .i64 x.id, .int .i64 x.kind, .bool x.pub, .slice x.nA x.names.length x.nc, .bool x.doubt, .int .i64 x.k, .string x.n, .string x.m, .int .i64 x.i, .int .i64 x.d, .slice x.A x.s.len x.c] 43 (0, 0)) := by rw [← hW5]; exact heap_alloc_new wr _
      have hB25 : Below w2.heap.size w2 W5 := HV.out.2.2.2.2.1.trans ((HE.out.2.2.2.trans (hB5.mono hzr)).mono (by omega))
      have HS : Hid (∀ X, Below W5.heap.size W5 X → X.cell? ⟨wr.heap.size, 5, none⟩ = some (.int .i64 x.k) ∧ X.cell? ⟨wr.heap.size, 6, none⟩ = some (.string x.n) ∧ X.cell? ⟨wr.heap.size, 7, none⟩ = some (.string x.m) ∧ X.cell? ⟨wr.heap.size, 8, none⟩ = some (.int .i64 x.i) ∧ X.cell? ⟨wr.heap.size, 9, none⟩ = some (.int .i64 x.d) ∧ X.cell? ⟨wr.heap.size, 10, none⟩ = some (.slice x.A x.s.len x.c)) := fun X hX => by
        have h := (hX.block _ hz5).trans hx5
        exact ⟨cell_of_row X wr.heap.size 5 _ _ (0, 0) h, cell_of_row X wr.heap.size 6 _ _ (0, 0) h, cell_of_row X wr.heap.size 7 _ _ (0, 0) h, cell_of_row X wr.heap.size 8 _ _ (0, 0) h, cell_of_row X wr.heap.size 9 _ _ (0, 0) h, cell_of_row X wr.heap.size 10 _ _ (0, 0) h⟩
      have HXS : Hid (∀ X, Below W5.heap.size W5 X → x.s.Sl X X.heap.size x.A x.c) := fun X hX => hsl.keep (by have := hX.size; omega) fun p hp => (hX.cell (by omega)).trans (hB25.cell hp)
      obtain ⟨a1, Ha1⟩ : ∃ Q, Hid (1 + x.s.count = Q) := ⟨_, Lib.hid rfl⟩
      obtain ⟨a2, Ha2⟩ : ∃ Q, Hid (kindN x.k [8, 9, 6] + x.s.kn [8, 9, 6] = Q) := ⟨_, Lib.hid rfl⟩
      obtain ⟨a3, Ha3⟩ : ∃ Q, Hid (kindN x.k [13] + x.s.kn [13] = Q) := ⟨_, Lib.hid rfl⟩
      obtain ⟨a4, Ha4⟩ : ∃ Q, Hid (kindN x.k [6] + x.s.kn [6] = Q) := ⟨_, Lib.hid rfl⟩
      have hbd : a1 ≤ 400 ∧ a2 ≤ 1200 ∧ a3 ≤ 400 ∧ a4 ≤ 400 := by
        have k1 := kindN_le x.k [8, 9, 6]
        have k2 := kindN_le x.k [13]
        have k3 := kindN_le x.k [6]
        have k4 := Fo.kn_le [8, 9, 6] x.s
        have k5 := Fo.kn_le [13] x.s
        have k6 := Fo.kn_le [6] x.s
        simp only [List.length_cons, List.length_nil] at k1 k2 k3 k4 k5 k6
        have e1 := Ha1.out
        have e2 := Ha2.out
        have e3 := Ha3.out
        have e4 := Ha4.out
        omega
      obtain ⟨hb1, hb2, hb3, hb4⟩ := hbd
      have HSN : Hid (∀ X, Below W5.heap.size W5 X → Calls Tryz.prog 23 #[.agg #[.int .i64 x.k, .string x.n, .string x.m, .int .i64 x.i, .int .i64 x.d, .slice x.A x.s.len x.c]] X fun e Y => e = .returned (.int .i64 a1) ∧ Below W5.heap.size W5 Y ∧ Below X.heap.size X Y) := fun X hX => by
        refine (sNodes_any x.k x.n x.m x.i x.d x.A x.c x.s X (HXS.out X hX) ?_ (by omega)).mono ?_
        · intro y hy
          rcases List.mem_cons.1 hy with rfl | hy
          · simp
          · have := x.s.dep_le 2 y hy; omega
        · rintro e Y ⟨rfl, hY⟩
          refine ⟨?_, hX.trans (hY.mono hX.size), hY⟩
          rw [List.length_cons, Fo.pre_length, ← Ha1.out, Nat.add_comm]
      have HLN : Hid (∀ (K : List Int) (a : Nat) (X : World) (kb : Nat), K.length ≤ 100 → kindN x.k K + x.s.kn K = a → a ≤ 100000 → Below W5.heap.size W5 X → X.heap[kb]? = some (.cells (K.map (Value.int .i64)).toArray 3 (0, 0)) → Calls Tryz.prog 21 #[.agg #[.int .i64 x.k, .string x.n, .string x.m, .int .i64 x.i, .int .i64 x.d, .slice x.A x.s.len x.c], .slice (some ⟨kb, 0, none⟩) K.length K.length] X fun e Y => e = .returned (.int .i64 a) ∧ Below W5.heap.size W5 Y ∧ Below X.heap.size X Y) := fun K a X kb hK ha hab hX hr => by
        refine (ln_any K x.s x.k x.n x.m x.i x.d x.A x.c _ _ X (HXS.out X hX) (slI_row K hK hr)).mono ?_
        rintro e Y ⟨rfl, hY⟩
        refine ⟨?_, hX.trans (hY.mono hX.size), hY⟩
        rw [← ha, wrap64_small (by omega) (by omega)]
        simp
      have HL1 : Hid (∀ (X : World) (kb : Nat), Below W5.heap.size W5 X → X.heap[kb]? = some (.cells #[.int .i64 8, .int .i64 9, .int .i64 6] 3 (0, 0)) → Calls Tryz.prog 21 #[.agg #[.int .i64 x.k, .string x.n, .string x.m, .int .i64 x.i, .int .i64 x.d, .slice x.A x.s.len x.c], .slice (some ⟨kb, 0, none⟩) 3 3] X fun e Y => e = .returned (.int .i64 a2) ∧ Below W5.heap.size W5 Y ∧ Below X.heap.size X Y) := fun X kb hX hr => HLN.out [8, 9, 6] a2 X kb (by simp) Ha2.out (by omega) hX hr
      have HL2 : Hid (∀ (X : World) (kb : Nat), Below W5.heap.size W5 X → X.heap[kb]? = some (.cells #[.int .i64 13] 3 (0, 0)) → Calls Tryz.prog 21 #[.agg #[.int .i64 x.k, .string x.n, .string x.m, .int .i64 x.i, .int .i64 x.d, .slice x.A x.s.len x.c], .slice (some ⟨kb, 0, none⟩) 1 1] X fun e Y => e = .returned (.int .i64 a3) ∧ Below W5.heap.size W5 Y ∧ Below X.heap.size X Y) := fun X kb hX hr => HLN.out [13] a3 X kb (by simp) Ha3.out (by omega) hX hr
      have HL3 : Hid (∀ (X : World) (kb : Nat), Below W5.heap.size W5 X → X.heap[kb]? = some (.cells #[.int .i64 6] 3 (0, 0)) → Calls Tryz.prog 21 #[.agg #[.int .i64 x.k, .string x.n, .string x.m, .int .i64 x.i, .int .i64 x.d, .slice x.A x.s.len x.c], .slice (some ⟨kb, 0, none⟩) 1 1] X fun e Y => e = .returned (.int .i64 a4) ∧ Below W5.heap.size W5 Y ∧ Below X.heap.size X Y) := fun X kb hX hr => HLN.out [6] a4 X kb (by simp) Ha4.out (by omega) hX hr
      have HB5 := Lib.hid hB5
      clear hsl hB5 hB25 hx5 HLN
      obtain ⟨f5, f6, f7, f8, f9, f10⟩ := HS.out W5 (Below.refl _ _)
      go_upto_region 10 with fail
      clear d0 d1 d2 d3 d4 d5 d6 d7 d8 d9 d10
      have tok7 : True := trivial
      go_cut [5] (fun s5 wx => s5 = .int .i64 ((T1 + (a1 + a2 + 2 * a3) : Nat) : Int) ∧ Below W5.heap.size W5 wx)
      case first =>
        go_region_held3 (fun W => W.cell? ⟨wr.heap.size, 5, none⟩ = some (.int .i64 x.k) ∧ W.cell? ⟨wr.heap.size, 6, none⟩ = some (.string x.n) ∧ W.cell? ⟨wr.heap.size, 7, none⟩ = some (.string x.m) ∧ W.cell? ⟨wr.heap.size, 8, none⟩ = some (.int .i64 x.i) ∧ W.cell? ⟨wr.heap.size, 9, none⟩ = some (.int .i64 x.d) ∧ W.cell? ⟨wr.heap.size, 10, none⟩ = some (.slice x.A x.s.len x.c))
          (exact HS.out _ (by repeat (first | with_reducible exact hb8 | with_reducible exact hb7 | with_reducible exact hb6 | with_reducible exact Below.refl _ _ | with_reducible refine balloc ?_ | with_reducible refine Below.drew ?_)))
          (first
            | (go_at_call 23; (refine Calls.mono (HSN.out _ ?_) ?_); (focus (repeat (first | with_reducible refine balloc ?_ | with_reducible refine Below.drew ?_ | with_reducible exact Below.refl _ _))); rintro e w6 ⟨rfl, hb6, hc6⟩; have hz6 := hc6.size; (try simp at hz6))
            | (go_at_call 21; clear tok7; (with_reducible refine Calls.mono (HL1.out _ _ ?_ ?_) ?_); (focus (repeat (first | with_reducible exact hb6 | with_reducible refine balloc ?_ | with_reducible refine Below.drew ?_ | with_reducible exact Below.refl _ _))); (focus (repeat (first | with_reducible refine heap_drew' _ _ ?_ | ((with_reducible refine heap_new' _ _ _ ?_); (focus (first | rfl | (simp; done)))) | ((with_reducible refine (Below.heap_alloc _ _ _ ?_).trans ?_); (focus (first | omega | (simp; done) | (simp; omega)))) | ((with_reducible refine (hc6.block _ ?_).trans ?_); (focus (first | omega | (simp; done) | (simp; omega))))))); rintro e w7 ⟨rfl, hb7, hc7⟩; have hz7 := hc7.size; (try simp at hz7); have tok8 : True := trivial)
            | (go_at_call 21; clear tok8; (with_reducible refine Calls.mono (HL2.out _ _ ?_ ?_) ?_); (focus (repeat (first | with_reducible exact hb7 | with_reducible refine balloc ?_ | with_reducible refine Below.drew ?_ | with_reducible exact Below.refl _ _))); (focus (repeat (first | with_reducible refine heap_drew' _ _ ?_ | ((with_reducible refine heap_new' _ _ _ ?_); (focus (first | rfl | (simp; done)))) | ((with_reducible refine (Below.heap_alloc _ _ _ ?_).trans ?_); (focus (first | omega | (simp; done) | (simp; omega)))) | ((with_reducible refine (hc7.block _ ?_).trans ?_); (focus (first | omega | (simp; done) | (simp; omega)))) | ((with_reducible refine (hc6.block _ ?_).trans ?_); (focus (first | omega | (simp; done) | (simp; omega))))))); rintro e w8 ⟨rfl, hb8, hc8⟩))
        all_goals (
          go_wp2_with fail
          go_meet
          refine ⟨congrArg (Value.int .i64) (wrapT T1 a1 a2 a3 hT1 hb1 hb2 hb3), ?_⟩
          repeat (first | assumption | with_reducible refine Below.drew ?_))
      case rest =>
        obtain ⟨rfl, hcb⟩ := hcut
        clear f5 f6 f7 f8 f9 f10 hW5
        obtain ⟨f5, f6, f7, f8, f9, f10⟩ := HS.out wc hcb
        obtain ⟨W6, hW6⟩ : ∃ W6, wc.alloc (.cells #[.int .i64 6] 3) = W6 := ⟨_, rfl⟩
        have hb6 : Below W5.heap.size W5 W6 := by rw [← hW6]; exact balloc hcb
        have hr6 : W6.heap[wc.heap.size]? = some (.cells #[.int .i64 6] 3 (0, 0)) := by rw [← hW6]; exact heap_alloc_new wc _
        have H3 := Lib.hid (HL3.out W6 wc.heap.size hb6 hr6)
        clear hcb hb6 hr6
        go_wp2_with fail
        refine H3.out.mono ?_
        rintro e w7 ⟨rfl, hb7, _⟩
        have HB7 := Lib.hid hb7
        clear hb7
        go_wp2
        go_roundg (N - (j + 1))
        case measure => rw [HE.out.1]; omega
        case rel =>
          have q1 : N + sumN Dc.sz (decls.take (j + 1)) = T1 + (a1 + a2 + 2 * a3) := by
            have e : x.sz = a1 + a2 + 2 * a3 := by
              rw [← Ha1.out, ← Ha2.out, ← Ha3.out]
              unfold Dc.sz
              rw [Fo.sz_eq, szN]
              omega
            rw [HE.out.2.1, ← HT1.out, e]
            omega
          have q2 : N + sumN Dc.fn (decls.take (j + 1)) = T2 + a4 := by
            have e : x.fn = a4 := by
              rw [← Ha4.out]
              rfl
            rw [HE.out.2.2.1, ← HT2.out, e]
            omega
          refine ⟨j + 1, rfl, by omega, by go_num, ?_, ?_, HE.out.2.2.2.trans ((HB5.out.trans (HB7.out.mono (Nat.le_of_lt hz5))).mono hzr)⟩
          · rw [q1]; go_num
          · rw [q2]; go_num
    · have hjN : j = N := by omega
      have e1 : N + sumN Dc.sz (decls.take j) = insSum bl := by rw [List.take_of_length_le (by rw [HN.out]; omega)]; exact HV.out.2.1.1.symm
      have e2 : N + sumN Dc.fn (decls.take j) = bl.length := by rw [List.take_of_length_le (by rw [HN.out]; omega)]; exact HV.out.2.1.2.symm
      have hSB : insSum bl ≤ 1000000 := by have h1 := HV.out.2.1.1; have h2 := HSM.out.1; omega
      rw [e1, e2]
      have hcW := (hBr.block w2.heap.size hz3).trans HV.out.2.2.2.1
      have g1 := cell_of_row wr w2.heap.size 1 _ _ (0, 0) hcW
      simp at g1
      obtain ⟨w4, rfl⟩ : ∃ w4 : World, w4 = wr := ⟨_, rfl⟩
      have H4 := Lib.hid (And.intro hBr hcW)
      have HB := Lib.hid (HV.out.2.2.2.2.2.1)
      have hbl2 := hbl
      obtain ⟨NB, HNB⟩ : ∃ Q, Hid (bl.length = Q) := ⟨_, Lib.hid rfl⟩
      rw [HNB.out] at g1 hbl2 ⊢
      clear e1 e2 hBr hcW HGm hm3 hbl
      go_wp2
      go_loopg [5, 10, 61] NB (fun g t5 _ ct wr => ∃ q : Nat, g = NB - q ∧ q ≤ NB ∧ ct = .int .i64 q ∧ t5 = .int .i64 ((insSum (bl.drop q) : Nat) : Int) ∧ insSum (bl.drop q) ≤ 1000000 ∧ Below w4.heap.size w4 wr)
      case atStart => exact ⟨0, rfl, by omega, rfl, rfl, hSB, Below.refl _ _⟩
      case round =>
        obtain ⟨q, HGq, hq, rfl, rfl, hS, hBq⟩ := hrel
        have hzq := hBq.size
        by_cases hlt : q < NB
        · have hlt' : q < bl.length := by rw [HNB.out]; exact hlt
          have hq3 : bl[q]? = some bl[q] := List.getElem?_eq_getElem hlt'
          obtain ⟨g, c, lA, lc, hbv, _, _, k0, k1, k2, kl, _⟩ := HB.out.at_ hq3
          simp only [Value.slice.injEq, true_and] at hbv
          obtain ⟨rfl, rfl⟩ := hbv
          have hk : ∀ (o : Nat) (u : Value), w2.cell? ⟨g, o, none⟩ = some u → wr.cell? ⟨g, o, none⟩ = some u := fun o u h => by
            have hg := World.block_lt_of_cell? w2 ⟨g, o, none⟩ h
            have hg : g < w2.heap.size := hg
            have h1 := HV.out.2.2.2.2.1.cell (p := ⟨g, o, none⟩) hg
            have h2 := H4.out.1.cell (p := ⟨g, o, none⟩) (show g < W3.heap.size by omega)
            have hz4 := H4.out.1.size
            have h3 := hBq.cell (p := ⟨g, o, none⟩) (show g < w4.heap.size by omega)
            exact h3.trans (h2.trans (h1.trans h))
          have m0 := hk _ _ k0
          have m1 := hk _ _ k1
          have m2 := hk _ _ k2
          have hdr : insSum (bl.drop q) = (bl[q]).l.length + insSum (bl.drop (q + 1)) := by
            rw [List.drop_eq_getElem_cons hlt']
            rfl
          obtain ⟨T, HT⟩ : ∃ Q, Hid (insSum (bl.drop q) = Q) := ⟨_, Lib.hid rfl⟩
          rw [HT.out] at hS hdr ⊢
          have hL : (bl[q]).l.length ≤ T := by omega
          have HE := Lib.hid (And.intro HGq (And.intro hdr hBq))
          clear HGq hdr hBq k0 k1 k2 hk hq3
          generalize bl[q] = b at m0 m1 m2 hL HE kl
          have hBx : ∀ o : Obj, Below w4.heap.size w4 (wr.alloc o) := fun o => HE.out.2.2.alloc hzq o
          have HX := Lib.hid hBx
          clear hBx
          go_wp2
          go_roundg (NB - (q + 1))
          case measure => rw [HE.out.1]; omega
          case rel =>
            have hd := HE.out.2.1
            refine ⟨q + 1, rfl, by omega, by go_num, ?_, by omega, HX.out _⟩
            rw [show insSum (bl.drop (q + 1)) = T - b.l.length by omega]
            go_num
        · have e0 : insSum (bl.drop q) = 0 := by rw [List.drop_of_length_le (by rw [HNB.out]; omega)]; rfl
          have hcq := (hBq.block w2.heap.size (by have := H4.out.1.size; omega)).trans H4.out.2
          have g2 := cell_of_row wr w2.heap.size 1 _ _ (0, 0) hcq
          simp at g2
          rw [HNB.out] at g2
          rw [e0]
          have hz2' := HB2.out.2
          have hball : Below w.heap.size w wr := hz2'.trans ((HV.out.2.2.2.2.1.trans ((H4.out.1.trans (hBq.mono H4.out.1.size)).mono (Nat.le_of_lt hz3))).mono hz2'.size)
          have HBA := Lib.hid hball
          have HA := Lib.hid (awake28_any wr)
          clear hcq hball hz2' hBq HGq g1
          go_wp2_with fail
          refine HA.out.mono ?_
          rintro e w5 ⟨rfl, hb5⟩
          have HB5 := Lib.hid (HBA.out.trans (hb5.mono HBA.out.size))
          clear hb5
          go_wp2
          go_ret
          exact ⟨rfl, HB5.out⟩
end Go.Proofs.YtlcfoiapkblheaaGreatDoor
