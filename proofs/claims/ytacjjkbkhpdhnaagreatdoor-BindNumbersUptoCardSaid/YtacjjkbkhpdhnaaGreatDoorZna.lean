/- digest.Of and ref02.Of: the same numbers -/
import Derived.Test.YtacjjkbkhpdhnaaGreatDoorZlo
import Derived.Test.YtacjjkbkhpdhnaaGreatDoorZle
import Derived.BigQuiet
import Derived.Laws.StructEq
import Derived.Deep.QuietTactic
import Derived.Test.YtacjjkbkhpdhnaaGreatDoorZqa
import Derived.Test.YtacjjkbkhpdhnaaGreatDoorZlg
import Derived.Test.YtacjjkbkhpdhnaaGreatDoorZpa
import Derived.Deep.CutBlock
import Derived.Deep.DeepCutAuto
namespace Go.Proofs.YtacjjkbkhpdhnaaGreatDoor
open Go Go.RowKit Go.Proofs Go.Shelf
def stA (h b : Int) : Int := IntKind.u64.wrap (bits .xor .u64 h b * 1099511628211)
def stB (h b : Int) : Int := bits .xor .u64 (IntKind.u64.wrap (h * 1099511628211)) b
def dgF (st : Int → Int → Int) (s : ByteArray) (k : Nat) : Int := (s.data.toList.take k).foldl (fun h c => st h (c.toNat : Int)) 14695981039346656037
theorem dgF_step (st : Int → Int → Int) (s : ByteArray) (k : Nat) (h : k < s.size) : dgF st s (k + 1) = st (dgF st s k) (s[k].toNat : Int) := by
  have h1 := getElem_data s k h
  obtain ⟨hl, he⟩ := List.getElem?_eq_some_iff.1 h1
  unfold dgF
  rw [List.take_succ_eq_append_getElem hl, List.foldl_append, he]
  rfl
set_option maxHeartbeats 1000000 in
theorem dgOf1_any (h b : Int) (w : World) : Calls Tryz.prog 154 #[.int .u64 h, .int .u64 b] w fun e w' => e = .returned (.int .u64 (stA h b)) ∧ w = w' := by
  go_enter Tryz.func154, Tryz.ntmps154
  go_wp2
  go_ret
  exact ⟨rfl, rfl⟩
set_option maxHeartbeats 1000000 in
theorem dgOf2_any (h b : Int) (w : World) : Calls Tryz.prog 155 #[.int .u64 h, .int .u64 b] w fun e w' => e = .returned (.int .u64 (stB h b)) ∧ w = w' := by
  go_enter Tryz.func155, Tryz.ntmps155
  go_wp2
  go_ret
  exact ⟨rfl, rfl⟩
set_option maxHeartbeats 2000000 in
theorem dgHash_any (fid : Nat) (st : Int → Int → Int) (hfn : ∀ (args : Array Value) (W : World), (callFunc fid args).run Tryz.prog W = .ok (.enter fid args) W) (hF : ∀ (h b : Int) (W : World), Calls Tryz.prog fid #[.int .u64 h, .int .u64 b] W fun e w' => e = .returned (.int .u64 (st h b)) ∧ W = w') (s : ByteArray) (w : World) (hs : s.size ≤ 1000) :
    Calls Tryz.prog 153 #[.string s, .func (.func fid) #[] #[]] w fun e w' => e = .returned (.int .u64 (dgF st s s.size)) ∧ w = w' := by
  have HF := Lib.hid hF
  clear hF
  go_enter Tryz.func153, Tryz.ntmps153
  go_wp2
  go_loop [5, 9] (fun h i => ∃ k : Nat, k ≤ s.size ∧ i = .int .i64 k ∧ h = .int .u64 (dgF st s k)) (fun _ i => s.size - (intOf i).toNat)
  case atStart => exact ⟨0, Nat.zero_le _, rfl, rfl⟩
  case round =>
    obtain ⟨k, hk, rfl, rfl⟩ := hrel
    by_cases hlt : k < s.size
    · have HN := Lib.hid (dgF_step st s k hlt)
      generalize dgF st s k = h at HN
      have hwr : IntKind.u64.wrap (s[k].toNat : Int) = (s[k].toNat : Int) := by
        rw [IntKind.wrap_u64]
        have := s[k].toNat_lt
        omega
      go_wp2_with fail
      refine (HF.out _ _ _).mono ?_
      rintro e w3 ⟨rfl, rfl⟩
      go_wp2
      go_round
      case rel => exact ⟨k + 1, by omega, by go_num, by rw [HN.out]⟩
      case measure => simp [intOf]; omega
    · obtain rfl : k = s.size := by omega
      go_wp2
      go_ret
      exact ⟨rfl, rfl⟩
set_option maxRecDepth 100000 in
theorem eq_digest (a b : Int) (w : World) : (Op.equalIn 10000 148 (.agg #[.int .u64 a, .int .u64 b]) (.agg #[.int .u64 0, .int .u64 0])).run Tryz.prog w = .ok ((a == 0) && (b == 0)) w := by
  have ht : Tryz.prog.underlying 148 = some (.array 2 146) := by kernel_rfl
  have hu : Tryz.prog.underlying 146 = some (.int .u64) := by kernel_rfl
  have hs : ∀ w, (Go.sizeOf 146).run Tryz.prog w = .ok 1 w := fun w => by kernel_rfl
  have e := fun (d : Nat) (x y : Int) (w : World) => run_equalIn_int w (P := Tryz.prog) d 146 .u64 .u64 x y hu
  rw [show (10000 : Nat) = 9998 + 1 + 1 from rfl]
  rw [Op.equalIn]
  simp only [Sem.run_bind, run_underlying ht, Result.andThen_ok, hs]
  have p0 : ∀ w, (part 146 #[Value.int IntKind.u64 a, Value.int IntKind.u64 b] (0 * 1)).run Tryz.prog w = .ok (.int .u64 a) w := fun w => by kernel_rfl
  have p1 : ∀ w, (part 146 #[Value.int IntKind.u64 a, Value.int IntKind.u64 b] 1).run Tryz.prog w = .ok (.int .u64 b) w := fun w => by kernel_rfl
  have q0 : ∀ w, (part 146 #[Value.int IntKind.u64 0, Value.int IntKind.u64 0] (0 * 1)).run Tryz.prog w = .ok (.int .u64 0) w := fun w => by kernel_rfl
  have q1 : ∀ w, (part 146 #[Value.int IntKind.u64 0, Value.int IntKind.u64 0] 1).run Tryz.prog w = .ok (.int .u64 0) w := fun w => by kernel_rfl
  rw [Std.Legacy.Range.forIn_eq_forIn_range']
  simp only [Std.Legacy.Range.size, List.range', List.forIn_cons, Sem.run_bind, p0, q0, Result.andThen_ok, e]
  cases ha : (a == 0) <;> cases hb : (b == 0) <;> simp [Sem.run_bind, p1, q1, e, hb]
def dgA (s : ByteArray) : Int := dgF stA s s.size
def dgB (s : ByteArray) : Int := if dgF stA s s.size = 0 ∧ dgF stB s s.size = 0 then 1 else dgF stB s s.size
set_option maxRecDepth 100000 in
set_option maxHeartbeats 2000000 in
theorem dgOf_any (s : ByteArray) (w : World) (hs : s.size ≤ 1000) : Calls Tryz.prog 123 #[.string s] w fun e w' => e = .returned (.agg #[.int .u64 (dgA s), .int .u64 (dgB s)]) ∧ Below w.heap.size w w' := by
  have HA := Lib.hid (fun W => dgHash_any 154 stA (enterFn rfl rfl rfl) dgOf1_any s W hs)
  have HB := Lib.hid (fun W => dgHash_any 155 stB (enterFn rfl rfl rfl) dgOf2_any s W hs)
  obtain ⟨a, Ha⟩ : ∃ q, Hid (dgF stA s s.size = q) := ⟨_, Lib.hid rfl⟩
  obtain ⟨b, Hb⟩ : ∃ q, Hid (dgF stB s s.size = q) := ⟨_, Lib.hid rfl⟩
  unfold dgA dgB
  rw [Ha.out, Hb.out]
  simp only [Ha.out] at HA
  simp only [Hb.out] at HB
  obtain ⟨c, Hc⟩ : ∃ q, Hid ((if a = 0 ∧ b = 0 then (1 : Int) else b) = q) := ⟨_, Lib.hid rfl⟩
  rw [Hc.out]
  go_enter Tryz.func123, Tryz.ntmps123
  go_wp2_with fail
  refine (HA.out _).mono ?_
  rintro e w3 ⟨rfl, rfl⟩
  go_wp2_with fail
  refine (HB.out _).mono ?_
  rintro e w3 ⟨rfl, rfl⟩
  have he := eq_digest a b
  cases hab : ((a == 0) && (b == 0)) with
  | true =>
    obtain rfl : c = 1 := Hc.out.symm.trans (if_pos (by simpa using hab))
    go_wp2
    refine bodyPost_ret (v := .agg #[.int .u64 a, .int .u64 1]) (by simp [results, Tryz.results123, go_sem]) rfl ⟨rfl, ((Below.refl _ _).alloc (Nat.le_refl _) _).alloc (by simp) _⟩
  | false =>
    obtain rfl : c = b := Hc.out.symm.trans (if_neg (by intro h; rw [h.1, h.2] at hab; exact absurd hab (by decide)))
    go_wp2
    refine bodyPost_ret (v := .agg #[.int .u64 a, .int .u64 c]) (by simp [results, Tryz.results123, go_sem]) rfl ⟨rfl, ((Below.refl _ _).alloc (Nat.le_refl _) _).alloc (by simp) _⟩
end Go.Proofs.YtacjjkbkhpdhnaaGreatDoor
/- bind.number in plain words: the id of a new declaration -/
namespace Go.Proofs.YtacjjkbkhpdhnaaGreatDoor
open Go Go.RowKit Go.Proofs Go.Shelf
def numO (ds : List Dc) (s : ByteArray) : Option Int := (ds.find? fun x => (nameOf x).toList == s.toList).map Dc.id
theorem numO_drop {ds : List Dc} {s : ByteArray} {j : Nat} {x : Dc} (hx : ds[j]? = some x) : numO (ds.drop j) s = if ((nameOf x).toList == s.toList) = true then some x.id else numO (ds.drop (j + 1)) s := by
  obtain ⟨hlt, rfl⟩ := List.getElem?_eq_some_iff.1 hx
  unfold numO
  rw [List.drop_eq_getElem_cons hlt, List.find?_cons]
  cases h : ((nameOf ds[j]).toList == s.toList) <;> simp
def nxN (n : Int) : Int := if 999999 < n + 1 then 1 else n + 1
theorem nxN_in {n : Int} (h : 1 ≤ n ∧ n ≤ 999999) : 1 ≤ nxN n ∧ nxN n ≤ 999999 := by
  unfold nxN
  split <;> omega
def itN : Nat → Int → Int
  | 0, n => n
  | k + 1, n => nxN (itN k n)
theorem itN_in {n : Int} (h : 1 ≤ n ∧ n ≤ 999999) : ∀ k, 1 ≤ itN k n ∧ itN k n ≤ 999999
  | 0 => h
  | k + 1 => nxN_in (itN_in h k)
theorem itN_eq {n : Int} (h : 1 ≤ n ∧ n ≤ 999999) : ∀ k, itN k n = (n - 1 + k) % 999999 + 1
  | 0 => by unfold itN; omega
  | k + 1 => by
    rw [itN, itN_eq h k]
    unfold nxN
    split <;> omega
theorem pigeon : ∀ (xs l : List Int), xs.Pairwise (· ≠ ·) → (∀ x ∈ xs, x ∈ l) → xs.length ≤ l.length
  | [], _, _, _ => Nat.zero_le _
  | x :: r, l, hp, h => by
    obtain ⟨h1, h2⟩ := List.pairwise_cons.1 hp
    have hx := h x List.mem_cons_self
    have h3 := pigeon r (l.erase x) h2 fun y hy => (List.mem_erase_of_ne fun e => h1 y hy e.symm).2 (h y (List.mem_cons_of_mem _ hy))
    have h4 := List.length_erase_of_mem hx
    have h5 : 0 < l.length := List.length_pos_of_mem hx
    simp only [List.length_cons]
    omega
theorem free_ex {l : List Int} (hl : l.length < 999999) {n : Int} (h : 1 ≤ n ∧ n ≤ 999999) : ∃ k, itN k n ∉ l ∧ ∀ j, j < k → itN j n ∈ l := by
  have hex : ∃ k, itN k n ∉ l := by
    apply Classical.byContradiction
    intro hno
    have hall : ∀ k, itN k n ∈ l := fun k => Classical.byContradiction fun h' => hno ⟨k, h'⟩
    have hp : ((List.range (l.length + 1)).map fun k => itN k n).Pairwise (· ≠ ·) := by
      rw [List.pairwise_map]
      refine List.Pairwise.imp_of_mem ?_ List.pairwise_lt_range
      intro a b ha hb hab e
      rw [List.mem_range] at ha hb
      rw [itN_eq h, itN_eq h] at e
      omega
    have := pigeon _ l hp fun x hx => by
      obtain ⟨k, _, rfl⟩ := List.mem_map.1 hx
      exact hall k
    simp at this
    omega
  obtain ⟨k, hk⟩ := hex
  induction k using Nat.strongRecOn with
  | _ k ih =>
    by_cases hj : ∃ j, j < k ∧ itN j n ∉ l
    · obtain ⟨j, hj1, hj2⟩ := hj
      exact ih j hj1 hj2
    · exact ⟨k, hk, fun j hj1 => Classical.byContradiction fun hj2 => hj ⟨j, hj1, hj2⟩⟩
def FrN (l : List Int) (n0 r : Int) : Prop := ∃ k, r = itN k n0 ∧ r ∉ l ∧ ∀ j, j < k → itN j n0 ∈ l
theorem FrN.uniq {l l' : List Int} {n0 r r' : Int} (h0 : 1 ≤ n0 ∧ n0 ≤ 999999) (he : ∀ i, 1 ≤ i → (i ∈ l ↔ i ∈ l')) (h : FrN l n0 r) (h' : FrN l' n0 r') : r = r' := by
  obtain ⟨k, rfl, h1, h2⟩ := h
  obtain ⟨k', rfl, h1', h2'⟩ := h'
  have e := fun j => he (itN j n0) (itN_in h0 j).1
  rcases Nat.lt_trichotomy k k' with h | h | h
  · exact absurd ((e k).2 (h2' k h)) h1
  · rw [h]
  · exact absurd ((e k').1 (h2 k' h)) h1'
def NumP (old : List Dc) (name : ByteArray) (LN : List Int) (r : Int) : Prop :=
  (∃ i, numO old name = some i ∧ i ≠ 0 ∧ i ∉ LN ∧ r = i) ∨ ((∀ i, numO old name = some i → i = 0 ∨ i ∈ LN) ∧ FrN (LN ++ old.map Dc.id) (1 + dgA name % 999999) r)
theorem n0_in (s : ByteArray) : 1 ≤ 1 + dgA s % 999999 ∧ 1 + dgA s % 999999 ≤ 999999 := by omega
theorem NumP.uniq {old : List Dc} {name : ByteArray} {LN LN' : List Int} {r r' : Int} (ho : ∀ x ∈ old, 0 ≤ x.id) (he : ∀ i, 1 ≤ i → (i ∈ LN ↔ i ∈ LN')) (h : NumP old name LN r) (h' : NumP old name LN' r') : r = r' := by
  have hpos : ∀ i, numO old name = some i → 0 ≤ i := fun i hi => by
    unfold numO at hi
    obtain ⟨x, hx, rfl⟩ := Option.map_eq_some_iff.1 hi
    exact ho x (List.mem_of_find?_eq_some hx)
  rcases h with ⟨i, h1, h2, h3, hr⟩ | ⟨h1, h2⟩
  · rcases h' with ⟨i', h1', _, _, hr'⟩ | ⟨h1', _⟩
    · rw [h1] at h1'
      rw [hr, hr', Option.some.inj h1']
    · have hi := hpos i h1
      rcases h1' i h1 with h | h
      · exact absurd h h2
      · exact absurd ((he i (by omega)).2 h) h3
  · rcases h' with ⟨i', h1', h2', h3', _⟩ | ⟨_, h2'⟩
    · have hi := hpos i' h1'
      rcases h1 i' h1' with h | h
      · exact absurd h h2'
      · exact absurd ((he i' (by omega)).1 h) h3'
    · refine FrN.uniq (n0_in name) (fun i hi => ?_) h2 h2'
      rw [List.mem_append, List.mem_append, he i hi]
theorem NumP.new {old : List Dc} {name : ByteArray} {LN : List Int} {r : Int} (ho : ∀ x ∈ old, 0 ≤ x.id ∧ x.id ≤ 999999) (h : NumP old name LN r) : 1 ≤ r ∧ r ≤ 999999 ∧ r ∉ LN := by
  rcases h with ⟨i, h1, h2, h3, rfl⟩ | ⟨_, k, rfl, h2, _⟩
  · unfold numO at h1
    obtain ⟨x, hx, rfl⟩ := Option.map_eq_some_iff.1 h1
    have := ho x (List.mem_of_find?_eq_some hx)
    exact ⟨by omega, this.2, h3⟩
  · have := itN_in (n0_in name) k
    exact ⟨this.1, this.2, fun h => h2 (List.mem_append_left _ h)⟩
theorem name0_cell {W : World} {B : Nat} {A : Option Addr} {c : Nat} {l : List ByteArray} (h : SlS W B A c l) (h1 : l ≠ []) : ∃ b o, A = some ⟨b, o, none⟩ ∧ b < B ∧ W.cell? ⟨b, o, none⟩ = some (.string (l.headD ⟨#[]⟩)) := by
  cases l with
  | nil => exact absurd rfl h1
  | cons s r =>
    obtain ⟨b, o, e, hb, hc⟩ := h.2.2 (by simp)
    exact ⟨b, o, e, hb, by have := hc 0 s rfl; simpa using this⟩
theorem dg_bnd (s : ByteArray) : 0 ≤ dgA s ∧ dgA s < 18446744073709551616 := by
  have h : ∀ l : List UInt8, ∀ h0 : Int, 0 ≤ h0 ∧ h0 < 18446744073709551616 → 0 ≤ l.foldl (fun h c => stA h (c.toNat : Int)) h0 ∧ l.foldl (fun h c => stA h (c.toNat : Int)) h0 < 18446744073709551616 := by
    intro l
    induction l with
    | nil => intro h0 hh; exact hh
    | cons c r ih =>
      intro h0 hh
      rw [List.foldl_cons]
      refine ih _ ?_
      unfold stA
      rw [IntKind.wrap_u64]
      omega
  exact h _ _ (by decide)
theorem wfI {i : Int} (h : 0 ≤ i ∧ i ≤ 999999) : (Lit.int .i64 i).wf = true := by
  have h1 : IntKind.i64.min ≤ 0 := by decide
  simp [Lit.wf]
  omega
theorem hasI_iff {l : List Int} {i : Int} : hasI l i = true ↔ i ∈ l := by
  unfold hasI
  rw [List.any_eq_true]
  exact ⟨fun ⟨x, hx, e⟩ => by have : x = i := by simpa using e
                              exact this ▸ hx, fun h => ⟨i, h, by simp⟩⟩
end Go.Proofs.YtacjjkbkhpdhnaaGreatDoor
/- ref24.number -/
namespace Go.Proofs.YtacjjkbkhpdhnaaGreatDoor
open Go Go.RowKit Go.Proofs Go.Shelf
end Go.Proofs.YtacjjkbkhpdhnaaGreatDoor
/- bind.number -/
namespace Go.Proofs.YtacjjkbkhpdhnaaGreatDoor
open Go Go.RowKit Go.Proofs Go.Shelf

set_option maxRecDepth 100000 in
set_option maxHeartbeats 8000000 in
theorem numberP_any (name : ByteArray) (oA : Option Addr) (ol oc : Nat) (old : List Dc) (dA : Option Addr) (dc : Nat) (bN bO : Nat) (LN : List Int) (w : World) (hd : SlD w w.heap.size dA dc old) (hn : ∀ x ∈ old, x.names ≠ []) (hid : ∀ x ∈ old, 0 ≤ x.id ∧ x.id ≤ 999999) (hsN : SetK w 3 bN (LN.map keyI)) (hsO : SetK w 3 bO ((old.map Dc.id).map keyI)) (hsz : name.size ≤ 1000) (hlen : (LN ++ old.map Dc.id).length < 999999) :
    Calls Tryz.prog 86 #[.string name, .agg #[.slice oA ol oc, .slice dA old.length dc], .map (some bN), .map (some bO)] w fun e w' => ∃ r, e = .returned (.int .i64 r) ∧ Hid (NumP old name LN r) ∧ Below w.heap.size w w' := by
  obtain ⟨N, HN⟩ : ∃ Q, Hid (old.length = Q) := ⟨_, Lib.hid rfl⟩
  obtain ⟨W0, hW0⟩ : ∃ W0, w.alloc (.cells #[.slice oA ol oc, .slice dA N dc] 40) = W0 := ⟨_, rfl⟩
  have hb0 : Below w.heap.size w W0 := by rw [← hW0]; exact (Below.refl _ _).alloc (Nat.le_refl _) _
  have hz0 : w.heap.size < W0.heap.size := by rw [← hW0]; simp
  have hx0 : W0.heap[w.heap.size]? = some (.cells #[.slice oA ol oc, .slice dA N dc] 40 (0, 0)) := by rw [← hW0]; exact heap_alloc_new _ _
  have HC := Lib.hid (show ∀ X : World, Below W0.heap.size W0 X → Below w.heap.size w X ∧ X.cell? ⟨w.heap.size, 1, none⟩ = some (.slice dA N dc) ∧ SetK X 3 bN (LN.map keyI) ∧ SetK X 3 bO ((old.map Dc.id).map keyI) from fun X hX => by
    have h1 := hb0.trans (hX.mono hb0.size)
    exact ⟨h1, cell_of_row X _ 1 _ _ (0, 0) ((hX.block _ hz0).trans hx0), hsN.keep (h1.block _ hsN.lt), hsO.keep (h1.block _ hsO.lt)⟩)
  have hdl := hd.1
  have hdl2 := hd.2.1
  unfold maxLen at hdl2
  rw [HN.out] at hdl ⊢
  have HD := Lib.hid (And.intro hd (And.intro hn hid))
  obtain ⟨K, hK1, hK2⟩ := free_ex hlen (n0_in name)
  have HK := Lib.hid (And.intro hK1 hK2)
  have HSz := Lib.hid hsz
  obtain ⟨_, x1, _, _⟩ := HC.out W0 (Below.refl _ _)
  clear hd hn hid hsN hsO hlen hK1 hK2 hb0 hx0 hz0 hsz
  go_enter Tryz.func86, Tryz.ntmps86
  go_upto_block 0 with fail
  go_cut [15] from 15 to 37 (fun _ wx => Hid (∀ i, numO old name = some i → i = 0 ∨ i ∈ LN) ∧ Below W0.heap.size W0 wx)
  case first =>
    go_wp2_with fail
    clear x1 hW0
    go_loopg [15] N (fun gg ct wr => ∃ j : Nat, gg = N - j ∧ j ≤ N ∧ ct = .int .i64 j ∧ Hid (numO old name = numO (old.drop j) name) ∧ Below W0.heap.size W0 wr)
    case atStart => exact ⟨0, rfl, by omega, rfl, Lib.hid rfl, Below.refl _ _⟩
    case round =>
      obtain ⟨j, HG, hj, rfl, HA, hB⟩ := hrel
      obtain ⟨hBw, x1, hsN, hsO⟩ := HC.out wr hB
      by_cases hlt : j < N
      rotate_left
      · have HR := Lib.hid (show ∀ i, numO old name = some i → i = 0 ∨ i ∈ LN from fun i hi => by
          rw [HA.out, List.drop_of_length_le (by rw [HN.out]; omega)] at hi
          exact absurd hi (by simp [numO]))
        have HBx := Lib.hid hB
        have i2 : decide ((j : Int) < (N : Int)) = false := decide_eq_false (by omega)
        have i3 : decide (j < N) = false := decide_eq_false (by omega)
        clear HA hBw hB hsN hsO
        go_wp2
        go_meet
        exact ⟨HR, HBx.out⟩
      have hlt' : j < old.length := by rw [HN.out]; exact hlt
      have hj0 : old[j]? = some old[j] := List.getElem?_eq_getElem hlt'
      obtain ⟨b, o, hA, hbb, d0, d1, d2, d3, d4, d5, d6, d7, d8, d9, d10, xok⟩ := HD.out.1.cells_at (wr := wr) (fun p hp => hBw.cell hp) hj0
      subst hA
      have hstep := numO_drop (s := name) hj0
      have hne := HD.out.2.1 _ (List.getElem_mem hlt')
      have hir := HD.out.2.2 _ (List.getElem_mem hlt')
      generalize old[j] = x at d0 d1 d2 d3 d4 d5 d6 d7 d8 d9 d10 xok hstep hne hir
      clear hj0 hlt'
      obtain ⟨W3, hW3⟩ : ∃ W3, wr.alloc (.cells #[.int .i64 x.id, .int .i64 x.kind, .bool x.pub, .slice x.nA x.names.length x.nc, .bool x.doubt, .int .i64 x.k, .string x.n, .string x.m, .int .i64 x.i, .int .i64 x.d, .slice x.A x.s.len x.c] 63) = W3 := ⟨_, rfl⟩
      have hb3 : Below wr.heap.size wr W3 := by rw [← hW3]; exact (Below.refl _ _).alloc (Nat.le_refl _) _
      have hx3 : W3.heap[wr.heap.size]? = some (.cells #[.int .i64 x.id, .int .i64 x.kind, .bool x.pub, .slice x.nA x.names.length x.nc, .bool x.doubt, .int .i64 x.k, .string x.n, .string x.m, .int .i64 x.i, .int .i64 x.d, .slice x.A x.s.len x.c] 63 (0, 0)) := by rw [← hW3]; exact heap_alloc_new wr _
      have f0 := cell_of_row W3 wr.heap.size 0 _ _ (0, 0) hx3
      have f3 := cell_of_row W3 wr.heap.size 3 _ _ (0, 0) hx3
      simp at f0 f3
      have hB3 := hB.trans (hb3.mono hB.size)
      obtain ⟨hBw3, y1, hsN3, _⟩ := HC.out W3 hB3
      have xn := xok.1.keep (w' := W3) hBw3.size fun p hp => hBw3.cell hp
      obtain ⟨nb, no, hnA, hnb, hnc⟩ := name0_cell xn hne
      change W3.cell? ⟨nb, no, none⟩ = some (.string (nameOf x)) at hnc
      have xc1 := xn.1
      have xc2 := xn.2.1
      unfold maxLen at xc2
      have xp : 0 < x.names.length := List.length_pos_iff.2 hne
      rw [hnA] at d3 f3 hW3
      have HB3 := Lib.hid (And.intro hB3 hBw3)
      have j0 : (0 : Int) ≤ (j : Int) := by omega
      have j1 : (j : Int) < (N : Int) := by omega
      have xp1 : (0 : Int) < (x.names.length : Int) := by omega
      obtain ⟨ib, Hib⟩ : ∃ q, Hid (hasI LN x.id = q) := ⟨_, Lib.hid rfl⟩
      have hlk : (Instr.lookup 119 (.map (some bN)) (.int .i64 x.id) false).run Tryz.prog W3 = .ok (.bool ib) W3 := by
        rw [← Hib.out, ← keyI_has]
        exact hsN3.look intKeyed Tryz.underlying119 (keyI_of (wfI hir))
      clear xok hb3 hx3 hB hBw hBw3 hB3 hsN hsO hsN3 xn hne hnA
      generalize x.names.length = nx at d3 f3 xc1 hW3 xp xp1
      generalize nameOf x = nm at hnc hstep
      cases heq : nm.toList == name.toList with
      | false =>
        have HF := Lib.hid (show numO old name = numO (old.drop (j + 1)) name by rw [HA.out, hstep, heq]; rfl)
        clear hstep HA hlk
        go_wp2
        go_roundg (N - (j + 1))
        case measure => rw [HG]; omega
        case rel => exact ⟨j + 1, rfl, by omega, by go_num, HF, HB3.out.1⟩
      | true =>
        have HO := Lib.hid (show numO old name = some x.id by rw [HA.out, hstep, heq]; rfl)
        by_cases h0 : x.id = 0
        · have h0' : (x.id != 0) = false := by simpa using h0
          have HR := Lib.hid (show ∀ i, numO old name = some i → i = 0 ∨ i ∈ LN from fun i hi => by
            rw [HO.out] at hi
            exact .inl ((Option.some.inj hi).symm.trans h0))
          clear hstep HA hlk h0
          go_wp2
          go_meet
          exact ⟨HR, HB3.out.1⟩
        · have h0' : (x.id != 0) = true := by simpa using h0
          cases ib with
          | true =>
            have HR := Lib.hid (show ∀ i, numO old name = some i → i = 0 ∨ i ∈ LN from fun i hi => by
              rw [HO.out] at hi
              exact .inr (Option.some.inj hi ▸ hasI_iff.1 Hib.out))
            clear hstep HA h0
            go_wp2
            go_meet
            exact ⟨HR, HB3.out.1⟩
          | false =>
            have HR := Lib.hid (show NumP old name LN x.id from .inl ⟨x.id, HO.out, h0, fun h => by rw [hasI_iff.2 h] at Hib; exact absurd Hib.out (by simp), rfl⟩)
            clear hstep HA h0
            go_wp2
            go_ret
            exact ⟨x.id, rfl, HR, HB3.out.2⟩
  case rest =>
  obtain ⟨HR, hbc⟩ := hcut
  obtain ⟨W5, rfl⟩ : ∃ q, q = wc := ⟨_, rfl⟩
  have HB5 := Lib.hid hbc
  have HDg := Lib.hid (dgOf_any name W5 HSz.out)
  have hdb := dg_bnd name
  have hn0 := n0_in name
  have HN0 := Lib.hid (show ∀ r, FrN (LN ++ old.map Dc.id) (1 + dgA name % 999999) r → NumP old name LN r from fun r h => .inr ⟨HR.out, h⟩)
  generalize dgB name = gB at HDg
  generalize dgA name = g at HDg hdb hn0 HK HN0
  have hr1 : g.tmod 999999 = g % 999999 := Int.tmod_eq_emod_of_nonneg hdb.1
  obtain ⟨n0, hn0e⟩ : ∃ q, 1 + g % 999999 = q := ⟨_, rfl⟩
  have hr2 : IntKind.i64.wrap (g % 999999) = g % 999999 := IntWalk.i64_in _ (by omega)
  have hr3 : IntKind.i64.wrap (1 + g % 999999) = n0 := by rw [hn0e]; exact IntWalk.i64_in _ (by omega)
  have hr4 : IntKind.u64.wrap (g % 999999) = g % 999999 := IntWalk.u64_in _ (by omega)
  rw [hn0e] at hn0 HK HN0
  clear hbc x1 hW0
  go_wp2_with fail
  refine HDg.out.mono ?_
  rintro e w6 ⟨rfl, hb6⟩
  have hB6 := HB5.out.trans (hb6.mono HB5.out.size)
  obtain ⟨hBw6, _, hsN, hsO⟩ := HC.out w6 hB6
  have HB6 := Lib.hid hBw6
  have HS6 := Lib.hid (And.intro hsN hsO)
  clear hb6 hB6 hBw6 hsN hsO
  have hix : ∀ W : World, (Instr.index 148 (.agg #[.int .u64 g, .int .u64 gB]) (.int .i64 0)).run Tryz.prog W = .ok (.int .u64 g) W := fun _ => by kernel_rfl
  go_wp2_with fail
  go_loopg [11] K (fun gg ct wr => ∃ j : Nat, gg = K - j ∧ j ≤ K ∧ ct = .int .i64 (itN j n0) ∧ w6 = wr)
  case atStart => exact ⟨0, rfl, by omega, rfl, rfl⟩
  case round =>
    obtain ⟨j, HG, hj, rfl, rfl⟩ := hrel
    have hi := itN_in hn0 j
    obtain ⟨b1, Hb1⟩ : ∃ q, Hid (hasI LN (itN j n0) = q) := ⟨_, Lib.hid rfl⟩
    obtain ⟨b2, Hb2⟩ : ∃ q, Hid (hasI (old.map Dc.id) (itN j n0) = q) := ⟨_, Lib.hid rfl⟩
    have hl1 : (Instr.lookup 119 (.map (some bN)) (.int .i64 (itN j n0)) false).run Tryz.prog w6 = .ok (.bool b1) w6 := by
      rw [← Hb1.out, ← keyI_has]
      exact HS6.out.1.look intKeyed Tryz.underlying119 (keyI_of (wfI (by omega)))
    have hl2 : (Instr.lookup 119 (.map (some bO)) (.int .i64 (itN j n0)) false).run Tryz.prog w6 = .ok (.bool b2) w6 := by
      rw [← Hb2.out, ← keyI_has]
      exact HS6.out.2.look intKeyed Tryz.underlying119 (keyI_of (wfI (by omega)))
    have HU := Lib.hid (show (b1 || b2) = true ↔ itN j n0 ∈ LN ++ old.map Dc.id by
      rw [Bool.or_eq_true, ← Hb1.out, ← Hb2.out, hasI_iff, hasI_iff, List.mem_append])
    have HNx := Lib.hid (show itN (j + 1) n0 = nxN (itN j n0) from rfl)
    by_cases hjk : j < K
    · have HT := Lib.hid (HU.out.2 (HK.out.2 j hjk))
      have HMs := Lib.hid (show K - (j + 1) < K - j by omega)
      generalize itN j n0 = id at hi hl1 hl2 HNx
      have hw1 : IntKind.i64.wrap (id + 1) = id + 1 := IntWalk.i64_in _ (by omega)
      cases b1 with
      | true =>
        by_cases hbig : 999999 < id + 1
        · have hb' : decide (999999 < id + 1) = true := decide_eq_true hbig
          have HE := Lib.hid (show nxN id = 1 from if_pos hbig)
          clear hbig
          go_wp2
          go_roundg (K - (j + 1))
          case measure => rw [HG]; exact HMs.out
          case rel => exact ⟨j + 1, rfl, by omega, by rw [HNx.out, HE.out], rfl⟩
        · have hb' : decide (999999 < id + 1) = false := decide_eq_false hbig
          have HE := Lib.hid (show nxN id = id + 1 from if_neg hbig)
          clear hbig
          go_wp2
          go_roundg (K - (j + 1))
          case measure => rw [HG]; exact HMs.out
          case rel => exact ⟨j + 1, rfl, by omega, by rw [HNx.out, HE.out], rfl⟩
      | false =>
        obtain rfl : b2 = true := HT.out
        by_cases hbig : 999999 < id + 1
        · have hb' : decide (999999 < id + 1) = true := decide_eq_true hbig
          have HE := Lib.hid (show nxN id = 1 from if_pos hbig)
          clear hbig
          go_wp2
          go_roundg (K - (j + 1))
          case measure => rw [HG]; exact HMs.out
          case rel => exact ⟨j + 1, rfl, by omega, by rw [HNx.out, HE.out], rfl⟩
        · have hb' : decide (999999 < id + 1) = false := decide_eq_false hbig
          have HE := Lib.hid (show nxN id = id + 1 from if_neg hbig)
          clear hbig
          go_wp2
          go_roundg (K - (j + 1))
          case measure => rw [HG]; exact HMs.out
          case rel => exact ⟨j + 1, rfl, by omega, by rw [HNx.out, HE.out], rfl⟩
    · obtain rfl : j = K := by omega
      have HF : Hid ((b1 || b2) = false) := Lib.hid (by
        cases hc : (b1 || b2) with
        | false => rfl
        | true => exact absurd (HU.out.1 hc) HK.out.1)
      have HR2 := Lib.hid (HN0.out (itN j n0) ⟨j, rfl, HK.out.1, HK.out.2⟩)
      obtain rfl : b1 = false := by have := HF.out; cases b1 <;> simp_all
      obtain rfl : b2 = false := by have := HF.out; simpa using this
      generalize itN j n0 = id at hi hl1 hl2 HR2
      go_wp2
      go_ret
      exact ⟨id, rfl, HR2, HB6.out⟩
end Go.Proofs.YtacjjkbkhpdhnaaGreatDoor
