/- depend.chance -/
import Derived.Test.YtnfndgmlnoeelaaGreatDoorZln
import Derived.Test.YtnfndgmlnoeelaaGreatDoorZlz
import Derived.Test.YtnfndgmlnoeelaaGreatDoorZer
import Derived.Test.YtnfndgmlnoeelaaGreatDoorZnn
namespace Go.Proofs.YtnfndgmlnoeelaaGreatDoor
open Go.RowKit Go.Proofs Go.Shelf
def Fo.chn : Fo → Bool
 | .nil => false
 | .cons k _ _ _ _ _ _ s r => (k == 14 || s.chn) || r.chn
def ChnOK (s : Fo) : Prop := ∀ (k : Int) (n m : ByteArray) (i d : Int) (A : Option Addr) (c : Nat) (w : World), s.Sl w w.heap.size A c →
  Calls Tryz.prog 24 #[.agg #[.int .i64 k, .string n, .string m, .int .i64 i, .int .i64 d, .slice A s.len c]] w fun e w' => e = .returned (.bool (k == 14 || s.chn)) ∧ Below w.heap.size w w'
set_option maxHeartbeats 1000000 in
theorem indexFnC_any (s : Fo) (ih : s.All ChnOK) (A : Option Addr) (c : Nat) (w : World) (hs : s.Sl w w.heap.size A c) :
  Calls Tryz.prog 81 #[.slice A s.len c, .func (.func 24) #[] #[]] w (IdxP s.chn w) := by
 have HS := Lib.hid hs
 clear hs
 have IH := Lib.hid ih
 clear ih
 have hcap : s.len ≤ 9223372036854775807 := by have := HS.out.1; have := HS.out.2.1; unfold maxLen at this; omega
 obtain ⟨E, HE⟩ : ∃ E, Hid (s.chn = E) := ⟨_, rfl⟩
 rw [HE.out]
 go_enter Tryz.func81, Tryz.ntmps81
 go_wp2
 go_loopg [5, 8] s.len (fun g _ ct wr => ∃ (j : Nat) (r : Fo), g = r.len ∧ j + r.len = s.len ∧ ct = .int .i64 j ∧ E = r.chn ∧ r.All ChnOK ∧
  (r ≠ .nil → ∃ b o, A = some ⟨b, o, none⟩ ∧ b < w.heap.size ∧ r.At wr w.heap.size b (o + j * 6)) ∧ Below w.heap.size w wr)
 case atStart =>
  refine ⟨0, s, rfl, by omega, rfl, HE.out.symm, IH.out, ?_, Below.refl _ _⟩
  intro hne
  obtain ⟨b, o, e, hb, h⟩ := HS.out.2.2 hne
  exact ⟨b, o, e, hb, by rw [Nat.zero_mul, Nat.add_zero]; exact h⟩
 case round =>
  obtain ⟨j, r, HG, hjr, rfl, hE, HA, HAt, HB⟩ := hrel
  cases r with
  | nil =>
   have hjr2 : s.len ≤ j := by simp only [Fo.len] at hjr; omega
   have hjr1 : j ≤ s.len := by simp only [Fo.len] at hjr; omega
   have HR := Lib.hid hE
   clear hjr HG hE
   go_wp2
   go_ret
   exact ⟨-1, rfl, by rw [HR.out]; rfl, HB⟩
  | cons rk rn rm ri rd A' c' rs rr =>
   have hjr2 : j < s.len := by simp only [Fo.len] at hjr; omega
   obtain ⟨b, o, rfl, hb, h0, h1, h2, h3, h4, ⟨h5, hc', hm', hs'⟩, hr'⟩ := HAt (by simp)
   have HS' := Lib.hid (And.intro hs' (And.intro hr' (And.intro HB (And.intro HG hjr))))
   have hbz := HB.size
   have hok := (HA.1 rk rn rm ri rd A' c' wr ⟨hc', hm', fun hne => by
    obtain ⟨b', o', e, hb', h'⟩ := HS'.out.1 hne
    exact ⟨b', o', e, by omega, h'.keep (by omega) (fun _ _ => rfl) hb'⟩⟩)
   obtain ⟨q, Hq⟩ : ∃ q, Hid ((rk == 14 || rs.chn) = q) := ⟨_, rfl⟩
   rw [Hq.out] at hok
   have HE2 : Hid (E = (q || rr.chn)) := by show E = _; rw [hE, ← Hq.out]; rfl
   have HO := Lib.hid (And.intro hok HA.2)
   clear hs' hr' HB HG hjr hok HA HAt hE
   go_wp2_with fail
   refine HO.out.1.mono ?_
   rintro e w1 ⟨rfl, hb1⟩
   have HB1 := Lib.hid (And.intro (HS'.out.2.2.1.trans (hb1.mono (by omega))) hb1)
   clear hb1
   cases q
   ·go_wp2
    go_roundg rr.len
    case measure => rw [HS'.out.2.2.2.1]; simp [Fo.len]
    case rel =>
     refine ⟨j + 1, rr, rfl, by have := HS'.out.2.2.2.2; simp only [Fo.len] at this; omega, by go_num, by rw [HE2.out]; rfl, HO.out.2, ?_, HB1.out.1⟩
     intro hne
     refine ⟨b, o, rfl, hb, ?_⟩
     rw [show o + (j + 1) * 6 = o + j * 6 + 6 by omega]
     exact HS'.out.2.1.keep (Nat.le_refl _) (fun p hp => HB1.out.2.cell (by omega)) hb
   ·have HR := Lib.hid (show E = true by rw [HE2.out]; rfl)
    go_wp2
    go_ret
    exact ⟨j, rfl, by rw [HR.out]; simp, HB1.out.1⟩
set_option maxHeartbeats 1000000 in
theorem containsFnC_any (s : Fo) (ih : s.All ChnOK) (A : Option Addr) (c : Nat) (w : World) (hs : s.Sl w w.heap.size A c) :
  Calls Tryz.prog 56 #[.slice A s.len c, .func (.func 24) #[] #[]] w fun e w' => e = .returned (.bool s.chn) ∧ Below w.heap.size w w' := by
 have HC := Lib.hid (indexFnC_any s ih A c w hs)
 clear ih hs
 obtain ⟨E, HE⟩ : ∃ E, Hid (s.chn = E) := ⟨_, rfl⟩
 rw [HE.out] at HC ⊢
 go_enter Tryz.func56, Tryz.ntmps56
 go_wp2_with fail
 refine HC.out.mono ?_
 rintro e w1 ⟨j, rfl, hj, hb⟩
 go_wp2
 go_ret
 exact ⟨by simp, hb⟩
set_option maxHeartbeats 1000000 in
theorem dChance_step (s : Fo) (ih : s.All ChnOK) : ChnOK s := by
 intro k n m i d A c w hs
 obtain ⟨E, HE⟩ : ∃ E, Hid (s.chn = E) := ⟨_, rfl⟩
 rw [HE.out]
 obtain ⟨W0, hW0⟩ : ∃ W0, w.alloc (.cells #[.int .i64 k, .string n, .string m, .int .i64 i, .int .i64 d, .slice A s.len c] 60) = W0 := ⟨_, rfl⟩
 have hzw : w.heap.size < W0.heap.size := by subst hW0; simp
 have hB0 : Below w.heap.size w W0 := by subst hW0; exact (Below.refl _ _).alloc (Nat.le_refl _) _
 have h0 : W0.cell? ⟨w.heap.size, 0, none⟩ = some (.int .i64 k) := by subst hW0; go_simp
 have h5 : W0.cell? ⟨w.heap.size, 5, none⟩ = some (.slice A s.len c) := by subst hW0; go_simp
 have hs0 := hs.keep (w' := W0) (B' := W0.heap.size) (Nat.le_of_lt hzw) fun p hp => hB0.cell hp
 have hc := containsFnC_any s ih A c W0 hs0
 rw [HE.out] at hc
 have HC := Lib.hid (And.intro hc hB0)
 clear hc hB0 hs0 hs ih
 by_cases hk : k = 14
 ·have hk' : (k == 14) = true := by simpa using hk
  rw [hk', Bool.true_or]
  clear hk
  go_enter Tryz.func24, Tryz.ntmps24
  go_wp2
  go_ret
  exact ⟨rfl, HC.out.2⟩
 ·have hk' : (k == 14) = false := by simpa using hk
  rw [hk', Bool.false_or]
  clear hk
  go_enter Tryz.func24, Tryz.ntmps24
  go_wp2_with fail
  refine HC.out.1.mono ?_
  rintro e w1 ⟨rfl, hb1⟩
  have HB1 := Lib.hid (HC.out.2.trans (hb1.mono (by omega)))
  clear hb1
  go_wp2
  go_ret
  exact ⟨rfl, HB1.out⟩
theorem dChance_any (s : Fo) : ChnOK s := Fo.by_parts dChance_step s
end Go.Proofs.YtnfndgmlnoeelaaGreatDoor
/- depend.Flaky -/
namespace Go.Proofs.YtnfndgmlnoeelaaGreatDoor
open Go.RowKit Go.Proofs Go.Shelf
def chnD (d : Dc) : Bool := d.k == 14 || d.s.chn
def chnN (l : List Mo) (x : ByteArray × Int) : Bool := ((bodyOf l x).map chnD).getD false
def flkB (l : List Mo) (L : List (ByteArray × Int)) : Bool := L.any (chnN l)
def CapF (cb bm : Nat) (l : List Mo) (X : World) : Prop := X.heap[cb]? = some (.cells #[.map (some bm)] 68 (0, 0)) ∧ BodiesAt l X bm
theorem CapF.below {cb bm : Nat} {l : List Mo} {X Y : World} (h : CapF cb bm l X) (hb : Below X.heap.size X Y) : CapF cb bm l Y :=
 ⟨(hb.block cb (Array.getElem?_eq_some_iff.1 h.1).1).trans h.1, h.2.keep (hb.block bm h.2.lt)⟩
set_option maxRecDepth 100000 in
set_option maxHeartbeats 1000000 in
theorem dFlaky1_any (l : List Mo) (x : ByteArray × Int) (hx : NOk x) (d : Dc) (hd : bodyOf l x = some d) (cb bm : Nat) (X : World) (h : CapF cb bm l X) (hs : d.s.Sl X X.heap.size d.A d.c) :
  Calls Tryz.prog 23 #[.agg #[.string x.1, .int .i64 x.2], .pointer (some ⟨cb, 0, none⟩)] X fun e Y => e = .returned (.bool (chnD d)) ∧ Below X.heap.size X Y := by
 obtain ⟨W0, hW0⟩ : ∃ W0, X.alloc (.cells #[.string x.1, .int .i64 x.2] 24) = W0 := ⟨_, rfl⟩
 have hb0 : Below X.heap.size X W0 := by subst hW0; exact (Below.refl _ _).alloc (Nat.le_refl _) _
 have hz0 : W0.heap.size = X.heap.size + 1 := by subst hW0; simp
 have hlt := (Array.getElem?_eq_some_iff.1 h.1).1
 have c0 : W0.cell? ⟨cb, 0, none⟩ = some (.map (some bm)) := (hb0.cell (p := ⟨cb, 0, none⟩) hlt).trans (cell_of_one h.1)
 have n0 : W0.cell? ⟨X.heap.size, 0, none⟩ = some (.string x.1) := by subst hW0; go_simp
 have n1 : W0.cell? ⟨X.heap.size, 1, none⟩ = some (.int .i64 x.2) := by subst hW0; go_simp
 have hlk := (h.2.keep (hb0.block bm h.2.lt)).look false Tryz.underlying68 (zeroE_run W0) (a := x) hx
 simp only [Bool.false_eq_true, if_false] at hlk
 rw [hd] at hlk
 change Sem.run Tryz.prog (Instr.lookup 68 (.map (some bm)) (.agg #[.string x.1, .int .i64 x.2]) false) W0 = .ok (.agg #[.int .i64 d.k, .string d.n, .string d.m, .int .i64 d.i, .int .i64 d.d, .slice d.A d.s.len d.c]) W0 at hlk
 have HC := Lib.hid (dChance_any d.s d.k d.n d.m d.i d.d d.A d.c W0 (hs.keep (by omega) (fun p hp => hb0.cell hp)))
 obtain ⟨q, Hq⟩ : ∃ q, Hid (chnD d = q) := ⟨_, Lib.hid rfl⟩
 have Hq2 : Hid ((d.k == 14 || d.s.chn) = q) := Hq.out
 rw [Hq2.out] at HC
 rw [Hq.out]
 have HB := Lib.hid hb0
 clear h hb0 hs hd hz0
 go_enter Tryz.func23, Tryz.ntmps23
 go_wp2_with fail
 refine HC.out.mono ?_
 rintro e w1 ⟨rfl, hb1⟩
 have HB1 := Lib.hid (HB.out.trans (hb1.mono HB.out.size))
 clear hb1 hlk c0 n0 n1
 go_wp2
 go_ret
 exact ⟨rfl, HB1.out⟩
set_option maxRecDepth 100000 in
set_option maxHeartbeats 2000000 in
theorem flkIdx_any (l : List Mo) (L : List (ByteArray × Int)) (g cap base cb bm : Nat) (w : World) (hs : w.ownsRow base 24 2 (.slice (some ⟨g, 0, none⟩) L.length cap) L.length (namesC L)) (hl : L.length ≤ 1000000) (hok : ∀ x ∈ L, NOk x ∧ ∃ d, bodyOf l x = some d ∧ d.s.Sl w w.heap.size d.A d.c) (hc : CapF cb bm l w) :
  Calls Tryz.prog 55 #[.slice (some ⟨g, 0, none⟩) L.length cap, .func (.func 23) #[] #[.pointer (some ⟨cb, 0, none⟩)]] w (IdxP (flkB l L) w) := by
 have hcap : L.length ≤ cap ∧ cap ≤ 9223372036854775807 := by
  rcases hs.2 with ⟨h, _⟩ | ⟨g', cap', cur, h, _, _, hle, hmx, _⟩
  ·cases h
  ·cases h; unfold maxLen at hmx; omega
 obtain ⟨N, HN⟩ : ∃ Q, Hid (L.length = Q) := ⟨_, Lib.hid rfl⟩
 have HO := Lib.hid (And.intro hs (And.intro hok hc))
 obtain ⟨E, HE⟩ : ∃ E, Hid (flkB l L = E) := ⟨_, Lib.hid rfl⟩
 rw [HN.out] at hcap hl ⊢
 rw [HE.out]
 have hgl := (hs.lt g rfl).2
 clear hs hok hc
 go_enter Tryz.func55, Tryz.ntmps55
 go_wp2
 go_loopg [5, 8] N (fun gg _ ct wr => ∃ j : Nat, gg = N - j ∧ j ≤ N ∧ ct = .int .i64 j ∧ flkB l (L.drop j) = E ∧ Below w.heap.size w wr)
 case atStart => exact ⟨0, rfl, by omega, rfl, HE.out, Below.refl _ _⟩
 case round =>
  obtain ⟨j, HG, hj, rfl, hE, hB⟩ := hrel
  by_cases hlt : j < N
  ·have hlt' : j < L.length := by rw [HN.out]; exact hlt
   obtain ⟨x, hx⟩ : ∃ x, L[j]? = some x := ⟨_, List.getElem?_eq_getElem hlt'⟩
   have hdr : L.drop j = x :: L.drop (j + 1) := by
    obtain ⟨_, rfl⟩ := List.getElem?_eq_some_iff.1 hx
    exact List.drop_eq_getElem_cons _
   obtain ⟨n0, n1⟩ := namesC_at x L j hx
   have c0 : wr.cell? ⟨g, j * 2, none⟩ = some (.string x.1) := (hB.cell (p := ⟨g, j * 2, none⟩) hgl).trans ((HO.out.1.cellAt _ (by rw [HN.out]; omega)).trans n0)
   have c1 : wr.cell? ⟨g, j * 2 + 1, none⟩ = some (.int .i64 x.2) := (hB.cell (p := ⟨g, j * 2 + 1, none⟩) hgl).trans ((HO.out.1.cellAt _ (by rw [HN.out]; omega)).trans n1)
   obtain ⟨hxok, d, hd, hsl⟩ := HO.out.2.1 x (List.mem_of_getElem? hx)
   have hC := dFlaky1_any l x hxok d hd cb bm wr (HO.out.2.2.below hB) (hsl.keep hB.size (fun p hp => hB.cell hp))
   obtain ⟨q, Hq⟩ : ∃ q, Hid (chnD d = q) := ⟨_, Lib.hid rfl⟩
   rw [Hq.out] at hC
   have HE2 : Hid (E = (q || flkB l (L.drop (j + 1)))) := by
    show E = _
    rw [← hE, hdr, ← Hq.out]
    unfold flkB
    rw [List.any_cons, chnN, hd]
    rfl
   have HC := Lib.hid hC
   have i1 : (0 : Int) ≤ (j : Int) := by omega
   have i2 : (j : Int) < (N : Int) := by omega
   have HT := Lib.hid (And.intro HG hB)
   have hz := hB.size
   clear HG hE hB hx hdr n0 n1 hd hsl hC hxok
   go_wp2_with fail
   refine HC.out.mono ?_
   rintro e w1 ⟨rfl, hb1⟩
   have HB1 := Lib.hid (HT.out.2.trans (hb1.mono hz))
   clear hb1 c0 c1
   cases q
   ·go_wp2
    go_roundg (N - (j + 1))
    case measure => rw [HT.out.1]; omega
    case rel => exact ⟨j + 1, rfl, by omega, by go_num, by rw [HE2.out]; rfl, HB1.out⟩
   ·have HR := Lib.hid (show E = true by rw [HE2.out]; rfl)
    go_wp2
    go_ret
    exact ⟨j, rfl, by rw [HR.out]; simp, HB1.out⟩
  ·have hje : j = N := by omega
   have HR := Lib.hid (show E = false by rw [← hE, List.drop_of_length_le (by rw [HN.out]; omega)]; rfl)
   have HB1 := Lib.hid hB
   clear hE hB
   go_wp2
   go_ret
   exact ⟨-1, rfl, by rw [HR.out]; rfl, HB1.out⟩
set_option maxRecDepth 100000 in
set_option maxHeartbeats 1000000 in
theorem flkCon_any (l : List Mo) (L : List (ByteArray × Int)) (g cap base cb bm : Nat) (w : World) (hs : w.ownsRow base 24 2 (.slice (some ⟨g, 0, none⟩) L.length cap) L.length (namesC L)) (hl : L.length ≤ 1000000) (hok : ∀ x ∈ L, NOk x ∧ ∃ d, bodyOf l x = some d ∧ d.s.Sl w w.heap.size d.A d.c) (hc : CapF cb bm l w) :
  Calls Tryz.prog 22 #[.slice (some ⟨g, 0, none⟩) L.length cap, .func (.func 23) #[] #[.pointer (some ⟨cb, 0, none⟩)]] w fun e w' => e = .returned (.bool (flkB l L)) ∧ Below w.heap.size w w' := by
 have HC := Lib.hid (flkIdx_any l L g cap base cb bm w hs hl hok hc)
 clear hs hok hc hl
 obtain ⟨E, HE⟩ : ∃ E, Hid (flkB l L = E) := ⟨_, Lib.hid rfl⟩
 rw [HE.out] at HC ⊢
 obtain ⟨N, HN⟩ : ∃ Q, Hid (L.length = Q) := ⟨_, Lib.hid rfl⟩
 rw [HN.out] at HC ⊢
 go_enter Tryz.func22, Tryz.ntmps22
 go_wp2_with fail
 refine HC.out.mono ?_
 rintro e w1 ⟨j, rfl, hj, hb⟩
 go_wp2
 go_ret
 exact ⟨by simp, hb⟩
def FlkP (l : List Mo) (n : ByteArray × Int) (w : World) (e : Ending) (w' : World) : Prop :=
 Below w.heap.size w w' ∧ ((loadE l n ≠ 0 ∧ e = .returned (.tuple #[.bool false, .int .i64 (loadE l n)])) ∨
  (loadE l n = 0 ∧ Clo (grf l) n none ∧ e = .returned (.tuple #[.bool false, .int .i64 21])) ∨
  (loadE l n = 0 ∧ ∃ L, Clo (grf l) n (some L) ∧ e = .returned (.tuple #[.bool (flkB l L), .int .i64 0])))
set_option maxRecDepth 100000 in
set_option maxHeartbeats 4000000 in
theorem dFlaky_any (l : List Mo) (n : ByteArray × Int) (A : Option Addr) (c : Nat) (w : World) (hl : SlM w w.heap.size A c l) (hn : NOk n) (hw : MoW l) (ht : totD l ≤ 1000000) (hll : l.length ≤ 1000) (hU : chkL l = 0 → ∃ U, UOk l n U) :
  Calls Tryz.prog 8 #[.slice A l.length c, .agg #[.string n.1, .int .i64 n.2]] w (FlkP l n w) := by
 obtain ⟨W0, hW0⟩ : ∃ W0, w.alloc (.cells #[.string n.1, .int .i64 n.2] 24) = W0 := ⟨_, rfl⟩
 have hz0 : W0.heap.size = w.heap.size + 1 := by subst hW0; simp
 have hB0 : Below w.heap.size w W0 := by subst hW0; exact (Below.refl _ _).alloc (Nat.le_refl _) _
 have n0 : W0.cell? ⟨w.heap.size, 0, none⟩ = some (.string n.1) := by subst hW0; go_simp
 have n1 : W0.cell? ⟨w.heap.size, 1, none⟩ = some (.int .i64 n.2) := by subst hW0; go_simp
 have HC := Lib.hid (dClosure_any l n A c W0 ((hl.below hB0).keep (B' := W0.heap.size) (by omega) (fun _ _ => rfl)) hn hw ht hll hU)
 obtain ⟨N, HN⟩ : ∃ Q, Hid (l.length = Q) := ⟨_, Lib.hid rfl⟩
 rw [HN.out] at HC ⊢
 have HB := Lib.hid (And.intro hB0 (show w.heap.size < W0.heap.size by omega))
 have HL := Lib.hid (And.intro hl hn)
 clear hl hn hw ht hll hU hB0 hz0
 go_enter Tryz.func8, Tryz.ntmps8
 go_wp2_with fail
 refine HC.out.mono ?_
 rintro e w1 ⟨hb1, ⟨hE, rfl⟩ | ⟨hE, hcl, rfl⟩ | ⟨hE, L, bm, v, hcl, rfl, hbm, hbo, hown, hlen⟩⟩
 ·have hE2 : (loadE l n != 0) = true := by simpa using hE
  have HX := Lib.hid (And.intro hb1 hE)
  obtain ⟨E, HE⟩ : ∃ Q, Hid (loadE l n = Q) := ⟨_, Lib.hid rfl⟩
  rw [HE.out] at hE2 ⊢
  clear hb1 hE
  go_wp2
  go_ret2
  exact ⟨(HB.out.1.trans (HX.out.1.mono (Nat.le_of_lt HB.out.2))).alloc (Nat.le_trans (Nat.le_of_lt HB.out.2) HX.out.1.size) _, .inl ⟨HX.out.2, by rw [HE.out]; rfl⟩⟩
 ·have HX := Lib.hid (And.intro hb1 (And.intro hE hcl))
  clear hb1 hE hcl
  go_wp2
  go_ret2
  exact ⟨(HB.out.1.trans (HX.out.1.mono (Nat.le_of_lt HB.out.2))).alloc (Nat.le_trans (Nat.le_of_lt HB.out.2) HX.out.1.size) _, .inr (.inl ⟨HX.out.2.1, HX.out.2.2, rfl⟩)⟩
 ·obtain ⟨gv, vc, rfl⟩ : ∃ gv vc, v = .slice (some ⟨gv, 0, none⟩) L.length vc := by
   rcases hown.2 with ⟨h1, h2⟩ | ⟨g, cap, cur, h1, _⟩
   ·have hnl : n ∈ L := (hcl.2.1 n).2 .refl
    rw [List.length_eq_zero_iff.1 h2] at hnl
    simp at hnl
   ·exact ⟨g, cap, h1⟩
  have hBw1 : Below w.heap.size w w1 := HB.out.1.trans (hb1.mono (Nat.le_of_lt HB.out.2))
  have hchk := (loadE_zero hE).1
  obtain ⟨W2, hW2⟩ : ∃ W2, w1.alloc (.cells #[.map (some bm)] 68) = W2 := ⟨_, rfl⟩
  have hb2 : Below w1.heap.size w1 W2 := by rw [← hW2]; exact (Below.refl _ _).alloc (Nat.le_refl _) _
  have hcap : CapF w1.heap.size bm l W2 := ⟨by rw [← hW2]; exact heap_alloc_new w1 _, hbo.keep (hb2.block bm hbo.lt)⟩
  have hB2 : Below w.heap.size w W2 := hBw1.trans (hb2.mono hBw1.size)
  have HCo := Lib.hid (flkCon_any l L gv vc W0.heap.size w1.heap.size bm W2 (own_of_blocks' hown fun k hk => hb2.block k hk) (by omega) (fun x hx => by
   have hr := (hcl.2.1 x).1 hx
   refine ⟨reach_ok hchk HL.out.2 hr, ?_⟩
   have := hcl.2.2 x hr
   unfold grf at this
   cases hb : bodyOf l x with
   | none => rw [hb] at this; exact absurd rfl this
   | some d => exact ⟨d, rfl, (HL.out.1.body hb).keep hB2.size (fun p hp => hB2.cell hp)⟩) hcap)
  have HX := Lib.hid (And.intro hE (And.intro hcl hB2))
  obtain ⟨M, HM⟩ : ∃ Q, Hid (L.length = Q) := ⟨_, Lib.hid rfl⟩
  obtain ⟨q, Hq⟩ : ∃ Q, Hid (flkB l L = Q) := ⟨_, Lib.hid rfl⟩
  rw [HM.out, Hq.out] at HCo
  rw [HM.out]
  clear hb1 hE hcl hbm hbo hown hlen hBw1 hchk hb2 hcap hB2
  go_wp2_with fail
  refine HCo.out.mono ?_
  rintro e w3 ⟨rfl, hb3⟩
  have HB3 := Lib.hid (HX.out.2.2.trans (hb3.mono HX.out.2.2.size))
  clear hb3
  go_wp2
  go_ret2
  exact ⟨HB3.out, .inr (.inr ⟨HX.out.1, L, HX.out.2.1, by rw [Hq.out]; rfl⟩)⟩
end Go.Proofs.YtnfndgmlnoeelaaGreatDoor
/- eval, plainly: what is reached from a name is its closure; without chance the seed does not matter -/
namespace Go.Proofs.YtnfndgmlnoeelaaGreatDoor
open Go Go.RowKit Go.Proofs Go.Shelf

theorem Fo.chn_vis : ∀ {f : Fo}, f.chn = false → ∀ x ∈ f.vis, x.k ≠ 14
 | .nil, _, x, hx => by simp [Fo.vis] at hx
 | .cons k n m i d A c s r, h, x, hx => by
  simp only [Fo.chn, Bool.or_eq_false_iff] at h
  simp only [Fo.vis, List.mem_append, List.mem_cons] at hx
  rcases hx with hx | rfl | hx
  ·exact Fo.chn_vis h.2 x hx
  ·simpa using h.1.1
  ·exact Fo.chn_vis h.1.2 x hx
theorem full_noB (p n : ByteArray) (i : Int) : fullN p (n, i) = (if n = noB then p else n, i) := by
 unfold fullN
 have h : n.toList.isEmpty = decide (n = noB) := by
  rw [← toL_noB]
  cases n.toList <;> rfl
 simp only [h, decide_eq_true_eq]
 by_cases e : n = noB
 ·rw [if_pos e, if_pos e]
 ·rw [if_neg e, if_neg e]
theorem Fo.sk_nice {C : ByteArray → Int → Prop} {ch : Prop} {p : ByteArray} : ∀ (f : Fo), (∀ x ∈ f.vis, (x.k = 5 → C (fullN p (x.n, x.i)).1 x.i) ∧ (ch → x.k ≠ 14)) → f.sk.Nice C ch p
 | .nil, _ => trivial
 | .cons k n m i d A c s r, h => by
  simp only [Fo.vis, List.mem_append, List.mem_cons] at h
  refine ⟨?_, s.sk_nice fun x hx => h x (.inr (.inr hx)), r.sk_nice fun x hx => h x (.inl hx)⟩
  have := h _ (.inr (.inl rfl))
  simp only [full_noB] at this
  exact this
theorem clo_nice {l : List Mo} {n : ByteArray × Int} {L : List (ByteArray × Int)} (ch : Prop) (hcl : Clo (grf l) n (some L)) (hch : ch → flkB l L = false) :
  ∀ p i x, (p, i) ∈ L → lookOf l p i = some x → x.Nice (fun p i => (p, i) ∈ L) ch p := fun p i x hp hx => by
 unfold lookOf at hx
 obtain ⟨d, hd, rfl⟩ := Option.map_eq_some_iff.1 hx
 have hr := (hcl.2.1 _).1 hp
 have hg : grf l (p, i) = some (usesOf p d.body) := by unfold grf; rw [hd]; rfl
 have hn : d.body.sk.Nice (fun p i => (p, i) ∈ L) ch p := d.body.sk_nice fun x hxv => by
  refine ⟨fun hk => ?_, fun hc => ?_⟩
  ·have hu : fullN p (x.n, x.i) ∈ usesOf p d.body := by
    unfold usesOf
    rw [mem_ordN]
    refine List.mem_map_of_mem ?_
    have e : refsOf d.body.vis = ordN (refL d.body.vis) := rfl
    rw [e, mem_ordN]
    unfold refL
    exact List.mem_filterMap.2 ⟨x, hxv, by simp [hk]⟩
   have := (hcl.2.1 _).2 (hr.step hg hu)
   rw [full_noB] at this ⊢
   exact this
  ·have hf := hch hc
   unfold flkB at hf
   have h1 := (List.any_eq_false.1 hf) _ hp
   unfold chnN at h1
   rw [hd] at h1
   have h2 : chnD d = false := by simpa using h1
   unfold chnD at h2
   have h3 : d.body.chn = false := by
    unfold Dc.body
    simp only [Fo.chn, h2, Bool.or_false]
   exact Fo.chn_vis h3 x hxv
 unfold Dc.body at hn
 exact ⟨hn.1, hn.2.1⟩
theorem start_same {C : ByteArray → Int → Prop} {ch : Prop} {x : Xp} {p : ByteArray} {z z' : Int} (h : x.Nice C ch p) (hz : ¬ ch → z = z') : EsSame C ch ⟨0, z, [⟨x, 0, p, .nil⟩], []⟩ ⟨0, z', [⟨x, 0, p, .nil⟩], []⟩ :=
 ⟨rfl, hz, rfl, rfl, fun f hf => by obtain rfl := List.mem_singleton.1 hf; exact ⟨h, trivial⟩, fun v hv => by simp at hv⟩
theorem chance_same {l : List Mo} {n : ByteArray × Int} {L : List (ByteArray × Int)} (hcl : Clo (grf l) n (some L)) (hf : flkB l L = false) {x : Xp} (hx : lookOf l n.1 n.2 = some x) {m z z' : Int} {t t' : Nat} {r r' : Va × Int × Int}
  (h : Ev (lookOf l) m ⟨0, z, [⟨x, 0, n.1, .nil⟩], []⟩ r t) (h' : Ev (lookOf l) m ⟨0, z', [⟨x, 0, n.1, .nil⟩], []⟩ r' t') : r = r' := by
 have hn : (n.1, n.2) ∈ L := (hcl.2.1 _).2 .refl
 exact ev_same (C := fun p i => (p, i) ∈ L) (ch := True) (fun _ _ _ => rfl) (fun p i x hp hx => clo_nice True hcl (fun _ => hf) p i x hp hx) (start_same (clo_nice True hcl (fun _ => hf) _ _ _ hn hx) (fun h => absurd trivial h)) h h'
end Go.Proofs.YtnfndgmlnoeelaaGreatDoor
/- law40.DependChance -/
namespace Go.Proofs.YtnfndgmlnoeelaaGreatDoor
open Go Go.RowKit Go.Proofs Go.Shelf

set_option maxRecDepth 100000 in
set_option maxHeartbeats 8000000 in
theorem lawChance_any (l : List Mo) (n : ByteArray × Int) (a z z' : Int) (A : Option Addr) (c : Nat) (w : World) (hl : SlM w w.heap.size A c l) (hn : NOk n) (hw : MoW l) (ha : 0 ≤ a ∧ a ≤ 65535) :
  Calls Tryz.prog 3 #[.slice A l.length c, .agg #[.string n.1, .int .i64 n.2], .int .u16 a, .int .u64 z, .int .u64 z'] w fun e w' => e = .returned (.bool true) ∧ Below w.heap.size w w' := by
 obtain ⟨W0, hW0⟩ : ∃ W0, w.alloc (.cells #[.string n.1, .int .i64 n.2] 24) = W0 := ⟨_, rfl⟩
 have hb0 : Below w.heap.size w W0 := by rw [← hW0]; exact (Below.refl _ _).alloc (Nat.le_refl _) _
 have hz0 : w.heap.size < W0.heap.size := by rw [← hW0]; simp
 have nb : W0.heap[w.heap.size]? = some (.cells #[.string n.1, .int .i64 n.2] 24 (0, 0)) := by rw [← hW0]; exact heap_alloc_new _ _
 have n0 : W0.cell? ⟨w.heap.size, 0, none⟩ = some (.string n.1) := cell_of_row W0 _ 0 _ _ (0, 0) nb
 have n1 : W0.cell? ⟨w.heap.size, 1, none⟩ = some (.int .i64 n.2) := cell_of_row W0 _ 1 _ _ (0, 0) nb
 have HK := Lib.hid (show ∀ X : World, Below W0.heap.size W0 X → X.cell? ⟨w.heap.size, 0, none⟩ = some (.string n.1) ∧ X.cell? ⟨w.heap.size, 1, none⟩ = some (.int .i64 n.2) from fun X hX =>
  ⟨(hX.cell (p := ⟨w.heap.size, 0, none⟩) hz0).trans n0, (hX.cell (p := ⟨w.heap.size, 1, none⟩) hz0).trans n1⟩)
 have HM := Lib.hid (show ∀ X : World, Below W0.heap.size W0 X → SlM X X.heap.size A c l from fun X hX => ((hl.below hb0).below (hX.mono (Nat.le_of_lt hz0))).keep (Nat.le_trans (Nat.le_of_lt hz0) hX.size) fun _ _ => rfl)
 have HP := Lib.hid (And.intro hn (And.intro hw (And.intro hl.1 hl.2.1)))
 have HB0 := Lib.hid (And.intro hb0 hz0)
 have HG := Lib.hid (great40_any l A c W0 (HM.out W0 (Below.refl _ _)))
 obtain ⟨N, HN⟩ : ∃ Q, Hid (l.length = Q) := ⟨_, Lib.hid rfl⟩
 rw [HN.out] at HG ⊢
 clear hl hn hw hb0 hz0 nb
 go_enter Tryz.func3, Tryz.ntmps3
 cases hg : greatL l with
 | true =>
  rw [hg] at HG
  go_wp2_with fail
  refine HG.out.mono ?_
  rintro e w1 ⟨rfl, hb1⟩
  have HB1 := Lib.hid hb1
  clear hb1 n0 n1
  go_wp2_with fail
  refine (awake40_any _).mono ?_
  rintro e w2 ⟨rfl, hb2⟩
  have HB2 := Lib.hid hb2
  clear hb2 hW0
  go_wp2
  go_ret
  exact ⟨rfl, HB0.out.1.trans ((HB1.out.trans (HB2.out.mono HB1.out.size)).mono (Nat.le_of_lt HB0.out.2))⟩
 | false =>
 rw [hg] at HG
 have HGG := Lib.hid hg
 clear hg
 go_wp2_with fail
 refine HG.out.mono ?_
 rintro e w1 ⟨rfl, hb1⟩
 clear n0 n1
 obtain ⟨n0, n1⟩ := HK.out w1 hb1
 have HF := Lib.hid (dFlaky_any l n A c w1 (HM.out w1 hb1) HP.out.1 HP.out.2.1 (by have := greatL_tot HGG.out; omega) (by have := (greatL_le HGG.out).1; omega) fun h => ⟨_, uok_of HGG.out h⟩)
 rw [HN.out] at HF
 have HB1 := Lib.hid hb1
 clear hb1 hW0
 go_wp2_with fail
 refine HF.out.mono ?_
 rintro e w2 ⟨hb2, ⟨hE, rfl⟩ | ⟨hE, hcl, rfl⟩ | ⟨hE, L, hcl, rfl⟩⟩
 ·have hE2 : (loadE l n != 0) = true := by simpa using hE
  have HB2 := Lib.hid (HB1.out.trans (hb2.mono HB1.out.size))
  obtain ⟨E, HEE⟩ : ∃ Q, Hid (loadE l n = Q) := ⟨_, Lib.hid rfl⟩
  rw [HEE.out] at hE2 ⊢
  clear hb2 hE n0 n1
  go_wp2_with fail
  refine (awake40_any _).mono ?_
  rintro e w3 ⟨rfl, hb3⟩
  have HB3 := Lib.hid hb3
  clear hb3
  go_wp2
  go_ret
  exact ⟨rfl, HB0.out.1.trans ((HB2.out.trans (HB3.out.mono HB2.out.size)).mono (Nat.le_of_lt HB0.out.2))⟩
 ·have HB2 := Lib.hid (HB1.out.trans (hb2.mono HB1.out.size))
  clear hb2 hE hcl n0 n1
  go_wp2_with fail
  refine (awake40_any _).mono ?_
  rintro e w3 ⟨rfl, hb3⟩
  have HB3 := Lib.hid hb3
  clear hb3
  go_wp2
  go_ret
  exact ⟨rfl, HB0.out.1.trans ((HB2.out.trans (HB3.out.mono HB2.out.size)).mono (Nat.le_of_lt HB0.out.2))⟩
 ·have hB2 := HB1.out.trans (hb2.mono HB1.out.size)
  cases hf : flkB l L with
  | true =>
   have HB2 := Lib.hid hB2
   clear hb2 hE hcl n0 n1 hB2 hf
   go_wp2_with fail
   refine (awake40_any _).mono ?_
   rintro e w3 ⟨rfl, hb3⟩
   have HB3 := Lib.hid hb3
   clear hb3
   go_wp2
   go_ret
   exact ⟨rfl, HB0.out.1.trans ((HB2.out.trans (HB3.out.mono HB2.out.size)).mono (Nat.le_of_lt HB0.out.2))⟩
  | false =>
   clear n0 n1
   obtain ⟨n0, n1⟩ := HK.out w2 hB2
   have HB2 := Lib.hid (And.intro hB2 (And.intro hE (And.intro hcl hf)))
   clear hb2 hE hcl hB2 hf
   go_upto_region 7 with (fail)
   obtain ⟨m, Hm⟩ : ∃ Q, Hid (a % 2001 = Q) := ⟨_, Lib.hid rfl⟩
   have hm : 0 ≤ m ∧ m ≤ 2000 := by have := Hm.out; omega
   rw [Hm.out]
   have HL := Lib.hid hm
   clear hm ha
   have HM2 := Lib.hid (show ∀ X : World, Below W0.heap.size W0 X → SlM X X.heap.size A c l from HM.out)
   have HD := Lib.hid (fun (zz : Int) (X : World) (hX : Below W0.heap.size W0 X) => evDecl_any l n A c m zz X (HM.out X hX) HP.out.2.1 (by have := (greatL_le HGG.out).1; omega) HP.out.1 HL.out.1 (by have := HL.out.2; omega) (loadE_zero HB2.out.2.1).1)
   rw [HN.out] at HD
   go_wp2_with fail
   refine (HD.out z w2 HB2.out.1).mono ?_
   rintro e w3 ⟨hb3, ⟨hno, _⟩ | ⟨x, hx, v, k, err, t, lA, lc, bA, bc, eA, ec, D, hev, rfl, hvr⟩⟩
   ·exfalso
    have h1 := (loadE_zero HB2.out.2.1).2
    unfold lookOf at hno
    rw [Option.map_eq_none_iff] at hno
    exact h1 hno
   have hB3 := HB2.out.1.trans (hb3.mono HB2.out.1.size)
   obtain ⟨W4, hW4⟩ : ∃ Q9, w3.alloc (.cells #[.int .i64 v.k, .int .i64 v.i, .slice lA v.l.len lc, .int .i64 0, .string v.p, .string v.q, .slice bA v.b.len bc, .slice eA v.e.len ec] 36) = Q9 := ⟨_, rfl⟩
   have hb4 : Below w3.heap.size w3 W4 := by rw [← hW4]; exact (Below.refl _ _).alloc (Nat.le_refl _) _
   have hx4 : W4.heap[w3.heap.size]? = some (.cells #[.int .i64 v.k, .int .i64 v.i, .slice lA v.l.len lc, .int .i64 0, .string v.p, .string v.q, .slice bA v.b.len bc, .slice eA v.e.len ec] 36 (0, 0)) := by rw [← hW4]; exact heap_alloc_new _ _
   have hB4 := hB3.trans (hb4.mono hB3.size)
   clear n0 n1
   obtain ⟨n0, n1⟩ := HK.out W4 hB4
   have H4 := Lib.hid (And.intro hx (And.intro hev (And.intro hvr (And.intro hB4 (And.intro hb4 hx4)))))
   clear hx hev hvr hB3 hB4 hb3 hb4 hx4
   go_upto_region 8 with (fail)
   clear hW4
   go_wp2_with fail
   refine (HD.out z' W4 H4.out.2.2.2.1).mono ?_
   rintro e w5 ⟨hb5, ⟨hno, _⟩ | ⟨x', hx', v', k', err', t', lA', lc', bA', bc', eA', ec', D', hev', rfl, hvr'⟩⟩
   ·exfalso
    rw [H4.out.1] at hno
    cases hno
   obtain rfl : x = x' := Option.some.inj (H4.out.1.symm.trans hx')
   have hr := chance_same HB2.out.2.2.1 HB2.out.2.2.2 H4.out.1 H4.out.2.1 hev'
   simp only [Prod.mk.injEq] at hr
   obtain ⟨rfl, rfl, rfl⟩ := hr
   have hB5 := H4.out.2.2.2.1.trans (hb5.mono H4.out.2.2.2.1.size)
   obtain ⟨W6, hW6⟩ : ∃ Q9, w5.alloc (.cells #[.int .i64 v.k, .int .i64 v.i, .slice lA' v.l.len lc', .int .i64 0, .string v.p, .string v.q, .slice bA' v.b.len bc', .slice eA' v.e.len ec'] 36) = Q9 := ⟨_, rfl⟩
   have hb6 : Below w5.heap.size w5 W6 := by rw [← hW6]; exact (Below.refl _ _).alloc (Nat.le_refl _) _
   have hy6 : W6.heap[w5.heap.size]? = some (.cells #[.int .i64 v.k, .int .i64 v.i, .slice lA' v.l.len lc', .int .i64 0, .string v.p, .string v.q, .slice bA' v.b.len bc', .slice eA' v.e.len ec'] 36 (0, 0)) := by rw [← hW6]; exact heap_alloc_new _ _
   have hl3 := lt_of_block H4.out.2.2.2.2.2
   have hx6 := (hb6.block w3.heap.size (Nat.lt_of_lt_of_le hl3 hb5.size)).trans ((hb5.block w3.heap.size hl3).trans H4.out.2.2.2.2.2)
   have hB6 := hB5.trans (hb6.mono hB5.size)
   have hb46 : Below W4.heap.size W4 W6 := hb5.trans (hb6.mono hb5.size)
   have hb36 : Below w3.heap.size w3 W6 := H4.out.2.2.2.2.1.trans (hb46.mono H4.out.2.2.2.2.1.size)
   have HQ := Lib.hid (lEqual_any v (equal27_any _ v (Nat.le_refl _)) lA lc bA bc eA ec lA' lc' bA' bc' eA' ec' _ _ D D' W6 (H4.out.2.2.1.keep (kp_below hb36)) (hvr'.keep (kp_below hb6)) (fun A c s h => CdW.later (fun k hk => hb36.block k hk) hb36.size A c s h) (fun A c s h => CdW.later (fun k hk => hb6.block k hk) hb6.size A c s h))
   obtain ⟨x0, x1, x2, x3, x4, x5, x6, x7, _, _, _, _, _, _, _, _⟩ := row8 hx6
   obtain ⟨y0, y1, y2, y3, y4, y5, y6, y7, _, _, _, _, _, _, _, _⟩ := row8 hy6
   have HB6 := Lib.hid hB6
   clear hB5 hB6 hb5 hb6 hb46 hb36 hx6 hy6 hl3 hvr' hev' hx' n0 n1
   go_upto_region 9 with (fail)
   clear hW6
   go_wp2_with fail
   refine HQ.out.mono ?_
   rintro e w7 ⟨rfl, hb7⟩
   have HB7 := Lib.hid (HB6.out.trans (hb7.mono HB6.out.size))
   clear hb7 x0 x1 x2 x3 x4 x5 x6 x7 y0 y1 y2 y3 y4 y5 y6 y7
   go_wp2_with fail
   refine (awake40_any _).mono ?_
   rintro e w8 ⟨rfl, hb8⟩
   have HB8 := Lib.hid (HB7.out.trans (hb8.mono HB7.out.size))
   clear hb8
   go_wp2
   go_ret
   exact ⟨rfl, HB0.out.1.trans (HB8.out.mono (Nat.le_of_lt HB0.out.2))⟩
end Go.Proofs.YtnfndgmlnoeelaaGreatDoor
