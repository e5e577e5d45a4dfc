/- depend.chance -/
import Derived.Test.YtpnfbfnffkbilaaGreatDoorZln
import Derived.Test.YtpnfbfnffkbilaaGreatDoorZlz
import Derived.Test.YtpnfbfnffkbilaaGreatDoorZma
import Derived.Test.YtpnfbfnffkbilaaGreatDoorZmh
import Derived.Test.YtpnfbfnffkbilaaGreatDoorZmg
namespace Go.Proofs.YtpnfbfnffkbilaaGreatDoor
open Go.RowKit Go.Proofs Go.Shelf

def Fo.chn : Fo → Bool
  | .nil => false
  | .cons k _ _ _ _ _ _ s r => (k == 14 || s.chn) || r.chn

def ChnOK (s : Fo) : Prop := ∀ (k : Int) (n m : ByteArray) (i d : Int) (A : Option Addr) (c : Nat) (w : World), s.Sl w w.heap.size A c →
    Calls Tryz.prog 52 #[.agg #[.int .i64 k, .string n, .string m, .int .i64 i, .int .i64 d, .slice A s.len c]] w fun e w' => e = .returned (.bool (k == 14 || s.chn)) ∧ Below w.heap.size w w'


set_option maxHeartbeats 1000000 in
theorem indexFnC_any (s : Fo) (ih : s.All ChnOK) (A : Option Addr) (c : Nat) (w : World) (hs : s.Sl w w.heap.size A c) :
    Calls Tryz.prog 117 #[.slice A s.len c, .func (.func 52) #[] #[]] w (IdxP s.chn w) := by
  have HS := Lib.hid hs
  clear hs
  have IH := Lib.hid ih
  clear ih
  have hcap : s.len ≤ 9223372036854775807 := by have := HS.out.1; have := HS.out.2.1; unfold maxLen at this; omega
  obtain ⟨E, HE⟩ : ∃ E, Hid (s.chn = E) := ⟨_, rfl⟩
  rw [HE.out]
  go_enter Tryz.func117, Tryz.ntmps117
  go_wp2
  go_loopg [5, 8] s.len (fun g _ ct wr => ∃ (j : Nat) (r : Fo), g = r.len ∧ j + r.len = s.len ∧ ct = .int .i64 j ∧ E = r.chn ∧ r.All ChnOK ∧
    (r ≠ .nil → ∃ b o, A = some ⟨b, o, none⟩ ∧ b < w.heap.size ∧ r.At wr w.heap.size b (o + j * 6)) ∧ Below w.heap.size w wr)
  case atStart =>
    refine ⟨0, s, rfl, by omega, rfl, HE.out.symm, IH.out, ?_, Below.refl _ _⟩
    intro hne
    obtain ⟨b, o, e, hb, h⟩ := HS.out.2.2 hne
    exact ⟨b, o, e, hb, by rw [Nat.zero_mul, Nat.add_zero]; exact h⟩
  case round =>
    obtain ⟨j, r, HG, hjr, rfl, hE, HA, HAt, HB⟩ := hrel
    cases r with
    | nil =>
      have hjr2 : s.len ≤ j := by simp only [Fo.len] at hjr; omega
      have hjr1 : j ≤ s.len := by simp only [Fo.len] at hjr; omega
      have HR := Lib.hid hE
      clear hjr HG hE
      go_wp2
      go_ret
      exact ⟨-1, rfl, by rw [HR.out]; rfl, HB⟩
    | cons rk rn rm ri rd A' c' rs rr =>
      have hjr2 : j < s.len := by simp only [Fo.len] at hjr; omega
      obtain ⟨b, o, rfl, hb, h0, h1, h2, h3, h4, ⟨h5, hc', hm', hs'⟩, hr'⟩ := HAt (by simp)
      have HS' := Lib.hid (And.intro hs' (And.intro hr' (And.intro HB (And.intro HG hjr))))
      have hbz := HB.size
      have hok := (HA.1 rk rn rm ri rd A' c' wr ⟨hc', hm', fun hne => by
        obtain ⟨b', o', e, hb', h'⟩ := HS'.out.1 hne
        exact ⟨b', o', e, by omega, h'.keep (by omega) (fun _ _ => rfl) hb'⟩⟩)
      obtain ⟨q, Hq⟩ : ∃ q, Hid ((rk == 14 || rs.chn) = q) := ⟨_, rfl⟩
      rw [Hq.out] at hok
      have HE2 : Hid (E = (q || rr.chn)) := by show E = _; rw [hE, ← Hq.out]; rfl
      have HO := Lib.hid (And.intro hok HA.2)
      clear hs' hr' HB HG hjr hok HA HAt hE
      go_wp2_with fail
      refine HO.out.1.mono ?_
      rintro e w1 ⟨rfl, hb1⟩
      have HB1 := Lib.hid (And.intro (HS'.out.2.2.1.trans (hb1.mono (by omega))) hb1)
      clear hb1
      cases q
      · go_wp2
        go_roundg rr.len
        case measure => rw [HS'.out.2.2.2.1]; simp [Fo.len]
        case rel =>
          refine ⟨j + 1, rr, rfl, by have := HS'.out.2.2.2.2; simp only [Fo.len] at this; omega, by go_num, by rw [HE2.out]; rfl, HO.out.2, ?_, HB1.out.1⟩
          intro hne
          refine ⟨b, o, rfl, hb, ?_⟩
          rw [show o + (j + 1) * 6 = o + j * 6 + 6 by omega]
          exact HS'.out.2.1.keep (Nat.le_refl _) (fun p hp => HB1.out.2.cell (by omega)) hb
      · have HR := Lib.hid (show E = true by rw [HE2.out]; rfl)
        go_wp2
        go_ret
        exact ⟨j, rfl, by rw [HR.out]; simp, HB1.out.1⟩

set_option maxHeartbeats 1000000 in
theorem containsFnC_any (s : Fo) (ih : s.All ChnOK) (A : Option Addr) (c : Nat) (w : World) (hs : s.Sl w w.heap.size A c) :
    Calls Tryz.prog 86 #[.slice A s.len c, .func (.func 52) #[] #[]] w fun e w' => e = .returned (.bool s.chn) ∧ Below w.heap.size w w' := by
  have HC := Lib.hid (indexFnC_any s ih A c w hs)
  clear ih hs
  obtain ⟨E, HE⟩ : ∃ E, Hid (s.chn = E) := ⟨_, rfl⟩
  rw [HE.out] at HC ⊢
  go_enter Tryz.func86, Tryz.ntmps86
  go_wp2_with fail
  refine HC.out.mono ?_
  rintro e w1 ⟨j, rfl, hj, hb⟩
  go_wp2
  go_ret
  exact ⟨by simp, hb⟩

set_option maxHeartbeats 1000000 in
theorem dChance_step (s : Fo) (ih : s.All ChnOK) : ChnOK s := by
  intro k n m i d A c w hs
  obtain ⟨E, HE⟩ : ∃ E, Hid (s.chn = E) := ⟨_, rfl⟩
  rw [HE.out]
  obtain ⟨W0, hW0⟩ : ∃ W0, w.alloc (.cells #[.int .i64 k, .string n, .string m, .int .i64 i, .int .i64 d, .slice A s.len c] 43) = W0 := ⟨_, rfl⟩
  have hzw : w.heap.size < W0.heap.size := by subst hW0; simp
  have hB0 : Below w.heap.size w W0 := by subst hW0; exact (Below.refl _ _).alloc (Nat.le_refl _) _
  have h0 : W0.cell? ⟨w.heap.size, 0, none⟩ = some (.int .i64 k) := by subst hW0; go_simp
  have h5 : W0.cell? ⟨w.heap.size, 5, none⟩ = some (.slice A s.len c) := by subst hW0; go_simp
  have hs0 := hs.keep (w' := W0) (B' := W0.heap.size) (Nat.le_of_lt hzw) fun p hp => hB0.cell hp
  have hc := containsFnC_any s ih A c W0 hs0
  rw [HE.out] at hc
  have HC := Lib.hid (And.intro hc hB0)
  clear hc hB0 hs0 hs ih
  by_cases hk : k = 14
  · have hk' : (k == 14) = true := by simpa using hk
    rw [hk', Bool.true_or]
    clear hk
    go_enter Tryz.func52, Tryz.ntmps52
    go_wp2
    go_ret
    exact ⟨rfl, HC.out.2⟩
  · have hk' : (k == 14) = false := by simpa using hk
    rw [hk', Bool.false_or]
    clear hk
    go_enter Tryz.func52, Tryz.ntmps52
    go_wp2_with fail
    refine HC.out.1.mono ?_
    rintro e w1 ⟨rfl, hb1⟩
    have HB1 := Lib.hid (HC.out.2.trans (hb1.mono (by omega)))
    clear hb1
    go_wp2
    go_ret
    exact ⟨rfl, HB1.out⟩

theorem dChance_any (s : Fo) : ChnOK s := Fo.by_parts dChance_step s
end Go.Proofs.YtpnfbfnffkbilaaGreatDoor
/- depend.Flaky -/
namespace Go.Proofs.YtpnfbfnffkbilaaGreatDoor
open Go.RowKit Go.Proofs Go.Shelf

def chnD (d : Dc) : Bool := d.k == 14 || d.s.chn
def chnN (l : List Mo) (x : ByteArray × Int) : Bool := ((bodyOf l x).map chnD).getD false
def flkB (l : List Mo) (L : List (ByteArray × Int)) : Bool := L.any (chnN l)
/-- What the closure of Flaky captures. -/
def CapF (cb bm : Nat) (l : List Mo) (X : World) : Prop := X.heap[cb]? = some (.cells #[.map (some bm)] 60 (0, 0)) ∧ BodiesAt l X bm
theorem CapF.below {cb bm : Nat} {l : List Mo} {X Y : World} (h : CapF cb bm l X) (hb : Below X.heap.size X Y) : CapF cb bm l Y :=
  ⟨(hb.block cb (Array.getElem?_eq_some_iff.1 h.1).1).trans h.1, h.2.keep (hb.block bm h.2.lt)⟩
set_option maxRecDepth 100000 in
set_option maxHeartbeats 1000000 in
theorem dFlaky1_any (l : List Mo) (x : ByteArray × Int) (hx : NOk x) (d : Dc) (hd : bodyOf l x = some d) (cb bm : Nat) (X : World) (h : CapF cb bm l X) (hs : d.s.Sl X X.heap.size d.A d.c) :
    Calls Tryz.prog 51 #[.agg #[.string x.1, .int .i64 x.2], .pointer (some ⟨cb, 0, none⟩)] X fun e Y => e = .returned (.bool (chnD d)) ∧ Below X.heap.size X Y := by
  obtain ⟨W0, hW0⟩ : ∃ W0, X.alloc (.cells #[.string x.1, .int .i64 x.2] 28) = W0 := ⟨_, rfl⟩
  have hb0 : Below X.heap.size X W0 := by subst hW0; exact (Below.refl _ _).alloc (Nat.le_refl _) _
  have hz0 : W0.heap.size = X.heap.size + 1 := by subst hW0; simp
  have hlt := (Array.getElem?_eq_some_iff.1 h.1).1
  have c0 : W0.cell? ⟨cb, 0, none⟩ = some (.map (some bm)) := (hb0.cell (p := ⟨cb, 0, none⟩) hlt).trans (cell_of_one h.1)
  have n0 : W0.cell? ⟨X.heap.size, 0, none⟩ = some (.string x.1) := by subst hW0; go_simp
  have n1 : W0.cell? ⟨X.heap.size, 1, none⟩ = some (.int .i64 x.2) := by subst hW0; go_simp
  have hlk := (h.2.keep (hb0.block bm h.2.lt)).look false Tryz.underlying60 (zeroE_run W0) (a := x) hx
  simp only [Bool.false_eq_true, if_false] at hlk
  rw [hd] at hlk
  change Sem.run Tryz.prog (Instr.lookup 60 (.map (some bm)) (.agg #[.string x.1, .int .i64 x.2]) false) W0 = .ok (.agg #[.int .i64 d.k, .string d.n, .string d.m, .int .i64 d.i, .int .i64 d.d, .slice d.A d.s.len d.c]) W0 at hlk
  have HC := Lib.hid (dChance_any d.s d.k d.n d.m d.i d.d d.A d.c W0 (hs.keep (by omega) (fun p hp => hb0.cell hp)))
  obtain ⟨q, Hq⟩ : ∃ q, Hid (chnD d = q) := ⟨_, Lib.hid rfl⟩
  have Hq2 : Hid ((d.k == 14 || d.s.chn) = q) := Hq.out
  rw [Hq2.out] at HC
  rw [Hq.out]
  have HB := Lib.hid hb0
  clear h hb0 hs hd hz0
  go_enter Tryz.func51, Tryz.ntmps51
  go_wp2_with fail
  refine HC.out.mono ?_
  rintro e w1 ⟨rfl, hb1⟩
  have HB1 := Lib.hid (HB.out.trans (hb1.mono HB.out.size))
  clear hb1 hlk c0 n0 n1
  go_wp2
  go_ret
  exact ⟨rfl, HB1.out⟩
set_option maxRecDepth 100000 in
set_option maxHeartbeats 2000000 in
theorem flkIdx_any (l : List Mo) (L : List (ByteArray × Int)) (g cap base cb bm : Nat) (w : World) (hs : w.ownsRow base 28 2 (.slice (some ⟨g, 0, none⟩) L.length cap) L.length (namesC L)) (hl : L.length ≤ 1000000) (hok : ∀ x ∈ L, NOk x ∧ ∃ d, bodyOf l x = some d ∧ d.s.Sl w w.heap.size d.A d.c) (hc : CapF cb bm l w) :
    Calls Tryz.prog 83 #[.slice (some ⟨g, 0, none⟩) L.length cap, .func (.func 51) #[] #[.pointer (some ⟨cb, 0, none⟩)]] w (IdxP (flkB l L) w) := by
  have hcap : L.length ≤ cap ∧ cap ≤ 9223372036854775807 := by
    rcases hs.2 with ⟨h, _⟩ | ⟨g', cap', cur, h, _, _, hle, hmx, _⟩
    · cases h
    · cases h; unfold maxLen at hmx; omega
  obtain ⟨N, HN⟩ : ∃ Q, Hid (L.length = Q) := ⟨_, Lib.hid rfl⟩
  have HO := Lib.hid (And.intro hs (And.intro hok hc))
  obtain ⟨E, HE⟩ : ∃ E, Hid (flkB l L = E) := ⟨_, Lib.hid rfl⟩
  rw [HN.out] at hcap hl ⊢
  rw [HE.out]
  have hgl := (hs.lt g rfl).2
  clear hs hok hc
  go_enter Tryz.func83, Tryz.ntmps83
  go_wp2
  go_loopg [5, 8] N (fun gg _ ct wr => ∃ j : Nat, gg = N - j ∧ j ≤ N ∧ ct = .int .i64 j ∧ flkB l (L.drop j) = E ∧ Below w.heap.size w wr)
  case atStart => exact ⟨0, rfl, by omega, rfl, HE.out, Below.refl _ _⟩
  case round =>
    obtain ⟨j, HG, hj, rfl, hE, hB⟩ := hrel
    by_cases hlt : j < N
    · have hlt' : j < L.length := by rw [HN.out]; exact hlt
      obtain ⟨x, hx⟩ : ∃ x, L[j]? = some x := ⟨_, List.getElem?_eq_getElem hlt'⟩
      have hdr : L.drop j = x :: L.drop (j + 1) := by
        obtain ⟨_, rfl⟩ := List.getElem?_eq_some_iff.1 hx
        exact List.drop_eq_getElem_cons _
      obtain ⟨n0, n1⟩ := namesC_at x L j hx
      have c0 : wr.cell? ⟨g, j * 2, none⟩ = some (.string x.1) := (hB.cell (p := ⟨g, j * 2, none⟩) hgl).trans ((HO.out.1.cellAt _ (by rw [HN.out]; omega)).trans n0)
      have c1 : wr.cell? ⟨g, j * 2 + 1, none⟩ = some (.int .i64 x.2) := (hB.cell (p := ⟨g, j * 2 + 1, none⟩) hgl).trans ((HO.out.1.cellAt _ (by rw [HN.out]; omega)).trans n1)
      obtain ⟨hxok, d, hd, hsl⟩ := HO.out.2.1 x (List.mem_of_getElem? hx)
      have hC := dFlaky1_any l x hxok d hd cb bm wr (HO.out.2.2.below hB) (hsl.keep hB.size (fun p hp => hB.cell hp))
      obtain ⟨q, Hq⟩ : ∃ q, Hid (chnD d = q) := ⟨_, Lib.hid rfl⟩
      rw [Hq.out] at hC
      have HE2 : Hid (E = (q || flkB l (L.drop (j + 1)))) := by
        show E = _
        rw [← hE, hdr, ← Hq.out]
        unfold flkB
        rw [List.any_cons, chnN, hd]
        rfl
      have HC := Lib.hid hC
      have i1 : (0 : Int) ≤ (j : Int) := by omega
      have i2 : (j : Int) < (N : Int) := by omega
      have HT := Lib.hid (And.intro HG hB)
      have hz := hB.size
      clear HG hE hB hx hdr n0 n1 hd hsl hC hxok
      go_wp2_with fail
      refine HC.out.mono ?_
      rintro e w1 ⟨rfl, hb1⟩
      have HB1 := Lib.hid (HT.out.2.trans (hb1.mono hz))
      clear hb1 c0 c1
      cases q
      · go_wp2
        go_roundg (N - (j + 1))
        case measure => rw [HT.out.1]; omega
        case rel => exact ⟨j + 1, rfl, by omega, by go_num, by rw [HE2.out]; rfl, HB1.out⟩
      · have HR := Lib.hid (show E = true by rw [HE2.out]; rfl)
        go_wp2
        go_ret
        exact ⟨j, rfl, by rw [HR.out]; simp, HB1.out⟩
    · have hje : j = N := by omega
      have HR := Lib.hid (show E = false by rw [← hE, List.drop_of_length_le (by rw [HN.out]; omega)]; rfl)
      have HB1 := Lib.hid hB
      clear hE hB
      go_wp2
      go_ret
      exact ⟨-1, rfl, by rw [HR.out]; rfl, HB1.out⟩
set_option maxRecDepth 100000 in
set_option maxHeartbeats 1000000 in
theorem flkCon_any (l : List Mo) (L : List (ByteArray × Int)) (g cap base cb bm : Nat) (w : World) (hs : w.ownsRow base 28 2 (.slice (some ⟨g, 0, none⟩) L.length cap) L.length (namesC L)) (hl : L.length ≤ 1000000) (hok : ∀ x ∈ L, NOk x ∧ ∃ d, bodyOf l x = some d ∧ d.s.Sl w w.heap.size d.A d.c) (hc : CapF cb bm l w) :
    Calls Tryz.prog 50 #[.slice (some ⟨g, 0, none⟩) L.length cap, .func (.func 51) #[] #[.pointer (some ⟨cb, 0, none⟩)]] w fun e w' => e = .returned (.bool (flkB l L)) ∧ Below w.heap.size w w' := by
  have HC := Lib.hid (flkIdx_any l L g cap base cb bm w hs hl hok hc)
  clear hs hok hc hl
  obtain ⟨E, HE⟩ : ∃ E, Hid (flkB l L = E) := ⟨_, Lib.hid rfl⟩
  rw [HE.out] at HC ⊢
  obtain ⟨N, HN⟩ : ∃ Q, Hid (L.length = Q) := ⟨_, Lib.hid rfl⟩
  rw [HN.out] at HC ⊢
  go_enter Tryz.func50, Tryz.ntmps50
  go_wp2_with fail
  refine HC.out.mono ?_
  rintro e w1 ⟨j, rfl, hj, hb⟩
  go_wp2
  go_ret
  exact ⟨by simp, hb⟩
def FlkP (l : List Mo) (n : ByteArray × Int) (w : World) (e : Ending) (w' : World) : Prop :=
  Below w.heap.size w w' ∧ ((loadE l n ≠ 0 ∧ e = .returned (.tuple #[.bool false, .int .i64 (loadE l n)])) ∨
    (loadE l n = 0 ∧ Clo (grf l) n none ∧ e = .returned (.tuple #[.bool false, .int .i64 21])) ∨
    (loadE l n = 0 ∧ ∃ L, Clo (grf l) n (some L) ∧ e = .returned (.tuple #[.bool (flkB l L), .int .i64 0])))
set_option maxRecDepth 100000 in
set_option maxHeartbeats 4000000 in
theorem dFlaky_any (l : List Mo) (n : ByteArray × Int) (A : Option Addr) (c : Nat) (w : World) (hl : SlM w w.heap.size A c l) (hn : NOk n) (hw : MoW l) (ht : totD l ≤ 1000000) (hll : l.length ≤ 1000) (hU : chkL l = 0 → ∃ U, UOk l n U) :
    Calls Tryz.prog 21 #[.slice A l.length c, .agg #[.string n.1, .int .i64 n.2]] w (FlkP l n w) := by
  obtain ⟨W0, hW0⟩ : ∃ W0, w.alloc (.cells #[.string n.1, .int .i64 n.2] 28) = W0 := ⟨_, rfl⟩
  have hz0 : W0.heap.size = w.heap.size + 1 := by subst hW0; simp
  have hB0 : Below w.heap.size w W0 := by subst hW0; exact (Below.refl _ _).alloc (Nat.le_refl _) _
  have n0 : W0.cell? ⟨w.heap.size, 0, none⟩ = some (.string n.1) := by subst hW0; go_simp
  have n1 : W0.cell? ⟨w.heap.size, 1, none⟩ = some (.int .i64 n.2) := by subst hW0; go_simp
  have HC := Lib.hid (dClosure_any l n A c W0 ((hl.below hB0).keep (B' := W0.heap.size) (by omega) (fun _ _ => rfl)) hn hw ht hll hU)
  obtain ⟨N, HN⟩ : ∃ Q, Hid (l.length = Q) := ⟨_, Lib.hid rfl⟩
  rw [HN.out] at HC ⊢
  have HB := Lib.hid (And.intro hB0 (show w.heap.size < W0.heap.size by omega))
  have HL := Lib.hid (And.intro hl hn)
  clear hl hn hw ht hll hU hB0 hz0
  go_enter Tryz.func21, Tryz.ntmps21
  go_wp2_with fail
  refine HC.out.mono ?_
  rintro e w1 ⟨hb1, ⟨hE, rfl⟩ | ⟨hE, hcl, rfl⟩ | ⟨hE, L, bm, v, hcl, rfl, hbm, hbo, hown, hlen⟩⟩
  · have hE2 : (loadE l n != 0) = true := by simpa using hE
    have HX := Lib.hid (And.intro hb1 hE)
    obtain ⟨E, HE⟩ : ∃ Q, Hid (loadE l n = Q) := ⟨_, Lib.hid rfl⟩
    rw [HE.out] at hE2 ⊢
    clear hb1 hE
    go_wp2
    go_ret2
    exact ⟨(HB.out.1.trans (HX.out.1.mono (Nat.le_of_lt HB.out.2))).alloc (Nat.le_trans (Nat.le_of_lt HB.out.2) HX.out.1.size) _, .inl ⟨HX.out.2, by rw [HE.out]; rfl⟩⟩
  · have HX := Lib.hid (And.intro hb1 (And.intro hE hcl))
    clear hb1 hE hcl
    go_wp2
    go_ret2
    exact ⟨(HB.out.1.trans (HX.out.1.mono (Nat.le_of_lt HB.out.2))).alloc (Nat.le_trans (Nat.le_of_lt HB.out.2) HX.out.1.size) _, .inr (.inl ⟨HX.out.2.1, HX.out.2.2, rfl⟩)⟩
  · obtain ⟨gv, vc, rfl⟩ : ∃ gv vc, v = .slice (some ⟨gv, 0, none⟩) L.length vc := by
      rcases hown.2 with ⟨h1, h2⟩ | ⟨g, cap, cur, h1, _⟩
      · have hnl : n ∈ L := (hcl.2.1 n).2 .refl
        rw [List.length_eq_zero_iff.1 h2] at hnl
        simp at hnl
      · exact ⟨g, cap, h1⟩
    have hBw1 : Below w.heap.size w w1 := HB.out.1.trans (hb1.mono (Nat.le_of_lt HB.out.2))
    have hchk := (loadE_zero hE).1
    obtain ⟨W2, hW2⟩ : ∃ W2, w1.alloc (.cells #[.map (some bm)] 60) = W2 := ⟨_, rfl⟩
    have hb2 : Below w1.heap.size w1 W2 := by rw [← hW2]; exact (Below.refl _ _).alloc (Nat.le_refl _) _
    have hcap : CapF w1.heap.size bm l W2 := ⟨by rw [← hW2]; exact heap_alloc_new w1 _, hbo.keep (hb2.block bm hbo.lt)⟩
    have hB2 : Below w.heap.size w W2 := hBw1.trans (hb2.mono hBw1.size)
    have HCo := Lib.hid (flkCon_any l L gv vc W0.heap.size w1.heap.size bm W2 (own_of_blocks' hown fun k hk => hb2.block k hk) (by omega) (fun x hx => by
      have hr := (hcl.2.1 x).1 hx
      refine ⟨reach_ok hchk HL.out.2 hr, ?_⟩
      have := hcl.2.2 x hr
      unfold grf at this
      cases hb : bodyOf l x with
      | none => rw [hb] at this; exact absurd rfl this
      | some d => exact ⟨d, rfl, (HL.out.1.body hb).keep hB2.size (fun p hp => hB2.cell hp)⟩) hcap)
    have HX := Lib.hid (And.intro hE (And.intro hcl hB2))
    obtain ⟨M, HM⟩ : ∃ Q, Hid (L.length = Q) := ⟨_, Lib.hid rfl⟩
    obtain ⟨q, Hq⟩ : ∃ Q, Hid (flkB l L = Q) := ⟨_, Lib.hid rfl⟩
    rw [HM.out, Hq.out] at HCo
    rw [HM.out]
    clear hb1 hE hcl hbm hbo hown hlen hBw1 hchk hb2 hcap hB2
    go_wp2_with fail
    refine HCo.out.mono ?_
    rintro e w3 ⟨rfl, hb3⟩
    have HB3 := Lib.hid (HX.out.2.2.trans (hb3.mono HX.out.2.2.size))
    clear hb3
    go_wp2
    go_ret2
    exact ⟨HB3.out, .inr (.inr ⟨HX.out.1, L, HX.out.2.1, by rw [Hq.out]; rfl⟩)⟩
end Go.Proofs.YtpnfbfnffkbilaaGreatDoor
/- ref40.Uses, Flaky -/
namespace Go.Proofs.YtpnfbfnffkbilaaGreatDoor
open Go.RowKit Go.Proofs Go.Shelf

def UsesQ (l : List Mo) (n : ByteArray × Int) (w : World) (e : Ending) (w' : World) : Prop :=
  Below w.heap.size w w' ∧ ((loadE l n ≠ 0 ∧ e = .returned (.tuple #[.slice none 0 0, .int .i64 (loadE l n)])) ∨
    (loadE l n = 0 ∧ ∃ us A c, grf l n = some us ∧ e = .returned (.tuple #[.slice A us.length c, .int .i64 0]) ∧ OwnN w' A c us))
set_option maxRecDepth 100000 in
set_option maxHeartbeats 4000000 in
theorem uses40F_any (l : List Mo) (n : ByteArray × Int) (A : Option Addr) (c : Nat) (w : World) (hl : SlM w w.heap.size A c l) (hms : ∀ m ∈ l, ModS m.label m.uses m.ds) :
    Calls Tryz.prog 19 #[.slice A l.length c, .agg #[.string n.1, .int .i64 n.2]] w (UsesQ l n w) := by
  obtain ⟨W0, hW0⟩ : ∃ W0, w.alloc (.cells #[.string n.1, .int .i64 n.2] 28) = W0 := ⟨_, rfl⟩
  have hb0 : Below w.heap.size w W0 := by subst hW0; exact (Below.refl _ _).alloc (Nat.le_refl _) _
  have hz0 : w.heap.size < W0.heap.size := by subst hW0; simp
  have n0 : W0.cell? ⟨w.heap.size, 0, none⟩ = some (.string n.1) := by subst hW0; go_simp
  have n1 : W0.cell? ⟨w.heap.size, 1, none⟩ = some (.int .i64 n.2) := by subst hW0; go_simp
  have HL := Lib.hid (show ∀ X : World, Below w.heap.size w X → SlM X X.heap.size A c l from fun X hX => (hl.below hX).keep hX.size (fun _ _ => rfl))
  obtain ⟨N, HN⟩ : ∃ Q, Hid (l.length = Q) := ⟨_, Lib.hid rfl⟩
  have hck := check40_any l n A c W0 (HL.out W0 hb0) hms
  obtain ⟨E, HE⟩ : ∃ E, Hid (loadE l n = E) := ⟨_, Lib.hid rfl⟩
  rw [HN.out, HE.out] at hck
  have HCK := Lib.hid hck
  have HB := Lib.hid (And.intro hb0 (And.intro hz0 hl))
  rw [HN.out]
  clear hl hck hb0 hz0 hms
  go_enter Tryz.func19, Tryz.ntmps19
  go_wp2_with fail
  refine HCK.out.mono ?_
  rintro e w1 ⟨rfl, hb1⟩
  have k0 := (hb1.cell (p := ⟨w.heap.size, 0, none⟩) HB.out.2.1).trans n0
  have k1 := (hb1.cell (p := ⟨w.heap.size, 1, none⟩) HB.out.2.1).trans n1
  have HB1 := Lib.hid (And.intro (HB.out.1.trans (hb1.mono (Nat.le_of_lt HB.out.2.1))) (Nat.lt_of_lt_of_le HB.out.2.1 hb1.size))
  clear hb1 n0 n1 hW0 HCK
  by_cases hE0 : E = 0
  rotate_left
  · have he : (E != 0) = true := by simpa using hE0
    have HR := Lib.hid hE0
    clear hE0
    go_wp2
    go_ret2
    exact ⟨HB1.out.1, .inl ⟨by rw [HE.out]; exact HR.out, by rw [HE.out]; rfl⟩⟩
  subst hE0
  have hz := loadE_zero HE.out
  obtain ⟨dd, hd⟩ := Option.ne_none_iff_exists'.1 hz.2
  have hF := find40_any l n A c w1 (HL.out w1 HB1.out.1)
  unfold FindP at hF
  rw [HN.out, hd] at hF
  simp only [Option.getD_some, Option.isSome_some, Dc.cells] at hF
  have HF := Lib.hid hF
  obtain ⟨us, Hus⟩ : ∃ us, Hid (usesOf n.1 dd.body = us) := ⟨_, Lib.hid rfl⟩
  have HD := Lib.hid (And.intro (show grf l n = some us by unfold grf; rw [hd, ← Hus.out]; rfl) (And.intro (HB.out.2.2.body hd) (body_cnt hz.1 n dd hd)))
  clear hz hd hF
  go_wp2_with fail
  refine HF.out.mono ?_
  rintro e w2 ⟨rfl, hb2⟩
  have q0 := (hb2.cell (p := ⟨w.heap.size, 0, none⟩) HB1.out.2).trans k0
  obtain ⟨W3, hW3⟩ : ∃ W3, w2.alloc (.cells #[.int .i64 dd.id, .int .i64 dd.kind, .bool dd.pub, .slice dd.nA dd.names.length dd.nc, .bool dd.doubt, .int .i64 dd.k, .string dd.n, .string dd.m, .int .i64 dd.i, .int .i64 dd.d, .slice dd.A dd.s.len dd.c] 51) = W3 := ⟨_, rfl⟩
  have hb3 : Below w1.heap.size w1 W3 := by rw [← hW3]; exact hb2.alloc hb2.size _
  have hB3 : Below w.heap.size w W3 := HB1.out.1.trans (hb3.mono (Nat.le_of_lt HB1.out.2))
  have hz2 : w.heap.size < w2.heap.size := Nat.lt_of_lt_of_le HB1.out.2 hb2.size
  have r0 : W3.cell? ⟨w.heap.size, 0, none⟩ = some (.string n.1) := by rw [← hW3]; exact (World.cell?_alloc_lt _ _ ⟨w.heap.size, 0, none⟩ hz2).trans q0
  have hx3 : W3.heap[w2.heap.size]? = some (.cells #[.int .i64 dd.id, .int .i64 dd.kind, .bool dd.pub, .slice dd.nA dd.names.length dd.nc, .bool dd.doubt, .int .i64 dd.k, .string dd.n, .string dd.m, .int .i64 dd.i, .int .i64 dd.d, .slice dd.A dd.s.len dd.c] 51 (0, 0)) := by rw [← hW3]; exact heap_alloc_new w2 _
  have e5 : W3.cell? ⟨w2.heap.size, 5, none⟩ = some (.int .i64 dd.k) := cell_of_row W3 _ 5 _ _ (0, 0) hx3
  have e6 : W3.cell? ⟨w2.heap.size, 6, none⟩ = some (.string dd.n) := cell_of_row W3 _ 6 _ _ (0, 0) hx3
  have e7 : W3.cell? ⟨w2.heap.size, 7, none⟩ = some (.string dd.m) := cell_of_row W3 _ 7 _ _ (0, 0) hx3
  have e8 : W3.cell? ⟨w2.heap.size, 8, none⟩ = some (.int .i64 dd.i) := cell_of_row W3 _ 8 _ _ (0, 0) hx3
  have e9 : W3.cell? ⟨w2.heap.size, 9, none⟩ = some (.int .i64 dd.d) := cell_of_row W3 _ 9 _ _ (0, 0) hx3
  have e10 : W3.cell? ⟨w2.heap.size, 10, none⟩ = some (.slice dd.A dd.s.len dd.c) := cell_of_row W3 _ 10 _ _ (0, 0) hx3
  have hU := uses40_any n.1 dd.k dd.n dd.m dd.i dd.d dd.A dd.c dd.s W3 (HD.out.2.1.keep hB3.size (fun p hp => hB3.cell hp)) (by have := HD.out.2.2; omega)
  have hub : usesOf n.1 (Fo.cons dd.k dd.n dd.m dd.i dd.d dd.A dd.c dd.s .nil) = us := Hus.out
  rw [hub] at hU
  have HU := Lib.hid hU
  have HB3 := Lib.hid hB3
  clear hb2 hb3 hB3 hU hub q0 k0 k1 hx3
  go_wp2_with fail
  refine HU.out.mono ?_
  rintro e w4 ⟨A4, c4, rfl, hO4, hb4⟩
  have H4 := Lib.hid (And.intro hO4 (HB3.out.trans (hb4.mono HB3.out.size)))
  obtain ⟨UN, HUN⟩ : ∃ Q, Hid (us.length = Q) := ⟨_, Lib.hid rfl⟩
  rw [HUN.out]
  clear hO4 hb4 r0 e5 e6 e7 e8 e9 e10 hW3
  go_wp2
  go_ret2
  exact ⟨H4.out.2, .inr ⟨HE.out, us, A4, c4, HD.out.1, by rw [HUN.out]; rfl, H4.out.1⟩⟩
theorem chn_has : ∀ s : Fo, s.chn = s.has (kdP 14)
  | .nil => rfl
  | .cons k n m i d A c s r => by
    simp only [Fo.chn, Fo.has, chn_has s, chn_has r, kdP]
set_option maxRecDepth 100000 in
set_option maxHeartbeats 8000000 in
theorem flaky40_any (l : List Mo) (n : ByteArray × Int) (A : Option Addr) (c : Nat) (w : World) (hl : SlM w w.heap.size A c l) (hms : ∀ m ∈ l, ModS m.label m.uses m.ds) (ht : totD l ≤ 1000) :
    Calls Tryz.prog 22 #[.slice A l.length c, .agg #[.string n.1, .int .i64 n.2]] w (FlkP l n w) := by
  obtain ⟨W0, hW0⟩ : ∃ W0, w.alloc (.cells #[.string n.1, .int .i64 n.2] 28) = W0 := ⟨_, rfl⟩
  have hb0 : Below w.heap.size w W0 := by subst hW0; exact (Below.refl _ _).alloc (Nat.le_refl _) _
  have n0 : W0.cell? ⟨w.heap.size, 0, none⟩ = some (.string n.1) := by subst hW0; go_simp
  have n1 : W0.cell? ⟨w.heap.size, 1, none⟩ = some (.int .i64 n.2) := by subst hW0; go_simp
  have HL := Lib.hid (show ∀ X : World, Below w.heap.size w X → SlM X X.heap.size A c l from fun X hX => (hl.below hX).keep hX.size (fun _ _ => rfl))
  obtain ⟨N, HN⟩ : ∃ Q, Hid (l.length = Q) := ⟨_, Lib.hid rfl⟩
  have hq := closure40_any l n A c W0 (HL.out W0 hb0) hms ht
  rw [HN.out] at hq ⊢
  have HQ := Lib.hid hq
  have HB := Lib.hid (And.intro hb0 hl)
  clear hl hb0 hms hq ht
  go_enter Tryz.func22, Tryz.ntmps22
  go_wp2_with fail
  refine HQ.out.mono ?_
  rintro e w1 ⟨hb1, ⟨hE, rfl⟩ | ⟨hE, hcl, rfl⟩ | ⟨hE, L, vA, vc, hcl, rfl, hO⟩⟩
  · have hE2 : (loadE l n != 0) = true := by simpa using hE
    have HX := Lib.hid (And.intro hb1 hE)
    obtain ⟨E, HE⟩ : ∃ Q, Hid (loadE l n = Q) := ⟨_, Lib.hid rfl⟩
    rw [HE.out] at hE2 ⊢
    clear hb1 hE n0 n1 hW0
    go_wp2
    go_ret2
    exact ⟨HB.out.1.trans (HX.out.1.mono HB.out.1.size), .inl ⟨HX.out.2, by rw [HE.out]; rfl⟩⟩
  · have HX := Lib.hid (And.intro hb1 (And.intro hE hcl))
    clear hb1 hE hcl n0 n1 hW0
    go_wp2
    go_ret2
    exact ⟨HB.out.1.trans (HX.out.1.mono HB.out.1.size), .inr (.inl ⟨HX.out.2.1, HX.out.2.2, rfl⟩)⟩
  · have HX := Lib.hid (And.intro hE (And.intro hcl (And.intro hO (HB.out.1.trans (hb1.mono HB.out.1.size)))))
    obtain ⟨M, HM⟩ : ∃ Q, Hid (L.length = Q) := ⟨_, Lib.hid rfl⟩
    obtain ⟨F, HFk⟩ : ∃ F, Hid (flkB l L = F) := ⟨_, Lib.hid rfl⟩
    rw [HM.out]
    clear hb1 hE hcl hO n0 n1 hW0
    go_wp2
    go_loopg [8, 9, 10] M (fun g ct _ _ wr => ∃ j : Nat, g = M - j ∧ j ≤ M ∧ ct = .int .i64 j ∧ flkB l (L.drop j) = F ∧ Below w1.heap.size w1 wr)
    case atStart => exact ⟨0, rfl, by omega, rfl, HFk.out, Below.refl _ _⟩
    case round =>
      obtain ⟨j, HG, hj, rfl, hF, hB⟩ := hrel
      have hz := hB.size
      by_cases hlt : j < M
      · have hlt' : j < L.length := by rw [HM.out]; exact hlt
        obtain ⟨x, hx⟩ : ∃ x, L[j]? = some x := ⟨_, List.getElem?_eq_getElem hlt'⟩
        have hdr : L.drop j = x :: L.drop (j + 1) := by
          obtain ⟨_, rfl⟩ := List.getElem?_eq_some_iff.1 hx
          exact List.drop_eq_getElem_cons _
        have hO := HX.out.2.2.1.below hB (Nat.le_refl _)
        rcases hO.cells with ⟨h0, _⟩ | ⟨g, rfl, hgl, hc1, hc2, hcell⟩
        · rw [h0] at hlt'; simp at hlt'
        obtain ⟨x0, x1⟩ := namesC_at x L j hx
        have c0 := hcell _ _ x0
        have c1 := hcell _ _ x1
        rw [HM.out] at hc1
        have hreach : Reach (grf l) n x := (HX.out.2.1.2.1 x).1 (List.mem_of_getElem? hx)
        obtain ⟨dd, hd⟩ : ∃ d, bodyOf l x = some d := by
          have := HX.out.2.1.2.2 x hreach
          unfold grf at this
          cases hb : bodyOf l x with
          | none => rw [hb] at this; exact absurd rfl this
          | some y => exact ⟨y, rfl⟩
        have hBw : Below w.heap.size w wr := HX.out.2.2.2.trans (hB.mono HX.out.2.2.2.size)
        have hFi := find40_any l x A c wr (HL.out wr hBw)
        unfold FindP at hFi
        rw [HN.out, hd] at hFi
        simp only [Option.getD_some, Option.isSome_some, Dc.cells] at hFi
        have HFi := Lib.hid hFi
        obtain ⟨q, Hq⟩ : ∃ q, Hid (chnD dd = q) := ⟨_, Lib.hid rfl⟩
        have HF2 : Hid (F = (q || flkB l (L.drop (j + 1)))) := by
          show F = _
          rw [← hF, hdr, ← Hq.out]
          unfold flkB
          rw [List.any_cons, chnN, hd]
          rfl
        have i1 : (0 : Int) ≤ (j : Int) := by omega
        have i2 : (j : Int) < (M : Int) := by omega
        have HT := Lib.hid (And.intro HG (And.intro hB (And.intro hBw (HB.out.2.body hd))))
        clear HG hF hB hO hcell x0 x1 hx hdr hreach hd hBw hFi
        go_wp2_with fail
        refine HFi.out.mono ?_
        rintro e w3 ⟨rfl, hb3⟩
        obtain ⟨W4, hW4⟩ : ∃ W4, w3.alloc (.cells #[.int .i64 dd.id, .int .i64 dd.kind, .bool dd.pub, .slice dd.nA dd.names.length dd.nc, .bool dd.doubt, .int .i64 dd.k, .string dd.n, .string dd.m, .int .i64 dd.i, .int .i64 dd.d, .slice dd.A dd.s.len dd.c] 51) = W4 := ⟨_, rfl⟩
        have hb4 : Below wr.heap.size wr W4 := by rw [← hW4]; exact hb3.alloc hb3.size _
        have hx4 : W4.heap[w3.heap.size]? = some (.cells #[.int .i64 dd.id, .int .i64 dd.kind, .bool dd.pub, .slice dd.nA dd.names.length dd.nc, .bool dd.doubt, .int .i64 dd.k, .string dd.n, .string dd.m, .int .i64 dd.i, .int .i64 dd.d, .slice dd.A dd.s.len dd.c] 51 (0, 0)) := by rw [← hW4]; exact heap_alloc_new w3 _
        have e5 : W4.cell? ⟨w3.heap.size, 5, none⟩ = some (.int .i64 dd.k) := cell_of_row W4 _ 5 _ _ (0, 0) hx4
        have e6 : W4.cell? ⟨w3.heap.size, 6, none⟩ = some (.string dd.n) := cell_of_row W4 _ 6 _ _ (0, 0) hx4
        have e7 : W4.cell? ⟨w3.heap.size, 7, none⟩ = some (.string dd.m) := cell_of_row W4 _ 7 _ _ (0, 0) hx4
        have e8 : W4.cell? ⟨w3.heap.size, 8, none⟩ = some (.int .i64 dd.i) := cell_of_row W4 _ 8 _ _ (0, 0) hx4
        have e9 : W4.cell? ⟨w3.heap.size, 9, none⟩ = some (.int .i64 dd.d) := cell_of_row W4 _ 9 _ _ (0, 0) hx4
        have e10 : W4.cell? ⟨w3.heap.size, 10, none⟩ = some (.slice dd.A dd.s.len dd.c) := cell_of_row W4 _ 10 _ _ (0, 0) hx4
        have hw4 : Below w.heap.size w W4 := HT.out.2.2.1.trans (hb4.mono HT.out.2.2.1.size)
        have hK := kd_any 14 dd.s dd.k dd.n dd.m dd.i dd.d dd.A dd.c W4 (HT.out.2.2.2.keep hw4.size (fun p hp => hw4.cell hp))
        rw [show (kdP 14 dd.k dd.n || dd.s.has (kdP 14)) = q by rw [← Hq.out, chnD, chn_has]; rfl] at hK
        have HK := Lib.hid hK
        have HB4 := Lib.hid hb4
        clear hb3 hb4 hx4 hw4 hK c0 c1
        go_wp2_with fail
        refine HK.out.mono ?_
        rintro e w5 ⟨rfl, hb5⟩
        have HB5 := Lib.hid (HT.out.2.1.trans ((HB4.out.trans (hb5.mono HB4.out.size)).mono hz))
        clear hb5 e5 e6 e7 e8 e9 e10 hW4
        cases q
        · have HF3 := Lib.hid (show flkB l (L.drop (j + 1)) = F by rw [HF2.out]; rfl)
          go_wp2
          go_roundg (M - (j + 1))
          case measure => rw [HT.out.1]; omega
          case rel => exact ⟨j + 1, rfl, by omega, by go_num, HF3.out, HB5.out⟩
        · have HR := Lib.hid (show F = true by rw [HF2.out]; rfl)
          go_wp2
          go_ret2
          exact ⟨HX.out.2.2.2.trans (HB5.out.mono HX.out.2.2.2.size), .inr (.inr ⟨HX.out.1, L, HX.out.2.1, by rw [HFk.out, HR.out]; rfl⟩)⟩
      · have hje : j = M := by omega
        have HR := Lib.hid (show F = false by rw [← hF, List.drop_of_length_le (by rw [HM.out]; omega)]; rfl)
        have HB5 := Lib.hid hB
        clear hF hB HG
        go_wp2
        go_ret2
        exact ⟨HX.out.2.2.2.trans (HB5.out.mono HX.out.2.2.2.size), .inr (.inr ⟨HX.out.1, L, HX.out.2.1, by rw [HFk.out, HR.out]; rfl⟩)⟩
end Go.Proofs.YtpnfbfnffkbilaaGreatDoor
/- law40.DependClosure answers true -/
namespace Go.Proofs.YtpnfbfnffkbilaaGreatDoor
open Go.RowKit Go.Proofs Go.Shelf

def UV (l : List Mo) (n : ByteArray × Int) (us : List (ByteArray × Int)) (er : Int) : Prop := (loadE l n ≠ 0 ∧ us = [] ∧ er = loadE l n) ∨ (loadE l n = 0 ∧ grf l n = some us ∧ er = 0)
theorem UV.unique {l : List Mo} {n : ByteArray × Int} {us us' : List (ByteArray × Int)} {er er' : Int} (h : UV l n us er) (k : UV l n us' er') : us = us' ∧ er = er' := by
  rcases h with ⟨h1, rfl, rfl⟩ | ⟨h1, h2, rfl⟩ <;> rcases k with ⟨k1, rfl, rfl⟩ | ⟨k1, k2, rfl⟩
  · exact ⟨rfl, rfl⟩
  · exact absurd k1 h1
  · exact absurd h1 k1
  · exact ⟨Option.some.inj (h2.symm.trans k2), rfl⟩
theorem UV.len {l : List Mo} {n : ByteArray × Int} {us : List (ByteArray × Int)} {er : Int} (h : UV l n us er) : us.length ≤ 1000 := by
  rcases h with ⟨_, rfl, _⟩ | ⟨h1, h2, _⟩
  · simp
  · obtain ⟨m, hm, d, hd, _, _, rfl⟩ := grf_in h2
    refine Nat.le_trans (usesOf_len _ _) ?_
    have := ((checkE_zero (chkL_zero (loadE_zero h1).1 m hm)).2.2 d hd).cnt
    simp only [Dc.body, Fo.count]
    omega
def UseZ (l : List Mo) (n : ByteArray × Int) (w : World) (e : Ending) (w' : World) : Prop :=
  Below w.heap.size w w' ∧ ∃ us A c er, e = .returned (.tuple #[.slice A (List.length us) c, .int .i64 er]) ∧ w'.ownsRow 0 28 2 (.slice A us.length c) us.length (namesC us) ∧ UV l n us er
theorem UsesRes.z {l : List Mo} {n : ByteArray × Int} {w w' : World} {e : Ending} (h : UsesRes l n w e w') : UseZ l n w e w' := by
  refine ⟨h.1, ?_⟩
  rcases h.2 with ⟨h1, rfl⟩ | ⟨h1, us, v, h2, rfl, h3⟩
  · exact ⟨[], none, 0, _, rfl, World.ownsRow_nil _ _ _ _, .inl ⟨h1, rfl, rfl⟩⟩
  · obtain ⟨A, c, rfl⟩ := own_formN h3
    exact ⟨us, A, c, 0, rfl, World.ownsRow.mono h3 (Nat.zero_le _), .inr ⟨h1, h2, rfl⟩⟩
theorem UsesQ.z {l : List Mo} {n : ByteArray × Int} {w w' : World} {e : Ending} (h : UsesQ l n w e w') : UseZ l n w e w' := by
  refine ⟨h.1, ?_⟩
  rcases h.2 with ⟨h1, rfl⟩ | ⟨h1, us, A, c, h2, rfl, h3⟩
  · exact ⟨[], none, 0, _, rfl, World.ownsRow_nil _ _ _ _, .inl ⟨h1, rfl, rfl⟩⟩
  · exact ⟨us, A, c, 0, rfl, h3, .inr ⟨h1, h2, rfl⟩⟩
def CV (l : List Mo) (n : ByteArray × Int) (L : List (ByteArray × Int)) (er : Int) : Prop := (loadE l n ≠ 0 ∧ L = [] ∧ er = loadE l n) ∨ (loadE l n = 0 ∧ Clo (grf l) n none ∧ L = [] ∧ er = 21) ∨ (loadE l n = 0 ∧ Clo (grf l) n (some L) ∧ er = 0)
theorem CV.unique {l : List Mo} {n : ByteArray × Int} {L L' : List (ByteArray × Int)} {er er' : Int} (h : CV l n L er) (k : CV l n L' er') : L = L' ∧ er = er' := by
  rcases h with ⟨h1, rfl, rfl⟩ | ⟨h1, h2, rfl, rfl⟩ | ⟨h1, h2, rfl⟩ <;> rcases k with ⟨k1, rfl, rfl⟩ | ⟨k1, k2, rfl, rfl⟩ | ⟨k1, k2, rfl⟩
  · exact ⟨rfl, rfl⟩
  · exact absurd k1 h1
  · exact absurd k1 h1
  · exact absurd h1 k1
  · exact ⟨rfl, rfl⟩
  · have := h2.unique k2; cases this
  · exact absurd h1 k1
  · have := h2.unique k2; cases this
  · have := h2.unique k2
    exact ⟨Option.some.inj this, rfl⟩
theorem CV.len {l : List Mo} {n : ByteArray × Int} {L : List (ByteArray × Int)} {er : Int} (h : CV l n L er) : L.length ≤ totD l := by
  rcases h with ⟨_, rfl, _⟩ | ⟨_, _, rfl, _⟩ | ⟨h1, h2, _⟩
  · simp
  · simp
  · have h3 := allN_len l
    have := nodup_len L (allN l) (ltN_nodup h2.1) fun x hx => mem_allN (by
      have := h2.2.2 x ((h2.2.1 x).1 hx)
      unfold grf at this
      cases hb : bodyOf l x with
      | none => rw [hb] at this; exact absurd rfl this
      | some y => rfl)
    omega
def CloZ (l : List Mo) (n : ByteArray × Int) (w : World) (e : Ending) (w' : World) : Prop :=
  Below w.heap.size w w' ∧ ∃ L A c er, e = .returned (.tuple #[.slice A (List.length L) c, .int .i64 er]) ∧ w'.ownsRow 0 28 2 (.slice A L.length c) L.length (namesC L) ∧ CV l n L er
theorem CloRes.z {l : List Mo} {n : ByteArray × Int} {w w' : World} {e : Ending} (h : CloRes l n w e w') : CloZ l n w e w' := by
  refine ⟨h.1, ?_⟩
  rcases h.2 with ⟨h1, rfl⟩ | ⟨h1, h2, rfl⟩ | ⟨h1, L, v, h2, rfl, h3, _⟩
  · exact ⟨[], none, 0, _, rfl, World.ownsRow_nil _ _ _ _, .inl ⟨h1, rfl, rfl⟩⟩
  · exact ⟨[], none, 0, _, rfl, World.ownsRow_nil _ _ _ _, .inr (.inl ⟨h1, h2, rfl, rfl⟩)⟩
  · obtain ⟨A, c, rfl⟩ := own_formN h3
    exact ⟨L, A, c, 0, rfl, World.ownsRow.mono h3 (Nat.zero_le _), .inr (.inr ⟨h1, h2, rfl⟩)⟩
theorem QcRes.z {l : List Mo} {n : ByteArray × Int} {w w' : World} {e : Ending} (h : QcRes l n w e w') : CloZ l n w e w' := by
  refine ⟨h.1, ?_⟩
  rcases h.2 with ⟨h1, rfl⟩ | ⟨h1, h2, rfl⟩ | ⟨h1, L, A, c, h2, rfl, h3⟩
  · exact ⟨[], none, 0, _, rfl, World.ownsRow_nil _ _ _ _, .inl ⟨h1, rfl, rfl⟩⟩
  · exact ⟨[], none, 0, _, rfl, World.ownsRow_nil _ _ _ _, .inr (.inl ⟨h1, h2, rfl, rfl⟩)⟩
  · exact ⟨L, A, c, 0, rfl, h3, .inr (.inr ⟨h1, h2, rfl⟩)⟩
def FV (l : List Mo) (n : ByteArray × Int) (b : Bool) (er : Int) : Prop := (loadE l n ≠ 0 ∧ b = false ∧ er = loadE l n) ∨ (loadE l n = 0 ∧ Clo (grf l) n none ∧ b = false ∧ er = 21) ∨ (loadE l n = 0 ∧ ∃ L, Clo (grf l) n (some L) ∧ b = flkB l L ∧ er = 0)
theorem FlkP.v {l : List Mo} {n : ByteArray × Int} {w w' : World} {e : Ending} (h : FlkP l n w e w') : Below w.heap.size w w' ∧ ∃ b er, e = .returned (.tuple #[.bool b, .int .i64 er]) ∧ FV l n b er := by
  refine ⟨h.1, ?_⟩
  rcases h.2 with ⟨h1, h2⟩ | ⟨h1, h2, h3⟩ | ⟨h1, L, h2, h3⟩
  · exact ⟨_, _, h2, .inl ⟨h1, rfl, rfl⟩⟩
  · exact ⟨_, _, h3, .inr (.inl ⟨h1, h2, rfl, rfl⟩)⟩
  · exact ⟨_, _, h3, .inr (.inr ⟨h1, L, h2, rfl, rfl⟩)⟩
theorem FV.unique {l : List Mo} {n : ByteArray × Int} {s s' : Bool} {er er' : Int} (h : FV l n s er) (k : FV l n s' er') : s = s' ∧ er = er' := by
  rcases h with ⟨h1, rfl, rfl⟩ | ⟨h1, h2, rfl, rfl⟩ | ⟨h1, L, h2, rfl, rfl⟩ <;> rcases k with ⟨k1, rfl, rfl⟩ | ⟨k1, k2, rfl, rfl⟩ | ⟨k1, L', k2, rfl, rfl⟩
  · exact ⟨rfl, rfl⟩
  · exact absurd k1 h1
  · exact absurd k1 h1
  · exact absurd h1 k1
  · exact ⟨rfl, rfl⟩
  · have := h2.unique k2; cases this
  · exact absurd h1 k1
  · have := h2.unique k2; cases this
  · have := h2.unique k2
    cases this
    exact ⟨rfl, rfl⟩
set_option maxRecDepth 100000 in
set_option maxHeartbeats 8000000 in
theorem lawClosure_any (l : List Mo) (n : ByteArray × Int) (A : Option Addr) (c : Nat) (w : World) (hl : SlM w w.heap.size A c l) (hn : NOk n) (hw : MoW l) (hcnt : CntL l) :
    Calls Tryz.prog 5 #[.slice A l.length c, .agg #[.string n.1, .int .i64 n.2]] w fun e w' => e = .returned (.bool true) ∧ Below w.heap.size w w' := by
  obtain ⟨W0, hW0⟩ : ∃ W0, w.alloc (.cells #[.string n.1, .int .i64 n.2] 28) = W0 := ⟨_, rfl⟩
  have hz0 : w.heap.size < W0.heap.size := by subst hW0; simp
  have hB0 : Below w.heap.size w W0 := by subst hW0; exact (Below.refl _ _).alloc (Nat.le_refl _) _
  have n0 : W0.cell? ⟨w.heap.size, 0, none⟩ = some (.string n.1) := by subst hW0; go_simp
  have n1 : W0.cell? ⟨w.heap.size, 1, none⟩ = some (.int .i64 n.2) := by subst hW0; go_simp
  have HX := Lib.hid (show ∀ X : World, Below W0.heap.size W0 X → Below w.heap.size w X ∧ SlM X X.heap.size A c l ∧ X.cell? ⟨w.heap.size, 0, none⟩ = some (.string n.1) ∧ X.cell? ⟨w.heap.size, 1, none⟩ = some (.int .i64 n.2) from fun X hX => by
    have hB := hB0.trans (hX.mono (Nat.le_of_lt hz0))
    exact ⟨hB, (hl.below hB).keep hB.size (fun _ _ => rfl), (hX.cell (p := ⟨w.heap.size, 0, none⟩) hz0).trans n0, (hX.cell (p := ⟨w.heap.size, 1, none⟩) hz0).trans n1⟩)
  obtain ⟨N, HN⟩ : ∃ Q, Hid (l.length = Q) := ⟨_, Lib.hid rfl⟩
  have HH := Lib.hid (And.intro hn (And.intro hw hcnt))
  have HG := Lib.hid (great40_any l A c W0 (HX.out W0 (Below.refl _ _)).2.1)
  rw [HN.out] at HG ⊢
  clear hl hn hw hB0 hz0 hcnt
  go_enter Tryz.func5, Tryz.ntmps5
  cases hg : greatL l with
  | true =>
    rw [hg] at HG
    go_wp2_with fail
    refine HG.out.mono ?_
    rintro e w1 ⟨rfl, hb1⟩
    have HB1 := Lib.hid (HX.out w1 hb1).1
    clear hb1
    go_wp2_with fail
    refine (awake40_any _).mono ?_
    rintro e w2 ⟨rfl, hb2⟩
    have HB2 := Lib.hid hb2
    clear hb2
    go_wp2
    go_ret
    exact ⟨rfl, HB1.out.trans (HB2.out.mono HB1.out.size)⟩
  | false =>
    rw [hg] at HG
    have hms := mods_of hg HH.out.2.2
    have htot := greatL_tot hg
    have hle := greatL_le hg
    have HC1 := Lib.hid (show ∀ X : World, Below W0.heap.size W0 X → Calls Tryz.prog 16 #[.slice A N c, .agg #[.string n.1, .int .i64 n.2]] X (UseZ l n X) from fun X hX => by
      have h := dUsesF_any l n A c X (HX.out X hX).2.1 HH.out.1 HH.out.2.1 (by omega) (by omega) (fun h x y hy => Nat.le_trans (body_cnt h x y hy) (by omega))
      rw [HN.out] at h
      exact h.mono fun _ _ k => k.z)
    have HC2 := Lib.hid (show ∀ X : World, Below W0.heap.size W0 X → Calls Tryz.prog 19 #[.slice A N c, .agg #[.string n.1, .int .i64 n.2]] X (UseZ l n X) from fun X hX => by
      have h := uses40F_any l n A c X (HX.out X hX).2.1 (fun m hm => (hms m hm).1)
      rw [HN.out] at h
      exact h.mono fun _ _ k => k.z)
    have HC3 := Lib.hid (show ∀ X : World, Below W0.heap.size W0 X → Calls Tryz.prog 15 #[.slice A N c, .agg #[.string n.1, .int .i64 n.2]] X (CloZ l n X) from fun X hX => by
      have h := dClosureF_any l n A c X (HX.out X hX).2.1 HH.out.1 HH.out.2.1 (by omega) (by omega) (fun h => ⟨_, uok_of hg h⟩)
      rw [HN.out] at h
      exact h.mono fun _ _ k => k.z)
    have HC4 := Lib.hid (show ∀ X : World, Below W0.heap.size W0 X → Calls Tryz.prog 20 #[.slice A N c, .agg #[.string n.1, .int .i64 n.2]] X (CloZ l n X) from fun X hX => by
      have h := closure40_any l n A c X (HX.out X hX).2.1 (fun m hm => (hms m hm).1) (by omega)
      rw [HN.out] at h
      exact h.mono fun _ _ k => k.z)
    have HC5 := Lib.hid (show ∀ X : World, Below W0.heap.size W0 X → Calls Tryz.prog 21 #[.slice A N c, .agg #[.string n.1, .int .i64 n.2]] X (FlkP l n X) from fun X hX => by
      have h := dFlaky_any l n A c X (HX.out X hX).2.1 HH.out.1 HH.out.2.1 (by omega) (by omega) (fun h => ⟨_, uok_of hg h⟩)
      rwa [HN.out] at h)
    have HC6 := Lib.hid (show ∀ X : World, Below W0.heap.size W0 X → Calls Tryz.prog 22 #[.slice A N c, .agg #[.string n.1, .int .i64 n.2]] X (FlkP l n X) from fun X hX => by
      have h := flaky40_any l n A c X (HX.out X hX).2.1 (fun m hm => (hms m hm).1) (by omega)
      rwa [HN.out] at h)
    have HTo := Lib.hid htot
    clear hg hms htot hle
    go_wp2_with fail
    refine HG.out.mono ?_
    rintro e w1 ⟨rfl, hb1⟩
    have HB1 := Lib.hid hb1
    clear hb1 n0 n1 hW0
    obtain ⟨_, _, x0, x1⟩ := HX.out w1 HB1.out
    go_wp2_with fail
    refine (HC1.out w1 HB1.out).mono ?_
    rintro e w2 ⟨hb2, us, uA, uc, er1, rfl, hr2, hv2⟩
    have HB2 := Lib.hid (HB1.out.trans (hb2.mono HB1.out.size))
    have H2 := Lib.hid (And.intro hr2 hv2)
    clear hb2 hr2 hv2 x0 x1
    obtain ⟨_, _, x0, x1⟩ := HX.out w2 HB2.out
    go_wp2_with fail
    refine (HC2.out w2 HB2.out).mono ?_
    rintro e w3 ⟨hb3, us', uA', uc', er1', rfl, hr3, hv3⟩
    obtain ⟨rfl, rfl⟩ := H2.out.2.unique hv3
    have HB3 := Lib.hid (HB2.out.trans (hb3.mono HB2.out.size))
    have H3 := Lib.hid (And.intro (own_of_blocks' H2.out.1 fun k hk => hb3.block k hk) hr3)
    clear hb3 hr3 hv3 x0 x1
    obtain ⟨_, _, x0, x1⟩ := HX.out w3 HB3.out
    go_wp2_with fail
    refine (HC3.out w3 HB3.out).mono ?_
    rintro e w4 ⟨hb4, L, cA, cc, er2, rfl, hr4, hv4⟩
    have HB4 := Lib.hid (HB3.out.trans (hb4.mono HB3.out.size))
    have H4 := Lib.hid (And.intro (own_of_blocks' H3.out.1 fun k hk => hb4.block k hk) (And.intro (own_of_blocks' H3.out.2 fun k hk => hb4.block k hk) (And.intro hr4 hv4)))
    clear hb4 hr4 hv4 x0 x1
    obtain ⟨_, _, x0, x1⟩ := HX.out w4 HB4.out
    go_wp2_with fail
    refine (HC4.out w4 HB4.out).mono ?_
    rintro e w5 ⟨hb5, L', cA', cc', er2', rfl, hr5, hv5⟩
    obtain ⟨rfl, rfl⟩ := H4.out.2.2.2.unique hv5
    have HB5 := Lib.hid (HB4.out.trans (hb5.mono HB4.out.size))
    have H5 := Lib.hid (And.intro (own_of_blocks' H4.out.1 fun k hk => hb5.block k hk) (And.intro (own_of_blocks' H4.out.2.1 fun k hk => hb5.block k hk) (And.intro (own_of_blocks' H4.out.2.2.1 fun k hk => hb5.block k hk) hr5)))
    clear hb5 hr5 hv5 x0 x1
    obtain ⟨_, _, x0, x1⟩ := HX.out w5 HB5.out
    go_wp2_with fail
    refine (HC5.out w5 HB5.out).mono ?_
    intro e w6 h6
    obtain ⟨hb6, b6, er3, rfl, hv6⟩ := h6.v
    have HB6 := Lib.hid (HB5.out.trans (hb6.mono HB5.out.size))
    have H6 := Lib.hid (And.intro (own_of_blocks' H5.out.1 fun k hk => hb6.block k hk) (And.intro (own_of_blocks' H5.out.2.1 fun k hk => hb6.block k hk) (And.intro (own_of_blocks' H5.out.2.2.1 fun k hk => hb6.block k hk) (And.intro (own_of_blocks' H5.out.2.2.2 fun k hk => hb6.block k hk) hv6))))
    clear hb6 hv6 h6 x0 x1
    obtain ⟨_, _, x0, x1⟩ := HX.out w6 HB6.out
    go_wp2_with fail
    refine (HC6.out w6 HB6.out).mono ?_
    intro e w7 h7
    obtain ⟨hb7, b7, er3', rfl, hv7⟩ := h7.v
    obtain ⟨rfl, rfl⟩ := H6.out.2.2.2.2.unique hv7
    have HB7 := Lib.hid (HB6.out.trans (hb7.mono HB6.out.size))
    have hE1 := slcEqualN_same us uA uc 0 uA' uc' 0 w7 (own_of_blocks' H6.out.1 fun k hk => hb7.block k hk) (own_of_blocks' H6.out.2.1 fun k hk => hb7.block k hk) (by have := H2.out.2.len; omega)
    have hE2 : ∀ q, Calls Tryz.prog 12 #[.slice cA L.length cc, .slice cA' L.length cc'] (w7.drewN q) fun e w' => e = .returned (.bool true) ∧ ∃ q', w' = (w7.drewN q).drewN q' := fun q => slcEqualN_same L cA cc 0 cA' cc' 0 (w7.drewN q) (own_of_blocks' H6.out.2.2.1 fun k hk => hb7.block k hk) (own_of_blocks' H6.out.2.2.2.1 fun k hk => hb7.block k hk) (by have := H4.out.2.2.2.len; have := HTo.out; omega)
    obtain ⟨UN, HUN⟩ : ∃ Q, Hid (us.length = Q) := ⟨_, Lib.hid rfl⟩
    obtain ⟨CN, HCN⟩ : ∃ Q, Hid (L.length = Q) := ⟨_, Lib.hid rfl⟩
    rw [HUN.out] at hE1 ⊢
    rw [HCN.out] at hE2 ⊢
    have HE1 := Lib.hid hE1
    have HE2 := Lib.hid hE2
    clear hb7 hv7 h7 x0 x1 hE1 hE2
    go_wp2_with fail
    refine HE1.out.mono ?_
    rintro e w8 ⟨rfl, q1, rfl⟩
    go_wp2_with fail
    refine (HE2.out q1).mono ?_
    rintro e w9 ⟨rfl, q2, rfl⟩
    go_wp2_with fail
    refine (awake40_any _).mono ?_
    rintro e w10 ⟨rfl, hb10⟩
    have HB10 := Lib.hid hb10
    clear hb10
    go_wp2
    go_ret
    exact ⟨rfl, (below_drewN (HX.out w7 HB7.out).1 (q1 + q2)).trans (HB10.out.mono (HX.out w7 HB7.out).1.size)⟩
end Go.Proofs.YtpnfbfnffkbilaaGreatDoor
