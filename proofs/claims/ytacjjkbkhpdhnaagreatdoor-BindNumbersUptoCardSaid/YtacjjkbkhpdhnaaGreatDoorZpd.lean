/- What a replacing function value does -/
import Derived.Test.YtacjjkbkhpdhnaaGreatDoorZpc
import Derived.Test.YtacjjkbkhpdhnaaGreatDoorZlp
import Derived.Test.YtacjjkbkhpdhnaaGreatDoorSxg
import Derived.Deep.DeepCutAuto
namespace Go.Proofs.YtacjjkbkhpdhnaaGreatDoor
open Go.RowKit Go.Proofs Go.Shelf
def MSz (k : Int) (m : ByteArray) (i : Int) : Prop := m.size ≤ maxLen ∧ (k = 5 → (Lit.int .i64 i).wf = true)
def ReplOk (w00 : World) (fid : Nat) (lb : Array Value) (g : Repl) : Prop :=
  (∀ (args : Array Value) (W : World), (callFunc fid args).run Tryz.prog W = .ok (.enter fid args) W) ∧
  ∀ (k : Int) (n m : ByteArray) (i d : Int) (A : Option Addr) (l c b : Nat) (sc : List ByteArray) (X : World), n.size ≤ maxLen → MSz k m i → Below w00.heap.size w00 X → SetK X 9 b (sc.map keyS) →
    Calls Tryz.prog fid (#[.agg #[.int .i64 k, .string n, .string m, .int .i64 i, .int .i64 d, .slice A l c], .map (some b)] ++ lb) X fun e Y =>
      ∃ A' l' c', e = .returned (.tuple #[.agg #[.int .i64 (g ⟨k, n, m, i, d⟩ sc).2.k, .string (g ⟨k, n, m, i, d⟩ sc).2.n, .string (g ⟨k, n, m, i, d⟩ sc).2.m, .int .i64 (g ⟨k, n, m, i, d⟩ sc).2.i, .int .i64 (g ⟨k, n, m, i, d⟩ sc).2.d, .slice A' l' c'], .int .i64 (g ⟨k, n, m, i, d⟩ sc).1]) ∧ Below X.heap.size X Y
end Go.Proofs.YtacjjkbkhpdhnaaGreatDoor
/- bind.rebuild -/
namespace Go.Proofs.YtacjjkbkhpdhnaaGreatDoor
open Go.RowKit Go.Proofs Go.Shelf
def Fo.Strs : Fo → Prop
  | .nil => True
  | .cons k n m i _ _ _ s r => n.size ≤ maxLen ∧ MSz k m i ∧ s.Strs ∧ r.Strs
def RbR (q : Int × Nx × Pt) (w : World) (e : Ending) (w' : World) : Prop :=
  Below w.heap.size w w' ∧
  ((q.1 = 0 ∧ ∃ (t : Fo) (A : Option Addr) (c : Nat), t.pt = q.2.2 ∧ t.SlP w' (fun k => w.heap.size ≤ k ∧ k < w'.heap.size) A c ∧ e = .returned (.tuple #[.agg #[.int .i64 q.2.1.k, .string q.2.1.n, .string q.2.1.m, .int .i64 q.2.1.i, .int .i64 q.2.1.d, .slice A t.len c], .int .i64 0])) ∨
   (q.1 ≠ 0 ∧ e = .returned (.tuple #[.agg #[.int .i64 0, .string ⟨#[]⟩, .string ⟨#[]⟩, .int .i64 0, .int .i64 0, .slice none 0 0], .int .i64 q.1])))
def RbOK (w00 : World) (fid : Nat) (lb : Array Value) (g : Repl) (s : Fo) : Prop :=
  ∀ (k : Int) (n m : ByteArray) (i d : Int) (A : Option Addr) (c b : Nat) (sc : List ByteArray) (w : World), s.Sl w w.heap.size A c → n.size ≤ maxLen → MSz k m i → s.Strs → Below w00.heap.size w00 w → SetK w 9 b (sc.map keyS) → sc.length + 2 * s.count ≤ 100000 →
    Calls Tryz.prog 112 #[.agg #[.int .i64 k, .string n, .string m, .int .i64 i, .int .i64 d, .slice A s.len c], .map (some b), .func (.func fid) #[] lb] w (RbR (rebN g ⟨k, n, m, i, d⟩ s.pt sc) w)
def RbJ (t : Pt) (q : Int × Pt) : Int × Pt := if q.1 = 0 then (0, t.app q.2) else (q.1, .nil)
theorem rebL_no (g : Repl) : ∀ (s : Pt) (pk : Int) (pn pm : ByteArray) (j : Nat) (sc : List ByteArray), (rebL g s pk pn pm j sc).1 ≠ 0 → (rebL g s pk pn pm j sc).2 = .nil
  | .nil, _, _, _, _, _, h => absurd rfl h
  | .cons k n m i d s r, pk, pn, pm, j, sc, h => by
    rw [rebL_cons] at h ⊢
    simp only at h ⊢
    split
    · rename_i h1
      rw [if_pos h1] at h
      split
      · rename_i h2
        rw [if_pos h2] at h
        exact absurd rfl h
      · rfl
    · rfl
theorem RbJ_nil {g : Repl} {s : Pt} {pk : Int} {pn pm : ByteArray} {j : Nat} {sc : List ByteArray} (_ : True) : RbJ .nil (rebL g s pk pn pm j sc) = rebL g s pk pn pm j sc := by
  unfold RbJ
  split
  · rename_i h
    rw [← h]
    rfl
  · rename_i h
    rw [← rebL_no g _ _ _ _ _ _ h]
theorem RbJ_step {g : Repl} {t : Pt} {k' : Int} {n' m' : ByteArray} {i' d' : Int} {s' r' : Pt} {pk : Int} {pn pm : ByteArray} {j : Nat} {sc : List ByteArray} {q : Int × Nx × Pt} (hq : rebN g ⟨k', n', m', i', d'⟩ s' (sc ++ bndB pk pn pm j) = q) (h0 : q.1 = 0) :
    RbJ t (rebL g (.cons k' n' m' i' d' s' r') pk pn pm j sc) = RbJ (t.app (.cons q.2.1.k q.2.1.n q.2.1.m q.2.1.i q.2.1.d q.2.2 .nil)) (rebL g r' pk pn pm (j + 1) sc) := by
  rw [rebL_cons, hq]
  simp only
  rw [if_pos h0]
  unfold RbJ
  by_cases hb : (rebL g r' pk pn pm (j + 1) sc).1 = 0
  · rw [if_pos hb, if_pos rfl, if_pos hb, Pt.app_assoc]
    rfl
  · rw [if_neg hb, if_neg hb, if_neg hb]
theorem RbJ_err {g : Repl} {t : Pt} {k' : Int} {n' m' : ByteArray} {i' d' : Int} {s' r' : Pt} {pk : Int} {pn pm : ByteArray} {j : Nat} {sc : List ByteArray} {q : Int × Nx × Pt} (hq : rebN g ⟨k', n', m', i', d'⟩ s' (sc ++ bndB pk pn pm j) = q) (h0 : q.1 ≠ 0) :
    RbJ t (rebL g (.cons k' n' m' i' d' s' r') pk pn pm j sc) = (q.1, .nil) := by
  rw [rebL_cons, hq]
  simp only
  rw [if_neg h0]
  unfold RbJ
  rw [if_neg h0]
theorem bndB_size {k : Int} {n m : ByteArray} {j : Int} (hn : n.size ≤ maxLen) (hm : m.size ≤ maxLen) : (∀ s ∈ bndB k n m j, s.size ≤ maxLen) ∧ (bndB k n m j).length ≤ 2 := by
  unfold bndB
  split
  · exact ⟨by simpa using hn, by simp⟩
  · split
    · exact ⟨by simp [hn, hm], by simp⟩
    · exact ⟨by simp, by simp⟩
theorem newsE_at {W : World} {k : Nat} {a b d e f h : Value} (hh : W.heap[k]? = some (.cells #[a, b, d, e, f, h] 28 (0, 0))) :
    ∀ j u, ([a, b, d, e, f, h] : List Value)[j]? = some u → W.cell? ((⟨k, 0, none⟩ : Addr).add j) = some u := by
  intro j u hu
  exact World.news_of_block (cs := #[a, b, d, e, f, h]) (t := 28) (fr := (0, 0)) hh j u hu
theorem hex_set {W : World} {b : Nat} {t : TypeId} {c0 c1 c2 c3 c4 c5 : Value} (h : W.heap[b]? = some (.cells #[c0, c1, c2, c3, c4, c5] t (0, 0))) (u0 u1 u2 u3 u4 u5 : Value) :
    ((((((W.setCell ⟨b, 0, none⟩ u0).setCell ⟨b, 1, none⟩ u1).setCell ⟨b, 2, none⟩ u2).setCell ⟨b, 3, none⟩ u3).setCell ⟨b, 4, none⟩ u4).setCell ⟨b, 5, none⟩ u5).heap[b]? = some (.cells #[u0, u1, u2, u3, u4, u5] t (0, 0)) := by
  simp [World.setCell, Array.getElem?_modify, h]
set_option maxRecDepth 100000 in
set_option maxHeartbeats 40000000 in
theorem rb_step (w00 : World) (fid : Nat) (lb : Array Value) (g : Repl) (hF : ReplOk w00 fid lb g) (s : Fo) (ih : s.All (RbOK w00 fid lb g)) : RbOK w00 fid lb g s := by
  intro k n m i d A c b sc w hs hn hm hst hw hset hcnt
  have HCn := Lib.hid (And.intro hcnt (And.intro (bndB_size (k := k) (j := 0) hn hm.1).2 (And.intro hn hm)))
  obtain ⟨i0, hi, hz0, hz1, hz2⟩ := info_parts Tryz.infoExpr
  obtain ⟨hfn, hF2⟩ := hF
  obtain ⟨W1, hW1⟩ : ∃ W1, (w.alloc (.cells #[.int .i64 k, .string n, .string m, .int .i64 i, .int .i64 d, .slice A s.len c] 28)).alloc (.cells #[.int .i64 0, .string ⟨#[]⟩, .string ⟨#[]⟩, .int .i64 0, .int .i64 0, .slice none 0 0] 28) = W1 := ⟨_, rfl⟩
  have hB1 : Below w.heap.size w W1 := by rw [← hW1]; exact ((Below.refl _ _).alloc (Nat.le_refl _) _).alloc (by simp) _
  have hx0 : W1.heap[w.heap.size]? = some (.cells #[.int .i64 k, .string n, .string m, .int .i64 i, .int .i64 d, .slice A s.len c] 28 (0, 0)) := by rw [← hW1]; exact (Below.heap_alloc _ _ _ (by simp)).trans (heap_alloc_new w _)
  have x0 := cell_of_row W1 w.heap.size 0 _ _ (0, 0) hx0
  have x1 := cell_of_row W1 w.heap.size 1 _ _ (0, 0) hx0
  have x2 := cell_of_row W1 w.heap.size 2 _ _ (0, 0) hx0
  have x3 := cell_of_row W1 w.heap.size 3 _ _ (0, 0) hx0
  have x4 := cell_of_row W1 w.heap.size 4 _ _ (0, 0) hx0
  have x5 := cell_of_row W1 w.heap.size 5 _ _ (0, 0) hx0
  simp at x0 x1 x2 x3 x4 x5
  obtain ⟨q, Hq⟩ : ∃ q, Hid (g ⟨k, n, m, i, d⟩ sc = q) := ⟨_, Lib.hid rfl⟩
  have hK := hF2 k n m i d A s.len c b sc W1 hn hm (hw.trans (hB1.mono hw.size)) (hset.keep (hB1.block _ hset.lt))
  rw [Hq.out] at hK
  obtain ⟨E, yk, yn, ym, yi, yd⟩ := q
  have HK := Lib.hid hK
  have hy0 : W1.heap[w.heap.size + 1]? = some (.cells #[.int .i64 0, .string ⟨#[]⟩, .string ⟨#[]⟩, .int .i64 0, .int .i64 0, .slice none 0 0] 28 (0, 0)) := by
    have := heap_alloc_new (w.alloc (.cells #[.int .i64 k, .string n, .string m, .int .i64 i, .int .i64 d, .slice A s.len c] 28)) (.cells #[.int .i64 0, .string ⟨#[]⟩, .string ⟨#[]⟩, .int .i64 0, .int .i64 0, .slice none 0 0] 28)
    rw [hW1] at this
    simpa using this
  have HY := Lib.hid hy0
  have HH := Lib.hid (And.intro hs (And.intro hst (And.intro hw (And.intro hset (And.intro hB1 (And.intro hx0 (And.intro ih hF2)))))))
  clear hs hst hw hset hB1 hx0 ih hF2 hn hm hK hy0
  go_enter Tryz.func112, Tryz.ntmps112
  go_wp2_with fail
  refine HK.out.mono ?_
  rintro e w2 ⟨A', l', c', rfl, hb2⟩
  obtain ⟨W3, hW3⟩ : ∃ q, w2.alloc (.cells #[.int .i64 yk, .string yn, .string ym, .int .i64 yi, .int .i64 yd, .slice A' l' c'] 28) = q := ⟨_, rfl⟩
  have hb3 : Below W1.heap.size W1 W3 := by rw [← hW3]; exact hb2.alloc hb2.size _
  have hy3 := (hb3.block _ (lt_of_block HY.out)).trans HY.out
  have HB3 := Lib.hid (HH.out.2.2.2.2.1.trans (hb3.mono HH.out.2.2.2.2.1.size))
  cases he : E == 0 with
  | false =>
    have he' : (E != 0) = true := by rw [bne, he]; rfl
    have HQ := Lib.hid (show rebN g ⟨k, n, m, i, d⟩ s.pt sc = (E, ⟨0, ⟨#[]⟩, ⟨#[]⟩, 0, 0⟩, .nil) by
      rw [rebN, Hq.out]
      exact if_neg (by simpa using he))
    have HE0 := Lib.hid (show E ≠ 0 by simpa using he)
    obtain ⟨y0, y1, y2, y3, y4, y5, z0, z1, z2, z3, z4, z5⟩ := row6 hy3
    have HS := Lib.hid (hex_set hy3 (.int .i64 0) (.string ⟨#[]⟩) (.string ⟨#[]⟩) (.int .i64 0) (.int .i64 0) (.slice none 0 0))
    clear hb2 hb3 hy3 he
    go_wp2
    obtain ⟨W9, hW9, s0, s1, s2, s3, s4, s5, hB, hsz, hbk⟩ := out6 HS.out HB3.out (by omega)
    rw [hW9]
    refine bodyPost_ret (v := .tuple #[.agg #[.int .i64 0, .string ⟨#[]⟩, .string ⟨#[]⟩, .int .i64 0, .int .i64 0, .slice none 0 0], .int .i64 E]) (by simp [results, Tryz.results112, go_sem, s0, s1, s2, s3, s4, s5]) rfl ?_
    rw [HQ.out]
    exact ⟨hB, .inr ⟨HE0.out, rfl⟩⟩
  | true =>
    obtain rfl : E = 0 := by simpa using he
    have hn3 : W3.heap[w2.heap.size]? = some (.cells #[.int .i64 yk, .string yn, .string ym, .int .i64 yi, .int .i64 yd, .slice A' l' c'] 28 (0, 0)) := by rw [← hW3]; exact heap_alloc_new w2 _
    have hx3 := (hb3.block _ (lt_of_block HH.out.2.2.2.2.2.1)).trans HH.out.2.2.2.2.2.1
    have hBw : w.heap.size + 1 < w2.heap.size := Nat.lt_of_lt_of_le (lt_of_block HY.out) hb2.size
    have hr : RBd w w2.heap.size #[.int .i64 k, .string n, .string m, .int .i64 i, .int .i64 d, .slice A s.len c] yk yn ym yi yd (.slice none 0 0) .nil (W3.setCell ⟨w2.heap.size, 5, none⟩ (.slice none 0 0)) :=
      ⟨(Below.heap_setCell _ _ _ _ (by simp <;> omega)).trans hx3, (Below.heap_setCell _ _ _ _ (by simp <;> omega)).trans hy3, by simp [World.setCell, Array.getElem?_modify, hn3], hBw, World.ownsRow_nil _ _ _ _, trivial, HB3.out.setCell (by simp <;> omega) _⟩
    have n5 := cell_of_row W3 w2.heap.size 5 _ _ (0, 0) hn3
    have f5 := frozen_of_row W3 w2.heap.size 5 _ _ hn3
    have x5' := cell_of_row W3 w.heap.size 5 _ _ (0, 0) hx3
    have hcap : s.len ≤ 9223372036854775807 := by have := HH.out.1.1; have := HH.out.1.2.1; unfold maxLen at this; omega
    simp at n5 x5'
    have HR := Lib.hid hr
    clear hr hn3 hx3 hy3 hb2 hb3 he x0 x1 x2 x3 x4 x5
    go_wp2_with fail
    go_loopg [33] s.len (fun gg ct wr => ∃ (j : Nat) (r t : Fo) (v : Value), gg = r.len ∧ j + r.len = s.len ∧ ct = .int .i64 j ∧ r.All (RbOK w00 fid lb g) ∧ r.Strs ∧ (r ≠ .nil → ∃ bb o, A = some ⟨bb, o, none⟩ ∧ bb < w.heap.size ∧ r.At wr w.heap.size bb (o + j * 6)) ∧
      RBd w w2.heap.size #[.int .i64 k, .string n, .string m, .int .i64 i, .int .i64 d, .slice A s.len c] yk yn ym yi yd v t wr ∧ t.len = j ∧ Hid (rebL g s.pt k n m 0 sc = RbJ t.pt (rebL g r.pt k n m j sc)) ∧ SetK wr 9 b (sc.map keyS) ∧ sc.length + 2 * r.count ≤ 100000)
    case atStart =>
      refine ⟨0, s, .nil, .slice none 0 0, rfl, by omega, rfl, HH.out.2.2.2.2.2.2.1, HH.out.2.1, fun hne => ?_, HR.out, rfl, Lib.hid (RbJ_nil trivial).symm, ?_, hcnt⟩
      · obtain ⟨bb, o, e, hb, h⟩ := HH.out.1.2.2 hne
        exact ⟨bb, o, e, hb, by rw [Nat.zero_mul, Nat.add_zero]; exact h.keep (Nat.le_refl _) (fun p hp => HR.out.bw.cell hp) hb⟩
      · exact HH.out.2.2.2.1.keep (HR.out.bw.block _ HH.out.2.2.2.1.lt)
    case round =>
      obtain ⟨j, r, t, v, HG, hjs, rfl, hall, hstr, hat, hR, htl, HRe, hset, hcnt⟩ := hrel
      cases r with
      | nil =>
        simp only [Fo.len] at hjs HG
        obtain ⟨vA, vc, rfl⟩ := own_formR hR.own
        have hB := hR.hB
        have n0 := cell_of_row wr w2.heap.size 0 _ _ (0, 0) hR.nb
        have n1 := cell_of_row wr w2.heap.size 1 _ _ (0, 0) hR.nb
        have n2 := cell_of_row wr w2.heap.size 2 _ _ (0, 0) hR.nb
        have n3 := cell_of_row wr w2.heap.size 3 _ _ (0, 0) hR.nb
        have n4 := cell_of_row wr w2.heap.size 4 _ _ (0, 0) hR.nb
        have n5 := cell_of_row wr w2.heap.size 5 _ _ (0, 0) hR.nb
        have y0 := cell_of_row wr (w.heap.size + 1) 0 _ _ (0, 0) hR.rs
        have y1 := cell_of_row wr (w.heap.size + 1) 1 _ _ (0, 0) hR.rs
        have y2 := cell_of_row wr (w.heap.size + 1) 2 _ _ (0, 0) hR.rs
        have y3 := cell_of_row wr (w.heap.size + 1) 3 _ _ (0, 0) hR.rs
        have y4 := cell_of_row wr (w.heap.size + 1) 4 _ _ (0, 0) hR.rs
        have y5 := cell_of_row wr (w.heap.size + 1) 5 _ _ (0, 0) hR.rs
        have z0 := frozen_of_row wr (w.heap.size + 1) 0 _ _ hR.rs
        have z1 := frozen_of_row wr (w.heap.size + 1) 1 _ _ hR.rs
        have z2 := frozen_of_row wr (w.heap.size + 1) 2 _ _ hR.rs
        have z3 := frozen_of_row wr (w.heap.size + 1) 3 _ _ hR.rs
        have z4 := frozen_of_row wr (w.heap.size + 1) 4 _ _ hR.rs
        have z5 := frozen_of_row wr (w.heap.size + 1) 5 _ _ hR.rs
        have HS := Lib.hid (hex_set hR.rs (.int .i64 yk) (.string yn) (.string ym) (.int .i64 yi) (.int .i64 yd) (.slice vA t.len vc))
        have HQ := Lib.hid (show rebN g ⟨k, n, m, i, d⟩ s.pt sc = (0, ⟨yk, yn, ym, yi, yd⟩, t.pt) by
          rw [rebN, Hq.out]
          simp only
          rw [HRe.out]
          simp only [Fo.pt, rebL, RbJ, if_pos, Pt.app_nil])
        obtain ⟨vA', vc', hve, hsp⟩ := Fo.SlP.of_row (P' := fun k => w.heap.size ≤ k ∧ k < wr.heap.size) hR.own hR.sub (fun k hk => ⟨by omega, hk.2.1⟩) (fun g hg => ⟨by have := (World.ownsRow.lt hR.own g hg).1; omega, (World.ownsRow.lt hR.own g hg).2⟩)
        simp only [Value.slice.injEq, true_and] at hve
        obtain ⟨rfl, rfl⟩ := hve
        have HT := Lib.hid (And.intro hsp (And.intro hR.sub hR.bw))
        have HO := Lib.hid hR.own
        simp at n0 n1 n2 n3 n4 n5 y0 y1 y2 y3 y4 y5
        have i2 : decide ((j : Int) < (s.len : Int)) = false := decide_eq_false (by omega)
        have i3 : decide (j < s.len) = false := decide_eq_false (by omega)
        clear hR hat hset hcnt hall hstr hjs hsp HRe htl
        go_wp2
        obtain ⟨W9, hW9, s0, s1, s2, s3, s4, s5, hBf, hsz, hbk⟩ := out6 HS.out HT.out.2.2 (by omega)
        rw [hW9]
        have hkp := fun (q : Nat) (hq : w.heap.size + 1 < q) => hbk q (by omega)
        refine bodyPost_ret (v := .tuple #[.agg #[.int .i64 yk, .string yn, .string ym, .int .i64 yi, .int .i64 yd, .slice vA t.len vc], .int .i64 0]) (by simp [results, Tryz.results112, go_sem, s0, s1, s2, s3, s4, s5]) rfl ?_
        rw [HQ.out]
        refine ⟨hBf, .inl ⟨rfl, t, vA, vc, rfl, ?_, rfl⟩⟩
        obtain ⟨vA', vc', hve, hsp⟩ := Fo.SlP.of_row (P' := fun k => w2.heap.size < k ∧ k < wr.heap.size) HO.out HT.out.2.1 (fun k hk => ⟨hk.1, hk.2.1⟩) (fun g hg => ⟨by have := (World.ownsRow.lt HO.out g hg).1; omega, (World.ownsRow.lt HO.out g hg).2⟩)
        simp only [Value.slice.injEq, true_and] at hve
        obtain ⟨rfl, rfl⟩ := hve
        exact hsp.keep (fun k hk => ⟨by omega, by rw [hsz]; exact hk.2⟩) fun p hp => World.cell?_of_block (hkp _ (by omega))
      | cons k' n' m' i' d' A' c' s' r' =>
        obtain ⟨bb, o, rfl, hbb, hat⟩ := hat (by simp)
        obtain ⟨g0, g1, g2, g3, g4, ⟨g5, gc, gm, gs⟩, hat'⟩ := hat
        obtain ⟨hn', hm', hstS, hstR⟩ := hstr
        obtain ⟨hihs, hihr⟩ := hall
        simp only [Fo.len] at hjs HG
        simp only [Fo.count] at hcnt
        have hslen : s.len ≤ 50000 := by have := HCn.out.1; have := Fo.len_count s; omega
        have hlt : j < s.len := by omega
        have hj0 : (0 : Int) ≤ (j : Int) := by omega
        have hj1 : (j : Int) < (s.len : Int) := by omega
        have hB := hR.hB
        obtain ⟨V3, hV3⟩ : ∃ V3, wr.alloc (.cells #[.int .i64 k', .string n', .string m', .int .i64 i', .int .i64 d', .slice A' s'.len c'] 28) = V3 := ⟨_, rfl⟩
        have hbV : Below wr.heap.size wr V3 := by rw [← hV3]; exact (Below.refl _ _).alloc (Nat.le_refl _) _
        have hzV : wr.heap.size < V3.heap.size := by rw [← hV3]; simp
        have hxV : V3.heap[wr.heap.size]? = some (.cells #[.int .i64 k', .string n', .string m', .int .i64 i', .int .i64 d', .slice A' s'.len c'] 28 (0, 0)) := by rw [← hV3]; exact heap_alloc_new _ _
        have hRV := hR.keep hbV
        have x0 := cell_of_row V3 w.heap.size 0 _ _ (0, 0) hRV.bx
        have x1 := cell_of_row V3 w.heap.size 1 _ _ (0, 0) hRV.bx
        have x2 := cell_of_row V3 w.heap.size 2 _ _ (0, 0) hRV.bx
        have x3 := cell_of_row V3 w.heap.size 3 _ _ (0, 0) hRV.bx
        have x4 := cell_of_row V3 w.heap.size 4 _ _ (0, 0) hRV.bx
        have x5 := cell_of_row V3 w.heap.size 5 _ _ (0, 0) hRV.bx
        simp at x0 x1 x2 x3 x4 x5
        have HBo := Lib.hid (bound_any k n m i d (some ⟨bb, o, none⟩) s.len c j V3)
        obtain ⟨L, HL⟩ : ∃ Q, Hid ((bndB k n m j).length = Q) := ⟨_, Lib.hid rfl⟩
        have HT := Lib.hid (And.intro HG (And.intro hRV (And.intro hat' (And.intro hihs (And.intro hihr (And.intro hstS (And.intro hstR (And.intro htl (And.intro HRe (And.intro hcnt (And.intro hR.bw (And.intro hxV (And.intro hzV (And.intro hn' (And.intro hm' (And.intro hjs (And.intro hbb (And.intro (And.intro gc (And.intro gm gs)) (And.intro hbV (hset.keep (hbV.block _ hset.lt)))))))))))))))))))))
        have HV := Lib.hid (own_formR hR.own)
        clear HG hRV hat' hihs hihr hstS hstR htl HRe hcnt hR hxV hn' hm' hjs gc gm gs hbV hset
        go_wp2_with fail
        refine HBo.out.mono ?_
        rintro e w4 ⟨nA, nc, rfl, hsn, hb4⟩
        rw [HL.out]
        have hset4 : SetK w4 9 b (sc.map keyS) := HT.out.2.2.2.2.2.2.2.2.2.2.2.2.2.2.2.2.2.2.2.keep (hb4.block _ HT.out.2.2.2.2.2.2.2.2.2.2.2.2.2.2.2.2.2.2.2.lt)
        have H4 := Lib.hid (And.intro hset4 (And.intro hsn hb4))
        have hnc1 := hsn.1
        have hnc2 := hsn.2.1
        unfold maxLen at hnc2
        rw [HL.out] at hnc1
        have HBs := Lib.hid (bndB_size (k := k) (j := (j : Int)) HCn.out.2.2.1 HCn.out.2.2.2.1)
        have hL2 : L ≤ 2 := by rw [← HL.out]; exact HBs.out.2
        have hscl : sc.length ≤ 100000 := by have := HCn.out.1; omega
        clear hset4 hsn hb4 g0 g1 g2 g3 g4 g5 x0 x1 x2 x3 x4 x5 HBo
        go_upto_if 44 with (fail)
        go_cut [12] (fun s12 wx => ∃ bi, s12 = .map (some bi) ∧ SetK wx 9 bi ((sc ++ bndB k n m j).map keyS) ∧ Below w4.heap.size w4 wx)
        case first =>
          by_cases hL0 : L = 0
          · have hb0 := Lib.hid (show bndB k n m j = [] from List.length_eq_zero_iff.1 (by rw [HL.out, hL0]))
            subst hL0
            go_wp2
            go_meet
            exact ⟨b, rfl, by rw [hb0.out, List.append_nil]; exact H4.out.1, Below.refl _ _⟩
          · have hLp : decide ((0 : Int) < (L : Int)) = true := decide_eq_true (by omega)
            have hLq : 0 < L := by omega
            have HCl := Lib.hid (mapsClone_any b (sc.map keyS) w4 H4.out.1)
            clear hL0
            go_wp2_with fail
            refine HCl.out.mono ?_
            rintro e w5 ⟨rfl, hset5, hb5⟩
            have H5 := Lib.hid (And.intro hset5 hb5)
            clear hset5 hb5 HCl
            obtain ⟨mb, hmb⟩ : ∃ q, w4.heap.size = q := ⟨_, rfl⟩
            have HMb := Lib.hid hmb
            rw [hmb]
            clear hmb
            go_wp2
            go_loopg [15, 49] L (fun gg _ ct X => ∃ q : Nat, gg = L - q ∧ q ≤ L ∧ ct = .int .i64 q ∧ SetK X 9 mb ((sc ++ (bndB k n m j).take q).map keyS) ∧ Below w4.heap.size w4 X)
            case atStart => exact ⟨0, rfl, by omega, rfl, by rw [← HMb.out]; simpa using H5.out.1, H5.out.2⟩
            case round =>
              obtain ⟨q, HGq, hq, rfl, hsq, hBq⟩ := hrel
              by_cases hlq : q < L
              · have hlq' : q < (bndB k n m j).length := by rw [HL.out]; exact hlq
                obtain ⟨nb, no, rfl, hnb, hnc⟩ := H4.out.2.1.at_ hlq'
                have hcq : wr.cell? ⟨nb, no + q, none⟩ = some (.string (bndB k n m j)[q]) := (hBq.cell (p := ⟨nb, no + q, none⟩) hnb).trans hnc
                have HU := Lib.hid (HBs.out.1 (bndB k n m j)[q] (List.getElem_mem hlq'))
                have HTk := Lib.hid (List.take_succ_eq_append_getElem hlq')
                have HX := Lib.hid (And.intro HGq (And.intro hsq hBq))
                have HMM := Lib.hid (show ((sc ++ (bndB k n m j).take q).map keyS).length < 1000000 by rw [List.length_map, List.length_append, List.length_take]; omega)
                have hq0 : (0 : Int) ≤ (q : Int) := by omega
                have hq1 : (q : Int) < (L : Int) := by omega
                clear HGq hsq hBq hnc
                generalize (bndB k n m j)[q] = u at hcq HU HTk
                clear hlq'
                go_wp2_with (at_mapUpdate; refine wpList_setAdd _ rfl _ _ _ 89 rfl 9 strKeyed Tryz.underlying89 mb ((sc ++ (bndB k n m j).take q).map keyS) rfl HX.out.2.1 HMM.out _ (keyS u) rfl rfl (keyS_of HU.out) ?_; intro w6 hset6 hg6)
                go_roundg (L - (q + 1))
                case measure => rw [HX.out.1]; omega
                case rel => exact ⟨q + 1, rfl, by omega, by go_num, by rw [HTk.out, ← List.append_assoc, List.map_append]; exact hset6, HX.out.2.2.grown hg6 HX.out.2.2.size (fun k hk => by cases hk; rw [HMb.out]; exact Nat.le_refl _)⟩
              · have hqL : L = q := by omega
                have HTk := Lib.hid (show (bndB k n m j).take q = bndB k n m j from List.take_of_length_le (by rw [HL.out]; omega))
                have i2 : decide ((q : Int) < (L : Int)) = false := decide_eq_false (by omega)
                have i3 : decide (q < L) = false := decide_eq_false (by omega)
                have HX := Lib.hid (And.intro hsq hBq)
                clear HGq hsq hBq hqL
                go_wp2
                go_meet
                exact ⟨mb, rfl, by have := HX.out.1; rwa [HTk.out] at this, HX.out.2⟩
        case rest =>
        obtain ⟨bi, h12, hseti, hbX⟩ := hcut
        subst h12
        obtain ⟨X, rfl⟩ : ∃ X, X = wc := ⟨_, rfl⟩
        have hbVX := H4.out.2.2.trans (hbX.mono H4.out.2.2.size)
        have hRX := HT.out.2.1.keep hbVX
        have hpX := (hbVX.block _ HT.out.2.2.2.2.2.2.2.2.2.2.2.2.1).trans HT.out.2.2.2.2.2.2.2.2.2.2.2.1
        have p0 := cell_of_row X wr.heap.size 0 _ _ (0, 0) hpX
        have p1 := cell_of_row X wr.heap.size 1 _ _ (0, 0) hpX
        have p2 := cell_of_row X wr.heap.size 2 _ _ (0, 0) hpX
        have p3 := cell_of_row X wr.heap.size 3 _ _ (0, 0) hpX
        have p4 := cell_of_row X wr.heap.size 4 _ _ (0, 0) hpX
        have p5 := cell_of_row X wr.heap.size 5 _ _ (0, 0) hpX
        simp at p0 p1 p2 p3 p4 p5
        have hslX : s'.Sl X X.heap.size A' c' := by
          obtain ⟨gc, gm, gs⟩ := HT.out.2.2.2.2.2.2.2.2.2.2.2.2.2.2.2.2.2.1
          have h1 : s'.Sl wr w.heap.size A' c' := ⟨gc, gm, gs⟩
          exact h1.keep hRX.bw.size fun p hp => (hRX.bw.cell hp).trans (HT.out.2.2.2.2.2.2.2.2.2.2.1.cell hp).symm
        have hcall := HT.out.2.2.2.1 k' n' m' i' d' A' c' bi (sc ++ bndB k n m j) X hslX HT.out.2.2.2.2.2.2.2.2.2.2.2.2.2.1 HT.out.2.2.2.2.2.2.2.2.2.2.2.2.2.2.1 HT.out.2.2.2.2.2.1 (HH.out.2.2.1.trans (hRX.bw.mono HH.out.2.2.1.size)) hseti (by
          have := HT.out.2.2.2.2.2.2.2.2.2.1
          have := HBs.out.2
          rw [List.length_append]
          omega)
        obtain ⟨q, Hq'⟩ : ∃ q, Hid (rebN g ⟨k', n', m', i', d'⟩ s'.pt (sc ++ bndB k n m j) = q) := ⟨_, Lib.hid rfl⟩
        rw [Hq'.out] at hcall
        obtain ⟨E2, ⟨qk, qn, qm, qi, qd⟩, qt⟩ := q
        have HCall := Lib.hid hcall
        obtain ⟨vA, vc, rfl⟩ := HV.out
        have HRX := Lib.hid hRX
        clear hcall hslX hseti hbX hbVX hRX hpX
        go_wp2_with fail
        refine HCall.out.mono ?_
        rintro e w6 ⟨hb6, ⟨hq0, t', A2, c2, hpt, hsl, rfl⟩ | ⟨hq0, hee⟩⟩
        · simp only at hq0 hpt
          subst hq0
          obtain ⟨W7, hW7⟩ : ∃ q, w6.alloc (.cells #[.int .i64 qk, .string qn, .string qm, .int .i64 qi, .int .i64 qd, .slice A2 t'.len c2] 28) = q := ⟨_, rfl⟩
          have hb67 : Below w6.heap.size w6 W7 := by rw [← hW7]; exact (Below.refl _ _).alloc (Nat.le_refl _) _
          have hx7 : W7.heap[w6.heap.size]? = some (.cells #[.int .i64 qk, .string qn, .string qm, .int .i64 qi, .int .i64 qd, .slice A2 t'.len c2] 28 (0, 0)) := by rw [← hW7]; exact heap_alloc_new _ _
          have hR7 := HRX.out.keep (hb6.trans (hb67.mono hb6.size))
          have b0 := cell_of_row W7 w6.heap.size 0 _ _ (0, 0) hx7
          have b1 := cell_of_row W7 w6.heap.size 1 _ _ (0, 0) hx7
          have b2 := cell_of_row W7 w6.heap.size 2 _ _ (0, 0) hx7
          have b3 := cell_of_row W7 w6.heap.size 3 _ _ (0, 0) hx7
          have b4 := cell_of_row W7 w6.heap.size 4 _ _ (0, 0) hx7
          have b5 := cell_of_row W7 w6.heap.size 5 _ _ (0, 0) hx7
          have n5 := cell_of_row W7 w2.heap.size 5 _ _ (0, 0) hR7.nb
          simp at b0 b1 b2 b3 b4 b5 n5
          have hR8 := hR7.keep ((Below.refl W7.heap.size W7).alloc (Nat.le_refl _) (.cells #[.int .i64 qk, .string qn, .string qm, .int .i64 qi, .int .i64 qd, .slice A2 t'.len c2] 28))
          have HNB := Lib.hid (show ∀ Y : World, (W7.alloc (.cells #[.int .i64 qk, .string qn, .string qm, .int .i64 qi, .int .i64 qd, .slice A2 t'.len c2] 28)).grownBy Y (Value.slice vA t.len vc).ownBlock → Y.cell? ⟨w2.heap.size, 5, none⟩ = some (.slice vA t.len vc) ∧ Y.frozen? ⟨w2.heap.size, 5, none⟩ = false from fun Y hg => by
            have h1 : Y.heap[w2.heap.size]? = _ := (hg.block _ (lt_of_block hR8.nb) (fun e => by have := (World.ownsRow.lt hR8.own _ e.symm).1; omega)).trans hR8.nb
            exact ⟨by simpa using cell_of_row Y _ 5 _ _ (0, 0) h1, frozen_of_row Y _ 5 _ _ h1⟩)
          have HSl := Lib.hid (show t'.SlP (W7.alloc (.cells #[.int .i64 qk, .string qn, .string qm, .int .i64 qi, .int .i64 qd, .slice A2 t'.len c2] 28)) (fun q => w2.heap.size < q ∧ q < (W7.alloc (.cells #[.int .i64 qk, .string qn, .string qm, .int .i64 qi, .int .i64 qd, .slice A2 t'.len c2] 28)).heap.size ∧ (Value.slice vA t.len vc).ownBlock ≠ some q) A2 c2 by
            have hz67 := hb67.size
            have hbX2 := lt_of_block HRX.out.nb
            refine hsl.keep (fun k hk => ⟨by omega, by simp; omega, fun e => ?_⟩) fun p hp => ?_
            · have := (World.ownsRow.lt HRX.out.own _ e).2
              omega
            · exact (World.cell?_alloc_lt W7 _ p (by omega)).trans (hb67.cell hp.2))
          have htl := HT.out.2.2.2.2.2.2.2.1
          have hjs := HT.out.2.2.2.2.2.2.2.2.2.2.2.2.2.2.2.1
          have HO7 := Lib.hid hR7.own
          have HR8 := Lib.hid hR8
          have HPt := Lib.hid hpt
          clear hb6 hsl hb67 hx7 hR7 hR8 hpt p0 p1 p2 p3 p4 p5
          have m1 : t.len + 1 ≤ maxLen := by unfold maxLen; omega
          have m2 : (t.len + 1) * 80 ≤ 140737488355328 := by omega
          have m3 : w2.heap.size + 1 ≤ (W7.alloc (.cells #[.int .i64 qk, .string qn, .string qm, .int .i64 qi, .int .i64 qd, .slice A2 t'.len c2] 28)).heap.size := by have := lt_of_block HR8.out.nb; omega
          have HM := Lib.hid (And.intro m1 (And.intro m2 m3))
          clear m1 m2 m3 htl hjs
          go_wp2_with (at_builtin; refine wpList_append_own_at _ rfl _ _ 26 rfl (w2.heap.size + 1) 28 i0 _ 6 80 Tryz.underlying26 hi hz0 hz1 hz2 rfl (by decide) _ _ _ rfl (HO7.out.alloc _) ⟨W7.heap.size, 0, none⟩ 1 1 [.int .i64 qk, .string qn, .string qm, .int .i64 qi, .int .i64 qd, .slice A2 t'.len c2] rfl rfl (newsE_at (heap_alloc_new _ _)) (by simp [Value.oneCell']) HM.out.1 HM.out.2.1 HM.out.2.2 ?_; intro v9 w9 hown9 hg9 _ hat9; have HS9 := Lib.hid (And.intro hown9 (And.intro hg9 hat9)); obtain ⟨n9, f9⟩ := HNB.out w9 hg9; obtain ⟨g9, c9, rfl⟩ := ownsRow_succ hown9; clear hown9 hg9 hat9)
          go_roundg r'.len
          case measure => rw [HT.out.1]; omega
          case rel =>
            have hP := HR8.out.push HS9.out.2.1 HSl.out HS9.out.1 HS9.out.2.2
            have htl := HT.out.2.2.2.2.2.2.2.1
            have hjs := HT.out.2.2.2.2.2.2.2.2.2.2.2.2.2.2.2.1
            refine ⟨j + 1, r', t.app (.cons qk qn qm qi qd A2 c2 t' .nil), _, rfl, by omega, by go_num, HT.out.2.2.2.2.1, HT.out.2.2.2.2.2.2.1, fun hne => ⟨bb, o, rfl, HT.out.2.2.2.2.2.2.2.2.2.2.2.2.2.2.2.2.1, ?_⟩, hP, by rw [Fo.len_app]; simp only [Fo.len]; omega, Lib.hid ?_, ?_, ?_⟩
            · have h1 := HT.out.2.2.1
              rw [show o + j * 6 + 6 = o + (j + 1) * 6 by omega] at h1
              exact h1.keep (Nat.le_refl _) (fun p hp => (hP.bw.cell hp).trans (HT.out.2.2.2.2.2.2.2.2.2.2.1.cell hp).symm) HT.out.2.2.2.2.2.2.2.2.2.2.2.2.2.2.2.2.1
            · rw [HT.out.2.2.2.2.2.2.2.2.1.out, Fo.pt, RbJ_step Hq'.out rfl, Fo.pt_app]
              simp only [Fo.pt, HPt.out]
            · exact HH.out.2.2.2.1.keep (hP.bw.block _ HH.out.2.2.2.1.lt)
            · have := HT.out.2.2.2.2.2.2.2.2.2.1
              omega
        · simp only at hq0
          obtain ⟨zk, zn, zm, zi, zd, zA, zl, zc, rfl⟩ : ∃ zk zn zm zi zd zA zl zc, e = .returned (.tuple #[.agg #[.int .i64 zk, .string zn, .string zm, .int .i64 zi, .int .i64 zd, .slice zA zl zc], .int .i64 E2]) := ⟨_, _, _, _, _, _, _, _, hee⟩
          obtain ⟨W7, hW7⟩ : ∃ q, w6.alloc (.cells #[.int .i64 zk, .string zn, .string zm, .int .i64 zi, .int .i64 zd, .slice zA zl zc] 28) = q := ⟨_, rfl⟩
          have hb67 : Below w6.heap.size w6 W7 := by rw [← hW7]; exact (Below.refl _ _).alloc (Nat.le_refl _) _
          have hR7 := HRX.out.keep (hb6.trans (hb67.mono hb6.size))
          have hq1 : (E2 != 0) = true := by simpa using hq0
          have HQ := Lib.hid (show rebN g ⟨k, n, m, i, d⟩ s.pt sc = (E2, ⟨0, ⟨#[]⟩, ⟨#[]⟩, 0, 0⟩, .nil) by
            rw [rebN, Hq.out]
            simp only
            rw [HT.out.2.2.2.2.2.2.2.2.1.out, Fo.pt, RbJ_err Hq'.out hq0]
            simp only
            first | rw [if_pos trivial, if_neg hq0] | rw [if_pos rfl, if_neg hq0])
          have HE0 := Lib.hid hq0
          have HB7 := Lib.hid hR7.bw
          obtain ⟨y0, y1, y2, y3, y4, y5, z0, z1, z2, z3, z4, z5⟩ := row6 hR7.rs
          have HS := Lib.hid (hex_set hR7.rs (.int .i64 0) (.string ⟨#[]⟩) (.string ⟨#[]⟩) (.int .i64 0) (.int .i64 0) (.slice none 0 0))
          clear hb6 hb67 hR7 hq0 p0 p1 p2 p3 p4 p5
          go_wp2
          obtain ⟨W9, hW9, s0, s1, s2, s3, s4, s5, hBf, hsz, hbk⟩ := out6 HS.out HB7.out (by omega)
          rw [hW9]
          refine bodyPost_ret (v := .tuple #[.agg #[.int .i64 0, .string ⟨#[]⟩, .string ⟨#[]⟩, .int .i64 0, .int .i64 0, .slice none 0 0], .int .i64 E2]) (by simp [results, Tryz.results112, go_sem, s0, s1, s2, s3, s4, s5]) rfl ?_
          rw [HQ.out]
          exact ⟨hBf, .inr ⟨HE0.out, rfl⟩⟩
theorem rebuild_any (w00 : World) (fid : Nat) (lb : Array Value) (g : Repl) (hF : ReplOk w00 fid lb g) (s : Fo) : RbOK w00 fid lb g s := Fo.by_parts (rb_step w00 fid lb g hF) s
end Go.Proofs.YtacjjkbkhpdhnaaGreatDoor
