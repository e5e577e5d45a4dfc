/- testselect in plain words: the tests of modules -/
import Derived.Test.YtdobpmbgngomlaaGreatDoorZlt
import Derived.Test.YtdobpmbgngomlaaGreatDoorDcs
import Derived.Test.YtdobpmbgngomlaaGreatDoorZlw
import Derived.Test.YtdobpmbgngomlaaGreatDoorZls
namespace Go.Proofs.YtdobpmbgngomlaaGreatDoor
open Go.RowKit Go.Proofs Go.Shelf

def tstO : Option Dc → Bool
  | some x => decide (x.kind = 2)
  | none => false
/-- Whether a name is that of a test. -/
def isT (l : List Mo) (n : ByteArray × Int) : Bool := tstO (bodyOf l n)
def rawN (l : List Mo) : List (ByteArray × Int) := l.flatMap fun m => m.ds.map fun d => (m.label, d.id)
/-- The tests, in order. -/
def testsOf (l : List Mo) : List (ByteArray × Int) := ordN ((rawN l).filter (isT l))
theorem isT_body {l : List Mo} {n : ByteArray × Int} (h : isT l n = true) : ∃ x, bodyOf l n = some x := by
  unfold isT at h
  cases hb : bodyOf l n with
  | none => rw [hb] at h; cases h
  | some x => exact ⟨x, rfl⟩
theorem mem_rawN {l : List Mo} {n : ByteArray × Int} {x : Dc} (h : bodyOf l n = some x) : n ∈ rawN l := by
  obtain ⟨m, hm, hd, hl, hi⟩ := bodyOf_mem h
  exact List.mem_flatMap.2 ⟨m, hm, List.mem_map.2 ⟨x, hd, Prod.ext hl hi⟩⟩
theorem rawN_len (l : List Mo) : (rawN l).length = totD l := by
  simp [rawN, totD, List.length_flatMap]
theorem testsOf_sorted (l : List Mo) : (testsOf l).Pairwise ltN := ordN_sorted _
theorem mem_testsOf (l : List Mo) (n : ByteArray × Int) : n ∈ testsOf l ↔ isT l n = true := by
  unfold testsOf
  rw [mem_ordN, List.mem_filter]
  refine ⟨fun h => h.2, fun h => ⟨?_, h⟩⟩
  obtain ⟨x, hx⟩ := isT_body h
  exact mem_rawN hx
theorem testsOf_len (l : List Mo) : (testsOf l).length ≤ totD l := by
  have h1 := ordN_len ((rawN l).filter (isT l))
  have h2 := List.length_filter_le (isT l) (rawN l)
  have h3 := rawN_len l
  unfold testsOf
  omega
/-- What has been collected. -/
def TsI (g : ByteArray × Int → Option Dc) (acc : List (ByteArray × Int)) : Prop := acc.Nodup ∧ ∀ n, n ∈ acc ↔ tstO (g n) = true
theorem TsI.cong {g g' : ByteArray × Int → Option Dc} {acc : List (ByteArray × Int)} (h : TsI g acc) (e : ∀ n, g' n = g n) : TsI g' acc := ⟨h.1, fun n => by rw [e]; exact h.2 n⟩
theorem TsI.out {l : List Mo} {acc : List (ByteArray × Int)} (h : TsI (bodyOf l) acc) : sortNames acc = testsOf l := by
  refine ltN_ext (sorted_of_nodup h.1) (testsOf_sorted l) fun x => ?_
  rw [mem_testsOf]
  have : x ∈ sortNames acc ↔ x ∈ acc := List.mem_mergeSort
  rw [this]
  exact h.2 x
theorem TsI.push {l : List Mo} {lb : ByteArray} {ds : List Dc} {d : Dc} {acc : List (ByteArray × Int)} (h : TsI (inB l lb ds) acc) (hn : inB l lb ds (lb, d.id) = none) (hd : d.kind = 2) : TsI (inB l lb (ds ++ [d])) (acc ++ [(lb, d.id)]) := by
  have hni : (lb, d.id) ∉ acc := fun hc => by
    have := (h.2 _).1 hc
    rw [hn] at this
    cases this
  refine ⟨List.nodup_append.2 ⟨h.1, by simp, fun a ha b hb e => by rw [List.mem_singleton.1 hb] at e; subst e; exact hni ha⟩, fun n => ?_⟩
  rw [inB_put hn, List.mem_append, List.mem_singleton]
  by_cases e : n = (lb, d.id)
  · rw [if_pos e]; simp [e, tstO, hd]
  · rw [if_neg e, ← h.2 n]; simp [e]
theorem TsI.pass {l : List Mo} {lb : ByteArray} {ds : List Dc} {d : Dc} {acc : List (ByteArray × Int)} (h : TsI (inB l lb ds) acc) (hn : inB l lb ds (lb, d.id) = none) (hd : d.kind ≠ 2) : TsI (inB l lb (ds ++ [d])) acc := by
  refine ⟨h.1, fun n => ?_⟩
  rw [inB_put hn]
  by_cases e : n = (lb, d.id)
  · rw [if_pos e, e]
    have hni : (lb, d.id) ∉ acc := fun hc => by
      have := (h.2 _).1 hc
      rw [hn] at this
      cases this
    simp [hni, tstO, hd]
  · rw [if_neg e]; exact h.2 n
theorem inB_at {l : List Mo} {lb : ByteArray} {ds : List Dc} (i : Int) : inB l lb ds (lb, i) = declAt ds i := by simp [inB]
theorem declAt_put {ds : List Dc} {d : Dc} (h : declAt ds d.id = none) (i : Int) : (declAt (ds ++ [d]) i).isSome = (decide (i = d.id) || (declAt ds i).isSome) := by
  rw [declAt_snoc]
  by_cases e : i = d.id
  · subst e; rw [h]; simp
  · cases hq : declAt ds i with
    | some x => simp
    | none => simp [e, Ne.symm e]
theorem declAt_skip {ds : List Dc} {d : Dc} (h : (declAt ds d.id).isSome = true) (i : Int) : (declAt (ds ++ [d]) i).isSome = (declAt ds i).isSome := by
  rw [declAt_snoc]
  by_cases e : i = d.id
  · subst e; rw [if_pos h]
  · cases hq : declAt ds i with
    | some x => simp
    | none => simp [Ne.symm e]
end Go.Proofs.YtdobpmbgngomlaaGreatDoor
/- testselect.compareNames; slices.SortFunc and BinarySearchFunc by it -/
namespace Go.Proofs.YtdobpmbgngomlaaGreatDoor
open Go.RowKit Go.Proofs Go.Shelf Go.Sort

set_option maxRecDepth 100000 in
set_option maxHeartbeats 1000000 in
theorem tsCmp_any (a b : ByteArray) (i j : Int) (w : World) : Calls Tryz.prog 52 #[.agg #[.string a, .int .i64 i], .agg #[.string b, .int .i64 j]] w fun e w' => e = .returned (.int .i64 (cmpN a i b j)) ∧ ∃ q os, w' = Sort.grow (w.drewN q) os := by
  obtain ⟨p, Hp⟩ : ∃ p, Hid (cmpB a b = p) := ⟨_, rfl⟩
  obtain ⟨r, Hr⟩ : ∃ r, Hid (cmpZ i j = r) := ⟨_, rfl⟩
  have HE := Lib.hid (show cmpN a i b j = orZ p r by rw [cmpN, Hp.out, Hr.out])
  rw [HE.out]
  obtain ⟨W0, hW0⟩ : ∃ W0, (w.alloc (.cells #[.string a, .int .i64 i] 24)).alloc (.cells #[.string b, .int .i64 j] 24) = W0 := ⟨_, rfl⟩
  have HG0 : Hid (W0 = Sort.grow w (#[.cells #[.string a, .int .i64 i] 24] ++ #[.cells #[.string b, .int .i64 j] 24])) := by
    show _ = _
    rw [← hW0, Sort.alloc_eq_grow, Sort.alloc_eq_grow, Sort.grow_grow]
  have h0 : W0.cell? ⟨w.heap.size, 0, none⟩ = some (.string a) := by subst hW0; go_simp
  have h1 : W0.cell? ⟨w.heap.size, 1, none⟩ = some (.int .i64 i) := by subst hW0; go_simp
  have h2 : W0.cell? ⟨w.heap.size + 1, 0, none⟩ = some (.string b) := by subst hW0; go_simp
  have h3 : W0.cell? ⟨w.heap.size + 1, 1, none⟩ = some (.int .i64 j) := by subst hW0; go_simp
  by_cases hp : p = 0
  · have HO := Lib.hid (show orZ p r = r by simp [orZ, hp])
    rw [HO.out]
    have hp2 : (p != 0) = false := by simpa using hp
    go_enter Tryz.func52, Tryz.ntmps52
    go_wp2_with (first
      | (go_at_call 94; refine (sCompare_any a b _).mono ?_; rintro e w1 ⟨rfl, rfl⟩; rw [Hp.out])
      | (go_at_call 95; refine (cmpI_any i j _).mono ?_; rintro e w1 ⟨rfl, rfl⟩; rw [Hr.out]))
    go_ret
    exact ⟨rfl, 0, _, HG0.out⟩
  · have HO := Lib.hid (show orZ p r = p by simp [orZ, hp])
    rw [HO.out]
    have hp2 : (p != 0) = true := by simpa using hp
    go_enter Tryz.func52, Tryz.ntmps52
    go_wp2_with (go_at_call 94; refine (sCompare_any a b _).mono ?_; rintro e w1 ⟨rfl, rfl⟩; rw [Hp.out])
    go_ret
    exact ⟨rfl, 0, _, HG0.out⟩

theorem cmpLaysT (g n : Nat) (w : World) : CmpLays Tryz.prog 52 #[] encN 2 (fun x y => cmpN x.1 x.2 y.1 y.2) g 0 n w := by
  intro m os dk _ x y
  have h := tsCmp_any x.1 y.1 x.2 y.2 (sortWorldK encN 2 w g 0 m dk os)
  exact h
set_option maxRecDepth 100000 in
theorem sortT_any (l : List (ByteArray × Int)) (base g cap : Nat) (w : World) (h : w.ownsRow base 24 2 (.slice (some ⟨g, 0, none⟩) l.length cap) l.length (namesC l)) (hl : l.length ≤ 1000000) :
    Calls Tryz.prog 51 #[.slice (some ⟨g, 0, none⟩) l.length cap, .func (.func 52) #[] #[]] w (SortP l base g cap w) := by
  have eg := enterFn (fid := 52) rfl rfl rfl
  have hg : g < w.heap.size := (h.lt g rfl).2
  have hc := AnyQ.slices_SortFunc_total Tryz.sortN 2 Tryz.aggName Tryz.sizeName encN (fun _ => rfl) (fun x v hv => by simp [encN] at hv; rcases hv with rfl | rfl <;> rfl) (fun x y => cmpN x.1 x.2 y.1 y.2) swoN 52 #[] g 0 cap l.toArray w eg
    (cmpLaysT g _ w) (holdsN h) hg (by simp; omega) totN
  have e : (l.mergeSort fun x y => !(ltOf (fun x y : ByteArray × Int => cmpN x.1 x.2 y.1 y.2)) y x) = sortNames l := by
    unfold sortNames
    congr 1
    funext x y
    rw [ltOf_names]
  simp only [List.size_toArray] at hc
  rw [e] at hc
  refine Calls.mono hc ?_
  rintro e w' ⟨rfl, n, os, rfl⟩
  exact ⟨⟨_, rfl⟩, ownsN h (by simp [sortNames]), grownN _⟩
end Go.Proofs.YtdobpmbgngomlaaGreatDoor
/- testselect.Tests -/
namespace Go.Proofs.YtdobpmbgngomlaaGreatDoor
open Go.RowKit Go.Proofs Go.Shelf

def intK : KeyT Int where
  ty := 3
  val := .int .i64
  ok i := (Lit.int .i64 i).wf = true
  law := Maps.int_keyed Tryz.underlying3
  key i := .int .i64 i
  tot i h := by simp [keyOf, Tryz.underlying3, mapKey, h]
  inv v kl h := by
    cases v <;> simp [keyOf, Tryz.underlying3, mapKey] at h
    obtain ⟨⟨rfl, h1⟩, _⟩ := h
    exact ⟨_, h1, rfl⟩
  inj a b h := by simpa using h
/-- A row of names is no other block. -/
theorem row_ne {W : World} {base size : Nat} {v : Value} {n k : Nat} {xs : List Value} {o : Obj} (h : W.ownsRow base 24 size v n xs) (hk : W.heap[k]? = some o) (ho : o.isCells = false ∨ ∃ cs t, o = .cells cs t (0, 0) ∧ t ≠ 24) : v.ownBlock ≠ some k := by
  intro e
  rcases h.2 with ⟨rfl, _⟩ | ⟨g, cap, cur, rfl, _, hgb, _⟩
  · cases e
  · simp only [Value.ownBlock, Option.some.injEq] at e
    subst e
    rw [hgb] at hk
    cases hk
    rcases ho with ho | ⟨cs, t, he, hne⟩
    · cases ho
    · simp only [Obj.cells.injEq] at he
      exact hne he.2.1.symm
def seenG (ds : List Dc) (i : Int) : Option Value := if (declAt ds i).isSome = true then some (.bool true) else none
def metG (l : List Mo) (a : ByteArray) : Option Value := if labs l a = true then some (.bool true) else none
def modO (m : Mo) : Obj := .cells #[.string m.label, .slice m.uA m.uses.length m.uc, .slice m.dA m.ds.length m.dc] 41
theorem modO_ne (m : Mo) : (modO m).isCells = false ∨ ∃ cs t, modO m = .cells cs t (0, 0) ∧ t ≠ 24 := .inr ⟨_, _, rfl, by decide⟩
/-- What Tests hands back. -/
def TestsP (l : List Mo) (w : World) (e : Ending) (w' : World) : Prop :=
  ∃ v, e = .returned v ∧ w'.ownsRow w.heap.size 24 2 v (testsOf l).length (namesC (testsOf l)) ∧ Below w.heap.size w w'
set_option maxRecDepth 100000 in
set_option maxHeartbeats 4000000 in
theorem tsTests_any (l : List Mo) (A : Option Addr) (c : Nat) (w : World) (hl : SlM w w.heap.size A c l) (hw : MoW l) (ht : totD l ≤ 1000000) (hll : l.length ≤ 1000) :
    Calls Tryz.prog 23 #[.slice A l.length c] w (TestsP l w) := by
  obtain ⟨i0, hi, hz0', hz1', hz2'⟩ := info_parts Tryz.infoName
  have hmm := @run_makeMap Tryz.prog
  have h1 := hl.1
  have h2 := hl.2.1
  unfold maxLen at h2
  obtain ⟨N, HN⟩ : ∃ Q, Hid (l.length = Q) := ⟨_, Lib.hid rfl⟩
  rw [HN.out] at h1 hll ⊢
  obtain ⟨W0, hW0⟩ : ∃ W0, w.alloc (.map #[] 0) = W0 := ⟨_, rfl⟩
  have hz0 : w.heap.size < W0.heap.size := by subst hW0; simp
  have hB0 : Below w.heap.size w W0 := by subst hW0; exact (Below.refl _ _).alloc (Nat.le_refl _) _
  have hs0 : MapA strK W0 w.heap.size 0 (fun _ => none) := by subst hW0; exact MapA.made strK w
  have HL := Lib.hid (And.intro hl (And.intro hw (And.intro ht (And.intro hB0 hs0))))
  clear hl hw ht hB0 hs0
  go_enter Tryz.func23, Tryz.ntmps23
  go_wp2
  go_loopg [3, 6, 7, 9, 13] N (fun g tv _ _ _ ct wr => ∃ (j : Nat) (acc : List (ByteArray × Int)), g = N - j ∧ j ≤ N ∧ ct = .int .i64 j ∧ TsI (bodyOf (l.take j)) acc ∧ acc.length ≤ totD (l.take j) ∧ wr.ownsRow (w.heap.size + 1) 24 2 tv acc.length (namesC acc) ∧ MapA strK wr w.heap.size j (metG (l.take j)) ∧ Below w.heap.size w wr ∧ w.heap.size < wr.heap.size)
  case atStart => exact ⟨0, [], rfl, by omega, rfl, ⟨by simp, fun n => by simp [bodyOf, tstO]⟩, by simp, World.ownsRow_nil _ _ _ _, HL.out.2.2.2.2.cong fun a _ => rfl, HL.out.2.2.2.1, hz0⟩
  case round =>
    obtain ⟨j, acc, HG, hj, rfl, hI, hal, hrow, hs, hB, hz⟩ := hrel
    obtain ⟨tA, tc, rfl⟩ := own_formN hrow
    have hzw := hB.size
    by_cases hlt : j < N
    · have hlt' : j < l.length := by rw [HN.out]; exact hlt
      have hj3 : l[j]? = some l[j] := List.getElem?_eq_getElem hlt'
      obtain ⟨b, o, rfl, hb, d0, d1, d2, hok⟩ := HL.out.1.at_ hj3
      replace d0 := (hB.cell (p := ⟨b, o + j * 3, none⟩) hb).trans d0
      replace d1 := (hB.cell (p := ⟨b, o + j * 3 + 1, none⟩) hb).trans d1
      replace d2 := (hB.cell (p := ⟨b, o + j * 3 + 2, none⟩) hb).trans d2
      have htot := totD_take hj3
      have hwm := HL.out.2.1 _ (List.mem_of_getElem? hj3)
      have htk : l.take (j + 1) = l.take j ++ [l[j]] := List.take_succ_eq_append_getElem hlt'
      have HT := Lib.hid (And.intro HG (And.intro hI (And.intro hal (And.intro hrow (And.intro hs (And.intro hB (And.intro hok (And.intro htot (And.intro hwm htk)))))))))
      clear HG hI hal hrow hs hB hok htot hwm htk hj3
      generalize l[j] = m at d0 d1 d2 HT
      obtain ⟨label, uA, uc, uses, dA, dc, ds⟩ := m
      simp only [Mo.Ok] at HT d0 d1 d2
      obtain ⟨W1, hW1⟩ : ∃ W1, wr.alloc (.cells #[.string label, .slice uA uses.length uc, .slice dA ds.length dc] 41) = W1 := ⟨_, rfl⟩
      have hb1 : Below wr.heap.size wr W1 := by subst hW1; exact (Below.refl _ _).alloc (Nat.le_refl _) _
      have hz1 : wr.heap.size < W1.heap.size := by subst hW1; simp
      have hm1 : W1.heap[wr.heap.size]? = some (modO ⟨label, uA, uc, uses, dA, dc, ds⟩) := by subst hW1; exact heap_alloc_new _ _
      have f0 : W1.cell? ⟨wr.heap.size, 0, none⟩ = some (.string label) := by subst hW1; go_simp
      have f2 : W1.cell? ⟨wr.heap.size, 2, none⟩ = some (.slice dA ds.length dc) := by subst hW1; go_simp
      have hr1 : W1.ownsRow (w.heap.size + 1) 24 2 (.slice tA acc.length tc) acc.length (namesC acc) := by rw [← hW1]; exact HT.out.2.2.2.1.alloc _
      have hs1 := HT.out.2.2.2.2.1.keep (hb1.block _ (by omega))
      have hlk := hs1.look false Tryz.underlying98 (zeroB_run W1) (a := label) HT.out.2.2.2.2.2.2.2.2.1.1
      simp only [Bool.false_eq_true, if_false] at hlk
      cases hlab : labs (l.take j) label with
      | true =>
        have hmg : metG (l.take j) label = some (.bool true) := by unfold metG; rw [if_pos hlab]
        rw [hmg] at hlk
        change Sem.run Tryz.prog (Instr.lookup 98 (.map (some w.heap.size)) (.string label) false) W1 = .ok (.bool true) W1 at hlk
        have HLab := Lib.hid hlab
        have HB1 := Lib.hid (And.intro hb1 (And.intro hs1 hr1))
        clear hb1 hs1 hr1 hlab hmg hm1
        go_wp2
        go_roundg (N - (j + 1))
        case measure => rw [HT.out.1]; omega
        case rel =>
          refine ⟨j + 1, acc, rfl, by omega, by go_num, ?_, by have := HT.out.2.2.1; have := HT.out.2.2.2.2.2.2.2.1.1; omega, HB1.out.2.2, ?_, HT.out.2.2.2.2.2.1.trans (HB1.out.1.mono (by omega)), by omega⟩
          · refine HT.out.2.1.cong fun n => ?_
            rw [HT.out.2.2.2.2.2.2.2.2.2, bodyOf_snoc]
            by_cases h3 : labs (l.take j) n.1 = true
            · rw [if_pos h3]
            · rw [if_neg h3]
              have h4 : label ≠ n.1 := fun e => h3 (by rw [← e]; exact HLab.out)
              rw [if_neg h4, bodyOf_none (by simpa using h3)]
          · refine (HB1.out.2.1.mono (by omega)).cong ?_
            intro a _
            unfold metG
            rw [HT.out.2.2.2.2.2.2.2.2.2, labs_snoc]
            by_cases h3 : label = a
            · subst h3; simp [HLab.out]
            · simp [h3]
      | false =>
        have hmg : metG (l.take j) label = none := by unfold metG; rw [if_neg (by rw [hlab]; simp)]
        rw [hmg] at hlk
        change Sem.run Tryz.prog (Instr.lookup 98 (.map (some w.heap.size)) (.string label) false) W1 = .ok (.bool false) W1 at hlk
        have HLab := Lib.hid hlab
        have HB1 := Lib.hid (And.intro hb1 (And.intro hs1 (And.intro hr1 hm1)))
        have hdl := HT.out.2.2.2.2.2.2.1.2.1
        have hdc := HT.out.2.2.2.2.2.2.1.2.2.1
        unfold maxLen at hdc
        obtain ⟨M, HM⟩ : ∃ Q, Hid (ds.length = Q) := ⟨_, Lib.hid rfl⟩
        have htt := HT.out.2.2.2.2.2.2.2.1
        rw [HM.out] at hdl f2 htt
        have HTT := Lib.hid htt
        clear hb1 hs1 hlab htt hr1 hm1 hmg
        go_wp2_with (at_mapUpdate; refine wpList_mapPut _ rfl _ _ _ 98 (.inl rfl) strK 4 Tryz.underlying98 w.heap.size j _ rfl HB1.out.2.1 (by unfold maxLen; omega) label HT.out.2.2.2.2.2.2.2.2.1.1 rfl (.bool true) rfl ?_; intro w2 hs2 hg2; have g0 : w2.cell? ⟨wr.heap.size, 0, none⟩ = some (.string label) := (World.cell?_of_block (hg2.block _ hz1 (by simp; omega))).trans f0; have g2 : (w2.alloc (.map #[] 0)).cell? ⟨wr.heap.size, 2, none⟩ = some (.slice dA M dc) := (World.cell?_alloc_lt _ _ _ (by have := hg2.size; simp at this ⊢; omega)).trans ((World.cell?_of_block (hg2.block _ hz1 (by simp; omega))).trans f2))
        obtain ⟨W2, hW2⟩ : ∃ W2, w2.alloc (.map #[] 0) = W2 := ⟨_, rfl⟩
        rw [hW2] at g2 ⊢
        have hz2 : W1.heap.size ≤ w2.heap.size := hg2.size
        have hz3 : w2.heap.size < W2.heap.size := by subst hW2; simp
        have hbl2 : Below w2.heap.size w2 W2 := by subst hW2; exact (Below.refl _ _).alloc (Nat.le_refl _) _
        have hB2 : Below w.heap.size w W2 := ((HT.out.2.2.2.2.2.1.trans (HB1.out.1.mono (by omega))).grown hg2 (by omega) (fun q e => by cases e; omega)).trans (hbl2.mono (by omega))
        have hm2 : W2.heap[wr.heap.size]? = some (modO ⟨label, uA, uc, uses, dA, dc, ds⟩) := (hbl2.block _ (by omega)).trans ((hg2.block _ hz1 (by simp; omega)).trans HB1.out.2.2.2)
        have hr2 : W2.ownsRow (w.heap.size + 1) 24 2 (.slice tA acc.length tc) acc.length (namesC acc) := by rw [← hW2]; exact (own_abides HB1.out.2.2.1 hg2 (fun r e => by cases e; exact HB1.out.2.1.obj)).alloc _
        have hs3 := hs2.keep (hbl2.block _ (by omega))
        have hi3 : MapA intK W2 w2.heap.size 0 (seenG []) := by
          subst hW2
          exact (MapA.made intK w2).cong fun i _ => rfl
        have HS := Lib.hid (And.intro hs3 (And.intro hi3 (And.intro hr2 (And.intro hm2 hB2))))
        clear hs2 hg2 hB2 hm2 hr2 hs3 hi3 hbl2 f0 f2 g0 d0 d1 d2 hlk hW1 hW2
        obtain ⟨wo, rfl⟩ : ∃ wo : World, wo = wr := ⟨_, rfl⟩
        obtain ⟨sb, Hsb⟩ : ∃ sb, Hid (w2.heap.size = sb) := ⟨_, Lib.hid rfl⟩
        rw [Hsb.out] at HS hz2 hz3 ⊢
        go_wp2
        go_loopg [3, 9, 28] M (fun g tv _ ct wr => ∃ (q : Nat) (acc : List (ByteArray × Int)), g = M - q ∧ q ≤ M ∧ ct = .int .i64 q ∧ TsI (inB (l.take j) label (ds.take q)) acc ∧ acc.length ≤ totD (l.take j) + q ∧ wr.ownsRow (w.heap.size + 1) 24 2 tv acc.length (namesC acc) ∧ MapA strK wr w.heap.size (j + 1) (metG (l.take (j + 1))) ∧ MapA intK wr sb q (seenG (ds.take q)) ∧ wr.heap[wo.heap.size]? = some (modO ⟨label, uA, uc, uses, dA, dc, ds⟩) ∧ Below w.heap.size w wr ∧ sb < wr.heap.size)
        case atStart =>
          refine ⟨0, acc, rfl, by omega, rfl, HT.out.2.1.cong fun n => inB_start HLab.out n, HT.out.2.2.1, HS.out.2.2.1, HS.out.1.cong ?_, HS.out.2.1, HS.out.2.2.2.1, HS.out.2.2.2.2, hz3⟩
          intro a _
          unfold metG
          rw [HT.out.2.2.2.2.2.2.2.2.2, labs_snoc]
          by_cases h3 : a = label
          · subst h3; simp
          · simp [h3, Ne.symm h3]
        case round =>
          obtain ⟨q, ac, HG2, hq, rfl, hIq, halq, hrq, hsq, hiq, hmq, hBq, hzq⟩ := hrel
          have m0 : wr.cell? ⟨wo.heap.size, 0, none⟩ = some (.string label) := cell_of_row wr _ 0 _ _ (0, 0) hmq
          by_cases hlt2 : q < M
          · have hlt2' : q < ds.length := by rw [HM.out]; exact hlt2
            have hq3 : ds[q]? = some ds[q] := List.getElem?_eq_getElem hlt2'
            obtain ⟨b2, o2, rfl, hb2, d0, d1, d2, d3, d4, d5, d6, d7, d8, d9, d10, _⟩ := HT.out.2.2.2.2.2.2.1.2.cells_at (fun p hp => hBq.cell hp) hq3
            have hwf := HT.out.2.2.2.2.2.2.2.2.1.2 _ (List.mem_of_getElem? hq3)
            have htk2 : ds.take (q + 1) = ds.take q ++ [ds[q]] := List.take_succ_eq_append_getElem hlt2'
            obtain ⟨tA2, tc2, rfl⟩ := own_formN hrq
            have HQ := Lib.hid (And.intro HG2 (And.intro hIq (And.intro halq (And.intro hrq (And.intro hsq (And.intro hiq (And.intro hmq (And.intro hBq (And.intro hwf htk2)))))))))
            clear HG2 hIq halq hrq hsq hiq hmq hBq hwf htk2 hq3
            generalize ds[q] = x at d0 d1 d2 d3 d4 d5 d6 d7 d8 d9 d10 HQ
            obtain ⟨W3, hW3⟩ : ∃ W3, wr.alloc (.cells #[.int .i64 x.id, .int .i64 x.kind, .bool x.pub, .slice x.nA x.names.length x.nc, .bool x.doubt, .int .i64 x.k, .string x.n, .string x.m, .int .i64 x.i, .int .i64 x.d, .slice x.A x.s.len x.c] 44) = W3 := ⟨_, rfl⟩
            have hb3 : Below wr.heap.size wr W3 := by subst hW3; exact (Below.refl _ _).alloc (Nat.le_refl _) _
            have hz4 : W3.heap.size = wr.heap.size + 1 := by subst hW3; simp
            have i0' : W3.cell? ⟨wr.heap.size, 0, none⟩ = some (.int .i64 x.id) := by subst hW3; go_simp
            have i1' : W3.cell? ⟨wr.heap.size, 1, none⟩ = some (.int .i64 x.kind) := by subst hW3; go_simp
            have hr3 : W3.ownsRow (w.heap.size + 1) 24 2 (.slice tA2 ac.length tc2) ac.length (namesC ac) := by rw [← hW3]; exact HQ.out.2.2.2.1.alloc _
            have hi3 := HQ.out.2.2.2.2.2.1.keep (hb3.block _ hzq)
            have hlk2 := hi3.look false Tryz.underlying99 (zeroB_run W3) (a := x.id) HQ.out.2.2.2.2.2.2.2.2.1
            simp only [Bool.false_eq_true, if_false] at hlk2
            cases hin : declAt (ds.take q) x.id with
            | some y =>
              have hsg : seenG (ds.take q) x.id = some (.bool true) := by unfold seenG; rw [hin]; rfl
              rw [hsg] at hlk2
              change Sem.run Tryz.prog (Instr.lookup 99 (.map (some sb)) (.int .i64 x.id) false) W3 = .ok (.bool true) W3 at hlk2
              have HX := Lib.hid (And.intro hin (And.intro hb3 (And.intro hr3 hi3)))
              clear hin hb3 hr3 hi3 hsg
              go_wp2
              go_roundg (M - (q + 1))
              case measure => rw [HQ.out.1]; omega
              case rel =>
                refine ⟨q + 1, ac, rfl, by omega, by go_num, ?_, by have := HQ.out.2.2.1; omega, HX.out.2.2.1, HQ.out.2.2.2.2.1.keep (HX.out.2.1.block _ (by omega)), ?_, (HX.out.2.1.block _ (by omega)).trans HQ.out.2.2.2.2.2.2.1, HQ.out.2.2.2.2.2.2.2.1.trans (HX.out.2.1.mono (by omega)), by omega⟩
                · refine HQ.out.2.1.cong fun n => ?_
                  rw [HQ.out.2.2.2.2.2.2.2.2.2, inB_skip (by rw [inB_at]; exact HX.out.1)]
                · refine (HX.out.2.2.2.mono (by omega)).cong fun i _ => ?_
                  unfold seenG
                  rw [HQ.out.2.2.2.2.2.2.2.2.2, declAt_skip (by rw [HX.out.1]; rfl)]
            | none =>
              have hsg : seenG (ds.take q) x.id = none := by unfold seenG; rw [hin]; rfl
              rw [hsg] at hlk2
              change Sem.run Tryz.prog (Instr.lookup 99 (.map (some sb)) (.int .i64 x.id) false) W3 = .ok (.bool false) W3 at hlk2
              have hne1 : (Value.slice tA2 ac.length tc2).ownBlock ≠ some sb := by
                obtain ⟨o, ho, hoc⟩ := hi3.obj
                exact row_ne hr3 ho (.inl hoc)
              have hne2 : (Value.slice tA2 ac.length tc2).ownBlock ≠ some wo.heap.size := row_ne hr3 ((hb3.block _ (by omega)).trans HQ.out.2.2.2.2.2.2.1) (modO_ne _)
              have hm3 : W3.cell? ⟨wo.heap.size, 0, none⟩ = some (.string label) := (hb3.cell (p := ⟨wo.heap.size, 0, none⟩) (by simp; omega)).trans m0
              have hbd : ac.length ≤ 1000000 := by have := HQ.out.2.2.1; have := HTT.out; have := HL.out.2.2.1; omega
              have HX := Lib.hid (And.intro hin (And.intro hb3 (And.intro hr3 (And.intro hi3 (And.intro hne1 hne2)))))
              clear hin hb3 hr3 hi3 hsg hne1 hne2
              have hq4 : q < maxLen := by have := HTT.out; have := HL.out.2.2.1; unfold maxLen; omega
              have hsbw : wo.heap.size < sb := by omega
              have hw3 : wr.heap.size < W3.heap.size := by omega
              have ho3 : wo.heap.size < W3.heap.size := by omega
              have hown0 : ∀ k, (Value.slice tA2 ac.length tc2).ownBlock = some k → w.heap.size + 1 ≤ k := fun k hk => (HX.out.2.2.1.lt k hk).1
              have HF := Lib.hid hown0
              clear hown0
              by_cases hk2 : x.kind = 2
              · have hk3 : (x.kind == 2) = true := by simpa using hk2
                have HK2 := Lib.hid hk2
                clear hk2
                go_wp2_with (first
                  | (at_mapUpdate; refine wpList_mapPut _ rfl _ _ _ 99 (.inl rfl) intK 4 Tryz.underlying99 sb q _ rfl HX.out.2.2.2.1 hq4 x.id HQ.out.2.2.2.2.2.2.2.2.1 rfl (.bool true) rfl ?_; intro w8 hs8 hg8; have z0 : w8.cell? ⟨wr.heap.size, 0, none⟩ = some (.int .i64 x.id) := (World.cell?_of_block (hg8.block _ hw3 (by simp; omega))).trans i0'; have z1 : w8.cell? ⟨wr.heap.size, 1, none⟩ = some (.int .i64 x.kind) := (World.cell?_of_block (hg8.block _ hw3 (by simp; omega))).trans i1'; have zm : w8.cell? ⟨wo.heap.size, 0, none⟩ = some (.string label) := (World.cell?_of_block (hg8.block _ ho3 (by simp; omega))).trans hm3; have HROW8 := Lib.hid (own_abides HX.out.2.2.1 hg8 (fun r e => by cases e; exact HX.out.2.2.2.1.obj)); have hz8 := hg8.size; have HS8 := Lib.hid (And.intro hs8 hg8); clear hs8 hg8)
                  | (at_builtin; refine wpList_append_own_at _ rfl _ _ 30 rfl (w.heap.size + 1) 24 i0 _ 2 24 Tryz.underlying30 hi hz0' hz1' hz2' rfl (by decide) _ _ _ rfl (HROW8.out.alloc _) ⟨w8.heap.size, 0, none⟩ 1 1 [.string label, .int .i64 x.id] rfl rfl (cell_pair_new _ _ _ _) (by simp [Value.oneCell']) (by unfold maxLen; omega) (by omega) (by simp; omega) ?_; intro v9 w9 hown9 hg9 _ hat9; have HS9 := Lib.hid (And.intro hown9 (And.intro hg9 hat9)); obtain ⟨g9, c9, rfl⟩ := ownsRow_succ hown9; clear hown9 hg9 hat9))
                go_roundg (M - (q + 1))
                case measure => rw [HQ.out.1]; omega
                case rel =>
                  have hg9 : (w8.alloc (.cells #[.string label, .int .i64 x.id] 24)).grownBy w9 (Value.slice tA2 ac.length tc2).ownBlock := HS9.out.2.1
                  have hz9 := hg9.size
                  simp at hz9
                  have hblk : ∀ k, k < W3.heap.size → (Value.slice tA2 ac.length tc2).ownBlock ≠ some k → k ≠ sb → w9.heap[k]? = W3.heap[k]? := fun k hk h1 h2 =>
                    (hg9.block k (by simp; omega) (fun e => h1 e.symm)).trans ((Below.heap_alloc _ _ _ (by omega)).trans (HS8.out.2.block k (by omega) (fun e => h2 (by cases e; rfl))))
                  refine ⟨q + 1, ac ++ [(label, x.id)], rfl, by omega, by go_num, ?_, by simp; have := HQ.out.2.2.1; omega, ?_, ?_, ?_, ?_, ?_, by omega⟩
                  · rw [HQ.out.2.2.2.2.2.2.2.2.2]
                    exact HQ.out.2.1.push (by rw [inB_at]; exact HX.out.1) HK2.out
                  · rw [List.length_append, namesC_append]
                    exact HS9.out.1
                  · refine HQ.out.2.2.2.2.1.keep ((hblk _ (by omega) (fun e => ?_) (by omega)).trans (HX.out.2.1.block _ (by omega)))
                    have := HF.out _ e
                    omega
                  · refine (HS8.out.1.keep ((hg9.block _ (by simp; omega) (fun e => HX.out.2.2.2.2.1 e.symm)).trans (Below.heap_alloc _ _ _ (by omega)))).cong fun i _ => ?_
                    unfold seenG
                    rw [HQ.out.2.2.2.2.2.2.2.2.2, declAt_put HX.out.1]
                    by_cases e : i = x.id <;> simp [e]
                  · exact ((hblk _ (by omega) HX.out.2.2.2.2.2 (by omega)).trans (HX.out.2.1.block _ (by omega))).trans HQ.out.2.2.2.2.2.2.1
                  · exact (((HQ.out.2.2.2.2.2.2.2.1.trans (HX.out.2.1.mono (by omega))).grown HS8.out.2 (by omega) (fun q e => by cases e; omega)).alloc (by omega) _).grown hg9 (by simp; omega) (fun k e => by have := HF.out k e; omega)
              · have hk3 : (x.kind == 2) = false := by simpa using hk2
                have HK2 := Lib.hid hk2
                clear hk2
                go_wp2_with (at_mapUpdate; refine wpList_mapPut _ rfl _ _ _ 99 (.inl rfl) intK 4 Tryz.underlying99 sb q _ rfl HX.out.2.2.2.1 hq4 x.id HQ.out.2.2.2.2.2.2.2.2.1 rfl (.bool true) rfl ?_; intro w8 hs8 hg8; have z0 : w8.cell? ⟨wr.heap.size, 0, none⟩ = some (.int .i64 x.id) := (World.cell?_of_block (hg8.block _ hw3 (by simp; omega))).trans i0'; have z1 : w8.cell? ⟨wr.heap.size, 1, none⟩ = some (.int .i64 x.kind) := (World.cell?_of_block (hg8.block _ hw3 (by simp; omega))).trans i1'; have HROW8 := Lib.hid (own_abides HX.out.2.2.1 hg8 (fun r e => by cases e; exact HX.out.2.2.2.1.obj)); have hz8 := hg8.size; have HS8 := Lib.hid (And.intro hs8 hg8); clear hs8 hg8)
                go_roundg (M - (q + 1))
                case measure => rw [HQ.out.1]; omega
                case rel =>
                  have hblk : ∀ k, k < W3.heap.size → k ≠ sb → w8.heap[k]? = W3.heap[k]? := fun k hk h2 => HS8.out.2.block k (by omega) (fun e => h2 (by cases e; rfl))
                  refine ⟨q + 1, ac, rfl, by omega, by go_num, ?_, by have := HQ.out.2.2.1; omega, HROW8.out, ?_, ?_, ?_, ?_, by omega⟩
                  · rw [HQ.out.2.2.2.2.2.2.2.2.2]
                    exact HQ.out.2.1.pass (by rw [inB_at]; exact HX.out.1) HK2.out
                  · exact HQ.out.2.2.2.2.1.keep ((hblk _ (by omega) (by omega)).trans (HX.out.2.1.block _ (by omega)))
                  · refine HS8.out.1.cong fun i _ => ?_
                    unfold seenG
                    rw [HQ.out.2.2.2.2.2.2.2.2.2, declAt_put HX.out.1]
                    by_cases e : i = x.id <;> simp [e]
                  · exact ((hblk _ (by omega) (by omega)).trans (HX.out.2.1.block _ (by omega))).trans HQ.out.2.2.2.2.2.2.1
                  · exact (HQ.out.2.2.2.2.2.2.2.1.trans (HX.out.2.1.mono (by omega))).grown HS8.out.2 (by omega) (fun q e => by cases e; omega)
          · obtain rfl : q = M := by omega
            have htk2 : ds.take q = ds := List.take_of_length_le (by rw [HM.out]; exact Nat.le_refl _)
            rw [htk2] at hIq
            obtain ⟨tA2, tc2, rfl⟩ := own_formN hrq
            have HX := Lib.hid (And.intro hIq (And.intro halq (And.intro hrq (And.intro hsq hBq))))
            clear hIq halq hrq hsq hBq HG2 hiq hmq
            go_wp2
            go_roundg (N - (j + 1))
            case measure => rw [HT.out.1]; omega
            case rel =>
              refine ⟨j + 1, ac, rfl, by omega, by go_num, ?_, by have := HX.out.2.1; have := HTT.out; omega, HX.out.2.2.1, HX.out.2.2.2.1, HX.out.2.2.2.2, by omega⟩
              refine HX.out.1.cong fun n => ?_
              rw [HT.out.2.2.2.2.2.2.2.2.2]
              exact (inB_end (m := ⟨label, uA, uc, uses, dA, dc, ds⟩) HLab.out n).symm
    · obtain rfl : j = N := by omega
      have htk : l.take j = l := List.take_of_length_le (by rw [HN.out]; exact Nat.le_refl _)
      rw [htk] at hI hal
      have HX := Lib.hid (And.intro hI (And.intro hrow hB))
      have hsl : acc.length ≤ 1000000 := by have := HL.out.2.2.1; omega
      have HO := Lib.hid hI.out
      have hlen : (sortNames acc).length = acc.length := by simp [sortNames]
      have HLn := Lib.hid hlen
      rcases (refs_tail acc _ _ wr hrow).2 with ⟨hv0, rfl⟩ | ⟨g, cap, hv0⟩
      · simp only [Value.slice.injEq] at hv0
        obtain ⟨rfl, _, rfl⟩ := hv0
        clear hI hrow hB hs htk hal hlen HG
        go_wp2_with fail
        refine (sortN_none none 0 _ _).mono ?_
        rintro e w2 ⟨⟨v2, rfl⟩, rfl⟩
        go_wp2
        go_ret
        refine ⟨.slice none 0 0, rfl, ?_, HX.out.2.2⟩
        rw [← HO.out, show sortNames [] = [] by simp [sortNames]]
        exact World.ownsRow_nil _ _ _ _
      · simp only [Value.slice.injEq, true_and] at hv0
        obtain ⟨rfl, rfl⟩ := hv0
        have HSN := Lib.hid (sortT_any acc (w.heap.size + 1) g tc wr hrow hsl)
        unfold SortP at HSN
        rw [hlen] at HSN
        obtain ⟨N2, HN2⟩ : ∃ Q, Hid (acc.length = Q) := ⟨_, Lib.hid rfl⟩
        rw [HN2.out] at HSN ⊢
        clear hI hrow hB hs htk hal hlen HG hsl
        go_wp2_with fail
        refine HSN.out.mono ?_
        rintro e w2 ⟨⟨v2, rfl⟩, hown2, hg2⟩
        have HX3 := Lib.hid (And.intro hown2 hg2)
        clear hown2 hg2
        go_wp2
        go_ret
        refine ⟨.slice (some ⟨g, 0, none⟩) N2 tc, rfl, ?_, HX.out.2.2.grown HX3.out.2 (by omega) (fun q hq => by cases hq; have := (HX.out.2.1.lt g rfl).1; omega)⟩
        rw [← HO.out, HLn.out, HN2.out]
        exact World.ownsRow.mono HX3.out.1 (by omega)
end Go.Proofs.YtdobpmbgngomlaaGreatDoor
