/- Slices of names that can be read; slices.Equal at names, ref24.SameNames -/
import Derived.Test.YtnfndgmlnoeelaaGreatDoorZls
import Derived.BigQuiet
import Derived.Deep.QuietTactic
import Derived.Test.YtnfndgmlnoeelaaGreatDoorZlt
import Derived.Test.YtnfndgmlnoeelaaGreatDoorDcs
import Derived.Test.YtnfndgmlnoeelaaGreatDoorZlw
import Derived.Test.YtnfndgmlnoeelaaGreatDoorZeg
import Derived.Deep.RegionHeld3
import Derived.Test.YtnfndgmlnoeelaaGreatDoorZlz
import Derived.Test.YtnfndgmlnoeelaaGreatDoorZmd
namespace Go.Proofs.YtnfndgmlnoeelaaGreatDoor
open Go.RowKit Go.Proofs Go.Shelf
def SlN (w : World) (B : Nat) (A : Option Addr) (c : Nat) (l : List (ByteArray × Int)) : Prop:=
 l.length ≤ c ∧ c ≤ maxLen ∧ (l ≠ [] → ∃ b o,A = some ⟨b,o,none⟩ ∧ b < B ∧ ∀ j x,l[j]? = some x → w.cell? ⟨b,o + j * 2,none⟩ = some (.string x.1) ∧ w.cell? ⟨b,o + j * 2 + 1,none⟩ = some (.int .i64 x.2))
theorem SlN.keep {w w' : World} {B B' : Nat} {A : Option Addr} {c : Nat} {l : List (ByteArray × Int)} (h : SlN w B A c l) (hB : B ≤ B') (hk : ∀ p : Addr,p.block < B → w'.cell? p = w.cell? p) : SlN w' B' A c l:=
 ⟨h.1,h.2.1,fun hne => by
  obtain ⟨b,o,e,hb,hs⟩:=h.2.2 hne
  exact ⟨b,o,e,Nat.lt_of_lt_of_le hb hB,fun j x hj => ⟨(hk _ hb).trans (hs j x hj).1,(hk _ hb).trans (hs j x hj).2⟩⟩⟩
theorem SlN.below {w w' : World} {A : Option Addr} {c : Nat} {l : List (ByteArray × Int)} (h : SlN w w.heap.size A c l) (hb : Below w.heap.size w w') : SlN w' w'.heap.size A c l:=h.keep hb.size fun _ hp => hb.cell hp
theorem SlN.of_own {w : World} {base : Nat} {A : Option Addr} {c : Nat} {l : List (ByteArray × Int)} (h : w.ownsRow base 24 2 (.slice A l.length c) l.length (namesC l)) : SlN w w.heap.size A c l:=by
 rcases h.2 with ⟨h1,h2⟩ | ⟨g,cap,cur,h1,hb,hg,h3,h4,_⟩
 ·simp only [Value.slice.injEq] at h1
  exact ⟨by omega,by rw [h1.2.2];exact Nat.zero_le _,fun hne => absurd (List.length_eq_zero_iff.1 h2) hne⟩
 ·simp only [Value.slice.injEq,true_and] at h1
  obtain ⟨rfl,rfl⟩:=h1
  refine ⟨h3,h4,fun _ => ⟨g,0,rfl,(Array.getElem?_eq_some_iff.1 hg).1,fun j x hj => ?_⟩⟩
  have hlt:=(List.getElem?_eq_some_iff.1 hj).1
  obtain ⟨n0,n1⟩:=namesC_at x l j hj
  rw [Nat.zero_add]
  exact ⟨(h.cellAt _ (by omega)).trans n0,(h.cellAt _ (by omega)).trans n1⟩
theorem eq_take {l l' : List (ByteArray × Int)} (h : l.length = l'.length) (hall : ∀ k < l.length,l[k]? = l'[k]?) : l = l':=by
 apply List.ext_getElem?
 intro k
 by_cases hk : k < l.length
 ·exact hall k hk
 ·rw [List.getElem?_eq_none (by omega),List.getElem?_eq_none (by omega)]
set_option maxRecDepth 100000 in
set_option maxHeartbeats 2000000 in
theorem slcEqualSl_any (l l' : List (ByteArray × Int)) (A : Option Addr) (c : Nat) (A' : Option Addr) (c' : Nat) (w : World) (hs : SlN w w.heap.size A c l) (hs' : SlN w w.heap.size A' c' l') :
  Calls Tryz.prog 19 #[.slice A l.length c,.slice A' l'.length c'] w fun e w' => e = .returned (.bool (decide (l = l'))) ∧ ∃ q,w' = w.drewN q:=by
 have h1:=hs.1
 have h2:=hs.2.1
 have h1':=hs'.1
 have h2':=hs'.2.1
 unfold maxLen at h2 h2'
 obtain ⟨N,HN⟩ : ∃ Q,Hid (l.length = Q):=⟨_,Lib.hid rfl⟩
 obtain ⟨N',HN'⟩ : ∃ Q,Hid (l'.length = Q):=⟨_,Lib.hid rfl⟩
 have HO:=Lib.hid (And.intro hs hs')
 obtain ⟨E,HE⟩ : ∃ Q,Hid (decide (l = l') = Q):=⟨_,Lib.hid rfl⟩
 rw [HN.out] at h1 ⊢
 rw [HN'.out] at h1' ⊢
 rw [HE.out]
 clear hs hs'
 go_enter Tryz.func19,Tryz.ntmps19
 by_cases hne : N = N'
 ·subst hne
  go_wp2
  go_loopg [5,13] N (fun gg _ ct wr => ∃ j : Nat,gg = N - j ∧ j ≤ N ∧ ct = .int .i64 j ∧ (∀ k < j,l[k]? = l'[k]?) ∧ ∃ q,wr = w.drewN q)
  case atStart => exact ⟨0,rfl,by omega,rfl,fun k hk => absurd hk (Nat.not_lt_zero _),0,rfl⟩
  case round =>
   obtain ⟨j,HG,hj,rfl,hall,q,rfl⟩:=hrel
   by_cases hlt : j < N
   ·have hlt1 : j < l.length:=by rw [HN.out];exact hlt
    have hlt2 : j < l'.length:=by rw [HN'.out];exact hlt
    obtain ⟨y,hy⟩ : ∃ y,l[j]? = some y:=⟨_,List.getElem?_eq_getElem hlt1⟩
    obtain ⟨z,hz⟩ : ∃ y,l'[j]? = some y:=⟨_,List.getElem?_eq_getElem hlt2⟩
    obtain ⟨b,o,rfl,hb,hc⟩:=HO.out.1.2.2 (by intro e;rw [e] at hlt1;simp at hlt1)
    obtain ⟨b',o',rfl,hb',hc'⟩:=HO.out.2.2.2 (by intro e;rw [e] at hlt2;simp at hlt2)
    obtain ⟨c0,c1⟩:=hc j y hy
    obtain ⟨d0,d1⟩:=hc' j z hz
    have hE:=run_neqN y.1 z.1 y.2 z.2
    have hj0 : (0 : Int) ≤ (j : Int):=by omega
    have hj1 : (j : Int) < (N : Int):=by omega
    have HM:=Lib.hid (And.intro HG (And.intro hall (And.intro hy hz)))
    clear HG hall hy hz hc hc'
    cases he : eqN y z with
    | true =>
     have HEQ:=Lib.hid (eqN_iff.1 he)
     have he2 : ((y.1.toList == z.1.toList) && (y.2 == z.2)) = true:=he
     rw [he2] at hE
     clear he he2
     go_wp2_with fail
     go_quiet (fail)
     clear c0 c1 d0 d1 hE
     go_wp2
     go_roundg (N - (j + 1))
     case measure => rw [HM.out.1];omega
     case rel =>
      refine ⟨j + 1,rfl,by omega,by go_num,fun k hk => ?_,q + nq,by simp [World.drewN]⟩
      by_cases e : k = j
      ·rw [e,HM.out.2.2.1,HM.out.2.2.2,HEQ.out]
      ·exact HM.out.2.1 k (by omega)
    | false =>
     have HEQ:=Lib.hid (show E = false by
      rw [← HE.out,decide_eq_false_iff_not]
      intro e
      have h3:=HM.out.2.2.1
      rw [e,HM.out.2.2.2] at h3
      cases h3
      rw [eqN_iff.2 rfl] at he
      cases he)
     have he2 : ((y.1.toList == z.1.toList) && (y.2 == z.2)) = false:=he
     rw [he2] at hE
     clear he he2
     go_wp2_with fail
     go_quiet (fail)
     clear c0 c1 d0 d1 hE
     go_wp2
     go_ret
     exact ⟨by rw [HEQ.out];rfl,q + nq,by simp [World.drewN,Nat.add_assoc]⟩
   ·obtain rfl : j = N:=by omega
    have HEQ:=Lib.hid (show E = true by
     rw [← HE.out,decide_eq_true_iff]
     exact eq_take (by rw [HN.out,HN'.out]) (by rw [HN.out];exact hall))
    clear hall HG
    go_wp2
    go_ret
    exact ⟨by rw [HEQ.out];rfl,_,rfl⟩
 ·have HEQ:=Lib.hid (show E = false by
   rw [← HE.out,decide_eq_false_iff_not]
   intro e
   exact hne (by rw [← HN.out,← HN'.out,e]))
  have hn1 : ((N : Int) != (N' : Int)) = true:=by simpa using (by omega : ¬ (N : Int) = (N' : Int))
  have hn2 : (N != N') = true:=by simpa using hne
  go_wp2
  go_ret
  exact ⟨by rw [HEQ.out];rfl,0,rfl⟩
end Go.Proofs.YtnfndgmlnoeelaaGreatDoor
/- testselect in plain words: the tests of modules -/
namespace Go.Proofs.YtnfndgmlnoeelaaGreatDoor
open Go.RowKit Go.Proofs Go.Shelf
def tstO : Option Dc → Bool
 | some x => decide (x.kind = 2)
 | none => false
def isT (l : List Mo) (n : ByteArray × Int) : Bool:=tstO (bodyOf l n)
def rawN (l : List Mo) : List (ByteArray × Int):=l.flatMap fun m => m.ds.map fun d => (m.label,d.id)
def testsOf (l : List Mo) : List (ByteArray × Int):=ordN ((rawN l).filter (isT l))
theorem isT_body {l : List Mo} {n : ByteArray × Int} (h : isT l n = true) : ∃ x,bodyOf l n = some x:=by
 unfold isT at h
 cases hb : bodyOf l n with
 | none => rw [hb] at h;cases h
 | some x => exact ⟨x,rfl⟩
theorem mem_rawN {l : List Mo} {n : ByteArray × Int} {x : Dc} (h : bodyOf l n = some x) : n ∈ rawN l:=by
 obtain ⟨m,hm,hd,hl,hi⟩:=bodyOf_mem h
 exact List.mem_flatMap.2 ⟨m,hm,List.mem_map.2 ⟨x,hd,Prod.ext hl hi⟩⟩
theorem rawN_len (l : List Mo) : (rawN l).length = totD l:=by
 simp [rawN,totD,List.length_flatMap]
theorem testsOf_sorted (l : List Mo) : (testsOf l).Pairwise ltN:=ordN_sorted _
theorem mem_testsOf (l : List Mo) (n : ByteArray × Int) : n ∈ testsOf l ↔ isT l n = true:=by
 unfold testsOf
 rw [mem_ordN,List.mem_filter]
 refine ⟨fun h => h.2,fun h => ⟨?_,h⟩⟩
 obtain ⟨x,hx⟩:=isT_body h
 exact mem_rawN hx
theorem testsOf_len (l : List Mo) : (testsOf l).length ≤ totD l:=by
 have h1:=ordN_len ((rawN l).filter (isT l))
 have h2:=List.length_filter_le (isT l) (rawN l)
 have h3:=rawN_len l
 unfold testsOf
 omega
def TsI (g : ByteArray × Int → Option Dc) (acc : List (ByteArray × Int)) : Prop:=acc.Nodup ∧ ∀ n,n ∈ acc ↔ tstO (g n) = true
theorem TsI.cong {g g' : ByteArray × Int → Option Dc} {acc : List (ByteArray × Int)} (h : TsI g acc) (e : ∀ n,g' n = g n) : TsI g' acc:=⟨h.1,fun n => by rw [e];exact h.2 n⟩
theorem TsI.out {l : List Mo} {acc : List (ByteArray × Int)} (h : TsI (bodyOf l) acc) : sortNames acc = testsOf l:=by
 refine ltN_ext (sorted_of_nodup h.1) (testsOf_sorted l) fun x => ?_
 rw [mem_testsOf]
 have : x ∈ sortNames acc ↔ x ∈ acc:=List.mem_mergeSort
 rw [this]
 exact h.2 x
theorem TsI.push {l : List Mo} {lb : ByteArray} {ds : List Dc} {d : Dc} {acc : List (ByteArray × Int)} (h : TsI (inB l lb ds) acc) (hn : inB l lb ds (lb,d.id) = none) (hd : d.kind = 2) : TsI (inB l lb (ds ++ [d])) (acc ++ [(lb,d.id)]):=by
 have hni : (lb,d.id) ∉ acc:=fun hc => by
  have:=(h.2 _).1 hc
  rw [hn] at this
  cases this
 refine ⟨List.nodup_append.2 ⟨h.1,by simp,fun a ha b hb e => by rw [List.mem_singleton.1 hb] at e;subst e;exact hni ha⟩,fun n => ?_⟩
 rw [inB_put hn,List.mem_append,List.mem_singleton]
 by_cases e : n = (lb,d.id)
 ·rw [if_pos e];simp [e,tstO,hd]
 ·rw [if_neg e,← h.2 n];simp [e]
theorem TsI.pass {l : List Mo} {lb : ByteArray} {ds : List Dc} {d : Dc} {acc : List (ByteArray × Int)} (h : TsI (inB l lb ds) acc) (hn : inB l lb ds (lb,d.id) = none) (hd : d.kind ≠ 2) : TsI (inB l lb (ds ++ [d])) acc:=by
 refine ⟨h.1,fun n => ?_⟩
 rw [inB_put hn]
 by_cases e : n = (lb,d.id)
 ·rw [if_pos e,e]
  have hni : (lb,d.id) ∉ acc:=fun hc => by
   have:=(h.2 _).1 hc
   rw [hn] at this
   cases this
  simp [hni,tstO,hd]
 ·rw [if_neg e];exact h.2 n
theorem inB_at {l : List Mo} {lb : ByteArray} {ds : List Dc} (i : Int) : inB l lb ds (lb,i) = declAt ds i:=by simp [inB]
theorem declAt_put {ds : List Dc} {d : Dc} (h : declAt ds d.id = none) (i : Int) : (declAt (ds ++ [d]) i).isSome = (decide (i = d.id) || (declAt ds i).isSome):=by
 rw [declAt_snoc]
 by_cases e : i = d.id
 ·subst e;rw [h];simp
 ·cases hq : declAt ds i with
  | some x => simp
  | none => simp [e,Ne.symm e]
theorem declAt_skip {ds : List Dc} {d : Dc} (h : (declAt ds d.id).isSome = true) (i : Int) : (declAt (ds ++ [d]) i).isSome = (declAt ds i).isSome:=by
 rw [declAt_snoc]
 by_cases e : i = d.id
 ·subst e;rw [if_pos h]
 ·cases hq : declAt ds i with
  | some x => simp
  | none => simp [Ne.symm e]
end Go.Proofs.YtnfndgmlnoeelaaGreatDoor
/- testselect.compareNames; slices.SortFunc and BinarySearchFunc by it -/
namespace Go.Proofs.YtnfndgmlnoeelaaGreatDoor
open Go.RowKit Go.Proofs Go.Shelf Go.Sort

set_option maxRecDepth 100000 in
set_option maxHeartbeats 1000000 in
theorem tsCmp_any (a b : ByteArray) (i j : Int) (w : World) : Calls Tryz.prog 69 #[.agg #[.string a,.int .i64 i],.agg #[.string b,.int .i64 j]] w fun e w' => e = .returned (.int .i64 (cmpN a i b j)) ∧ ∃ q os,w' = Sort.grow (w.drewN q) os:=by
 obtain ⟨p,Hp⟩ : ∃ p,Hid (cmpB a b = p):=⟨_,rfl⟩
 obtain ⟨r,Hr⟩ : ∃ r,Hid (cmpZ i j = r):=⟨_,rfl⟩
 have HE:=Lib.hid (show cmpN a i b j = orZ p r by rw [cmpN,Hp.out,Hr.out])
 rw [HE.out]
 obtain ⟨W0,hW0⟩ : ∃ W0,(w.alloc (.cells #[.string a,.int .i64 i] 24)).alloc (.cells #[.string b,.int .i64 j] 24) = W0:=⟨_,rfl⟩
 have HG0 : Hid (W0 = Sort.grow w (#[.cells #[.string a,.int .i64 i] 24] ++ #[.cells #[.string b,.int .i64 j] 24])):=by
  show _ = _
  rw [← hW0,Sort.alloc_eq_grow,Sort.alloc_eq_grow,Sort.grow_grow]
 have h0 : W0.cell? ⟨w.heap.size,0,none⟩ = some (.string a):=by subst hW0;go_simp
 have h1 : W0.cell? ⟨w.heap.size,1,none⟩ = some (.int .i64 i):=by subst hW0;go_simp
 have h2 : W0.cell? ⟨w.heap.size + 1,0,none⟩ = some (.string b):=by subst hW0;go_simp
 have h3 : W0.cell? ⟨w.heap.size + 1,1,none⟩ = some (.int .i64 j):=by subst hW0;go_simp
 by_cases hp : p = 0
 ·have HO:=Lib.hid (show orZ p r = r by simp [orZ,hp])
  rw [HO.out]
  have hp2 : (p != 0) = false:=by simpa using hp
  go_enter Tryz.func69,Tryz.ntmps69
  go_wp2_with (first
   | (go_at_call 75;refine (sCompare_any a b _).mono ?_;rintro e w1 ⟨rfl,rfl⟩;rw [Hp.out])
   | (go_at_call 76;refine (cmpI_any i j _).mono ?_;rintro e w1 ⟨rfl,rfl⟩;rw [Hr.out]))
  go_ret
  exact ⟨rfl,0,_,HG0.out⟩
 ·have HO:=Lib.hid (show orZ p r = p by simp [orZ,hp])
  rw [HO.out]
  have hp2 : (p != 0) = true:=by simpa using hp
  go_enter Tryz.func69,Tryz.ntmps69
  go_wp2_with (go_at_call 75;refine (sCompare_any a b _).mono ?_;rintro e w1 ⟨rfl,rfl⟩;rw [Hp.out])
  go_ret
  exact ⟨rfl,0,_,HG0.out⟩

theorem cmpLaysT (g n : Nat) (w : World) : CmpLays Tryz.prog 69 #[] encN 2 (fun x y => cmpN x.1 x.2 y.1 y.2) g 0 n w:=by
 intro m os dk _ x y
 have h:=tsCmp_any x.1 y.1 x.2 y.2 (sortWorldK encN 2 w g 0 m dk os)
 exact h
set_option maxRecDepth 100000 in
theorem sortT_any (l : List (ByteArray × Int)) (base g cap : Nat) (w : World) (h : w.ownsRow base 24 2 (.slice (some ⟨g,0,none⟩) l.length cap) l.length (namesC l)) (hl : l.length ≤ 1000000) :
  Calls Tryz.prog 70 #[.slice (some ⟨g,0,none⟩) l.length cap,.func (.func 69) #[] #[]] w (SortP l base g cap w):=by
 have eg:=enterFn (fid:=69) rfl rfl rfl
 have hg : g < w.heap.size:=(h.lt g rfl).2
 have hc:=AnyQ.slices_SortFunc_total Tryz.sortN 2 Tryz.aggName Tryz.sizeName encN (fun _ => rfl) (fun x v hv => by simp [encN] at hv;rcases hv with rfl | rfl <;> rfl) (fun x y => cmpN x.1 x.2 y.1 y.2) swoN 69 #[] g 0 cap l.toArray w eg
  (cmpLaysT g _ w) (holdsN h) hg (by simp;omega) totN
 have e : (l.mergeSort fun x y => !(ltOf (fun x y : ByteArray × Int => cmpN x.1 x.2 y.1 y.2)) y x) = sortNames l:=by
  unfold sortNames
  congr 1
  funext x y
  rw [ltOf_names]
 simp only [List.size_toArray] at hc
 rw [e] at hc
 refine Calls.mono hc ?_
 rintro e w' ⟨rfl,n,os,rfl⟩
 exact ⟨⟨_,rfl⟩,ownsN h (by simp [sortNames]),grownN _⟩
end Go.Proofs.YtnfndgmlnoeelaaGreatDoor
/- testselect.Tests -/
namespace Go.Proofs.YtnfndgmlnoeelaaGreatDoor
open Go.RowKit Go.Proofs Go.Shelf
theorem row_ne {W : World} {base size : Nat} {v : Value} {n k : Nat} {xs : List Value} {o : Obj} (h : W.ownsRow base 24 size v n xs) (hk : W.heap[k]? = some o) (ho : o.isCells = false ∨ ∃ cs t,o = .cells cs t (0,0) ∧ t ≠ 24) : v.ownBlock ≠ some k:=by
 intro e
 rcases h.2 with ⟨rfl,_⟩ | ⟨g,cap,cur,rfl,_,hgb,_⟩
 ·cases e
 ·simp only [Value.ownBlock,Option.some.injEq] at e
  subst e
  rw [hgb] at hk
  cases hk
  rcases ho with ho | ⟨cs,t,he,hne⟩
  ·cases ho
  ·simp only [Obj.cells.injEq] at he
   exact hne he.2.1.symm
def seenG (ds : List Dc) (i : Int) : Option Value:=if (declAt ds i).isSome = true then some (.bool true) else none
def metG (l : List Mo) (a : ByteArray) : Option Value:=if labs l a = true then some (.bool true) else none
def modO (m : Mo) : Obj:=.cells #[.string m.label,.slice m.uA m.uses.length m.uc,.slice m.dA m.ds.length m.dc] 58
theorem modO_ne (m : Mo) : (modO m).isCells = false ∨ ∃ cs t,modO m = .cells cs t (0,0) ∧ t ≠ 24:=.inr ⟨_,_,rfl,by decide⟩
def TestsP (l : List Mo) (w : World) (e : Ending) (w' : World) : Prop:=
 ∃ v,e = .returned v ∧ w'.ownsRow w.heap.size 24 2 v (testsOf l).length (namesC (testsOf l)) ∧ Below w.heap.size w w'
set_option maxRecDepth 100000 in
set_option maxHeartbeats 4000000 in
theorem tsTests_any (l : List Mo) (A : Option Addr) (c : Nat) (w : World) (hl : SlM w w.heap.size A c l) (hw : MoW l) (ht : totD l ≤ 1000000) (hll : l.length ≤ 1000) :
  Calls Tryz.prog 41 #[.slice A l.length c] w (TestsP l w):=by
 obtain ⟨i0,hi,hz0',hz1',hz2'⟩:=info_parts Tryz.infoName
 have hmm:=@run_makeMap Tryz.prog
 have h1:=hl.1
 have h2:=hl.2.1
 unfold maxLen at h2
 obtain ⟨N,HN⟩ : ∃ Q,Hid (l.length = Q):=⟨_,Lib.hid rfl⟩
 rw [HN.out] at h1 hll ⊢
 obtain ⟨W0,hW0⟩ : ∃ W0,w.alloc (.map #[] 0) = W0:=⟨_,rfl⟩
 have hz0 : w.heap.size < W0.heap.size:=by subst hW0;simp
 have hB0 : Below w.heap.size w W0:=by subst hW0;exact (Below.refl _ _).alloc (Nat.le_refl _) _
 have hs0 : MapA strK W0 w.heap.size 0 (fun _ => none):=by subst hW0;exact MapA.made strK w
 have HL:=Lib.hid (And.intro hl (And.intro hw (And.intro ht (And.intro hB0 hs0))))
 clear hl hw ht hB0 hs0
 go_enter Tryz.func41,Tryz.ntmps41
 go_wp2
 go_loopg [3,6,7,9,13] N (fun g tv _ _ _ ct wr => ∃ (j : Nat) (acc : List (ByteArray × Int)),g = N - j ∧ j ≤ N ∧ ct = .int .i64 j ∧ TsI (bodyOf (l.take j)) acc ∧ acc.length ≤ totD (l.take j) ∧ wr.ownsRow (w.heap.size + 1) 24 2 tv acc.length (namesC acc) ∧ MapA strK wr w.heap.size j (metG (l.take j)) ∧ Below w.heap.size w wr ∧ w.heap.size < wr.heap.size)
 case atStart => exact ⟨0,[],rfl,by omega,rfl,⟨by simp,fun n => by simp [bodyOf,tstO]⟩,by simp,World.ownsRow_nil _ _ _ _,HL.out.2.2.2.2.cong fun a _ => rfl,HL.out.2.2.2.1,hz0⟩
 case round =>
  obtain ⟨j,acc,HG,hj,rfl,hI,hal,hrow,hs,hB,hz⟩:=hrel
  obtain ⟨tA,tc,rfl⟩:=own_formN hrow
  have hzw:=hB.size
  by_cases hlt : j < N
  ·have hlt' : j < l.length:=by rw [HN.out];exact hlt
   have hj3 : l[j]? = some l[j]:=List.getElem?_eq_getElem hlt'
   obtain ⟨b,o,rfl,hb,d0,d1,d2,hok⟩:=HL.out.1.at_ hj3
   replace d0:=(hB.cell (p:=⟨b,o + j * 3,none⟩) hb).trans d0
   replace d1:=(hB.cell (p:=⟨b,o + j * 3 + 1,none⟩) hb).trans d1
   replace d2:=(hB.cell (p:=⟨b,o + j * 3 + 2,none⟩) hb).trans d2
   have htot:=totD_take hj3
   have hwm:=HL.out.2.1 _ (List.mem_of_getElem? hj3)
   have htk : l.take (j + 1) = l.take j ++ [l[j]]:=List.take_succ_eq_append_getElem hlt'
   have HT:=Lib.hid (And.intro HG (And.intro hI (And.intro hal (And.intro hrow (And.intro hs (And.intro hB (And.intro hok (And.intro htot (And.intro hwm htk)))))))))
   clear HG hI hal hrow hs hB hok htot hwm htk hj3
   generalize l[j] = m at d0 d1 d2 HT
   obtain ⟨label,uA,uc,uses,dA,dc,ds⟩:=m
   simp only [Mo.Ok] at HT d0 d1 d2
   obtain ⟨W1,hW1⟩ : ∃ W1,wr.alloc (.cells #[.string label,.slice uA uses.length uc,.slice dA ds.length dc] 58) = W1:=⟨_,rfl⟩
   have hb1 : Below wr.heap.size wr W1:=by subst hW1;exact (Below.refl _ _).alloc (Nat.le_refl _) _
   have hz1 : wr.heap.size < W1.heap.size:=by subst hW1;simp
   have hm1 : W1.heap[wr.heap.size]? = some (modO ⟨label,uA,uc,uses,dA,dc,ds⟩):=by subst hW1;exact heap_alloc_new _ _
   have f0 : W1.cell? ⟨wr.heap.size,0,none⟩ = some (.string label):=by subst hW1;go_simp
   have f2 : W1.cell? ⟨wr.heap.size,2,none⟩ = some (.slice dA ds.length dc):=by subst hW1;go_simp
   have hr1 : W1.ownsRow (w.heap.size + 1) 24 2 (.slice tA acc.length tc) acc.length (namesC acc):=by rw [← hW1];exact HT.out.2.2.2.1.alloc _
   have hs1:=HT.out.2.2.2.2.1.keep (hb1.block _ (by omega))
   have hlk:=hs1.look false Tryz.underlying154 (zeroB_run W1) (a:=label) HT.out.2.2.2.2.2.2.2.2.1.1
   simp only [Bool.false_eq_true,if_false] at hlk
   cases hlab : labs (l.take j) label with
   | true =>
    have hmg : metG (l.take j) label = some (.bool true):=by unfold metG;rw [if_pos hlab]
    rw [hmg] at hlk
    change Sem.run Tryz.prog (Instr.lookup 154 (.map (some w.heap.size)) (.string label) false) W1 = .ok (.bool true) W1 at hlk
    have HLab:=Lib.hid hlab
    have HB1:=Lib.hid (And.intro hb1 (And.intro hs1 hr1))
    clear hb1 hs1 hr1 hlab hmg hm1
    go_wp2
    go_roundg (N - (j + 1))
    case measure => rw [HT.out.1];omega
    case rel =>
     refine ⟨j + 1,acc,rfl,by omega,by go_num,?_,by have:=HT.out.2.2.1;have:=HT.out.2.2.2.2.2.2.2.1.1;omega,HB1.out.2.2,?_,HT.out.2.2.2.2.2.1.trans (HB1.out.1.mono (by omega)),by omega⟩
     ·refine HT.out.2.1.cong fun n => ?_
      rw [HT.out.2.2.2.2.2.2.2.2.2,bodyOf_snoc]
      by_cases h3 : labs (l.take j) n.1 = true
      ·rw [if_pos h3]
      ·rw [if_neg h3]
       have h4 : label ≠ n.1:=fun e => h3 (by rw [← e];exact HLab.out)
       rw [if_neg h4,bodyOf_none (by simpa using h3)]
     ·refine (HB1.out.2.1.mono (by omega)).cong ?_
      intro a _
      unfold metG
      rw [HT.out.2.2.2.2.2.2.2.2.2,labs_snoc]
      by_cases h3 : label = a
      ·subst h3;simp [HLab.out]
      ·simp [h3]
   | false =>
    have hmg : metG (l.take j) label = none:=by unfold metG;rw [if_neg (by rw [hlab];simp)]
    rw [hmg] at hlk
    change Sem.run Tryz.prog (Instr.lookup 154 (.map (some w.heap.size)) (.string label) false) W1 = .ok (.bool false) W1 at hlk
    have HLab:=Lib.hid hlab
    have HB1:=Lib.hid (And.intro hb1 (And.intro hs1 (And.intro hr1 hm1)))
    have hdl:=HT.out.2.2.2.2.2.2.1.2.1
    have hdc:=HT.out.2.2.2.2.2.2.1.2.2.1
    unfold maxLen at hdc
    obtain ⟨M,HM⟩ : ∃ Q,Hid (ds.length = Q):=⟨_,Lib.hid rfl⟩
    have htt:=HT.out.2.2.2.2.2.2.2.1
    rw [HM.out] at hdl f2 htt
    have HTT:=Lib.hid htt
    clear hb1 hs1 hlab htt hr1 hm1 hmg
    go_wp2_with (at_mapUpdate;refine wpList_mapPut _ rfl _ _ _ 154 (.inl rfl) strK 4 Tryz.underlying154 w.heap.size j _ rfl HB1.out.2.1 (by unfold maxLen;omega) label HT.out.2.2.2.2.2.2.2.2.1.1 rfl (.bool true) rfl ?_;intro w2 hs2 hg2;have g0 : w2.cell? ⟨wr.heap.size,0,none⟩ = some (.string label):=(World.cell?_of_block (hg2.block _ hz1 (by simp;omega))).trans f0;have g2 : (w2.alloc (.map #[] 0)).cell? ⟨wr.heap.size,2,none⟩ = some (.slice dA M dc):=(World.cell?_alloc_lt _ _ _ (by have:=hg2.size;simp at this ⊢;omega)).trans ((World.cell?_of_block (hg2.block _ hz1 (by simp;omega))).trans f2))
    obtain ⟨W2,hW2⟩ : ∃ W2,w2.alloc (.map #[] 0) = W2:=⟨_,rfl⟩
    rw [hW2] at g2 ⊢
    have hz2 : W1.heap.size ≤ w2.heap.size:=hg2.size
    have hz3 : w2.heap.size < W2.heap.size:=by subst hW2;simp
    have hbl2 : Below w2.heap.size w2 W2:=by subst hW2;exact (Below.refl _ _).alloc (Nat.le_refl _) _
    have hB2 : Below w.heap.size w W2:=((HT.out.2.2.2.2.2.1.trans (HB1.out.1.mono (by omega))).grown hg2 (by omega) (fun q e => by cases e;omega)).trans (hbl2.mono (by omega))
    have hm2 : W2.heap[wr.heap.size]? = some (modO ⟨label,uA,uc,uses,dA,dc,ds⟩):=(hbl2.block _ (by omega)).trans ((hg2.block _ hz1 (by simp;omega)).trans HB1.out.2.2.2)
    have hr2 : W2.ownsRow (w.heap.size + 1) 24 2 (.slice tA acc.length tc) acc.length (namesC acc):=by rw [← hW2];exact (own_abides HB1.out.2.2.1 hg2 (fun r e => by cases e;exact HB1.out.2.1.obj)).alloc _
    have hs3:=hs2.keep (hbl2.block _ (by omega))
    have hi3 : MapA intK W2 w2.heap.size 0 (seenG []):=by
     subst hW2
     exact (MapA.made intK w2).cong fun i _ => rfl
    have HS:=Lib.hid (And.intro hs3 (And.intro hi3 (And.intro hr2 (And.intro hm2 hB2))))
    clear hs2 hg2 hB2 hm2 hr2 hs3 hi3 hbl2 f0 f2 g0 d0 d1 d2 hlk hW1 hW2
    obtain ⟨wo,rfl⟩ : ∃ wo : World,wo = wr:=⟨_,rfl⟩
    obtain ⟨sb,Hsb⟩ : ∃ sb,Hid (w2.heap.size = sb):=⟨_,Lib.hid rfl⟩
    rw [Hsb.out] at HS hz2 hz3 ⊢
    go_wp2
    go_loopg [3,9,28] M (fun g tv _ ct wr => ∃ (q : Nat) (acc : List (ByteArray × Int)),g = M - q ∧ q ≤ M ∧ ct = .int .i64 q ∧ TsI (inB (l.take j) label (ds.take q)) acc ∧ acc.length ≤ totD (l.take j) + q ∧ wr.ownsRow (w.heap.size + 1) 24 2 tv acc.length (namesC acc) ∧ MapA strK wr w.heap.size (j + 1) (metG (l.take (j + 1))) ∧ MapA intK wr sb q (seenG (ds.take q)) ∧ wr.heap[wo.heap.size]? = some (modO ⟨label,uA,uc,uses,dA,dc,ds⟩) ∧ Below w.heap.size w wr ∧ sb < wr.heap.size)
    case atStart =>
     refine ⟨0,acc,rfl,by omega,rfl,HT.out.2.1.cong fun n => inB_start HLab.out n,HT.out.2.2.1,HS.out.2.2.1,HS.out.1.cong ?_,HS.out.2.1,HS.out.2.2.2.1,HS.out.2.2.2.2,hz3⟩
     intro a _
     unfold metG
     rw [HT.out.2.2.2.2.2.2.2.2.2,labs_snoc]
     by_cases h3 : a = label
     ·subst h3;simp
     ·simp [h3,Ne.symm h3]
    case round =>
     obtain ⟨q,ac,HG2,hq,rfl,hIq,halq,hrq,hsq,hiq,hmq,hBq,hzq⟩:=hrel
     have m0 : wr.cell? ⟨wo.heap.size,0,none⟩ = some (.string label):=cell_of_row wr _ 0 _ _ (0,0) hmq
     by_cases hlt2 : q < M
     ·have hlt2' : q < ds.length:=by rw [HM.out];exact hlt2
      have hq3 : ds[q]? = some ds[q]:=List.getElem?_eq_getElem hlt2'
      obtain ⟨b2,o2,rfl,hb2,d0,d1,d2,d3,d4,d5,d6,d7,d8,d9,d10,_⟩:=HT.out.2.2.2.2.2.2.1.2.cells_at (fun p hp => hBq.cell hp) hq3
      have hwf:=HT.out.2.2.2.2.2.2.2.2.1.2 _ (List.mem_of_getElem? hq3)
      have htk2 : ds.take (q + 1) = ds.take q ++ [ds[q]]:=List.take_succ_eq_append_getElem hlt2'
      obtain ⟨tA2,tc2,rfl⟩:=own_formN hrq
      have HQ:=Lib.hid (And.intro HG2 (And.intro hIq (And.intro halq (And.intro hrq (And.intro hsq (And.intro hiq (And.intro hmq (And.intro hBq (And.intro hwf htk2)))))))))
      clear HG2 hIq halq hrq hsq hiq hmq hBq hwf htk2 hq3
      generalize ds[q] = x at d0 d1 d2 d3 d4 d5 d6 d7 d8 d9 d10 HQ
      obtain ⟨W3,hW3⟩ : ∃ W3,wr.alloc (.cells #[.int .i64 x.id,.int .i64 x.kind,.bool x.pub,.slice x.nA x.names.length x.nc,.bool x.doubt,.int .i64 x.k,.string x.n,.string x.m,.int .i64 x.i,.int .i64 x.d,.slice x.A x.s.len x.c] 62) = W3:=⟨_,rfl⟩
      have hb3 : Below wr.heap.size wr W3:=by subst hW3;exact (Below.refl _ _).alloc (Nat.le_refl _) _
      have hz4 : W3.heap.size = wr.heap.size + 1:=by subst hW3;simp
      have i0' : W3.cell? ⟨wr.heap.size,0,none⟩ = some (.int .i64 x.id):=by subst hW3;go_simp
      have i1' : W3.cell? ⟨wr.heap.size,1,none⟩ = some (.int .i64 x.kind):=by subst hW3;go_simp
      have hr3 : W3.ownsRow (w.heap.size + 1) 24 2 (.slice tA2 ac.length tc2) ac.length (namesC ac):=by rw [← hW3];exact HQ.out.2.2.2.1.alloc _
      have hi3:=HQ.out.2.2.2.2.2.1.keep (hb3.block _ hzq)
      have hlk2:=hi3.look false Tryz.underlying155 (zeroB_run W3) (a:=x.id) HQ.out.2.2.2.2.2.2.2.2.1
      simp only [Bool.false_eq_true,if_false] at hlk2
      cases hin : declAt (ds.take q) x.id with
      | some y =>
       have hsg : seenG (ds.take q) x.id = some (.bool true):=by unfold seenG;rw [hin];rfl
       rw [hsg] at hlk2
       change Sem.run Tryz.prog (Instr.lookup 155 (.map (some sb)) (.int .i64 x.id) false) W3 = .ok (.bool true) W3 at hlk2
       have HX:=Lib.hid (And.intro hin (And.intro hb3 (And.intro hr3 hi3)))
       clear hin hb3 hr3 hi3 hsg
       go_wp2
       go_roundg (M - (q + 1))
       case measure => rw [HQ.out.1];omega
       case rel =>
        refine ⟨q + 1,ac,rfl,by omega,by go_num,?_,by have:=HQ.out.2.2.1;omega,HX.out.2.2.1,HQ.out.2.2.2.2.1.keep (HX.out.2.1.block _ (by omega)),?_,(HX.out.2.1.block _ (by omega)).trans HQ.out.2.2.2.2.2.2.1,HQ.out.2.2.2.2.2.2.2.1.trans (HX.out.2.1.mono (by omega)),by omega⟩
        ·refine HQ.out.2.1.cong fun n => ?_
         rw [HQ.out.2.2.2.2.2.2.2.2.2,inB_skip (by rw [inB_at];exact HX.out.1)]
        ·refine (HX.out.2.2.2.mono (by omega)).cong fun i _ => ?_
         unfold seenG
         rw [HQ.out.2.2.2.2.2.2.2.2.2,declAt_skip (by rw [HX.out.1];rfl)]
      | none =>
       have hsg : seenG (ds.take q) x.id = none:=by unfold seenG;rw [hin];rfl
       rw [hsg] at hlk2
       change Sem.run Tryz.prog (Instr.lookup 155 (.map (some sb)) (.int .i64 x.id) false) W3 = .ok (.bool false) W3 at hlk2
       have hne1 : (Value.slice tA2 ac.length tc2).ownBlock ≠ some sb:=by
        obtain ⟨o,ho,hoc⟩:=hi3.obj
        exact row_ne hr3 ho (.inl hoc)
       have hne2 : (Value.slice tA2 ac.length tc2).ownBlock ≠ some wo.heap.size:=row_ne hr3 ((hb3.block _ (by omega)).trans HQ.out.2.2.2.2.2.2.1) (modO_ne _)
       have hm3 : W3.cell? ⟨wo.heap.size,0,none⟩ = some (.string label):=(hb3.cell (p:=⟨wo.heap.size,0,none⟩) (by simp;omega)).trans m0
       have hbd : ac.length ≤ 1000000:=by have:=HQ.out.2.2.1;have:=HTT.out;have:=HL.out.2.2.1;omega
       have HX:=Lib.hid (And.intro hin (And.intro hb3 (And.intro hr3 (And.intro hi3 (And.intro hne1 hne2)))))
       clear hin hb3 hr3 hi3 hsg hne1 hne2
       have hq4 : q < maxLen:=by have:=HTT.out;have:=HL.out.2.2.1;unfold maxLen;omega
       have hsbw : wo.heap.size < sb:=by omega
       have hw3 : wr.heap.size < W3.heap.size:=by omega
       have ho3 : wo.heap.size < W3.heap.size:=by omega
       have hown0 : ∀ k,(Value.slice tA2 ac.length tc2).ownBlock = some k → w.heap.size + 1 ≤ k:=fun k hk => (HX.out.2.2.1.lt k hk).1
       have HF:=Lib.hid hown0
       clear hown0
       by_cases hk2 : x.kind = 2
       ·have hk3 : (x.kind == 2) = true:=by simpa using hk2
        have HK2:=Lib.hid hk2
        clear hk2
        go_wp2_with (first
         | (at_mapUpdate;refine wpList_mapPut _ rfl _ _ _ 155 (.inl rfl) intK 4 Tryz.underlying155 sb q _ rfl HX.out.2.2.2.1 hq4 x.id HQ.out.2.2.2.2.2.2.2.2.1 rfl (.bool true) rfl ?_;intro w8 hs8 hg8;have z0 : w8.cell? ⟨wr.heap.size,0,none⟩ = some (.int .i64 x.id):=(World.cell?_of_block (hg8.block _ hw3 (by simp;omega))).trans i0';have z1 : w8.cell? ⟨wr.heap.size,1,none⟩ = some (.int .i64 x.kind):=(World.cell?_of_block (hg8.block _ hw3 (by simp;omega))).trans i1';have zm : w8.cell? ⟨wo.heap.size,0,none⟩ = some (.string label):=(World.cell?_of_block (hg8.block _ ho3 (by simp;omega))).trans hm3;have HROW8:=Lib.hid (own_abides HX.out.2.2.1 hg8 (fun r e => by cases e;exact HX.out.2.2.2.1.obj));have hz8:=hg8.size;have HS8:=Lib.hid (And.intro hs8 hg8);clear hs8 hg8)
         | (at_builtin;refine wpList_append_own_at _ rfl _ _ 47 rfl (w.heap.size + 1) 24 i0 _ 2 24 Tryz.underlying47 hi hz0' hz1' hz2' rfl (by decide) _ _ _ rfl (HROW8.out.alloc _) ⟨w8.heap.size,0,none⟩ 1 1 [.string label,.int .i64 x.id] rfl rfl (cell_pair_new _ _ _ _) (by simp [Value.oneCell']) (by unfold maxLen;omega) (by omega) (by simp;omega) ?_;intro v9 w9 hown9 hg9 _ hat9;have HS9:=Lib.hid (And.intro hown9 (And.intro hg9 hat9));obtain ⟨g9,c9,rfl⟩:=ownsRow_succ hown9;clear hown9 hg9 hat9))
        go_roundg (M - (q + 1))
        case measure => rw [HQ.out.1];omega
        case rel =>
         have hg9 : (w8.alloc (.cells #[.string label,.int .i64 x.id] 24)).grownBy w9 (Value.slice tA2 ac.length tc2).ownBlock:=HS9.out.2.1
         have hz9:=hg9.size
         simp at hz9
         have hblk : ∀ k,k < W3.heap.size → (Value.slice tA2 ac.length tc2).ownBlock ≠ some k → k ≠ sb → w9.heap[k]? = W3.heap[k]?:=fun k hk h1 h2 =>
          (hg9.block k (by simp;omega) (fun e => h1 e.symm)).trans ((Below.heap_alloc _ _ _ (by omega)).trans (HS8.out.2.block k (by omega) (fun e => h2 (by cases e;rfl))))
         refine ⟨q + 1,ac ++ [(label,x.id)],rfl,by omega,by go_num,?_,by simp;have:=HQ.out.2.2.1;omega,?_,?_,?_,?_,?_,by omega⟩
         ·rw [HQ.out.2.2.2.2.2.2.2.2.2]
          exact HQ.out.2.1.push (by rw [inB_at];exact HX.out.1) HK2.out
         ·rw [List.length_append,namesC_append]
          exact HS9.out.1
         ·refine HQ.out.2.2.2.2.1.keep ((hblk _ (by omega) (fun e => ?_) (by omega)).trans (HX.out.2.1.block _ (by omega)))
          have:=HF.out _ e
          omega
         ·refine (HS8.out.1.keep ((hg9.block _ (by simp;omega) (fun e => HX.out.2.2.2.2.1 e.symm)).trans (Below.heap_alloc _ _ _ (by omega)))).cong fun i _ => ?_
          unfold seenG
          rw [HQ.out.2.2.2.2.2.2.2.2.2,declAt_put HX.out.1]
          by_cases e : i = x.id <;> simp [e]
         ·exact ((hblk _ (by omega) HX.out.2.2.2.2.2 (by omega)).trans (HX.out.2.1.block _ (by omega))).trans HQ.out.2.2.2.2.2.2.1
         ·exact (((HQ.out.2.2.2.2.2.2.2.1.trans (HX.out.2.1.mono (by omega))).grown HS8.out.2 (by omega) (fun q e => by cases e;omega)).alloc (by omega) _).grown hg9 (by simp;omega) (fun k e => by have:=HF.out k e;omega)
       ·have hk3 : (x.kind == 2) = false:=by simpa using hk2
        have HK2:=Lib.hid hk2
        clear hk2
        go_wp2_with (at_mapUpdate;refine wpList_mapPut _ rfl _ _ _ 155 (.inl rfl) intK 4 Tryz.underlying155 sb q _ rfl HX.out.2.2.2.1 hq4 x.id HQ.out.2.2.2.2.2.2.2.2.1 rfl (.bool true) rfl ?_;intro w8 hs8 hg8;have z0 : w8.cell? ⟨wr.heap.size,0,none⟩ = some (.int .i64 x.id):=(World.cell?_of_block (hg8.block _ hw3 (by simp;omega))).trans i0';have z1 : w8.cell? ⟨wr.heap.size,1,none⟩ = some (.int .i64 x.kind):=(World.cell?_of_block (hg8.block _ hw3 (by simp;omega))).trans i1';have HROW8:=Lib.hid (own_abides HX.out.2.2.1 hg8 (fun r e => by cases e;exact HX.out.2.2.2.1.obj));have hz8:=hg8.size;have HS8:=Lib.hid (And.intro hs8 hg8);clear hs8 hg8)
        go_roundg (M - (q + 1))
        case measure => rw [HQ.out.1];omega
        case rel =>
         have hblk : ∀ k,k < W3.heap.size → k ≠ sb → w8.heap[k]? = W3.heap[k]?:=fun k hk h2 => HS8.out.2.block k (by omega) (fun e => h2 (by cases e;rfl))
         refine ⟨q + 1,ac,rfl,by omega,by go_num,?_,by have:=HQ.out.2.2.1;omega,HROW8.out,?_,?_,?_,?_,by omega⟩
         ·rw [HQ.out.2.2.2.2.2.2.2.2.2]
          exact HQ.out.2.1.pass (by rw [inB_at];exact HX.out.1) HK2.out
         ·exact HQ.out.2.2.2.2.1.keep ((hblk _ (by omega) (by omega)).trans (HX.out.2.1.block _ (by omega)))
         ·refine HS8.out.1.cong fun i _ => ?_
          unfold seenG
          rw [HQ.out.2.2.2.2.2.2.2.2.2,declAt_put HX.out.1]
          by_cases e : i = x.id <;> simp [e]
         ·exact ((hblk _ (by omega) (by omega)).trans (HX.out.2.1.block _ (by omega))).trans HQ.out.2.2.2.2.2.2.1
         ·exact (HQ.out.2.2.2.2.2.2.2.1.trans (HX.out.2.1.mono (by omega))).grown HS8.out.2 (by omega) (fun q e => by cases e;omega)
     ·obtain rfl : q = M:=by omega
      have htk2 : ds.take q = ds:=List.take_of_length_le (by rw [HM.out];exact Nat.le_refl _)
      rw [htk2] at hIq
      obtain ⟨tA2,tc2,rfl⟩:=own_formN hrq
      have HX:=Lib.hid (And.intro hIq (And.intro halq (And.intro hrq (And.intro hsq hBq))))
      clear hIq halq hrq hsq hBq HG2 hiq hmq
      go_wp2
      go_roundg (N - (j + 1))
      case measure => rw [HT.out.1];omega
      case rel =>
       refine ⟨j + 1,ac,rfl,by omega,by go_num,?_,by have:=HX.out.2.1;have:=HTT.out;omega,HX.out.2.2.1,HX.out.2.2.2.1,HX.out.2.2.2.2,by omega⟩
       refine HX.out.1.cong fun n => ?_
       rw [HT.out.2.2.2.2.2.2.2.2.2]
       exact (inB_end (m:=⟨label,uA,uc,uses,dA,dc,ds⟩) HLab.out n).symm
  ·obtain rfl : j = N:=by omega
   have htk : l.take j = l:=List.take_of_length_le (by rw [HN.out];exact Nat.le_refl _)
   rw [htk] at hI hal
   have HX:=Lib.hid (And.intro hI (And.intro hrow hB))
   have hsl : acc.length ≤ 1000000:=by have:=HL.out.2.2.1;omega
   have HO:=Lib.hid hI.out
   have hlen : (sortNames acc).length = acc.length:=by simp [sortNames]
   have HLn:=Lib.hid hlen
   rcases (refs_tail acc _ _ wr hrow).2 with ⟨hv0,rfl⟩ | ⟨g,cap,hv0⟩
   ·simp only [Value.slice.injEq] at hv0
    obtain ⟨rfl,_,rfl⟩:=hv0
    clear hI hrow hB hs htk hal hlen HG
    go_wp2_with fail
    refine (sortN_none none 0 _ _).mono ?_
    rintro e w2 ⟨⟨v2,rfl⟩,rfl⟩
    go_wp2
    go_ret
    refine ⟨.slice none 0 0,rfl,?_,HX.out.2.2⟩
    rw [← HO.out,show sortNames [] = [] by simp [sortNames]]
    exact World.ownsRow_nil _ _ _ _
   ·simp only [Value.slice.injEq,true_and] at hv0
    obtain ⟨rfl,rfl⟩:=hv0
    have HSN:=Lib.hid (sortT_any acc (w.heap.size + 1) g tc wr hrow hsl)
    unfold SortP at HSN
    rw [hlen] at HSN
    obtain ⟨N2,HN2⟩ : ∃ Q,Hid (acc.length = Q):=⟨_,Lib.hid rfl⟩
    rw [HN2.out] at HSN ⊢
    clear hI hrow hB hs htk hal hlen HG hsl
    go_wp2_with fail
    refine HSN.out.mono ?_
    rintro e w2 ⟨⟨v2,rfl⟩,hown2,hg2⟩
    have HX3:=Lib.hid (And.intro hown2 hg2)
    clear hown2 hg2
    go_wp2
    go_ret
    refine ⟨.slice (some ⟨g,0,none⟩) N2 tc,rfl,?_,HX.out.2.2.grown HX3.out.2 (by omega) (fun q hq => by cases hq;have:=(HX.out.2.1.lt g rfl).1;omega)⟩
    rw [← HO.out,HLn.out,HN2.out]
    exact World.ownsRow.mono HX3.out.1 (by omega)
end Go.Proofs.YtnfndgmlnoeelaaGreatDoor
/- slices.BinarySearchFunc at names by testselect.compareNames -/
namespace Go.Proofs.YtnfndgmlnoeelaaGreatDoor
open Go.RowKit Go.Proofs Go.Shelf
def lessN (a b : ByteArray × Int) : Bool:=Op.bytesLess a.1.toList b.1.toList || ((a.1.toList == b.1.toList) && decide (a.2 < b.2))
theorem lessN_iff (x y : ByteArray × Int) : lessN x y = true ↔ ltN x y:=by
 unfold lessN ltN
 rw [bytesLess_eq,ByteArray.toList_eq,ByteArray.toList_eq]
 simp [← Array.toList_inj]
theorem below_grow (w : World) (q : Nat) (os : Array Obj) : Below w.heap.size w (Sort.grow (w.drewN q) os):=
 ⟨rfl,rfl,rfl,by simp [Sort.grow],fun k hk => Sort.heap_grow_old _ _ (by simpa using hk)⟩
theorem tsCmpB (x y : ByteArray × Int) (w : World) : Calls Tryz.prog 69 #[.agg #[.string x.1,.int .i64 x.2],.agg #[.string y.1,.int .i64 y.2]] w fun e w' => e = .returned (.int .i64 (cmpN x.1 x.2 y.1 y.2)) ∧ Below w.heap.size w w':=
 (tsCmp_any x.1 y.1 x.2 y.2 w).mono fun _ _ ⟨h1,q,os,h2⟩ => ⟨h1,by rw [h2];exact below_grow w q os⟩
theorem bytesLess_irrefl (a : ByteArray) : Op.bytesLess a.toList a.toList = false:=by
 cases hb : Op.bytesLess a.toList a.toList with
 | false => rfl
 | true => exact absurd ((lessN_iff (a,0) (a,0)).1 (by unfold lessN;simp [hb])) (ltN_irrefl _)
theorem cmpZ_zero (i j : Int) : cmpZ i j = 0 ↔ i = j:=by
 unfold cmpZ
 by_cases h1 : i < j
 ·rw [if_pos h1];exact ⟨fun h => by omega,fun h => by omega⟩
 ·rw [if_neg h1]
  by_cases h2 : j < i
  ·rw [if_pos h2];exact ⟨fun h => by omega,fun h => by omega⟩
  ·rw [if_neg h2];exact ⟨fun _ => by omega,fun _ => rfl⟩
theorem cmpN_zero (x y : ByteArray × Int) : cmpN x.1 x.2 y.1 y.2 = 0 ↔ x = y:=by
 unfold cmpN orZ cmpB
 by_cases h1 : Op.bytesLess x.1.toList y.1.toList = true
 ·rw [if_pos h1,if_neg (by omega)]
  refine ⟨fun h => by omega,fun e => ?_⟩
  subst e
  rw [bytesLess_irrefl] at h1
  cases h1
 ·rw [if_neg h1]
  by_cases h2 : (x.1.toList == y.1.toList) = true
  ·rw [if_pos h2,if_pos rfl,cmpZ_zero]
   have e : x.1 = y.1:=by
    have h3 : x.1.toList = y.1.toList:=by simpa using h2
    rw [ByteArray.toList_eq,ByteArray.toList_eq] at h3
    exact ByteArray.ext (Array.ext' h3)
   exact ⟨fun h => Prod.ext e h,fun h => by rw [h]⟩
  ·rw [if_neg h2,if_neg (by omega)]
   refine ⟨fun h => by omega,fun e => ?_⟩
   subst e
   exact absurd (by simp) h2
def SrI (L : List (ByteArray × Int)) (t : ByteArray × Int) (i j : Nat) : Prop:=(∀ k x,k < i → L[k]? = some x → ltN x t) ∧ ∀ k x,j ≤ k → L[k]? = some x → ¬ ltN x t
theorem SrI.up {L : List (ByteArray × Int)} {t : ByteArray × Int} {i j m : Nat} {y : ByteArray × Int} (h : SrI L t i j) (hs : L.Pairwise ltN) (hy : L[m]? = some y) (hl : ltN y t) : SrI L t (m + 1) j:=by
 refine ⟨fun k x hk hx => ?_,h.2⟩
 by_cases e : k = m
 ·subst e;rw [hx] at hy;cases hy;exact hl
 ·obtain ⟨h1,rfl⟩:=List.getElem?_eq_some_iff.1 hx
  obtain ⟨h2,rfl⟩:=List.getElem?_eq_some_iff.1 hy
  exact ltN_trans (List.pairwise_iff_getElem.1 hs k m h1 h2 (by omega)) hl
theorem SrI.down {L : List (ByteArray × Int)} {t : ByteArray × Int} {i j m : Nat} {y : ByteArray × Int} (h : SrI L t i j) (hs : L.Pairwise ltN) (hy : L[m]? = some y) (hl : ¬ ltN y t) : SrI L t i m:=by
 refine ⟨h.1,fun k x hk hx hc => ?_⟩
 by_cases e : k = m
 ·subst e;rw [hx] at hy;cases hy;exact hl hc
 ·obtain ⟨h1,rfl⟩:=List.getElem?_eq_some_iff.1 hx
  obtain ⟨h2,rfl⟩:=List.getElem?_eq_some_iff.1 hy
  exact hl (ltN_trans (List.pairwise_iff_getElem.1 hs m k h2 h1 (by omega)) hc)
theorem SrI.found {L : List (ByteArray × Int)} {t : ByteArray × Int} {i : Nat} {y : ByteArray × Int} (h : SrI L t i i) (hs : L.Pairwise ltN) (hy : L[i]? = some y) : memN L t = decide (y = t):=by
 rw [Bool.eq_iff_iff,memN_iff,decide_eq_true_iff]
 refine ⟨fun hm => ?_,fun e => by subst e;exact List.mem_of_getElem? hy⟩
 obtain ⟨k,hk⟩:=List.getElem?_of_mem hm
 have hki : i ≤ k:=by
  by_cases hlt : k < i
  ·exact absurd (h.1 k t hlt hk) (ltN_irrefl _)
  ·omega
 by_cases e : k = i
 ·subst e;rw [hk] at hy;cases hy;rfl
 ·obtain ⟨h1,rfl⟩:=List.getElem?_eq_some_iff.1 hk
  obtain ⟨h2,rfl⟩:=List.getElem?_eq_some_iff.1 hy
  exact absurd (List.pairwise_iff_getElem.1 hs i k h2 h1 (by omega)) (h.2 i _ (Nat.le_refl _) hy)
theorem SrI.none {L : List (ByteArray × Int)} {t : ByteArray × Int} {i : Nat} (h : SrI L t i i) (hi : L.length ≤ i) : memN L t = false:=by
 cases hm : memN L t with
 | false => rfl
 | true =>
  obtain ⟨k,hk⟩:=List.getElem?_of_mem (memN_iff.1 hm)
  have:=(List.getElem?_eq_some_iff.1 hk).1
  exact absurd (h.1 k t (by omega) hk) (ltN_irrefl _)
set_option maxRecDepth 100000 in
set_option maxHeartbeats 2000000 in
theorem slcSearchN_any (L : List (ByteArray × Int)) (t : ByteArray × Int) (A : Option Addr) (c base : Nat) (w : World) (h : w.ownsRow base 24 2 (.slice A L.length c) L.length (namesC L)) (hs : L.Pairwise ltN) (hl : L.length ≤ 1000000) :
  Calls Tryz.prog 68 #[.slice A L.length c,.agg #[.string t.1,.int .i64 t.2],.func (.func 69) #[] #[]] w fun e w' => (∃ i,e = .returned (.tuple #[.int .i64 i,.bool (memN L t)])) ∧ Below w.heap.size w w':=by
 obtain ⟨W0,hW0⟩ : ∃ W0,w.alloc (.cells #[.string t.1,.int .i64 t.2] 24) = W0:=⟨_,rfl⟩
 have hz0 : w.heap.size < W0.heap.size:=by subst hW0;simp
 have hB0 : Below w.heap.size w W0:=by subst hW0;exact (Below.refl _ _).alloc (Nat.le_refl _) _
 have n0 : W0.cell? ⟨w.heap.size,0,none⟩ = some (.string t.1):=by subst hW0;go_simp
 have n1 : W0.cell? ⟨w.heap.size,1,none⟩ = some (.int .i64 t.2):=by subst hW0;go_simp
 obtain ⟨N,HN⟩ : ∃ Q,Hid (L.length = Q):=⟨_,Lib.hid rfl⟩
 obtain ⟨Z,HZ⟩ : ∃ Q,Hid (memN L t = Q):=⟨_,Lib.hid rfl⟩
 have hr0 : W0.ownsRow base 24 2 (.slice A L.length c) L.length (namesC L):=by rw [← hW0];exact h.alloc _
 have HK:=Lib.hid (show ∀ X : World,Below W0.heap.size W0 X → X.cell? ⟨w.heap.size,0,none⟩ = some (.string t.1) ∧ X.cell? ⟨w.heap.size,1,none⟩ = some (.int .i64 t.2) ∧ X.ownsRow base 24 2 (.slice A L.length c) L.length (namesC L) from fun X hX =>
  ⟨(hX.cell (p:=⟨w.heap.size,0,none⟩) hz0).trans n0,(hX.cell (p:=⟨w.heap.size,1,none⟩) hz0).trans n1,own_of_blocks' hr0 fun k hk => hX.block k hk⟩)
 have HL:=Lib.hid (And.intro hs (And.intro hl hB0))
 rw [HN.out] at hl
 rw [HN.out,HZ.out]
 rw [HN.out] at HK
 clear h hs hB0 n0 n1 hr0
 have eg:=enterFn (fid:=69) rfl rfl rfl
 go_enter Tryz.func68,Tryz.ntmps68
 go_wp2
 go_loopg [9,10] N (fun g iv jv wr => ∃ i j : Nat,iv = .int .i64 i ∧ jv = .int .i64 j ∧ i ≤ j ∧ j ≤ N ∧ j - i ≤ g ∧ SrI L t i j ∧ Below W0.heap.size W0 wr)
 case atStart => exact ⟨0,N,rfl,rfl,Nat.zero_le _,Nat.le_refl _,by omega,⟨fun k x hk => absurd hk (Nat.not_lt_zero _),fun k x hk hx => by have:=(List.getElem?_eq_some_iff.1 hx).1;rw [HN.out] at this;omega⟩,Below.refl _ _⟩
 case round =>
  obtain ⟨i,j,rfl,rfl,hij,hjN,hg,hI,hB⟩:=hrel
  obtain ⟨k0,k1,hrow⟩:=HK.out wr hB
  have hzr:=hB.size
  by_cases hlt : i < j
  ·have hm : (i + j) / 2 < L.length:=by rw [HN.out];omega
   obtain ⟨y,hy⟩ : ∃ y,L[(i + j) / 2]? = some y:=⟨_,List.getElem?_eq_getElem hm⟩
   obtain ⟨m,hme⟩ : ∃ m,(i + j) / 2 = m:=⟨_,rfl⟩
   have hmi : ((i : Int) + (j : Int)) / 2 = (m : Int):=by omega
   have x1 : (0 : Int) ≤ (m : Int):=by omega
   have x2 : (m : Int) < (N : Int):=by omega
   have hmb : i ≤ m ∧ m < j:=by omega
   rw [hme] at hy hm
   clear hme
   obtain ⟨gr,ucap,hform,hc1,hc2⟩:=own_pos2 hrow (by omega)
   simp only [Value.slice.injEq,true_and] at hform
   obtain ⟨rfl,rfl⟩:=hform
   obtain ⟨y0,y1⟩:=namesC_at _ L (m) hy
   have c0 : wr.cell? ⟨gr,m * 2,none⟩ = some (.string y.1):=(hrow.cellAt _ (by omega)).trans y0
   have c1 : wr.cell? ⟨gr,m * 2 + 1,none⟩ = some (.int .i64 y.2):=(hrow.cellAt _ (by omega)).trans y1
   have hgl:=(hrow.lt gr rfl).2
   obtain ⟨q,Hq⟩ : ∃ Q,Hid (cmpN y.1 y.2 t.1 t.2 = Q):=⟨_,Lib.hid rfl⟩
   have HC:=Lib.hid (show ∀ X : World,Calls Tryz.prog 69 #[.agg #[.string y.1,.int .i64 y.2],.agg #[.string t.1,.int .i64 t.2]] X (fun e w' => e = .returned (.int .i64 q) ∧ Below X.heap.size X w') from fun X => by
    have:=tsCmpB y t X
    rwa [Hq.out] at this)
   have HS:=Lib.hid (show ∀ X : World,Below wr.heap.size wr X → (X.cell? ⟨gr,m * 2,none⟩ = some (.string y.1) ∧ X.cell? ⟨gr,m * 2 + 1,none⟩ = some (.int .i64 y.2) ∧ X.cell? ⟨w.heap.size,0,none⟩ = some (.string t.1) ∧ X.cell? ⟨w.heap.size,1,none⟩ = some (.int .i64 t.2)) from fun X hX =>
    ⟨(hX.cell (p:=⟨gr,m * 2,none⟩) hgl).trans c0,(hX.cell (p:=⟨gr,m * 2 + 1,none⟩) hgl).trans c1,(hX.cell (p:=⟨w.heap.size,0,none⟩) (Nat.lt_of_lt_of_le hz0 hzr)).trans k0,(hX.cell (p:=⟨w.heap.size,1,none⟩) (Nat.lt_of_lt_of_le hz0 hzr)).trans k1⟩)
   have HS0:=Lib.hid (HS.out wr.drew (below_drew' (Below.refl _ _)))
   have HT:=Lib.hid (And.intro hI (And.intro hB (And.intro hy hzr)))
   clear hI hB hy y0 y1 hrow hgl hzr hm c0 c1 k0 k1
   by_cases hqn : q < 0
   ·have HQ:=Lib.hid (show ltN y t from (cmpN_lt y t).1 (by rw [Hq.out];exact hqn))
    go_wp2_with fail
    go_region_held3 (fun W => W.cell? ⟨gr,m * 2,none⟩ = some (.string y.1) ∧ W.cell? ⟨gr,m * 2 + 1,none⟩ = some (.int .i64 y.2) ∧ W.cell? ⟨w.heap.size,0,none⟩ = some (.string t.1) ∧ W.cell? ⟨w.heap.size,1,none⟩ = some (.int .i64 t.2))
     (first | exact HS0.out | exact HS1.out)
     (first | (go_at_call 69;refine (HC.out _).mono ?_;rintro e w2 ⟨rfl,hb2⟩;have HS1:=Lib.hid (HS.out w2 (below_drew' (Below.refl _ _) |>.trans hb2));have HB2:=Lib.hid hb2;clear hb2))
    go_wp2
    go_roundg (j - (m + 1))
    case measure => omega
    case rel => exact ⟨m + 1,j,by go_num,rfl,by omega,hjN,Nat.le_refl _,HT.out.1.up HL.out.1 HT.out.2.2.1 HQ.out,(below_drew' HT.out.2.1).trans (HB2.out.mono HT.out.2.2.2)⟩
   ·have HQ:=Lib.hid (show ¬ ltN y t from fun hc => hqn (by rw [← Hq.out];exact (cmpN_lt y t).2 hc))
    go_wp2_with fail
    go_region_held3 (fun W => W.cell? ⟨gr,m * 2,none⟩ = some (.string y.1) ∧ W.cell? ⟨gr,m * 2 + 1,none⟩ = some (.int .i64 y.2) ∧ W.cell? ⟨w.heap.size,0,none⟩ = some (.string t.1) ∧ W.cell? ⟨w.heap.size,1,none⟩ = some (.int .i64 t.2))
     (first | exact HS0.out | exact HS1.out)
     (first | (go_at_call 69;refine (HC.out _).mono ?_;rintro e w2 ⟨rfl,hb2⟩;have HS1:=Lib.hid (HS.out w2 (below_drew' (Below.refl _ _) |>.trans hb2));have HB2:=Lib.hid hb2;clear hb2))
    go_wp2
    go_roundg (m - i)
    case measure => omega
    case rel => exact ⟨i,m,rfl,rfl,by omega,by omega,Nat.le_refl _,HT.out.1.down HL.out.1 HT.out.2.2.1 HQ.out,(below_drew' HT.out.2.1).trans (HB2.out.mono HT.out.2.2.2)⟩
  ·obtain rfl : j = i:=by omega
   have HB:=Lib.hid (And.intro hB hzr)
   by_cases hin : j < N
   ·have hm : j < L.length:=by rw [HN.out];exact hin
    obtain ⟨y,hy⟩ : ∃ y,L[j]? = some y:=⟨_,List.getElem?_eq_getElem hm⟩
    obtain ⟨gr,ucap,hform,hc1,hc2⟩:=own_pos2 hrow (by omega)
    simp only [Value.slice.injEq,true_and] at hform
    obtain ⟨rfl,rfl⟩:=hform
    obtain ⟨y0,y1⟩:=namesC_at _ L j hy
    have c0 : wr.cell? ⟨gr,j * 2,none⟩ = some (.string y.1):=(hrow.cellAt _ (by omega)).trans y0
    have c1 : wr.cell? ⟨gr,j * 2 + 1,none⟩ = some (.int .i64 y.2):=(hrow.cellAt _ (by omega)).trans y1
    have hgl:=(hrow.lt gr rfl).2
    have x1 : (0 : Int) ≤ (j : Int):=by omega
    have x2 : (j : Int) < (N : Int):=by omega
    have hd : decide ((j : Int) < (N : Int)) = true:=decide_eq_true x2
    have hd2 : decide (j < N) = true:=decide_eq_true hin
    obtain ⟨q,Hq⟩ : ∃ Q,Hid (cmpN y.1 y.2 t.1 t.2 = Q):=⟨_,Lib.hid rfl⟩
    have HC:=Lib.hid (show ∀ X : World,Calls Tryz.prog 69 #[.agg #[.string y.1,.int .i64 y.2],.agg #[.string t.1,.int .i64 t.2]] X (fun e w' => e = .returned (.int .i64 q) ∧ Below X.heap.size X w') from fun X => by
     have:=tsCmpB y t X
     rwa [Hq.out] at this)
    have HS:=Lib.hid (show ∀ X : World,Below wr.heap.size wr X → (X.cell? ⟨gr,j * 2,none⟩ = some (.string y.1) ∧ X.cell? ⟨gr,j * 2 + 1,none⟩ = some (.int .i64 y.2) ∧ X.cell? ⟨w.heap.size,0,none⟩ = some (.string t.1) ∧ X.cell? ⟨w.heap.size,1,none⟩ = some (.int .i64 t.2)) from fun X hX =>
     ⟨(hX.cell (p:=⟨gr,j * 2,none⟩) hgl).trans c0,(hX.cell (p:=⟨gr,j * 2 + 1,none⟩) hgl).trans c1,(hX.cell (p:=⟨w.heap.size,0,none⟩) (Nat.lt_of_lt_of_le hz0 hzr)).trans k0,(hX.cell (p:=⟨w.heap.size,1,none⟩) (Nat.lt_of_lt_of_le hz0 hzr)).trans k1⟩)
    have HS0:=Lib.hid (HS.out wr.drew (below_drew' (Below.refl _ _)))
    have HO:=Lib.hid (show Z = decide (q = 0) by
     rw [← HZ.out,← Hq.out,hI.found HL.out.1 hy]
     exact decide_eq_decide.2 (cmpN_zero y t).symm)
    clear hI hB hy y0 y1 hrow hgl hzr hm c0 c1 k0 k1
    by_cases hq0 : q = 0
    ·have hq1 : (q == 0) = true:=by simpa using hq0
     have HO2:=Lib.hid (show Z = true by rw [HO.out];exact decide_eq_true hq0)
     go_wp2_with fail
     go_region_held3 (fun W => W.cell? ⟨gr,j * 2,none⟩ = some (.string y.1) ∧ W.cell? ⟨gr,j * 2 + 1,none⟩ = some (.int .i64 y.2) ∧ W.cell? ⟨w.heap.size,0,none⟩ = some (.string t.1) ∧ W.cell? ⟨w.heap.size,1,none⟩ = some (.int .i64 t.2))
      (first | exact HS0.out | exact HS1.out)
      (first | (go_at_call 69;refine (HC.out _).mono ?_;rintro e w2 ⟨rfl,hb2⟩;have HS1:=Lib.hid (HS.out w2 (below_drew' (Below.refl _ _) |>.trans hb2));have HB2:=Lib.hid hb2;clear hb2))
     go_wp2
     go_ret2
     exact ⟨⟨j,by rw [HO2.out];rfl⟩,HL.out.2.2.trans (((below_drew' HB.out.1).trans (HB2.out.mono HB.out.2)).mono (Nat.le_of_lt hz0))⟩
    ·have hq1 : (q == 0) = false:=by simpa using hq0
     have HO2:=Lib.hid (show Z = false by rw [HO.out];exact decide_eq_false hq0)
     go_wp2_with fail
     go_region_held3 (fun W => W.cell? ⟨gr,j * 2,none⟩ = some (.string y.1) ∧ W.cell? ⟨gr,j * 2 + 1,none⟩ = some (.int .i64 y.2) ∧ W.cell? ⟨w.heap.size,0,none⟩ = some (.string t.1) ∧ W.cell? ⟨w.heap.size,1,none⟩ = some (.int .i64 t.2))
      (first | exact HS0.out | exact HS1.out)
      (first | (go_at_call 69;refine (HC.out _).mono ?_;rintro e w2 ⟨rfl,hb2⟩;have HS1:=Lib.hid (HS.out w2 (below_drew' (Below.refl _ _) |>.trans hb2));have HB2:=Lib.hid hb2;clear hb2))
     go_wp2
     go_ret2
     exact ⟨⟨j,by rw [HO2.out];rfl⟩,HL.out.2.2.trans (((below_drew' HB.out.1).trans (HB2.out.mono HB.out.2)).mono (Nat.le_of_lt hz0))⟩
   ·have HO:=Lib.hid (show Z = false by rw [← HZ.out];exact hI.none (by rw [HN.out];omega))
    have hd : decide ((j : Int) < (N : Int)) = false:=decide_eq_false (by omega)
    have hd2 : decide (j < N) = false:=decide_eq_false hin
    clear hI hB hrow hzr k0 k1
    go_wp2
    go_quiet (fail)
    go_wp2
    go_ret2
    exact ⟨⟨j,by rw [HO.out];rfl⟩,HL.out.2.2.trans ((below_drewN HB.out.1 _).mono (Nat.le_of_lt hz0))⟩
end Go.Proofs.YtnfndgmlnoeelaaGreatDoor
/- testselect.Certify -/
namespace Go.Proofs.YtnfndgmlnoeelaaGreatDoor
open Go.RowKit Go.Proofs Go.Shelf
def CertV (l : List Mo) (n : ByteArray × Int) (er : Int) (r : Option (List (ByteArray × Int))) : Prop:=
 (loadE l n ≠ 0 ∧ er = loadE l n ∧ r = none) ∨ (loadE l n = 0 ∧ Clo (grf l) n none ∧ er = 21 ∧ r = none) ∨
 (loadE l n = 0 ∧ ∃ L,Clo (grf l) n (some L) ∧ isT l n = false ∧ er = 9 ∧ r = none) ∨ (loadE l n = 0 ∧ ∃ L,Clo (grf l) n (some L) ∧ isT l n = true ∧ er = 0 ∧ r = some L)
theorem CertV.unique {l : List Mo} {n : ByteArray × Int} {er er' : Int} {r r' : Option (List (ByteArray × Int))} (h : CertV l n er r) (k : CertV l n er' r') : er = er' ∧ r = r':=by
 rcases h with ⟨h1,rfl,rfl⟩ | ⟨h1,h2,rfl,rfl⟩ | ⟨h1,L,h2,h3,rfl,rfl⟩ | ⟨h1,L,h2,h3,rfl,rfl⟩ <;> rcases k with ⟨k1,rfl,rfl⟩ | ⟨k1,k2,rfl,rfl⟩ | ⟨k1,L',k2,k3,rfl,rfl⟩ | ⟨k1,L',k2,k3,rfl,rfl⟩ <;>
  first
   | exact ⟨rfl,rfl⟩
   | exact absurd k1 h1
   | exact absurd h1 k1
   | (exfalso;have:=h2.unique k2;cases this;done)
   | (exfalso;rw [h3] at k3;cases k3;done)
   | (have:=h2.unique k2;cases this;exact ⟨rfl,rfl⟩)
def certT (l : List Mo) (n : ByteArray × Int) (L : List (ByteArray × Int)) : ByteArray:=⟨(keyL l n L).toArray⟩
def zeroC : Value:=.agg #[.string ⟨#[]⟩,.int .i64 0,.slice none 0 0,.string ⟨#[]⟩]
def CertP (l : List Mo) (n : ByteArray × Int) (w : World) (e : Ending) (w' : World) : Prop:=
 Below w.heap.size w w' ∧ ((∃ er,er ≠ 0 ∧ CertV l n er none ∧ e = .returned (.tuple #[zeroC,.int .i64 er])) ∨
  ∃ L A c,CertV l n 0 (some L) ∧ e = .returned (.tuple #[.agg #[.string n.1,.int .i64 n.2,.slice A (List.length L) c,.string (certT l n L)],.int .i64 0]) ∧ w'.ownsRow w.heap.size 24 2 (.slice A L.length c) L.length (namesC L) ∧ L.length ≤ 400000)
theorem below_set4 {B b : Nat} {w W : World} (h : Below B w W) (hb : B ≤ b) {v0 v1 v2 v3 : Value} : Below B w ((((W.setCell ⟨b,0,none⟩ v0).setCell ⟨b,1,none⟩ v1).setCell ⟨b,2,none⟩ v2).setCell ⟨b,3,none⟩ v3):=(((h.setCell (p:=⟨b,0,none⟩) hb v0).setCell (p:=⟨b,1,none⟩) hb v1).setCell (p:=⟨b,2,none⟩) hb v2).setCell (p:=⟨b,3,none⟩) hb v3
theorem own_set4 {base b : Nat} {W : World} {v : Value} {n : Nat} {xs : List Value} (h : W.ownsRow base 24 2 v n xs) (hb : v.ownBlock ≠ some b) {v0 v1 v2 v3 : Value} : ((((W.setCell ⟨b,0,none⟩ v0).setCell ⟨b,1,none⟩ v1).setCell ⟨b,2,none⟩ v2).setCell ⟨b,3,none⟩ v3).ownsRow base 24 2 v n xs:=
 ownsRow_setCell_other (ownsRow_setCell_other (ownsRow_setCell_other (ownsRow_setCell_other h hb _) hb _) hb _) hb _
set_option maxRecDepth 100000 in
set_option maxHeartbeats 8000000 in
theorem tsCertify_any (l : List Mo) (n : ByteArray × Int) (A : Option Addr) (c : Nat) (w : World) (hl : SlM w w.heap.size A c l) (hn : NOk n) (hw : MoW l) (hg : greatL l = false) :
  Calls Tryz.prog 39 #[.slice A l.length c,.agg #[.string n.1,.int .i64 n.2]] w (CertP l n w):=by
 obtain ⟨W0,hW0⟩ : ∃ W0,(w.alloc (.cells #[.string n.1,.int .i64 n.2] 24)).alloc (.cells #[.string ⟨#[]⟩,.int .i64 0,.slice none 0 0,.string ⟨#[]⟩] 104) = W0:=⟨_,rfl⟩
 have hb0 : Below w.heap.size w W0:=by subst hW0;exact ((Below.refl _ _).alloc (Nat.le_refl _) _).alloc (by simp) _
 have hz0 : w.heap.size + 1 < W0.heap.size:=by subst hW0;simp
 have n0 : W0.cell? ⟨w.heap.size,0,none⟩ = some (.string n.1):=by subst hW0;go_simp
 have n1 : W0.cell? ⟨w.heap.size,1,none⟩ = some (.int .i64 n.2):=by subst hW0;go_simp
 have hrow : W0.heap[w.heap.size + 1]? = some (.cells #[.string ⟨#[]⟩,.int .i64 0,.slice none 0 0,.string ⟨#[]⟩] 104 (0,0)):=by
  subst hW0
  have:=heap_alloc_new (w.alloc (.cells #[.string n.1,.int .i64 n.2] 24)) (.cells #[.string ⟨#[]⟩,.int .i64 0,.slice none 0 0,.string ⟨#[]⟩] 104)
  simpa using this
 have HK:=Lib.hid (show ∀ X : World,Below W0.heap.size W0 X → X.cell? ⟨w.heap.size,0,none⟩ = some (.string n.1) ∧ X.cell? ⟨w.heap.size,1,none⟩ = some (.int .i64 n.2) from fun X hX =>
  ⟨(hX.cell (p:=⟨w.heap.size,0,none⟩) (Nat.lt_of_succ_lt hz0)).trans n0,(hX.cell (p:=⟨w.heap.size,1,none⟩) (Nat.lt_of_succ_lt hz0)).trans n1⟩)
 have HR:=Lib.hid (show ∀ X : World,Below W0.heap.size W0 X → X.heap[w.heap.size + 1]? = some (.cells #[.string ⟨#[]⟩,.int .i64 0,.slice none 0 0,.string ⟨#[]⟩] 104 (0,0)) from fun X hX => (hX.block _ hz0).trans hrow)
 have HL:=Lib.hid (show ∀ X : World,Below W0.heap.size W0 X → SlM X X.heap.size A c l ∧ Below w.heap.size w X from fun X hX => ⟨(hl.below (hb0.trans (hX.mono hb0.size))).keep (hb0.trans (hX.mono hb0.size)).size (fun _ _ => rfl),hb0.trans (hX.mono hb0.size)⟩)
 have ht:=greatL_tot hg
 have hll:=(greatL_le hg).1
 have HX:=Lib.hid (And.intro hn (And.intro hw hg))
 have HKey:=Lib.hid (dKey_any l n A c W0 (HL.out W0 (Below.refl _ _)).1 hn hw (by omega) (by omega) (fun h => ⟨_,uok_of hg h⟩))
 have HTs:=Lib.hid (show ∀ X : World,Below W0.heap.size W0 X → Calls Tryz.prog 41 #[.slice A l.length c] X (TestsP l X) from fun X hX => tsTests_any l A c X (HL.out X hX).1 hw (by omega) (by omega))
 have HCl:=Lib.hid (show ∀ X : World,Below W0.heap.size W0 X → Calls Tryz.prog 18 #[.slice A l.length c,.agg #[.string n.1,.int .i64 n.2]] X (CloRes l n X) from fun X hX => dClosureF_any l n A c X (HL.out X hX).1 hn hw (by omega) (by omega) (fun h => ⟨_,uok_of hg h⟩))
 obtain ⟨N,HN⟩ : ∃ Q,Hid (l.length = Q):=⟨_,Lib.hid rfl⟩
 rw [HN.out] at HKey HTs HCl ⊢
 have HTL:=Lib.hid (show (testsOf l).length ≤ 1000000 by have:=testsOf_len l;omega)
 clear hl hn hw hg hb0 ht hll hrow
 go_enter Tryz.func39,Tryz.ntmps39
 go_wp2_with fail
 refine HKey.out.mono ?_
 rintro e w1 ⟨hb1,⟨hE,rfl⟩ | ⟨hE,hcl,rfl⟩ | ⟨hE,L,hcl,rfl⟩⟩
 ·have hE2 : (loadE l n != 0) = true:=by simpa using hE
  have hrow:=HR.out w1 hb1
  have b0 : w1.cell? ⟨w.heap.size + 1,0,none⟩ = some (.string ⟨#[]⟩):=cell_of_row w1 _ 0 _ _ (0,0) hrow
  have f0 : w1.frozen? ⟨w.heap.size + 1,0,none⟩ = false:=frozen_of_row w1 _ 0 _ _ hrow
  have b1 : w1.cell? ⟨w.heap.size + 1,1,none⟩ = some (.int .i64 0):=cell_of_row w1 _ 1 _ _ (0,0) hrow
  have f1 : w1.frozen? ⟨w.heap.size + 1,1,none⟩ = false:=frozen_of_row w1 _ 1 _ _ hrow
  have b2 : w1.cell? ⟨w.heap.size + 1,2,none⟩ = some (.slice none 0 0):=cell_of_row w1 _ 2 _ _ (0,0) hrow
  have f2 : w1.frozen? ⟨w.heap.size + 1,2,none⟩ = false:=frozen_of_row w1 _ 2 _ _ hrow
  have b3 : w1.cell? ⟨w.heap.size + 1,3,none⟩ = some (.string ⟨#[]⟩):=cell_of_row w1 _ 3 _ _ (0,0) hrow
  have f3 : w1.frozen? ⟨w.heap.size + 1,3,none⟩ = false:=frozen_of_row w1 _ 3 _ _ hrow
  have HB1:=Lib.hid (And.intro (HL.out w1 hb1).2 hE)
  obtain ⟨E,HE⟩ : ∃ Q,Hid (loadE l n = Q):=⟨_,Lib.hid rfl⟩
  rw [HE.out] at hE2 ⊢
  clear hb1 hE n0 n1 hrow hW0
  go_wp2
  refine bodyPost_ret (v:=.tuple #[zeroC,.int .i64 E]) (by simp [results,Tryz.results39,go_sem,zeroC,b0,b1,b2,b3]) rfl ?_
  exact ⟨below_set4 HB1.out.1 (Nat.le_succ _),.inl ⟨E,by rw [← HE.out];exact HB1.out.2,.inl ⟨HB1.out.2,HE.out.symm,rfl⟩,rfl⟩⟩
 ·have hrow:=HR.out w1 hb1
  have b0 : w1.cell? ⟨w.heap.size + 1,0,none⟩ = some (.string ⟨#[]⟩):=cell_of_row w1 _ 0 _ _ (0,0) hrow
  have f0 : w1.frozen? ⟨w.heap.size + 1,0,none⟩ = false:=frozen_of_row w1 _ 0 _ _ hrow
  have b1 : w1.cell? ⟨w.heap.size + 1,1,none⟩ = some (.int .i64 0):=cell_of_row w1 _ 1 _ _ (0,0) hrow
  have f1 : w1.frozen? ⟨w.heap.size + 1,1,none⟩ = false:=frozen_of_row w1 _ 1 _ _ hrow
  have b2 : w1.cell? ⟨w.heap.size + 1,2,none⟩ = some (.slice none 0 0):=cell_of_row w1 _ 2 _ _ (0,0) hrow
  have f2 : w1.frozen? ⟨w.heap.size + 1,2,none⟩ = false:=frozen_of_row w1 _ 2 _ _ hrow
  have b3 : w1.cell? ⟨w.heap.size + 1,3,none⟩ = some (.string ⟨#[]⟩):=cell_of_row w1 _ 3 _ _ (0,0) hrow
  have f3 : w1.frozen? ⟨w.heap.size + 1,3,none⟩ = false:=frozen_of_row w1 _ 3 _ _ hrow
  have HB1:=Lib.hid (And.intro (HL.out w1 hb1).2 (And.intro hE hcl))
  clear hb1 hE hcl n0 n1 hrow hW0
  go_wp2
  refine bodyPost_ret (v:=.tuple #[zeroC,.int .i64 21]) (by simp [results,Tryz.results39,go_sem,zeroC,b0,b1,b2,b3]) rfl ?_
  exact ⟨below_set4 HB1.out.1 (Nat.le_succ _),.inl ⟨21,by decide,.inr (.inl ⟨HB1.out.2.1,HB1.out.2.2,rfl,rfl⟩),rfl⟩⟩
 ·obtain ⟨T,HTT⟩ : ∃ Q,Hid ((⟨(keyL l n L).toArray⟩ : ByteArray) = Q):=⟨_,Lib.hid rfl⟩
  rw [HTT.out]
  have HB1:=Lib.hid (And.intro hb1 (And.intro hE hcl))
  have HK1:=Lib.hid (HK.out w1.drew (below_drew' hb1))
  have HT1:=Lib.hid (HTs.out w1.drew (below_drew' hb1))
  have hz1 : W0.heap.size ≤ w1.heap.size:=hb1.size
  clear hb1 hE hcl n0 n1 hW0
  obtain ⟨TL,HTl⟩ : ∃ Q,Hid (testsOf l = Q):=⟨_,Lib.hid rfl⟩
  unfold TestsP at HT1
  rw [HTl.out] at HT1 HTL
  have HTS:=Lib.hid (show TL.Pairwise ltN ∧ memN TL n = isT l n by
   rw [← HTl.out]
   refine ⟨testsOf_sorted l,?_⟩
   rw [Bool.eq_iff_iff,memN_iff,mem_testsOf])
  obtain ⟨q,Hq⟩ : ∃ Q,Hid (isT l n = Q):=⟨_,Lib.hid rfl⟩
  go_wp2_with fail
  go_region_held3 (fun W => W.cell? ⟨w.heap.size,0,none⟩ = some (.string n.1) ∧ W.cell? ⟨w.heap.size,1,none⟩ = some (.int .i64 n.2))
   (first | exact HK1.out | exact HK2.out | exact HK3.out)
   (first
    | (go_at_call 41;refine HT1.out.mono ?_;rintro e w2 ⟨v2,rfl,hown2,hb2⟩;obtain ⟨vA2,vc2,rfl⟩:=own_formN hown2;have hbb2 : Below W0.heap.size W0 w2:=(below_drew' HB1.out.1).trans (Below.mono hb2 hz1);have HK2:=Lib.hid (HK.out w2 hbb2);have HB2:=Lib.hid hbb2;have HSr:=Lib.hid (slcSearchN_any TL n vA2 vc2 _ w2 hown2 HTS.out.1 HTL.out);clear hown2 hb2 hbb2)
    | (go_at_call 68;refine HSr.out.mono ?_;rintro e w3 ⟨⟨i3,rfl⟩,hb3⟩;have hbb3 : Below W0.heap.size W0 w3:=HB2.out.trans (hb3.mono HB2.out.size);have HK3:=Lib.hid (HK.out w3 hbb3);have HB3:=Lib.hid hbb3;rw [HTS.out.2,Hq.out];clear hb3 hbb3))
  have hbw3:=(HL.out w3 HB3.out).2
  obtain ⟨k0,k1⟩:=HK3.out
  cases hq : q with
  | false =>
   have hrow:=HR.out w3 HB3.out
   have b0 : w3.cell? ⟨w.heap.size + 1,0,none⟩ = some (.string ⟨#[]⟩):=cell_of_row w3 _ 0 _ _ (0,0) hrow
   have f0 : w3.frozen? ⟨w.heap.size + 1,0,none⟩ = false:=frozen_of_row w3 _ 0 _ _ hrow
   have b1 : w3.cell? ⟨w.heap.size + 1,1,none⟩ = some (.int .i64 0):=cell_of_row w3 _ 1 _ _ (0,0) hrow
   have f1 : w3.frozen? ⟨w.heap.size + 1,1,none⟩ = false:=frozen_of_row w3 _ 1 _ _ hrow
   have b2 : w3.cell? ⟨w.heap.size + 1,2,none⟩ = some (.slice none 0 0):=cell_of_row w3 _ 2 _ _ (0,0) hrow
   have f2 : w3.frozen? ⟨w.heap.size + 1,2,none⟩ = false:=frozen_of_row w3 _ 2 _ _ hrow
   have b3 : w3.cell? ⟨w.heap.size + 1,3,none⟩ = some (.string ⟨#[]⟩):=cell_of_row w3 _ 3 _ _ (0,0) hrow
   have f3 : w3.frozen? ⟨w.heap.size + 1,3,none⟩ = false:=frozen_of_row w3 _ 3 _ _ hrow
   have HBw:=Lib.hid hbw3
   have HQ:=Lib.hid (show isT l n = false by rw [Hq.out,hq])
   clear hbw3 hrow hq
   go_wp2
   refine bodyPost_ret (v:=.tuple #[zeroC,.int .i64 9]) (by simp [results,Tryz.results39,go_sem,zeroC,b0,b1,b2,b3]) rfl ?_
   exact ⟨below_set4 HBw.out (Nat.le_succ _),.inl ⟨9,by decide,.inr (.inr (.inl ⟨HB1.out.2.1,L,HB1.out.2.2,HQ.out,rfl,rfl⟩)),rfl⟩⟩
  | true =>
   have HQ:=Lib.hid (show isT l n = true by rw [Hq.out,hq])
   have HC3:=Lib.hid (HCl.out w3 HB3.out)
   have HBw:=Lib.hid hbw3
   clear hbw3 hq
   go_wp2_with fail
   refine HC3.out.mono ?_
   rintro e w4 ⟨hb4,⟨hE4,rfl⟩ | ⟨hE4,hcl4,rfl⟩ | ⟨hE4,L4,v4,hcl4,rfl,hown4,hlen4⟩⟩
   ·exact absurd HB1.out.2.1 hE4
   ·have:=HB1.out.2.2.unique hcl4;cases this
   ·have:=HB1.out.2.2.unique hcl4
    cases this
    obtain ⟨vA,vc,rfl⟩:=own_formN hown4
    have hbb4 : Below W0.heap.size W0 w4:=HB3.out.trans (hb4.mono HB3.out.size)
    obtain ⟨k0,k1⟩:=HK.out w4 hbb4
    have hrow:=HR.out w4 hbb4
    have b0 : w4.cell? ⟨w.heap.size + 1,0,none⟩ = some (.string ⟨#[]⟩):=cell_of_row w4 _ 0 _ _ (0,0) hrow
    have f0 : w4.frozen? ⟨w.heap.size + 1,0,none⟩ = false:=frozen_of_row w4 _ 0 _ _ hrow
    have b1 : w4.cell? ⟨w.heap.size + 1,1,none⟩ = some (.int .i64 0):=cell_of_row w4 _ 1 _ _ (0,0) hrow
    have f1 : w4.frozen? ⟨w.heap.size + 1,1,none⟩ = false:=frozen_of_row w4 _ 1 _ _ hrow
    have b2 : w4.cell? ⟨w.heap.size + 1,2,none⟩ = some (.slice none 0 0):=cell_of_row w4 _ 2 _ _ (0,0) hrow
    have f2 : w4.frozen? ⟨w.heap.size + 1,2,none⟩ = false:=frozen_of_row w4 _ 2 _ _ hrow
    have b3 : w4.cell? ⟨w.heap.size + 1,3,none⟩ = some (.string ⟨#[]⟩):=cell_of_row w4 _ 3 _ _ (0,0) hrow
    have f3 : w4.frozen? ⟨w.heap.size + 1,3,none⟩ = false:=frozen_of_row w4 _ 3 _ _ hrow
    have hne : (Value.slice vA L.length vc).ownBlock ≠ some (w.heap.size + 1):=row_ne hown4 hrow (.inr ⟨_,_,rfl,by decide⟩)
    have HF:=Lib.hid (And.intro (HL.out w4 hbb4).2 (And.intro hown4 (And.intro hlen4 hne)))
    obtain ⟨M,HM⟩ : ∃ Q,Hid (L.length = Q):=⟨_,Lib.hid rfl⟩
    rw [HM.out]
    clear hb4 hE4 hcl4 hown4 hlen4 hbb4 hrow hne
    go_wp2
    refine bodyPost_ret (v:=.tuple #[.agg #[.string n.1,.int .i64 n.2,.slice vA M vc,.string T],.int .i64 0]) (by simp [results,Tryz.results39,go_sem,b0,b1,b2,b3]) rfl ?_
    refine ⟨below_set4 HF.out.1 (Nat.le_succ _),.inr ⟨L,vA,vc,.inr (.inr (.inr ⟨HB1.out.2.1,L,HB1.out.2.2,HQ.out,rfl,rfl⟩)),by rw [HM.out];unfold certT;rw [HTT.out],?_,HF.out.2.2.1⟩⟩
    exact own_set4 (World.ownsRow.mono HF.out.2.1 HBw.out.size) HF.out.2.2.2
end Go.Proofs.YtnfndgmlnoeelaaGreatDoor
/- slices.Equal at names, whatever they are; testselect.Verify -/
namespace Go.Proofs.YtnfndgmlnoeelaaGreatDoor
open Go.RowKit Go.Proofs Go.Shelf
def VerV (l : List Mo) (n : ByteArray × Int) (L' : List (ByteArray × Int)) (k : ByteArray) (b : Bool) : Prop:=b = true ↔ (CertV l n 0 (some L') ∧ certT l n L' = k)
theorem toL_beq (a b : ByteArray) : (a.toList == b.toList) = decide (a = b):=by
 rw [Bool.eq_iff_iff,beq_iff_eq,decide_eq_true_iff]
 refine ⟨fun h => ?_,fun h => by rw [h]⟩
 rw [ByteArray.toList_eq,ByteArray.toList_eq] at h
 exact ByteArray.ext (Array.ext' h)
set_option maxRecDepth 100000 in
set_option maxHeartbeats 4000000 in
theorem tsVerify_any (l : List Mo) (n : ByteArray × Int) (L' : List (ByteArray × Int)) (k : ByteArray) (A : Option Addr) (c : Nat) (cA : Option Addr) (cc : Nat) (w : World) (hl : SlM w w.heap.size A c l) (hN : SlN w w.heap.size cA cc L') (hn : NOk n) (hw : MoW l) (hg : greatL l = false) :
  Calls Tryz.prog 40 #[.slice A l.length c,.agg #[.string n.1,.int .i64 n.2,.slice cA L'.length cc,.string k]] w fun e w' => ∃ b,e = .returned (.bool b) ∧ VerV l n L' k b ∧ Below w.heap.size w w':=by
 obtain ⟨W0,hW0⟩ : ∃ W0,w.alloc (.cells #[.string n.1,.int .i64 n.2,.slice cA L'.length cc,.string k] 104) = W0:=⟨_,rfl⟩
 have hb0 : Below w.heap.size w W0:=by subst hW0;exact (Below.refl _ _).alloc (Nat.le_refl _) _
 have hz0 : w.heap.size < W0.heap.size:=by subst hW0;simp
 have n0 : W0.cell? ⟨w.heap.size,0,none⟩ = some (.string n.1):=by subst hW0;go_simp
 have n1 : W0.cell? ⟨w.heap.size,1,none⟩ = some (.int .i64 n.2):=by subst hW0;go_simp
 have n2 : W0.cell? ⟨w.heap.size,2,none⟩ = some (.slice cA L'.length cc):=by subst hW0;go_simp
 have n3 : W0.cell? ⟨w.heap.size,3,none⟩ = some (.string k):=by subst hW0;go_simp
 have HC:=Lib.hid (tsCertify_any l n A c W0 ((hl.below hb0).keep hb0.size (fun _ _ => rfl)) hn hw hg)
 have HN0:=Lib.hid (hN.below hb0)
 obtain ⟨N,HN⟩ : ∃ Q,Hid (l.length = Q):=⟨_,Lib.hid rfl⟩
 obtain ⟨N',HN'⟩ : ∃ Q,Hid (L'.length = Q):=⟨_,Lib.hid rfl⟩
 rw [HN.out] at HC ⊢
 rw [HN'.out] at n2 hW0 ⊢
 have HB:=Lib.hid hb0
 clear hl hN hn hw hg hb0
 go_enter Tryz.func40,Tryz.ntmps40
 go_wp2_with fail
 refine HC.out.mono ?_
 rintro e w1 ⟨hb1,⟨er,hne,hv,rfl⟩ | ⟨L,vA,vc,hv,rfl,hown,hlen⟩⟩
 ·have hne2 : (er == 0) = false:=by simpa using hne
  have HF:=Lib.hid (show VerV l n L' k false from ⟨fun h => (by cases h),fun h => absurd (hv.unique h.1).1 hne⟩)
  have HB1:=Lib.hid (HB.out.trans (hb1.mono HB.out.size))
  clear hne hv hb1 n0 n1 n2 n3 hW0
  unfold zeroC
  go_wp2
  go_ret
  exact ⟨false,rfl,HF.out,HB1.out.alloc HB1.out.size _⟩
 ·obtain ⟨W2,hW2⟩ : ∃ W2,w1.alloc (.cells #[.string n.1,.int .i64 n.2,.slice vA L.length vc,.string (certT l n L)] 104) = W2:=⟨_,rfl⟩
  have hb2 : Below w1.heap.size w1 W2:=by subst hW2;exact (Below.refl _ _).alloc (Nat.le_refl _) _
  have hb02 : Below W0.heap.size W0 W2:=hb1.trans (hb2.mono hb1.size)
  have m2 : W2.cell? ⟨w1.heap.size,1 + 1,none⟩ = some (.slice vA L.length vc):=by subst hW2;go_simp
  have m2' : W2.cell? ⟨w1.heap.size,2,none⟩ = some (.slice vA L.length vc):=by subst hW2;go_simp
  have m3 : W2.cell? ⟨w1.heap.size,3,none⟩ = some (.string (certT l n L)):=by subst hW2;go_simp
  have k2 : W2.cell? ⟨w.heap.size,2,none⟩ = some (.slice cA N' cc):=(hb02.cell (p:=⟨w.heap.size,2,none⟩) hz0).trans n2
  have k3 : W2.cell? ⟨w.heap.size,3,none⟩ = some (.string k):=(hb02.cell (p:=⟨w.heap.size,3,none⟩) hz0).trans n3
  have HSl:=Lib.hid (And.intro (SlN.of_own (own_of_blocks' hown fun k hk => hb2.block k hk)) (HN0.out.below hb02))
  have HB1:=Lib.hid (HB.out.trans (hb02.mono HB.out.size))
  obtain ⟨T,HT⟩ : ∃ Q,Hid (certT l n L = Q):=⟨_,Lib.hid rfl⟩
  rw [HT.out] at hW2 m3 ⊢
  have HV:=Lib.hid hv
  obtain ⟨M,HM⟩ : ∃ Q,Hid (L.length = Q):=⟨_,Lib.hid rfl⟩
  rw [HM.out] at hW2 m2 m2' ⊢
  have HEq:=Lib.hid (slcEqualSl_any L L' vA vc cA cc W2 HSl.out.1 HSl.out.2)
  rw [HM.out,HN'.out] at HEq
  have hst:=toL_beq T k
  by_cases hTk : T = k
  ·have hst2 : (T.toList == k.toList) = true:=by rw [hst];exact decide_eq_true hTk
   have HF:=Lib.hid (show VerV l n L' k (decide (L = L')) by
    unfold VerV
    rw [decide_eq_true_iff]
    constructor
    ·rintro rfl
     exact ⟨HV.out,by rw [HT.out,hTk]⟩
    ·intro h
     have:=(HV.out.unique h.1).2
     cases this
     rfl)
   obtain ⟨q,Hq⟩ : ∃ Q,Hid (decide (L = L') = Q):=⟨_,Lib.hid rfl⟩
   rw [Hq.out] at HEq HF
   clear hst hTk hv hb1 hb2 hb02 hown hlen n0 n1 n2 n3 hW0
   go_wp2_with fail
   refine HEq.out.mono ?_
   rintro e w3 ⟨rfl,q2,rfl⟩
   go_wp2
   go_ret
   exact ⟨q,rfl,HF.out,below_drewN HB1.out _⟩
  ·have hst2 : (T.toList == k.toList) = false:=by rw [hst];exact decide_eq_false hTk
   have HF:=Lib.hid (show VerV l n L' k false from ⟨fun h => (by cases h),fun h => by
    have:=(HV.out.unique h.1).2
    cases this
    exact absurd (HT.out.symm.trans h.2) hTk⟩)
   clear hst hTk hv hb1 hb2 hb02 hown hlen n0 n1 n2 n3 hW0
   go_wp2
   go_ret
   exact ⟨false,rfl,HF.out,HB1.out⟩
end Go.Proofs.YtnfndgmlnoeelaaGreatDoor
