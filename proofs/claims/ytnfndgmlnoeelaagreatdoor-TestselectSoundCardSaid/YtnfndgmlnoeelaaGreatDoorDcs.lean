/- depend.closure -/
import Derived.Test.YtnfndgmlnoeelaaGreatDoorZlu
import Derived.Test.YtnfndgmlnoeelaaGreatDoorZlw
namespace Go.Proofs.YtnfndgmlnoeelaaGreatDoor
open Go.RowKit Go.Proofs Go.Shelf
theorem nodup_len {α : Type} [DecidableEq α] : ∀ (m U : List α),m.Nodup → (∀ x ∈ m,x ∈ U) → m.length ≤ U.length
 | [],U,_,_ => by simp
 | a :: m,U,h,hs => by
  obtain ⟨h1,h2⟩:=List.nodup_cons.1 h
  have hU : a ∈ U:=hs a (List.mem_cons_self ..)
  have ih:=nodup_len m (U.erase a) h2 (fun x hx => (List.mem_erase_of_ne (fun e => h1 (by rw [← e];exact hx))).2 (hs x (List.mem_cons_of_mem _ hx)))
  have hp:=List.length_pos_of_mem hU
  rw [List.length_erase_of_mem hU] at ih
  simp only [List.length_cons]
  omega
theorem sorted_of_nodup {l : List (ByteArray × Int)} (h : l.Nodup) : (sortNames l).Pairwise ltN:=by
 have hn : (sortNames l).Nodup:=(List.Perm.nodup_iff (List.mergeSort_perm l _)).2 h
 refine (List.pairwise_iff_forall_sublist.2 fun {a b} hs => ?_)
 have h1:=List.pairwise_iff_forall_sublist.1 (sortNames_le l) hs
 have h2:=List.pairwise_iff_forall_sublist.1 (List.nodup_iff_pairwise_ne.1 hn) hs
 rcases ltN_tri a b with h3 | h3 | h3
 ·exact h3
 ·exact absurd h3 h2
 ·exact absurd h3 h1
theorem snocA {α : Type} (l : List α) : l = [] ∨ ∃ r x,l = r ++ [x]:=by
 induction l with
 | nil => exact .inl rfl
 | cons a l ih =>
  rcases ih with rfl | ⟨r,x,rfl⟩
  ·exact .inr ⟨[],a,rfl⟩
  ·exact .inr ⟨a :: r,x,rfl⟩
theorem MapA.obj {α : Type} {K : KeyT α} {w : World} {b N : Nat} {g : α → Option Value} (h : MapA K w b N g) : ∃ o : Obj,w.heap[b]? = some o ∧ o.isCells = false:=by
 obtain ⟨n,D,⟨es,cl,h1,_⟩,_⟩:=h
 exact ⟨_,h1,rfl⟩
theorem bodyOf_ok : ∀ {l : List Mo} {x : ByteArray × Int} {y : Dc},bodyOf l x = some y → ∃ (j : Nat) (m : Mo),l[j]? = some m ∧ y ∈ m.ds ∧ m.label = x.1
 | [],_,_,h => by cases h
 | m :: r,x,y,h => by
  unfold bodyOf at h
  split at h
  ·rename_i hl
   exact ⟨0,m,rfl,List.mem_of_find?_eq_some h,hl⟩
  ·obtain ⟨j,m',h1,h2⟩:=bodyOf_ok h
   exact ⟨j + 1,m',by simpa using h1,h2⟩
theorem SlM.body {w : World} {B : Nat} {A : Option Addr} {c : Nat} {l : List Mo} (h : SlM w B A c l) {x : ByteArray × Int} {y : Dc} (hy : bodyOf l x = some y) : y.s.Sl w B y.A y.c:=by
 obtain ⟨j,m,h1,h2,_⟩:=bodyOf_ok hy
 obtain ⟨b,o,e,hb,_,_,_,hok⟩:=h.at_ h1
 obtain ⟨q,hq⟩:=List.getElem?_of_mem h2
 obtain ⟨b2,o2,e2,hb2,hall⟩:=hok.2.2.2 (by intro e;rw [e] at hq;simp at hq)
 exact (hall q y hq).2.2
def UOk (l : List Mo) (n : ByteArray × Int) (U : List (ByteArray × Int)) : Prop:=n ∈ U ∧ U.length ≤ 400000 ∧ (∀ x us,grf l x = some us → ∀ u ∈ us,u ∈ U ∧ NOk u) ∧ ∀ x y,bodyOf l x = some y → y.s.count ≤ 100000
def CloI (l : List Mo) (n : ByteArray × Int) (U met rest : List (ByteArray × Int)) : Prop:=
 met.Nodup ∧ n ∈ met ∧ (∀ x ∈ rest,x ∈ met) ∧ (∀ x ∈ met,NOk x ∧ x ∈ U ∧ Reach (grf l) n x) ∧ ∀ x ∈ met,x ∈ rest ∨ ∃ us,grf l x = some us ∧ ∀ u ∈ us,u ∈ met
def CloJ (l : List Mo) (n : ByteArray × Int) (U met rest : List (ByteArray × Int)) (x : ByteArray × Int) (us : List (ByteArray × Int)) (q : Nat) : Prop:=
 met.Nodup ∧ n ∈ met ∧ (∀ x ∈ rest,x ∈ met) ∧ (∀ x ∈ met,NOk x ∧ x ∈ U ∧ Reach (grf l) n x) ∧ (∀ z ∈ met,z ∈ rest ∨ z = x ∨ ∃ us,grf l z = some us ∧ ∀ u ∈ us,u ∈ met) ∧ x ∈ met ∧ grf l x = some us ∧ ∀ u ∈ us.take q,u ∈ met
theorem CloI.start {l : List Mo} {n : ByteArray × Int} {U : List (ByteArray × Int)} (hU : n ∈ U) (hn : NOk n) : CloI l n U [n] [n]:=
 ⟨by simp,by simp,fun x hx => hx,fun x hx => by rw [List.mem_singleton.1 hx];exact ⟨hn,hU,.refl⟩,fun x hx => .inl hx⟩
theorem CloI.enter {l : List Mo} {n : ByteArray × Int} {U met r : List (ByteArray × Int)} {x : ByteArray × Int} (h : CloI l n U met (r ++ [x])) {us : List (ByteArray × Int)} (hus : grf l x = some us) : CloJ l n U met r x us 0:=by
 obtain ⟨h1,h2,h3,h4,h5⟩:=h
 refine ⟨h1,h2,fun z hz => h3 z (List.mem_append_left _ hz),h4,fun z hz => ?_,h3 x (by simp),hus,by simp⟩
 rcases h5 z hz with h | h
 ·rcases List.mem_append.1 h with h | h
  ·exact .inl h
  ·exact .inr (.inl (List.mem_singleton.1 h))
 ·exact .inr (.inr h)
theorem CloJ.skip {l : List Mo} {n : ByteArray × Int} {U met r : List (ByteArray × Int)} {x u : ByteArray × Int} {us : List (ByteArray × Int)} {q : Nat} (h : CloJ l n U met r x us q) (hq : us[q]? = some u) (hu : u ∈ met) : CloJ l n U met r x us (q + 1):=by
 obtain ⟨h1,h2,h3,h4,h5,h6,h7,h8⟩:=h
 refine ⟨h1,h2,h3,h4,h5,h6,h7,fun z hz => ?_⟩
 obtain ⟨hlt,rfl⟩:=List.getElem?_eq_some_iff.1 hq
 rw [List.take_succ_eq_append_getElem hlt] at hz
 rcases List.mem_append.1 hz with hz | hz
 ·exact h8 z hz
 ·rw [List.mem_singleton.1 hz];exact hu
theorem CloJ.push {l : List Mo} {n : ByteArray × Int} {U met r : List (ByteArray × Int)} {x u : ByteArray × Int} {us : List (ByteArray × Int)} {q : Nat} (h : CloJ l n U met r x us q) (hU : UOk l n U) (hq : us[q]? = some u) (hu : u ∉ met) : CloJ l n U (met ++ [u]) (r ++ [u]) x us (q + 1):=by
 obtain ⟨h1,h2,h3,h4,h5,h6,h7,h8⟩:=h
 have hmem:=List.mem_of_getElem? hq
 have hu2:=hU.2.2.1 x us h7 u hmem
 refine ⟨List.nodup_append.2 ⟨h1,by simp,fun a ha b hb e => hu (by rw [List.mem_singleton.1 hb] at e;rw [← e];exact ha)⟩,List.mem_append_left _ h2,fun z hz => ?_,fun z hz => ?_,fun z hz => ?_,List.mem_append_left _ h6,h7,fun z hz => ?_⟩
 ·rcases List.mem_append.1 hz with hz | hz
  ·exact List.mem_append_left _ (h3 z hz)
  ·exact List.mem_append_right _ hz
 ·rcases List.mem_append.1 hz with hz | hz
  ·exact h4 z hz
  ·rw [List.mem_singleton.1 hz];exact ⟨hu2.2,hu2.1,(h4 x h6).2.2.step h7 hmem⟩
 ·rcases List.mem_append.1 hz with hz | hz
  ·rcases h5 z hz with h | h | ⟨vs,h,h'⟩
   ·exact .inl (List.mem_append_left _ h)
   ·exact .inr (.inl h)
   ·exact .inr (.inr ⟨vs,h,fun v hv => List.mem_append_left _ (h' v hv)⟩)
  ·exact .inl (List.mem_append_right _ hz)
 ·obtain ⟨hlt,rfl⟩:=List.getElem?_eq_some_iff.1 hq
  rw [List.take_succ_eq_append_getElem hlt] at hz
  rcases List.mem_append.1 hz with hz | hz
  ·exact List.mem_append_left _ (h8 z hz)
  ·exact List.mem_append_right _ hz
theorem CloJ.leave {l : List Mo} {n : ByteArray × Int} {U met r : List (ByteArray × Int)} {x : ByteArray × Int} {us : List (ByteArray × Int)} {q : Nat} (h : CloJ l n U met r x us q) (hq : us.length ≤ q) : CloI l n U met r:=by
 obtain ⟨h1,h2,h3,h4,h5,h6,h7,h8⟩:=h
 rw [List.take_of_length_le hq] at h8
 refine ⟨h1,h2,h3,h4,fun z hz => ?_⟩
 rcases h5 z hz with h | rfl | h
 ·exact .inl h
 ·exact .inr ⟨us,h7,h8⟩
 ·exact .inr h
theorem CloI.done {l : List Mo} {n : ByteArray × Int} {U met : List (ByteArray × Int)} (h : CloI l n U met []) {L : List (ByteArray × Int)} (hL : L.Pairwise ltN) (hm : ∀ x,x ∈ L ↔ x ∈ met) : Clo (grf l) n (some L):=by
 obtain ⟨h1,h2,h3,h4,h5⟩:=h
 have hin : ∀ x,Reach (grf l) n x → x ∈ met:=fun x hx => Reach.inside (p:=fun x => x ∈ met) h2 (fun z us hz hus u hu => by
  rcases h5 z hz with h | ⟨vs,hv,hv'⟩
  ·simp at h
  ·rw [hus] at hv;cases hv;exact hv' u hu) hx
 refine ⟨hL,fun x => (hm x).trans ⟨fun hx => (h4 x hx).2.2,hin x⟩,fun x hx => ?_⟩
 rcases h5 x (hin x hx) with h | ⟨vs,hv,_⟩
 ·simp at h
 ·rw [hv];simp
def cloM (U met rest : List (ByteArray × Int)) : Nat:=2 * (U.length - met.length) + rest.length
def memN (met : List (ByteArray × Int)) (x : ByteArray × Int) : Bool:=met.any fun y => decide (y = x)
theorem memN_iff {met : List (ByteArray × Int)} {x : ByteArray × Int} : memN met x = true ↔ x ∈ met:=by simp [memN]
def setG (met : List (ByteArray × Int)) (x : ByteArray × Int) : Option Value:=if memN met x = true then some (.bool true) else none
theorem setG_some {met : List (ByteArray × Int)} {x : ByteArray × Int} : (setG met x).isSome = true ↔ x ∈ met:=by
 rw [← memN_iff]
 unfold setG
 split <;> simp [*]
theorem keysIn_setG {met ss : List (ByteArray × Int)} (h : KeysIn (setG met) ss) (hm : ∀ x ∈ met,NOk x) (x : ByteArray × Int) : x ∈ ss ↔ x ∈ met:=
 ⟨fun hx => setG_some.1 ((h.2.2 x (h.2.1 x hx)).2 hx),fun hx => (h.2.2 x (hm x hx)).1 (setG_some.2 hx)⟩
theorem setG_add (met : List (ByteArray × Int)) (u : ByteArray × Int) : (fun x => if x = u then some (.bool true) else setG met x) = setG (met ++ [u]):=by
 funext x
 unfold setG memN
 by_cases h : x = u
 ·subst h;simp
 ·have h2 : ∀ i : Decidable (u = x),@decide (u = x) i = false:=fun i => decide_eq_false (Ne.symm h)
  rw [if_neg h,List.any_append]
  simp only [List.any_cons,List.any_nil,h2,Bool.or_false]
def ClosP (l : List Mo) (n : ByteArray × Int) (w : World) (e : Ending) (w' : World) : Prop:=
 Below w.heap.size w w' ∧ ((loadE l n ≠ 0 ∧ e = .returned (.tuple #[.map none,.slice none 0 0,.int .i64 (loadE l n)])) ∨
  (loadE l n = 0 ∧ Clo (grf l) n none ∧ e = .returned (.tuple #[.map none,.slice none 0 0,.int .i64 21])) ∨
  (loadE l n = 0 ∧ ∃ L b v,Clo (grf l) n (some L) ∧ e = .returned (.tuple #[.map (some b),v,.int .i64 0]) ∧ w.heap.size ≤ b ∧ BodiesAt l w' b ∧ w'.ownsRow w.heap.size 24 2 v L.length (namesC L) ∧ L.length ≤ 400000))
set_option maxRecDepth 100000 in
set_option maxHeartbeats 4000000 in
theorem dClosure_any (l : List Mo) (n : ByteArray × Int) (A : Option Addr) (c : Nat) (w : World) (hl : SlM w w.heap.size A c l) (hn : NOk n) (hw : MoW l) (ht : totD l ≤ 1000000) (hll : l.length ≤ 1000) (hU : chkL l = 0 → ∃ U,UOk l n U) :
  Calls Tryz.prog 21 #[.slice A l.length c,.agg #[.string n.1,.int .i64 n.2]] w (ClosP l n w):=by
 have hmm:=@run_makeMap Tryz.prog
 obtain ⟨i0,hi,hz0',hz1',hz2'⟩:=info_parts Tryz.infoName
 obtain ⟨W0,hW0⟩ : ∃ W0,w.alloc (.cells #[.string n.1,.int .i64 n.2] 24) = W0:=⟨_,rfl⟩
 have hz0 : W0.heap.size = w.heap.size + 1:=by subst hW0;simp
 have hB0 : Below w.heap.size w W0:=by subst hW0;exact (Below.refl _ _).alloc (Nat.le_refl _) _
 have n0 : W0.cell? ⟨w.heap.size,0,none⟩ = some (.string n.1):=by subst hW0;go_simp
 have n1 : W0.cell? ⟨w.heap.size,1,none⟩ = some (.int .i64 n.2):=by subst hW0;go_simp
 have hl0:=(hl.below hB0).keep (B':=W0.heap.size) (by omega) (fun _ _ => rfl)
 have HC:=Lib.hid (dLoad_any l n A c W0 hl0 hn hw ht hll)
 obtain ⟨N,HN⟩ : ∃ Q,Hid (l.length = Q):=⟨_,Lib.hid rfl⟩
 have HX:=Lib.hid (And.intro hl0 (And.intro hn (And.intro hU hB0)))
 have HL0:=Lib.hid hl
 rw [HN.out] at HC ⊢
 have HZ:=Lib.hid hz0
 have HZ1:=Lib.hid (show w.heap.size < W0.heap.size by omega)
 clear hl hl0 hn hw ht hll hB0 hz0 hU
 go_enter Tryz.func21,Tryz.ntmps21
 go_wp2_with fail
 refine HC.out.mono ?_
 rintro e w1 ⟨hb1,⟨hE,rfl⟩ | ⟨hE,b,rfl,hb,hm⟩⟩
 ·have hE2 : (loadE l n != 0) = true:=by simpa using hE
  have HQ:=Lib.hid (And.intro hE hb1)
  clear hE hb1
  obtain ⟨E,HE⟩ : ∃ Q,Hid (loadE l n = Q):=⟨_,Lib.hid rfl⟩
  rw [HE.out] at hE2 ⊢
  go_wp2
  go_ret3
  exact ⟨HX.out.2.2.2.trans (HQ.out.2.mono (by have:=HZ.out;omega)),.inl ⟨HQ.out.1,by rw [HE.out];rfl⟩⟩
 ·obtain ⟨U,hUU⟩:=HX.out.2.2.1 (loadE_zero hE).1
  have k0:=(hb1.cell (p:=⟨w.heap.size,0,none⟩) HZ1.out).trans n0
  have k1:=(hb1.cell (p:=⟨w.heap.size,1,none⟩) HZ1.out).trans n1
  have hzw1 : w.heap.size < w1.heap.size:=by have:=hb1.size;have:=HZ.out;omega
  have hB1:=HX.out.2.2.2.trans (hb1.mono (show w.heap.size ≤ W0.heap.size by have:=HZ.out;omega))
  have HQ:=Lib.hid (And.intro hE (And.intro hm (And.intro hB1 (And.intro hb hUU))))
  clear hE hm hB1 hb hb1 hUU n0 n1 hW0
  go_wp2_with (refine wpList_mapPut _ rfl _ _ _ 114 (.inr rfl) nameK 4 Tryz.underlying114 w1.heap.size 0 _ rfl (MapA.made nameK w1) (by unfold maxLen;omega) n HX.out.2.1 rfl (.bool true) rfl ?_;intro w2 hs2 hg2;have q0 : w2.cell? ⟨w.heap.size,0,none⟩ = some (.string n.1):=(World.cell?_of_block (hg2.block _ (by simp;omega) (by simp;omega))).trans ((World.cell?_alloc_lt _ _ ⟨w.heap.size,0,none⟩ hzw1).trans k0);have q1 : w2.cell? ⟨w.heap.size,1,none⟩ = some (.int .i64 n.2):=(World.cell?_of_block (hg2.block _ (by simp;omega) (by simp;omega))).trans ((World.cell?_alloc_lt _ _ ⟨w.heap.size,1,none⟩ hzw1).trans k1))
  have hg2z:=hg2.size
  simp at hg2z
  have hbm : b < w1.heap.size:=HQ.out.2.1.lt
  have HS:=Lib.hid (And.intro hs2 (And.intro hg2 (show Below w.heap.size w w2 from (HQ.out.2.2.1.alloc (by omega) _).grown hg2 (by simp;omega) (fun q e => by cases e;omega))))
  clear hs2 hg2
  go_loopg [10,11,12,13,15] (2 * (U.length - 1) + 1) (fun g rv _ _ _ _ wr => ∃ met rest,g = cloM U met rest ∧ CloI l n U met rest ∧ cloM U met rest ≤ 2 * U.length ∧ MapA nameK wr w1.heap.size met.length (setG met) ∧ BodiesAt l wr b ∧ wr.ownsRow (w1.heap.size + 1) 24 2 rv rest.length (namesC rest) ∧ Below w.heap.size w wr ∧ w1.heap.size < wr.heap.size)
  case atStart =>
   have hup:=List.length_pos_of_mem HQ.out.2.2.2.2.1
   refine ⟨[n],[n],by simp [cloM],CloI.start HQ.out.2.2.2.2.1 HX.out.2.1,by simp [cloM];omega,?_,?_,?_,HS.out.2.2.alloc (by omega) _,by simp;omega⟩
   ·refine (HS.out.1.keep (Below.heap_alloc _ _ _ (by omega))).cong fun a _ => ?_
    unfold setG memN
    by_cases h : a = n
    ·subst h;simp
    ·simp [h,Ne.symm h]
   ·exact HQ.out.2.1.keep ((Below.heap_alloc _ _ _ (by omega)).trans ((HS.out.2.1.block b (by simp;omega) (by simp;omega)).trans (Below.heap_alloc _ _ _ hbm)))
   ·exact World.ownsRow_lit (base:=w1.heap.size + 1) (e:=24) (size:=2) w2 #[.string n.1,.int .i64 n.2] 1 (by omega) (by simp [maxLen]) rfl
  case round =>
   obtain ⟨met,rest,HG,hI,hM,hmap,hbo,hown,hB,hzr⟩:=hrel
   have hzw:=hB.size
   rcases snocA rest with rfl | ⟨r,x,rfl⟩
   ·obtain ⟨rA,rc,rfl⟩:=own_formN hown
    have HR:=Lib.hid (And.intro hI (And.intro hmap (And.intro hbo hB)))
    have hmet : met.length ≤ 400000:=Nat.le_trans (nodup_len met U hI.1 fun x hx => (hI.2.2.2.1 x hx).2.1) HQ.out.2.2.2.2.2.1
    have hkl : ∀ ss,KeysIn (setG met) ss → ss.length ≤ 400000:=fun ss hss => Nat.le_trans (nodup_len ss met hss.1 fun x hx => (keysIn_setG hss (fun z hz => (HR.out.1.2.2.2.1 z hz).1) x).1 hx) hmet
    have HSK:=Lib.hid (sortedKeys_any w1.heap.size met.length wr.heap.size (setG met) (wr.alloc (.cells #[.map (some w1.heap.size)] 114)) (by simp) (by go_simp) (hmap.keep (Below.heap_alloc _ _ _ (by omega))) (by omega) (fun ss hss => Nat.le_trans (hkl ss hss) (by omega)))
    have HKL:=Lib.hid hkl
    clear hI hmap hbo hB hown HG hM hkl
    go_wp2_with fail
    refine (mapsKeysN_any _ _).mono ?_
    rintro e w5 ⟨rfl,rfl⟩
    go_wp2_with fail
    refine HSK.out.mono ?_
    rintro e w6 ⟨v,ss,rfl,hss,hown6,hb6⟩
    obtain ⟨vA,vc,rfl⟩:=own_formN hown6
    have hsn : (sortNames ss).length = ss.length:=by simp [sortNames]
    have HF:=Lib.hid (And.intro hss (And.intro hown6 (And.intro hb6 hsn)))
    clear hss hown6 hb6 hsn
    go_wp2
    go_ret3
    refine ⟨(HR.out.2.2.2.alloc (by omega) _).trans (HF.out.2.2.1.mono (by simp;omega)),.inr (.inr ⟨HQ.out.1,sortNames ss,b,.slice vA ss.length vc,?_,rfl,?_,?_,?_,?_⟩)⟩
    ·refine HR.out.1.done (sorted_of_nodup HF.out.1.1) fun x => ?_
     rw [← keysIn_setG HF.out.1 (fun z hz => (HR.out.1.2.2.2.1 z hz).1) x]
     exact List.mem_mergeSort
    ·have:=HQ.out.2.2.2.1;have:=HZ1.out;omega
    ·exact HR.out.2.2.1.keep ((HF.out.2.2.1.block b (by simp;omega)).trans (Below.heap_alloc _ _ _ (by omega)))
    ·rw [HF.out.2.2.2]
     exact World.ownsRow.mono HF.out.2.1 (by simp;omega)
    ·rw [HF.out.2.2.2];exact HKL.out ss HF.out.1
   ·simp only [List.length_append,List.length_cons,List.length_nil,Nat.zero_add,namesC_append,namesC,List.append_nil] at hown
    obtain ⟨gb,cap,rfl⟩:=ownsRow_succ hown
    have hcap : r.length + 1 ≤ cap ∧ cap ≤ 9223372036854775807:=by
     rcases hown.2 with ⟨h,_⟩ | ⟨g',cap',cur,h,_,_,hle,hmx,_⟩
     ·cases h
     ·cases h;unfold maxLen at hmx;omega
    have hrl:=namesC_length r
    have x0 : wr.cell? ⟨gb,r.length * 2,none⟩ = some (.string x.1):=by
     rw [hown.cellAt (r.length * 2) (by omega),List.getElem?_append_right (by omega),hrl];simp [encN]
    have x1 : wr.cell? ⟨gb,r.length * 2 + 1,none⟩ = some (.int .i64 x.2):=by
     rw [hown.cellAt (r.length * 2 + 1) (by omega),List.getElem?_append_right (by omega),hrl];simp [encN]
    have hgb:=hown.lt gb rfl
    have hown' : wr.ownsRow (w1.heap.size + 1) 24 2 (.slice (some ⟨gb,0,none⟩) r.length cap) r.length (namesC r):=by
     have:=own_shrink hown (m:=r.length) (by omega)
     rwa [List.take_left' hrl] at this
    have hxok:=(hI.2.2.2.1 x (hI.2.2.1 x (by simp))).1
    have hrlen : r.length + 1 ≤ 800000:=by
     have:=HQ.out.2.2.2.2.2.1
     unfold cloM at hM
     simp at hM
     omega
    obtain ⟨W4,hW4⟩ : ∃ W4,wr.alloc (.cells #[.string x.1,.int .i64 x.2] 24) = W4:=⟨_,rfl⟩
    have hz4 : W4.heap.size = wr.heap.size + 1:=by subst hW4;simp
    have hb4 : Below wr.heap.size wr W4:=by subst hW4;exact (Below.refl _ _).alloc (Nat.le_refl _) _
    have y0 : W4.cell? ⟨wr.heap.size,0,none⟩ = some (.string x.1):=by subst hW4;go_simp
    have y1 : W4.cell? ⟨wr.heap.size,1,none⟩ = some (.int .i64 x.2):=by subst hW4;go_simp
    have hbo4:=hbo.keep (hb4.block b (by omega))
    have hlk:=hbo4.look true Tryz.underlying68 (zeroE_run W4) (a:=x) hxok
    simp only [if_true] at hlk
    have HT:=Lib.hid (And.intro HG (And.intro hI (And.intro hM (And.intro hmap (And.intro hbo (And.intro hown' (And.intro hB hb4)))))))
    clear HG hI hM hmap hbo hown' hB hb4 hown hrl hbo4
    cases hin : bodyOf l x with
    | none =>
     rw [hin] at hlk
     change Sem.run Tryz.prog (Instr.lookup 68 (.map (some b)) (.agg #[.string x.1,.int .i64 x.2]) true) W4 = .ok (.tuple #[.agg #[.int .i64 0,.string ⟨#[]⟩,.string ⟨#[]⟩,.int .i64 0,.int .i64 0,.slice none 0 0],.bool false]) W4 at hlk
     have HIN:=Lib.hid hin
     clear hin
     go_wp2
     go_ret3
     refine ⟨(HT.out.2.2.2.2.2.2.1.trans (HT.out.2.2.2.2.2.2.2.mono hzw)).alloc (by omega) _,.inr (.inl ⟨HQ.out.1,⟨x,(HT.out.2.1.2.2.2.1 x (HT.out.2.1.2.2.1 x (by simp))).2.2,?_⟩,rfl⟩)⟩
     unfold grf
     rw [HIN.out]
     rfl
    | some y =>
     rw [hin] at hlk
     change Sem.run Tryz.prog (Instr.lookup 68 (.map (some b)) (.agg #[.string x.1,.int .i64 x.2]) true) W4 = .ok (.tuple #[.agg #[.int .i64 y.k,.string y.n,.string y.m,.int .i64 y.i,.int .i64 y.d,.slice y.A y.s.len y.c],.bool true]) W4 at hlk
     have hus : grf l x = some (usesOf x.1 y.body):=by unfold grf;rw [hin];rfl
     have hcnt:=HQ.out.2.2.2.2.2.2.2 x y hin
     obtain ⟨W5,hW5⟩ : ∃ W5,W4.alloc (.cells #[.int .i64 y.k,.string y.n,.string y.m,.int .i64 y.i,.int .i64 y.d,.slice y.A y.s.len y.c] 60) = W5:=⟨_,rfl⟩
     have hz5 : W5.heap.size = wr.heap.size + 1 + 1:=by subst hW5;simp [hz4]
     have hb5 : Below wr.heap.size wr W5:=by subst hW5;exact HT.out.2.2.2.2.2.2.2.alloc (by omega) _
     have x50 : W5.cell? ⟨wr.heap.size,0,none⟩ = some (.string x.1):=by subst hW5;exact (World.cell?_alloc_lt _ _ ⟨wr.heap.size,0,none⟩ (by simp;omega)).trans y0
     have e0 : W5.cell? ⟨wr.heap.size + 1,0,none⟩ = some (.int .i64 y.k):=by rw [← hz4];subst hW5;go_simp
     have e1 : W5.cell? ⟨wr.heap.size + 1,1,none⟩ = some (.string y.n):=by rw [← hz4];subst hW5;go_simp
     have e2 : W5.cell? ⟨wr.heap.size + 1,2,none⟩ = some (.string y.m):=by rw [← hz4];subst hW5;go_simp
     have e3 : W5.cell? ⟨wr.heap.size + 1,3,none⟩ = some (.int .i64 y.i):=by rw [← hz4];subst hW5;go_simp
     have e4 : W5.cell? ⟨wr.heap.size + 1,4,none⟩ = some (.int .i64 y.d):=by rw [← hz4];subst hW5;go_simp
     have e5 : W5.cell? ⟨wr.heap.size + 1,5,none⟩ = some (.slice y.A y.s.len y.c):=by rw [← hz4];subst hW5;go_simp
     have hsl:=HL0.out.body hin
     have hB5:=HT.out.2.2.2.2.2.2.1.trans (hb5.mono hzw)
     obtain ⟨us,Hus⟩ : ∃ Q,Hid (usesOf x.1 y.body = Q):=⟨_,Lib.hid rfl⟩
     have HU:=Lib.hid (dUses_any x.1 y.k y.n y.m y.i y.d y.A y.c y.s W5 (hsl.keep (by omega) (fun p hp => hB5.cell hp)) hcnt)
     have HUB : Hid (usesOf x.1 (Fo.cons y.k y.n y.m y.i y.d y.A y.c y.s .nil) = us):=Hus.out
     rw [HUB.out] at HU
     have hJ0:=HT.out.2.1.enter (hus.trans (congrArg some Hus.out))
     have HJ:=Lib.hid (And.intro hJ0 (And.intro hb5 hz5))
     clear hus hin hsl hJ0 hb5
     go_wp2_with fail
     refine HU.out.mono ?_
     rintro e w6 ⟨v6,rfl,hown6,hb6⟩
     obtain ⟨uA,uc,rfl⟩:=own_formN hown6
     obtain ⟨M,HM⟩ : ∃ Q,Hid (us.length = Q):=⟨_,Lib.hid rfl⟩
     have hMl : M ≤ 400000:=by
      rw [← HM.out]
      refine Nat.le_trans (nodup_len us U ?_ fun u hu => (HQ.out.2.2.2.2.2.2.1 x us HJ.out.1.2.2.2.2.2.2.1 u hu).1) HQ.out.2.2.2.2.2.1
      rw [← Hus.out]
      exact ltN_nodup (ordN_sorted _)
     rw [HM.out] at hown6 ⊢
     have hbelow6:=hB5.trans (hb6.mono (by omega))
     have hz6:=hb6.size
     have hrow6 : w6.ownsRow (w1.heap.size + 1) 24 2 (.slice (some ⟨gb,0,none⟩) r.length cap) r.length (namesC r):=by
      refine ⟨HT.out.2.2.2.2.2.1.1,?_⟩
      rcases HT.out.2.2.2.2.2.1.2 with h | ⟨g',cap',cur,h,h2,h3,h4⟩
      ·exact .inl h
      ·have hl3:=(Array.getElem?_eq_some_iff.1 h3).1
       exact .inr ⟨g',cap',cur,h,h2,(hb6.block g' (by omega)).trans ((HJ.out.2.1.block g' hl3).trans h3),h4⟩
     have hk6 : ∀ k,k < wr.heap.size → w6.heap[k]? = wr.heap[k]?:=fun k hk => (hb6.block k (by omega)).trans (HJ.out.2.1.block k hk)
     have HR:=Lib.hid (And.intro hown6 (And.intro hrow6 (And.intro hbelow6 hk6)))
     have HB5:=Lib.hid hB5
     have hwr6 : wr.heap.size + 2 ≤ w6.heap.size:=by omega
     have hbase6 : ∀ k,(Value.slice uA M uc).ownBlock = some k → wr.heap.size ≤ k ∧ k < w6.heap.size:=fun k hk => by
      have:=hown6.lt k hk
      omega
     have HBS:=Lib.hid hbase6
     clear hown6 hb6 hrow6 hbelow6 hk6 hB5 hW5 hW4 x50 e0 e1 e2 e3 e4 e5 y0 y1 x0 x1 hlk hbase6 hz5 hz4
     obtain ⟨wo,rfl⟩ : ∃ wo : World,wo = wr:=⟨_,rfl⟩
     go_wp2
     go_loopg [10,15,57] M (fun g rv _ ct wq => ∃ (q : Nat) (met2 rest2 : List (ByteArray × Int)),g = M - q ∧ q ≤ M ∧ ct = .int .i64 q ∧ CloJ l n U met2 rest2 x us q ∧ cloM U met2 rest2 + 1 ≤ cloM U met (r ++ [x]) ∧ MapA nameK wq w1.heap.size met2.length (setG met2) ∧ BodiesAt l wq b ∧ wq.ownsRow (w1.heap.size + 1) 24 2 rv rest2.length (namesC rest2) ∧
      (∀ k,(Value.slice uA M uc).ownBlock = some k → rv.ownBlock ≠ some k ∧ wq.heap[k]? = w6.heap[k]?) ∧ Below w.heap.size w wq ∧ w6.heap.size ≤ wq.heap.size)
     case atStart =>
      refine ⟨0,met,r,rfl,by omega,rfl,HJ.out.1,by simp [cloM];omega,HT.out.2.2.2.1.keep (HR.out.2.2.2 _ hzr),HT.out.2.2.2.2.1.keep (HR.out.2.2.2 _ (by omega)),HR.out.2.1,fun k hk => ⟨fun e => ?_,rfl⟩,HR.out.2.2.1,Nat.le_refl _⟩
      have:=(HBS.out k hk).1
      simp only [Value.ownBlock,Option.some.injEq] at e
      omega
     case round =>
      obtain ⟨q,met2,rest2,HG2,hq,rfl,hJ,hM2,hmap2,hbo2,hown2,hgu,hB2,hz2⟩:=hrel
      by_cases hlt : q < M
      ·have hlt' : q < us.length:=by rw [HM.out];exact hlt
       obtain ⟨u,hu⟩ : ∃ u,us[q]? = some u:=⟨_,List.getElem?_eq_getElem hlt'⟩
       obtain ⟨gu,ucap,hform,hc1,hc2⟩:=own_pos2 HR.out.1 (by omega)
       simp only [Value.slice.injEq,true_and] at hform
       obtain ⟨rfl,rfl⟩:=hform
       obtain ⟨n0,n1⟩:=namesC_at _ us q hu
       have hguk:=hgu gu rfl
       have c0 : wr.cell? ⟨gu,q * 2,none⟩ = some (.string u.1):=(World.cell?_of_block hguk.2).trans ((HR.out.1.cellAt _ (by omega)).trans n0)
       have c1 : wr.cell? ⟨gu,q * 2 + 1,none⟩ = some (.int .i64 u.2):=(World.cell?_of_block hguk.2).trans ((HR.out.1.cellAt _ (by omega)).trans n1)
       have huok:=(HQ.out.2.2.2.2.2.2.1 x us hJ.2.2.2.2.2.2.1 u (List.mem_of_getElem? hu)).2
       obtain ⟨W7,hW7⟩ : ∃ W7,wr.alloc (.cells #[.string u.1,.int .i64 u.2] 24) = W7:=⟨_,rfl⟩
       have hz7 : wr.heap.size < W7.heap.size:=by subst hW7;simp
       have hb7 : Below wr.heap.size wr W7:=by subst hW7;exact (Below.refl _ _).alloc (Nat.le_refl _) _
       have z0 : W7.cell? ⟨wr.heap.size,0,none⟩ = some (.string u.1):=by subst hW7;go_simp
       have z1 : W7.cell? ⟨wr.heap.size,1,none⟩ = some (.int .i64 u.2):=by subst hW7;go_simp
       have hmap7:=hmap2.keep (hb7.block w1.heap.size (by omega))
       have hlk:=hmap7.look false Tryz.underlying114 (zeroB_run W7) (a:=u) huok
       simp only [Bool.false_eq_true,if_false] at hlk
       have hrl2 : rest2.length ≤ 800000:=by
        have h1:=HT.out.2.2.1
        have h2:=HQ.out.2.2.2.2.2.1
        unfold cloM at hM2 h1
        omega
       have hml2 : met2.length ≤ 400000:=Nat.le_trans (nodup_len met2 U hJ.1 fun z hz => (hJ.2.2.2.1 z hz).2.1) HQ.out.2.2.2.2.2.1
       obtain ⟨rA2,rc2,rfl⟩:=own_formN hown2
       have HI:=Lib.hid (And.intro HG2 (And.intro hu (And.intro hJ (And.intro hM2 (And.intro hmap7 (And.intro hbo2 (And.intro hown2 (And.intro hgu (And.intro hB2 (And.intro huok hb7))))))))))
       clear HG2 hu hJ hM2 hmap7 hbo2 hown2 hgu hB2 n0 n1 hguk hb7 hmap2
       cases hmem : memN met2 u with
       | true =>
        have hset : setG met2 u = some (.bool true):=by unfold setG;rw [if_pos hmem]
        rw [hset] at hlk
        change Sem.run Tryz.prog (Instr.lookup 114 (.map (some w1.heap.size)) (.agg #[.string u.1,.int .i64 u.2]) false) W7 = .ok (.bool true) W7 at hlk
        have HME:=Lib.hid (memN_iff.1 hmem)
        clear hmem hset
        go_wp2
        go_roundg (M - (q + 1))
        case measure => rw [HI.out.1];omega
        case rel =>
         refine ⟨q + 1,met2,rest2,rfl,by omega,by go_num,HI.out.2.2.1.skip HI.out.2.1 HME.out,HI.out.2.2.2.1,HI.out.2.2.2.2.1,HI.out.2.2.2.2.2.1.keep (HI.out.2.2.2.2.2.2.2.2.2.2.block b (by omega)),?_,fun k hk => ⟨(HI.out.2.2.2.2.2.2.2.1 k hk).1,?_⟩,HI.out.2.2.2.2.2.2.2.2.1.trans (HI.out.2.2.2.2.2.2.2.2.2.2.mono (by omega)),by omega⟩
         ·rw [← hW7];exact HI.out.2.2.2.2.2.2.1.alloc _
         ·exact (HI.out.2.2.2.2.2.2.2.2.2.2.block k (by have:=(HBS.out k hk).2;omega)).trans (HI.out.2.2.2.2.2.2.2.1 k hk).2
       | false =>
        have hset : setG met2 u = none:=by unfold setG;rw [if_neg (by rw [hmem];simp)]
        rw [hset] at hlk
        change Sem.run Tryz.prog (Instr.lookup 114 (.map (some w1.heap.size)) (.agg #[.string u.1,.int .i64 u.2]) false) W7 = .ok (.bool false) W7 at hlk
        have HME:=Lib.hid (show u ∉ met2 from fun h => by rw [memN_iff.2 h] at hmem;cases hmem)
        have HROW:=Lib.hid (show W7.ownsRow (w1.heap.size + 1) 24 2 (.slice rA2 rest2.length rc2) rest2.length (namesC rest2) by rw [← hW7];exact HI.out.2.2.2.2.2.2.1.alloc _)
        clear hmem hset
        go_wp2_with (first
         | (at_mapUpdate;refine wpList_mapPut _ rfl _ _ _ 114 (.inl rfl) nameK 4 Tryz.underlying114 w1.heap.size met2.length _ rfl HI.out.2.2.2.2.1 (by unfold maxLen;omega) u HI.out.2.2.2.2.2.2.2.2.2.1 rfl (.bool true) rfl ?_;intro w8 hs8 hg8;have z08 : w8.cell? ⟨wr.heap.size,0,none⟩ = some (.string u.1):=(World.cell?_of_block (hg8.block _ (by simp;omega) (by simp;omega))).trans z0;have z18 : w8.cell? ⟨wr.heap.size,1,none⟩ = some (.int .i64 u.2):=(World.cell?_of_block (hg8.block _ (by simp;omega) (by simp;omega))).trans z1;have HROW8:=Lib.hid (own_abides HROW.out hg8 (fun r e => by cases e;exact HI.out.2.2.2.2.1.obj));have hz8:=hg8.size;have HS8:=Lib.hid (And.intro hs8 hg8);clear hs8 hg8)
         | (at_builtin;refine wpList_append_own_at _ rfl _ _ 47 rfl (w1.heap.size + 1) 24 i0 _ 2 24 Tryz.underlying47 hi hz0' hz1' hz2' rfl (by decide) _ _ _ rfl (HROW8.out.alloc _) ⟨w8.heap.size,0,none⟩ 1 1 [.string u.1,.int .i64 u.2] rfl rfl (cell_pair_new _ _ _ _) (by simp [Value.oneCell']) (by unfold maxLen;omega) (by omega) (by simp;omega) ?_;intro v9 w9 hown9 hg9 _ hat9;have HS9:=Lib.hid (And.intro hown9 (And.intro hg9 hat9));obtain ⟨g9,c9,rfl⟩:=ownsRow_succ hown9;clear hown9 hg9 hat9))
        go_roundg (M - (q + 1))
        case measure => rw [HI.out.1];omega
        case rel =>
         have hpush:=HI.out.2.2.1.push HQ.out.2.2.2.2 HI.out.2.1 HME.out
         have hmU : met2.length + 1 ≤ U.length:=by
          have:=nodup_len (met2 ++ [u]) U hpush.1 fun z hz => (hpush.2.2.2.1 z hz).2.1
          simpa using this
         have hg9 : (w8.alloc (.cells #[.string u.1,.int .i64 u.2] 24)).grownBy w9 (Value.slice rA2 rest2.length rc2).ownBlock:=HS9.out.2.1
         have hz9:=hg9.size
         simp at hz9
         have hblk : ∀ k,k < wr.heap.size → (Value.slice rA2 rest2.length rc2).ownBlock ≠ some k → k ≠ w1.heap.size → w9.heap[k]? = W7.heap[k]?:=fun k hk h1 h2 =>
          (hg9.block k (by simp;omega) (fun e => h1 e.symm)).trans ((Below.heap_alloc _ _ _ (by omega)).trans (HS8.out.2.block k (by omega) (fun e => h2 (by cases e;rfl))))
         have hown0 : ∀ k,(Value.slice rA2 rest2.length rc2).ownBlock = some k → w1.heap.size + 1 ≤ k:=fun k hk => (HROW.out.lt k hk).1
         refine ⟨q + 1,met2 ++ [u],rest2 ++ [u],rfl,by omega,by go_num,hpush,?_,?_,?_,?_,fun k hk => ⟨?_,?_⟩,?_,by omega⟩
         ·have:=HI.out.2.2.2.1
          unfold cloM at this ⊢
          simp only [List.length_append,List.length_cons,List.length_nil] at this ⊢
          omega
         ·rw [List.length_append,← setG_add]
          refine HS8.out.1.keep ((hg9.block _ (by simp;omega) (fun e => ?_)).trans (Below.heap_alloc _ _ _ (by omega)))
          have:=hown0 _ e.symm
          omega
         ·refine HI.out.2.2.2.2.2.1.keep ((hblk b (by omega) (fun e => ?_) (by omega)).trans (HI.out.2.2.2.2.2.2.2.2.2.2.block b (by omega)))
          have:=hown0 _ e
          omega
         ·rw [List.length_append,namesC_append]
          exact HS9.out.1
         ·intro e
          have hkb:=HBS.out k hk
          rcases HS9.out.2.2 with h | h
          ·exact (HI.out.2.2.2.2.2.2.2.1 k hk).1 (h.symm.trans e)
          ·rw [h] at e
           simp at e
           omega
         ·have hkb:=HBS.out k hk
          exact (hblk k (by omega) (HI.out.2.2.2.2.2.2.2.1 k hk).1 (by omega)).trans ((HI.out.2.2.2.2.2.2.2.2.2.2.block k (by omega)).trans (HI.out.2.2.2.2.2.2.2.1 k hk).2)
         ·exact (((HI.out.2.2.2.2.2.2.2.2.1.trans (HI.out.2.2.2.2.2.2.2.2.2.2.mono (by omega))).grown HS8.out.2 (by omega) (fun q e => by cases e;omega)).alloc (by omega) _).grown hg9 (by simp;omega) (fun k e => by have:=hown0 k e;omega)
      ·obtain rfl : q = M:=by omega
       have hle:=hJ.leave (by rw [HM.out];exact Nat.le_refl _)
       have HF:=Lib.hid (And.intro hle (And.intro hM2 (And.intro hmap2 (And.intro hbo2 (And.intro hown2 hB2)))))
       clear HG2 hJ hM2 hmap2 hbo2 hown2 hgu hB2 hle
       go_wp2
       go_roundg (cloM U met2 rest2)
       case measure => rw [HT.out.1];have:=HF.out.2.1;omega
       case rel => exact ⟨met2,rest2,rfl,HF.out.1,by have:=HF.out.2.1;have:=HT.out.2.2.1;omega,HF.out.2.2.1,HF.out.2.2.2.1,HF.out.2.2.2.2.1,HF.out.2.2.2.2.2,by omega⟩
def allN (l : List Mo) : List (ByteArray × Int):=l.flatMap fun m => m.ds.map fun d => (m.label,d.id)
theorem allN_len (l : List Mo) : (allN l).length = totD l:=by
 unfold allN totD
 rw [List.length_flatMap]
 simp
theorem mem_allN {l : List Mo} {n : ByteArray × Int} (h : (bodyOf l n).isSome = true) : n ∈ allN l:=by
 obtain ⟨x,hx⟩:=Option.isSome_iff_exists.1 h
 obtain ⟨m,hm,hd,h1,h2⟩:=bodyOf_mem hx
 refine List.mem_flatMap.2 ⟨m,hm,List.mem_map.2 ⟨x,hd,?_⟩⟩
 rw [h1,h2]
def zeroDc : Dc:=⟨0,0,false,none,0,[],false,0,⟨#[]⟩,⟨#[]⟩,0,0,none,0,.nil⟩
theorem own_of_blocks {X Y : World} {base : Nat} {e : TypeId} {size : Nat} {v : Value} {n : Nat} {xs : List Value} (h : X.ownsRow base e size v n xs) (hk : ∀ k,v.ownBlock = some k → Y.heap[k]? = X.heap[k]?) : Y.ownsRow base e size v n xs:=by
 refine ⟨h.1,?_⟩
 rcases h.2 with hn | ⟨g,cap,cur,rfl,hb,hg,rest⟩
 ·exact .inl hn
 ·exact .inr ⟨g,cap,cur,rfl,hb,(hk g rfl).trans hg,rest⟩
end Go.Proofs.YtnfndgmlnoeelaaGreatDoor
