/- slices.Index, Contains, Clone at strings -/
import Derived.Test.YtnfndgmlnoeelaaGreatDoorZle
import Derived.Lib.SliceRun
import Derived.Maps.Own
import Derived.Maps.Views
import Derived.Maps.OwnOps
namespace Go.Proofs.YtnfndgmlnoeelaaGreatDoor
open Go.RowKit Go.Proofs Go.Shelf
def hasS (l : List ByteArray) (s : ByteArray) : Bool:=l.any fun v => s.toList == v.toList
def idxI (l : List ByteArray) (s : ByteArray) : Int:=match l.findIdx? (fun v => s.toList == v.toList) with | some j => j | none => -1
theorem idxI_at {l : List ByteArray} {s v : ByteArray} {j : Nat} (hj : l[j]? = some v) (hv : (s.toList == v.toList) = true) (h : ∀ i,i < j → ∀ u,l[i]? = some u → (s.toList == u.toList) = false) : idxI l s = j:=by
 obtain ⟨hlt,rfl⟩:=List.getElem?_eq_some_iff.1 hj
 unfold idxI
 rw [List.findIdx?_eq_some_iff_getElem.2 ⟨hlt,hv,fun i hi => by simp [h i hi _ (List.getElem?_eq_getElem (by omega))]⟩]
set_option maxHeartbeats 1000000 in
theorem slcIndex_any (l : List ByteArray) (s : ByteArray) (A : Option Addr) (c : Nat) (w : World) (hs : SlS w w.heap.size A c l) :
  Calls Tryz.prog 180 #[.slice A l.length c,.string s] w fun e w' => e = .returned (.int .i64 (idxI l s)) ∧ w = w':=by
 have hc1:=hs.1
 have hc2:=hs.2.1
 unfold maxLen at hc2
 have HS:=Lib.hid hs
 clear hs
 obtain ⟨E,HE⟩ : ∃ E,Hid (E = idxI l s):=⟨_,rfl⟩
 rw [← HE.out]
 obtain ⟨n,hn⟩ : ∃ n,l.length = n:=⟨_,rfl⟩
 rw [hn] at hc1 ⊢
 go_enter Tryz.func180,Tryz.ntmps180
 go_wp2
 go_loopg [5,8] n (fun g _ ct wr => ∃ j : Nat,g = n - j ∧ j ≤ n ∧ ct = .int .i64 j ∧ (∀ i,i < j → ∀ v,l[i]? = some v → (s.toList == v.toList) = false) ∧ wr = w)
 case atStart => exact ⟨0,rfl,by omega,rfl,by intro i hi;omega,rfl⟩
 case round =>
  obtain ⟨j,HG,hj,rfl,HA,rfl⟩:=hrel
  have HG':=Lib.hid HG
  have HA':=Lib.hid HA
  clear HG HA
  by_cases hlt : j < n
  ·have hjl : j < l.length:=by omega
   obtain ⟨b,o,rfl,hb,hcell⟩:=HS.out.at_ hjl
   have hj2:=Lib.hid (List.getElem?_eq_getElem hjl)
   generalize l[j] = v at hcell hj2
   clear hjl
   cases hv : s.toList == v.toList
   ·go_wp2
    go_roundg (n - (j + 1))
    case measure => rw [HG'.out];omega
    case rel =>
     refine ⟨j + 1,rfl,by omega,by go_num,fun i hi u hu => ?_,rfl⟩
     by_cases hij : i = j
     ·subst hij
      rw [hj2.out] at hu
      cases hu
      exact hv
     ·exact HA'.out i (by omega) u hu
   ·have HR:=Lib.hid (HE.out.trans (idxI_at hj2.out hv HA'.out))
    go_wp2
    go_ret
    exact ⟨by rw [HR.out];rfl,rfl⟩
  ·obtain rfl : j = n:=by omega
   have HR:=Lib.hid (show E = -1 by
    rw [HE.out]
    unfold idxI
    rw [List.findIdx?_eq_none_iff.2 fun v hv => by
     obtain ⟨i,hi,rfl⟩:=List.getElem_of_mem hv
     exact HA'.out i (by omega) _ (List.getElem?_eq_getElem hi)])
   go_wp2
   go_ret
   exact ⟨by rw [HR.out];rfl,rfl⟩
theorem idxI_has (l : List ByteArray) (s : ByteArray) : decide (0 ≤ idxI l s) = hasS l s:=by
 unfold idxI hasS
 cases h : l.findIdx? (fun v => s.toList == v.toList) with
 | none =>
  have:=List.findIdx?_eq_none_iff.1 h
  symm
  simpa using this
 | some j =>
  obtain ⟨hj,h1,_⟩:=List.findIdx?_eq_some_iff_getElem.1 h
  have : (l.any fun v => s.toList == v.toList) = true:=List.any_eq_true.2 ⟨l[j],List.getElem_mem hj,h1⟩
  rw [this]
  simp
set_option maxHeartbeats 1000000 in
theorem slcContains_any (l : List ByteArray) (s : ByteArray) (A : Option Addr) (c : Nat) (w : World) (hs : SlS w w.heap.size A c l) :
  Calls Tryz.prog 173 #[.slice A l.length c,.string s] w fun e w' => e = .returned (.bool (hasS l s)) ∧ w = w':=by
 have H:=idxI_has l s
 obtain ⟨E,HE⟩ : ∃ E,Hid (idxI l s = E):=⟨_,rfl⟩
 rw [HE.out] at H
 have HH:=Lib.hid H.symm
 clear H
 rw [HH.out]
 go_enter Tryz.func173,Tryz.ntmps173
 go_wp2_with (go_at_call 180;refine (slcIndex_any l s A c _ hs).mono ?_;rintro e w' ⟨rfl,rfl⟩;rw [HE.out])
 go_ret
 exact ⟨rfl,rfl⟩
theorem Tryz.infoString : (Tryz.prog.info? 9).map (fun i => (i.zero,i.size,i.bytes)) = some (some (.string ⟨#[]⟩),1,16):=by kernel_rfl
def CloneP (l : List ByteArray) (w : World) (e : Ending) (w' : World) : Prop:=
 ∃ v,e = .returned v ∧ w'.ownsRow w.heap.size 9 1 v l.length (l.map .string) ∧ Below w.heap.size w w'
set_option maxRecDepth 100000 in
set_option maxHeartbeats 1000000 in
theorem slcClone_any (l : List ByteArray) (A : Option Addr) (c : Nat) (w : World) (hs : SlS w w.heap.size A c l) (hA : A = none → c = 0) (hl : l.length ≤ 1000000) :
  Calls Tryz.prog 174 #[.slice A l.length c] w (CloneP l w):=by
 obtain ⟨i0,hi,hz0,hz1,hz2⟩:=info_parts Tryz.infoString
 have hc1:=hs.1
 have q22 : ∀ (w : World) (a : Option Addr) (n c n' c' : Nat),(binOp .eql 55 (.slice a n c) (.slice none n' c')).run Tryz.prog w = .ok (.bool a.isNone) w:=fun w a n c n' c' => Lib.run_eql_slice_nil w _ _ a n c n' c' Tryz.underlying55
 cases A with
 | none =>
  obtain rfl:=hA rfl
  have : l = []:=List.length_eq_zero_iff.1 (by omega)
  subst this
  go_enter Tryz.func174,Tryz.ntmps174
  go_wp2
  go_ret
  exact ⟨_,rfl,World.ownsRow_nil _ _ _ _,Below.refl _ _⟩
 | some ad =>
  have hnews : ∀ a',some ad = some a' → ∀ j u,(l.map Value.string)[j]? = some u → (w.alloc (.cells #[] 9)).cell? (a'.add j) = some u:=by
   intro a' e j u hu
   cases e
   rw [List.getElem?_map] at hu
   obtain ⟨s,hs1,rfl⟩:=Option.map_eq_some_iff.1 hu
   obtain ⟨b,o,e,hb,hcell⟩:=hs.2.2 (by intro e;subst e;simp at hs1)
   cases e
   have:=(World.cell?_alloc_lt w (.cells #[] 9) ⟨b,o + j,none⟩ hb).trans (hcell j s hs1)
   cases j <;> simpa [Addr.add] using this
  have HN:=Lib.hid hnews
  clear hnews hs
  have hrow:=World.ownsRow_lit (base:=w.heap.size) (e:=9) (size:=1) w #[] 0 (Nat.le_refl _) (by simp) rfl
  have HW:=Lib.hid hrow
  clear hrow
  go_enter Tryz.func174,Tryz.ntmps174
  go_wp2_with (at_builtin;refine wpList_append_own_any _ rfl _ _ 55 rfl w.heap.size 9 i0 _ 1 16 Tryz.underlying55 hi hz0 hz1 hz2 rfl (by decide) _ 0 [] rfl HW.out (some ad) l.length c (l.map Value.string) rfl (by simp) (by simp) HN.out (by simp [Value.oneCell']) (by unfold maxLen;omega) (by omega) (by simp) ?_;intro v' w1 hown' hgrow)
  go_ret
  refine ⟨_,rfl,?_,?_⟩
  ·simpa using hown'
  ·exact ((Below.refl _ _).alloc (Nat.le_refl _) _).trans (Keeps.to_below ((Keeps.refl (fun k => k < w.heap.size) _).grown hgrow (by rintro k hk;cases hk;simp)) (by simp) (by simp))
end Go.Proofs.YtnfndgmlnoeelaaGreatDoor
/- syntax.addFree: words -/
namespace Go.Proofs.YtnfndgmlnoeelaaGreatDoor
open Go.RowKit Go.Proofs Go.Shelf
theorem strKeyed : Maps.Keyed Tryz.prog 9:=Maps.string_keyed Tryz.underlying9
def FMap (w : World) (b q : Nat) (fb : Bool) : Prop:=∃ n D,w.ownsMap (H:=Unit) Tryz.prog 9 (plainElem Tryz.prog 4) b n D ∧ n ≤ q ∧ Maps.IsMap D ∧ (Maps.size D = 0 ↔ fb = false)
theorem FMap.lt {w : World} {b q : Nat} {fb : Bool} (h : FMap w b q fb) : b < w.heap.size:=by
 obtain ⟨n,D,⟨es,cl,h,_⟩,_⟩:=h
 exact (Array.getElem?_eq_some_iff.1 h).1
theorem FMap.keep {w w' : World} {b q : Nat} {fb : Bool} (h : FMap w b q fb) (e : w'.heap[b]? = w.heap[b]?) : FMap w' b q fb:=by
 obtain ⟨n,D,⟨es,cl,h,r⟩,h2⟩:=h
 exact ⟨n,D,⟨es,cl,e.trans h,r⟩,h2⟩
theorem FMap.mono {w : World} {b q q' : Nat} {fb : Bool} (h : FMap w b q fb) (hq : q ≤ q') : FMap w b q' fb:=by
 obtain ⟨n,D,h,h2,h3⟩:=h
 exact ⟨n,D,h,by omega,h3⟩
theorem FMap.made (w : World) : FMap (w.alloc (.map #[] 0)) w.heap.size 0 false:=
 ⟨0,_,World.ownsMap_made _ _ _ _,Nat.le_refl _,⟨_,rfl⟩,by simp [Maps.size]⟩
theorem insert_len {H : Type} (p : Lit × DataW H) : ∀ l : List (Lit × DataW H),(DataW.insert p l).length ≠ 0
 | [] => by simp [DataW.insert]
 | _ :: _ => by simp only [DataW.insert];split <;> simp
def okN (k : Int) (n : ByteArray) (len : Nat) : Prop:=(k = 6 → len = 1) ∧ (k = 8 → len = 2) ∧ (k = 13 → len = 3) ∧ (k = 3 → n.size ≤ maxLen)
def Fo.Vld : Fo → Prop
 | .nil => True
 | .cons k n _ _ _ _ _ s r => okN k n s.len ∧ s.Vld ∧ r.Vld
def boundBy (k : Int) (n m : ByteArray) (j : Nat) : List ByteArray:=
 if k = 6 then [n] else if k = 8 ∧ j = 1 then [n] else if k = 13 ∧ j = 2 then [n,m] else []
def Fo.free : Fo → (Nat → List ByteArray) → Nat → Bool
 | .nil,_,_ => false
 | .cons k n m _ _ _ _ s r,bd,j => (if k = 3 then !hasS (bd j) n else s.free (fun q => bd j ++ boundBy k n m q) 0) || r.free bd (j + 1)
def nodeFree (k : Int) (n m : ByteArray) (s : Fo) (bd : List ByteArray) : Bool:=
 if k = 3 then !hasS bd n else s.free (fun q => bd ++ boundBy k n m q) 0
theorem Fo.free_cons (k : Int) (n m : ByteArray) (i d : Int) (A : Option Addr) (c : Nat) (s r : Fo) (bd : Nat → List ByteArray) (j : Nat) : (Fo.cons k n m i d A c s r).free bd j = (nodeFree k n m s (bd j) || r.free bd (j + 1)):=rfl
def AfOK (s : Fo) : Prop:=∀ (k : Int) (n m : ByteArray) (i d : Int) (A : Option Addr) (c : Nat) (bd : List ByteArray) (B : Option Addr) (cB b q : Nat) (fb : Bool) (w : World),
  s.Sl w w.heap.size A c → okN k n s.len → s.Vld → SlS w w.heap.size B cB bd → (B = none → cB = 0) → FMap w b q fb → q + 1 + s.count ≤ 1000000 → bd.length + 2 * (1 + s.count) ≤ 1000000 →
  Calls Tryz.prog 155 #[.agg #[.int .i64 k,.string n,.string m,.int .i64 i,.int .i64 d,.slice A s.len c],.slice B bd.length cB,.map (some b)] w fun e w' =>
   (∃ v,e = .returned v) ∧ FMap w' b (q + 1 + s.count) (fb || nodeFree k n m s bd) ∧ Keeps (fun k => k ≠ b) w w'
end Go.Proofs.YtnfndgmlnoeelaaGreatDoor
/- syntax.addFree: a variable; a node that binds nothing -/
namespace Go.Proofs.YtnfndgmlnoeelaaGreatDoor
open Go.RowKit Go.Proofs Go.Shelf

set_option maxRecDepth 100000 in
set_option maxHeartbeats 1000000 in
theorem af_var (s : Fo) (n m : ByteArray) (i d : Int) (A : Option Addr) (c : Nat) (bd : List ByteArray) (B : Option Addr) (cB b q : Nat) (fb : Bool) (w : World)
  (hn : n.size ≤ maxLen) (hB : SlS w w.heap.size B cB bd) (hF : FMap w b q fb) (hq : q + 1 + s.count ≤ 1000000) :
  Calls Tryz.prog 155 #[.agg #[.int .i64 3,.string n,.string m,.int .i64 i,.int .i64 d,.slice A s.len c],.slice B bd.length cB,.map (some b)] w fun e w' =>
   (∃ v,e = .returned v) ∧ FMap w' b (q + 1 + s.count) (fb || nodeFree 3 n m s bd) ∧ Keeps (fun k => k ≠ b) w w':=by
 have hnf : nodeFree 3 n m s bd = !hasS bd n:=rfl
 rw [hnf]
 clear hnf
 have hlt:=hF.lt
 obtain ⟨W0,hW0⟩ : ∃ W0,w.alloc (.cells #[.int .i64 3,.string n,.string m,.int .i64 i,.int .i64 d,.slice A s.len c] 60) = W0:=⟨_,rfl⟩
 have hz0 : W0.heap.size = w.heap.size + 1:=by subst hW0;simp
 have hx0 : W0.cell? ⟨w.heap.size,0,none⟩ = some (.int .i64 3):=by subst hW0;go_simp
 have hx1 : W0.cell? ⟨w.heap.size,1,none⟩ = some (.string n):=by subst hW0;go_simp
 have hk0 : Keeps (fun _ => True) w W0:=by subst hW0;exact (Keeps.refl _ w).alloc _
 have hS0:=Lib.hid (hB.keep (w':=W0) (B':=W0.heap.size) (by omega) fun p hp => World.cell?_of_block (hk0.block p.block hp trivial))
 have HF0:=Lib.hid (hF.keep (hk0.block b hlt trivial))
 have HK0:=Lib.hid (hk0.mono (T:=fun k => k ≠ b) fun _ _ => trivial)
 clear hk0 hF hB
 cases hh : hasS bd n
 ·obtain ⟨nn,D,hown,hnn,hIs,hsz⟩:=HF0.out
  have HO:=Lib.hid (And.intro hown hIs)
  clear hown hsz hIs
  go_enter Tryz.func155,Tryz.ntmps155
  go_wp2_with (first | (go_at_call 173;refine (slcContains_any bd n B cB _ hS0.out).mono ?_;rintro e w' ⟨rfl,rfl⟩;rw [hh]) | (at_mapUpdate;go_loud (refine wpList_mapUpdate_own _ rfl _ _ _ 154 rfl 9 4 strKeyed Tryz.underlying154 _ b nn _ rfl HO.out.1 (by unfold maxLen;omega) _ _ _ rfl rfl (WideMaps.keyOf_string_mk Tryz.underlying9 hn) _ [] (plainElem_bool Tryz.underlying4 _) ?_;intro w1 hown1 hgrow1)))
  refine bodyPost_ret (results_none rfl _ _ _) rfl ?_
  refine ⟨⟨_,rfl⟩,⟨nn + 1,_,hown1,by omega,?_,?_⟩,HK0.out.grown hgrow1 (by rintro k hk;cases hk;simp)⟩
  ·obtain ⟨es,rfl⟩:=HO.out.2;exact ⟨_,rfl⟩
  ·obtain ⟨es,rfl⟩:=HO.out.2
   exact ⟨fun h => absurd h (insert_len _ _),fun h => by simp at h⟩
 ·go_enter Tryz.func155,Tryz.ntmps155
  go_wp2_with (first | (go_at_call 173;refine (slcContains_any bd n B cB _ hS0.out).mono ?_;rintro e w' ⟨rfl,rfl⟩;rw [hh]))
  refine bodyPost_ret (results_none rfl _ _ _) rfl ?_
  refine ⟨⟨_,rfl⟩,?_,HK0.out⟩
  simpa using HF0.out.mono (by omega)
end Go.Proofs.YtnfndgmlnoeelaaGreatDoor
/- sets of the call's own: map[K]bool in which all that is stored is true -/
namespace Go.Proofs.YtnfndgmlnoeelaaGreatDoor
open Go.RowKit Go.Proofs Go.Shelf
open Go.Maps (Keyed IsMap)
theorem zeroBool (w : World) : (zeroValue 4).run Tryz.prog w = .ok (.bool false) w:=by kernel_rfl
def SetK (w : World) (kT : TypeId) (b : Nat) (L : List Lit) : Prop:=
 ∃ n D,w.ownsMap (H:=Unit) Tryz.prog kT (plainElem Tryz.prog 4) b n D ∧ n ≤ L.length ∧ IsMap D ∧ ∀ kl,WideAt.IsKeyLit kl → D.atKey kl (.lit (.bool false)) = .lit (.bool (L.any fun x => x.sameKey kl))
theorem SetK.made (w : World) (kT : TypeId) : SetK (w.alloc (.map #[] 0)) kT w.heap.size []:=
 ⟨0,_,World.ownsMap_made _ _ _ _,by simp,⟨_,rfl⟩,fun kl _ => Maps.atKey_of_not_has rfl _⟩
theorem SetK.lt {w : World} {kT : TypeId} {b : Nat} {L : List Lit} (h : SetK w kT b L) : b < w.heap.size:=by
 obtain ⟨n,D,ho,_⟩:=h
 exact ho.lt
theorem SetK.keep {w w' : World} {kT : TypeId} {b : Nat} {L : List Lit} (h : SetK w kT b L) (e : w'.heap[b]? = w.heap[b]?) : SetK w' kT b L:=by
 obtain ⟨n,D,⟨es,cl,h,r⟩,h2⟩:=h
 exact ⟨n,D,⟨es,cl,e.trans h,r⟩,h2⟩
theorem SetK.look {w : World} {kT : TypeId} {b : Nat} {L : List Lit} (h : SetK w kT b L) (K : Keyed Tryz.prog kT) {t : TypeId} (ht : Tryz.prog.underlying t = some (.map kT 4)) {key : Value} {kl : Lit} (hkey : keyOf Tryz.prog kT key = some kl) :
  (Instr.lookup t (.map (some b)) key false).run Tryz.prog w = .ok (.bool (L.any fun x => x.sameKey kl)) w:=by
 obtain ⟨n,D,ho,_,_,hat⟩:=h
 obtain ⟨v,ps,hrun,hv⟩:=ho.lookup K ht (zeroBool w) (plainElem_bool Tryz.underlying4 false) hkey
 rw [hat kl (K.key hkey)] at hv
 have : v = .bool (L.any fun x => x.sameKey kl):=by
  simp only [plainElem,Tryz.underlying4] at hv
  cases v <;> simp at hv
  rw [hv.1]
 rw [← this]
 exact hrun
theorem SetK.add {w : World} {kT : TypeId} {b : Nat} {L : List Lit} (h : SetK w kT b L) (K : Keyed Tryz.prog kT) {t : TypeId} (ht : Tryz.prog.underlying t = some (.map kT 4)) {key : Value} {kl : Lit} (hkey : keyOf Tryz.prog kT key = some kl) (hL : L.length < 1000000) :
  ∃ w',(Instr.mapUpdate t (.map (some b)) key (.bool true)).run Tryz.prog w = .ok () w' ∧ SetK w' kT b (L ++ [kl]) ∧ w.grownBy w' (some b):=by
 obtain ⟨n,D,ho,hn,hm,hat⟩:=h
 obtain ⟨w',hrun,ho',hg⟩:=ho.update K ht (by unfold maxLen;omega) hkey (plainElem_bool Tryz.underlying4 true)
 refine ⟨w',hrun,⟨n + 1,_,ho',by simp;omega,hm.put _ _,fun x hx => ?_⟩,hg⟩
 by_cases e : x = kl
 ·subst e
  rw [Maps.atKey_put_same hm hx,List.any_append]
  simp [WideAt.sameKey_self hx]
 ·rw [Maps.atKey_put_other e,hat x hx,List.any_append]
  simp [Maps.sameKey_ne (Ne.symm e)]
end Go.Proofs.YtnfndgmlnoeelaaGreatDoor
