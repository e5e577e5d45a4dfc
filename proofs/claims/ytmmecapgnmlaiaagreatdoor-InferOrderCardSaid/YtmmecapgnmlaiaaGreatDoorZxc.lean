/- slices.Index, Contains, Clone at strings -/
import Derived.Test.YtmmecapgnmlaiaaGreatDoorZxb
import Derived.Lib.SliceRun
import Derived.Maps.Own
import Derived.Maps.Views
import Derived.Deep.RegionHeld3
import Derived.Deep.AppendLies
namespace Go.Proofs.YtmmecapgnmlaiaaGreatDoor
open Go.RowKit Go.Proofs Go.Shelf
def hasS (l : List ByteArray) (s : ByteArray) : Bool:=l.any fun v => s.toList == v.toList
def idxI (l : List ByteArray) (s : ByteArray) : Int:=match l.findIdx? (fun v => s.toList == v.toList) with | some j => j | none => -1
theorem idxI_at {l : List ByteArray} {s v : ByteArray} {j : Nat} (hj : l[j]? = some v) (hv : (s.toList == v.toList) = true) (h : ∀ i,i < j → ∀ u,l[i]? = some u → (s.toList == u.toList) = false) : idxI l s = j:=by
 obtain ⟨hlt,rfl⟩:=List.getElem?_eq_some_iff.1 hj
 unfold idxI
 rw [List.findIdx?_eq_some_iff_getElem.2 ⟨hlt,hv,fun i hi => by simp [h i hi _ (List.getElem?_eq_getElem (by omega))]⟩]
set_option maxHeartbeats 1000000 in
theorem slcIndex_any (l : List ByteArray) (s : ByteArray) (A : Option Addr) (c : Nat) (w : World) (hs : SlS w w.heap.size A c l) :
  Calls Tryz.prog 212 #[.slice A l.length c,.string s] w fun e w' => e = .returned (.int .i64 (idxI l s)) ∧ w = w':=by
 have hc1:=hs.1
 have hc2:=hs.2.1
 unfold maxLen at hc2
 have HS:=Lib.hid hs
 clear hs
 obtain ⟨E,HE⟩ : ∃ E,Hid (E = idxI l s):=⟨_,rfl⟩
 rw [← HE.out]
 obtain ⟨n,hn⟩ : ∃ n,l.length = n:=⟨_,rfl⟩
 rw [hn] at hc1 ⊢
 go_enter Tryz.func212,Tryz.ntmps212
 go_wp2
 go_loopg [5,8] n (fun g _ ct wr => ∃ j : Nat,g = n - j ∧ j ≤ n ∧ ct = .int .i64 j ∧ (∀ i,i < j → ∀ v,l[i]? = some v → (s.toList == v.toList) = false) ∧ wr = w)
 case atStart => exact ⟨0,rfl,by omega,rfl,by intro i hi;omega,rfl⟩
 case round =>
  obtain ⟨j,HG,hj,rfl,HA,rfl⟩:=hrel
  have HG':=Lib.hid HG
  have HA':=Lib.hid HA
  clear HG HA
  by_cases hlt : j < n
  ·have hjl : j < l.length:=by omega
   obtain ⟨b,o,rfl,hb,hcell⟩:=HS.out.at_ hjl
   have hj2:=Lib.hid (List.getElem?_eq_getElem hjl)
   generalize l[j] = v at hcell hj2
   clear hjl
   cases hv : s.toList == v.toList
   ·go_wp2
    go_roundg (n - (j + 1))
    case measure => rw [HG'.out];omega
    case rel =>
     refine ⟨j + 1,rfl,by omega,by go_num,fun i hi u hu => ?_,rfl⟩
     by_cases hij : i = j
     ·subst hij
      rw [hj2.out] at hu
      cases hu
      exact hv
     ·exact HA'.out i (by omega) u hu
   ·have HR:=Lib.hid (HE.out.trans (idxI_at hj2.out hv HA'.out))
    go_wp2
    go_ret
    exact ⟨by rw [HR.out];rfl,rfl⟩
  ·obtain rfl : j = n:=by omega
   have HR:=Lib.hid (show E = -1 by
    rw [HE.out]
    unfold idxI
    rw [List.findIdx?_eq_none_iff.2 fun v hv => by
     obtain ⟨i,hi,rfl⟩:=List.getElem_of_mem hv
     exact HA'.out i (by omega) _ (List.getElem?_eq_getElem hi)])
   go_wp2
   go_ret
   exact ⟨by rw [HR.out];rfl,rfl⟩
theorem idxI_has (l : List ByteArray) (s : ByteArray) : decide (0 ≤ idxI l s) = hasS l s:=by
 unfold idxI hasS
 cases h : l.findIdx? (fun v => s.toList == v.toList) with
 | none =>
  have:=List.findIdx?_eq_none_iff.1 h
  symm
  simpa using this
 | some j =>
  obtain ⟨hj,h1,_⟩:=List.findIdx?_eq_some_iff_getElem.1 h
  have : (l.any fun v => s.toList == v.toList) = true:=List.any_eq_true.2 ⟨l[j],List.getElem_mem hj,h1⟩
  rw [this]
  simp
set_option maxHeartbeats 1000000 in
theorem slcContains_any (l : List ByteArray) (s : ByteArray) (A : Option Addr) (c : Nat) (w : World) (hs : SlS w w.heap.size A c l) :
  Calls Tryz.prog 152 #[.slice A l.length c,.string s] w fun e w' => e = .returned (.bool (hasS l s)) ∧ w = w':=by
 have H:=idxI_has l s
 obtain ⟨E,HE⟩ : ∃ E,Hid (idxI l s = E):=⟨_,rfl⟩
 rw [HE.out] at H
 have HH:=Lib.hid H.symm
 clear H
 rw [HH.out]
 go_enter Tryz.func152,Tryz.ntmps152
 go_wp2_with (go_at_call 212;refine (slcIndex_any l s A c _ hs).mono ?_;rintro e w' ⟨rfl,rfl⟩;rw [HE.out])
 go_ret
 exact ⟨rfl,rfl⟩
theorem Tryz.infoString : (Tryz.prog.info? 9).map (fun i => (i.zero,i.size,i.bytes)) = some (some (.string ⟨#[]⟩),1,16):=by kernel_rfl
def CloneP (l : List ByteArray) (w : World) (e : Ending) (w' : World) : Prop:=
 ∃ v,e = .returned v ∧ w'.ownsRow w.heap.size 9 1 v l.length (l.map .string) ∧ Below w.heap.size w w'
set_option maxRecDepth 100000 in
set_option maxHeartbeats 1000000 in
theorem slcClone_any (l : List ByteArray) (A : Option Addr) (c : Nat) (w : World) (hs : SlS w w.heap.size A c l) (hA : A = none → c = 0) (hl : l.length ≤ 1000000) :
  Calls Tryz.prog 236 #[.slice A l.length c] w (CloneP l w):=by
 obtain ⟨i0,hi,hz0,hz1,hz2⟩:=info_parts Tryz.infoString
 have hc1:=hs.1
 have q22 : ∀ (w : World) (a : Option Addr) (n c n' c' : Nat),(binOp .eql 22 (.slice a n c) (.slice none n' c')).run Tryz.prog w = .ok (.bool a.isNone) w:=fun w a n c n' c' => Lib.run_eql_slice_nil w _ _ a n c n' c' Tryz.underlying22
 cases A with
 | none =>
  obtain rfl:=hA rfl
  have : l = []:=List.length_eq_zero_iff.1 (by omega)
  subst this
  go_enter Tryz.func236,Tryz.ntmps236
  go_wp2
  go_ret
  exact ⟨_,rfl,World.ownsRow_nil _ _ _ _,Below.refl _ _⟩
 | some ad =>
  have hnews : ∀ a',some ad = some a' → ∀ j u,(l.map Value.string)[j]? = some u → (w.alloc (.cells #[] 9)).cell? (a'.add j) = some u:=by
   intro a' e j u hu
   cases e
   rw [List.getElem?_map] at hu
   obtain ⟨s,hs1,rfl⟩:=Option.map_eq_some_iff.1 hu
   obtain ⟨b,o,e,hb,hcell⟩:=hs.2.2 (by intro e;subst e;simp at hs1)
   cases e
   have:=(World.cell?_alloc_lt w (.cells #[] 9) ⟨b,o + j,none⟩ hb).trans (hcell j s hs1)
   cases j <;> simpa [Addr.add] using this
  have HN:=Lib.hid hnews
  clear hnews hs
  have hrow:=World.ownsRow_lit (base:=w.heap.size) (e:=9) (size:=1) w #[] 0 (Nat.le_refl _) (by simp) rfl
  have HW:=Lib.hid hrow
  clear hrow
  go_enter Tryz.func236,Tryz.ntmps236
  go_wp2_with (at_builtin;refine wpList_append_own_any _ rfl _ _ 22 rfl w.heap.size 9 i0 _ 1 16 Tryz.underlying22 hi hz0 hz1 hz2 rfl (by decide) _ 0 [] rfl HW.out (some ad) l.length c (l.map Value.string) rfl (by simp) (by simp) HN.out (by simp [Value.oneCell']) (by unfold maxLen;omega) (by omega) (by simp) ?_;intro v' w1 hown' hgrow)
  go_ret
  refine ⟨_,rfl,?_,?_⟩
  ·simpa using hown'
  ·exact ((Below.refl _ _).alloc (Nat.le_refl _) _).trans (Keeps.to_below ((Keeps.refl (fun k => k < w.heap.size) _).grown hgrow (by rintro k hk;cases hk;simp)) (by simp) (by simp))
end Go.Proofs.YtmmecapgnmlaiaaGreatDoor
/- syntax.addFree: words -/
namespace Go.Proofs.YtmmecapgnmlaiaaGreatDoor
open Go.RowKit Go.Proofs Go.Shelf
theorem strKeyed : Maps.Keyed Tryz.prog 9:=Maps.string_keyed Tryz.underlying9
def FMap (w : World) (b q : Nat) (fb : Bool) : Prop:=∃ n D,w.ownsMap (H:=Unit) Tryz.prog 9 (plainElem Tryz.prog 4) b n D ∧ n ≤ q ∧ Maps.IsMap D ∧ (Maps.size D = 0 ↔ fb = false)
theorem FMap.lt {w : World} {b q : Nat} {fb : Bool} (h : FMap w b q fb) : b < w.heap.size:=by
 obtain ⟨n,D,⟨es,cl,h,_⟩,_⟩:=h
 exact (Array.getElem?_eq_some_iff.1 h).1
theorem FMap.keep {w w' : World} {b q : Nat} {fb : Bool} (h : FMap w b q fb) (e : w'.heap[b]? = w.heap[b]?) : FMap w' b q fb:=by
 obtain ⟨n,D,⟨es,cl,h,r⟩,h2⟩:=h
 exact ⟨n,D,⟨es,cl,e.trans h,r⟩,h2⟩
theorem FMap.mono {w : World} {b q q' : Nat} {fb : Bool} (h : FMap w b q fb) (hq : q ≤ q') : FMap w b q' fb:=by
 obtain ⟨n,D,h,h2,h3⟩:=h
 exact ⟨n,D,h,by omega,h3⟩
theorem FMap.made (w : World) : FMap (w.alloc (.map #[] 0)) w.heap.size 0 false:=
 ⟨0,_,World.ownsMap_made _ _ _ _,Nat.le_refl _,⟨_,rfl⟩,by simp [Maps.size]⟩
theorem insert_len {H : Type} (p : Lit × DataW H) : ∀ l : List (Lit × DataW H),(DataW.insert p l).length ≠ 0
 | [] => by simp [DataW.insert]
 | _ :: _ => by simp only [DataW.insert];split <;> simp
def okN (k : Int) (n : ByteArray) (len : Nat) : Prop:=(k = 6 → len = 1) ∧ (k = 8 → len = 2) ∧ (k = 13 → len = 3) ∧ (k = 3 → n.size ≤ maxLen)
def Fo.Vld : Fo → Prop
 | .nil => True
 | .cons k n _ _ _ _ _ s r => okN k n s.len ∧ s.Vld ∧ r.Vld
def boundBy (k : Int) (n m : ByteArray) (j : Nat) : List ByteArray:=
 if k = 6 then [n] else if k = 8 ∧ j = 1 then [n] else if k = 13 ∧ j = 2 then [n,m] else []
def Fo.free : Fo → (Nat → List ByteArray) → Nat → Bool
 | .nil,_,_ => false
 | .cons k n m _ _ _ _ s r,bd,j => (if k = 3 then !hasS (bd j) n else s.free (fun q => bd j ++ boundBy k n m q) 0) || r.free bd (j + 1)
def nodeFree (k : Int) (n m : ByteArray) (s : Fo) (bd : List ByteArray) : Bool:=
 if k = 3 then !hasS bd n else s.free (fun q => bd ++ boundBy k n m q) 0
theorem Fo.free_cons (k : Int) (n m : ByteArray) (i d : Int) (A : Option Addr) (c : Nat) (s r : Fo) (bd : Nat → List ByteArray) (j : Nat) : (Fo.cons k n m i d A c s r).free bd j = (nodeFree k n m s (bd j) || r.free bd (j + 1)):=rfl
def AfOK (s : Fo) : Prop:=∀ (k : Int) (n m : ByteArray) (i d : Int) (A : Option Addr) (c : Nat) (bd : List ByteArray) (B : Option Addr) (cB b q : Nat) (fb : Bool) (w : World),
  s.Sl w w.heap.size A c → okN k n s.len → s.Vld → SlS w w.heap.size B cB bd → (B = none → cB = 0) → FMap w b q fb → q + 1 + s.count ≤ 1000000 → bd.length + 2 * (1 + s.count) ≤ 1000000 →
  Calls Tryz.prog 175 #[.agg #[.int .i64 k,.string n,.string m,.int .i64 i,.int .i64 d,.slice A s.len c],.slice B bd.length cB,.map (some b)] w fun e w' =>
   (∃ v,e = .returned v) ∧ FMap w' b (q + 1 + s.count) (fb || nodeFree k n m s bd) ∧ Keeps (fun k => k ≠ b) w w'
end Go.Proofs.YtmmecapgnmlaiaaGreatDoor
/- syntax.addFree: a node that binds nothing -/
namespace Go.Proofs.YtmmecapgnmlaiaaGreatDoor
open Go.RowKit Go.Proofs Go.Shelf
theorem cell_of_map {w : World} {b : Nat} {es : Array MapEntry} {cl : Nat} (h : w.heap[b]? = some (.map es cl)) (p : Addr) (hp : p.block = b) : w.cell? p = none:=by
 subst hp
 simp [World.cell?,h]
theorem FMap.cell {w w' : World} {b q q' : Nat} {fb fb' : Bool} (h : FMap w b q fb) (h' : FMap w' b q' fb') (hk : Keeps (fun k => k ≠ b) w w') (p : Addr) (hp : p.block < w.heap.size) : w'.cell? p = w.cell? p:=by
 by_cases hb : p.block = b
 ·obtain ⟨_,_,⟨_,_,h,_⟩,_⟩:=h
  obtain ⟨_,_,⟨_,_,h',_⟩,_⟩:=h'
  rw [cell_of_map h p hb,cell_of_map h' p hb]
 ·exact World.cell?_of_block (hk.block p.block hp hb)
set_option maxRecDepth 100000 in
set_option maxHeartbeats 1000000 in
theorem af_rest (s : Fo) (ih : s.All AfOK) (k : Int) (n m : ByteArray) (i d : Int) (A : Option Addr) (c : Nat) (bd : List ByteArray) (B : Option Addr) (cB b q : Nat) (fb : Bool) (w : World)
  (h3 : (k == 3) = false) (h6 : (k == 6) = false) (h8 : (k == 8) = false) (h13 : (k == 13) = false)
  (hs : s.Sl w w.heap.size A c) (hv : s.Vld) (hB : SlS w w.heap.size B cB bd) (hBn : B = none → cB = 0) (hF : FMap w b q fb) (hq : q + 1 + s.count ≤ 1000000) (hbd : bd.length + 2 * (1 + s.count) ≤ 1000000) :
  Calls Tryz.prog 175 #[.agg #[.int .i64 k,.string n,.string m,.int .i64 i,.int .i64 d,.slice A s.len c],.slice B bd.length cB,.map (some b)] w fun e w' =>
   (∃ v,e = .returned v) ∧ FMap w' b (q + 1 + s.count) (fb || nodeFree k n m s bd) ∧ Keeps (fun k => k ≠ b) w w':=by
 obtain ⟨E,HE⟩ : ∃ E,Hid (E = (fb || nodeFree k n m s bd)):=⟨_,rfl⟩
 rw [← HE.out]
 have hbn : ∀ j,boundBy k n m j = []:=by
  intro j
  have h6' : ¬ k = 6:=by simpa using h6
  have h8' : ¬ k = 8:=by simpa using h8
  have h13' : ¬ k = 13:=by simpa using h13
  simp [boundBy,h6',h8',h13']
 have HE1:=Lib.hid (HE.out.trans (show (fb || nodeFree k n m s bd) = (fb || s.free (fun _ => bd) 0) by
  have h3' : ¬ k = 3:=by simpa using h3
  simp only [nodeFree,if_neg h3',hbn,List.append_nil]))
 clear hbn HE
 have hlt:=hF.lt
 have hcap : s.len ≤ 9223372036854775807:=by have:=hs.1;have:=hs.2.1;unfold maxLen at this;omega
 obtain ⟨W0,hW0⟩ : ∃ W0,w.alloc (.cells #[.int .i64 k,.string n,.string m,.int .i64 i,.int .i64 d,.slice A s.len c] 44) = W0:=⟨_,rfl⟩
 have hz0 : W0.heap.size = w.heap.size + 1:=by subst hW0;simp
 have hx0 : W0.cell? ⟨w.heap.size,0,none⟩ = some (.int .i64 k):=by subst hW0;go_simp
 have hx5 : W0.cell? ⟨w.heap.size,5,none⟩ = some (.slice A s.len c):=by subst hW0;go_simp
 have hk0 : Keeps (fun _ => True) w W0:=by subst hW0;exact (Keeps.refl _ w).alloc _
 have hcell0 : ∀ p : Addr,p.block < w.heap.size → W0.cell? p = w.cell? p:=fun p hp => World.cell?_of_block (hk0.block p.block hp trivial)
 have hS0:=Lib.hid (hB.keep (w':=W0) (B':=w.heap.size) (Nat.le_refl _) hcell0)
 have hs0:=Lib.hid (hs.keep (w':=W0) (B':=w.heap.size) (Nat.le_refl _) hcell0)
 have HF0:=Lib.hid (hF.keep (hk0.block b hlt trivial))
 have HK0:=Lib.hid (hk0.mono (T:=fun k => k ≠ b) fun _ _ => trivial)
 have IH:=Lib.hid (And.intro ih (And.intro hv hBn))
 clear hk0 hF hB hcell0 ih hv hs hBn
 go_enter Tryz.func175,Tryz.ntmps175
 go_wp2
 clear hW0
 go_loopg [7,88] s.len (fun g _ ct wr => ∃ (j : Nat) (r : Fo) (fb' : Bool),g = r.len ∧ j + r.len = s.len ∧ ct = .int .i64 j ∧ r.All AfOK ∧ r.Vld ∧ r.count ≤ s.count ∧
  (r ≠ .nil → ∃ b' o',A = some ⟨b',o',none⟩ ∧ b' < w.heap.size ∧ r.At W0 w.heap.size b' (o' + j * 6)) ∧ FMap wr b (q + (s.count - r.count)) fb' ∧ E = (fb' || r.free (fun _ => bd) j) ∧ Keeps (fun k => k ≠ b) W0 wr)
 case atStart =>
  refine ⟨0,s,fb,rfl,by omega,rfl,IH.out.1,IH.out.2.1,Nat.le_refl _,fun hne => ?_,HF0.out.mono (by omega),HE1.out,Keeps.refl _ _⟩
  obtain ⟨b',o',e,hb',h⟩:=hs0.out.2.2 hne
  exact ⟨b',o',e,hb',by rw [Nat.zero_mul,Nat.add_zero];exact h⟩
 case round =>
  obtain ⟨j,r,fb',HG,hjr,rfl,HA,HV,hrc,HAt,HF,HEE,HK⟩:=hrel
  have HG':=Lib.hid (And.intro HG (And.intro HEE (And.intro HF HK)))
  clear HG HEE
  have hz:=HK.size
  have hblt:=HF.lt
  have hcl:=HF0.out.cell HF HK
  cases r with
  | nil =>
   have hjr2 : s.len ≤ j:=by simp only [Fo.len] at hjr;omega
   have hjr1 : j ≤ s.len:=by simp only [Fo.len] at hjr;omega
   clear hjr HA HV HAt HF HK hcl
   go_wp2
   go_end0
   refine ⟨⟨_,rfl⟩,?_,HK0.out.trans HG'.out.2.2.2⟩
   rw [HG'.out.2.1]
   simpa [Fo.free] using HG'.out.2.2.1.mono (q':=q + 1 + s.count) (by omega)
  | cons rk rn rm ri rd A' c' rs rr =>
   have hjr2 : j < s.len:=by simp only [Fo.len] at hjr;omega
   obtain ⟨b',o',rfl,hb',hat⟩:=HAt (by simp)
   obtain ⟨h0,h1,h2,h3',h4,⟨h5,hc',hm',hs'⟩,hr'⟩:=hat
   have t0:=(hcl ⟨b',o' + j * 6,none⟩ (by simp;omega)).trans h0
   have t1:=(hcl ⟨b',o' + j * 6 + 1,none⟩ (by simp;omega)).trans h1
   have t2:=(hcl ⟨b',o' + j * 6 + 2,none⟩ (by simp;omega)).trans h2
   have t3:=(hcl ⟨b',o' + j * 6 + 3,none⟩ (by simp;omega)).trans h3'
   have t4:=(hcl ⟨b',o' + j * 6 + 4,none⟩ (by simp;omega)).trans h4
   have t5:=(hcl ⟨b',o' + j * 6 + 5,none⟩ (by simp;omega)).trans h5
   obtain ⟨W1,hW1⟩ : ∃ W1,wr.alloc (.cells #[.int .i64 rk,.string rn,.string rm,.int .i64 ri,.int .i64 rd,.slice A' rs.len c'] 44) = W1:=⟨_,rfl⟩
   have hk1 : Keeps (fun _ => True) wr W1:=by subst hW1;exact (Keeps.refl _ wr).alloc _
   have hz1 : W1.heap.size = wr.heap.size + 1:=by subst hW1;simp
   have hy0 : W1.cell? ⟨wr.heap.size,0,none⟩ = some (.int .i64 rk):=by subst hW1;go_simp
   have hy1 : W1.cell? ⟨wr.heap.size,1,none⟩ = some (.string rn):=by subst hW1;go_simp
   have hy2 : W1.cell? ⟨wr.heap.size,2,none⟩ = some (.string rm):=by subst hW1;go_simp
   have hy3 : W1.cell? ⟨wr.heap.size,3,none⟩ = some (.int .i64 ri):=by subst hW1;go_simp
   have hy4 : W1.cell? ⟨wr.heap.size,4,none⟩ = some (.int .i64 rd):=by subst hW1;go_simp
   have hy5 : W1.cell? ⟨wr.heap.size,5,none⟩ = some (.slice A' rs.len c'):=by subst hW1;go_simp
   have hcl1 : ∀ p : Addr,p.block < w.heap.size → W1.cell? p = W0.cell? p:=fun p hp => (World.cell?_of_block (hk1.block p.block (by omega) trivial)).trans (hcl p (by omega))
   have HF1:=HF.keep (hk1.block b hblt trivial)
   simp only [Fo.count] at hrc
   have HC:=Lib.hid (HA.1 rk rn rm ri rd A' c' bd B cB b (q + (s.count - (Fo.cons rk rn rm ri rd A' c' rs rr).count)) fb' W1
    (Fo.Sl.keep (w:=W0) (B:=w.heap.size) ⟨hc',hm',hs'⟩ (by omega) hcl1) HV.1 HV.2.1 (hS0.out.keep (by omega) hcl1) IH.out.2.2 HF1 (by simp only [Fo.count];omega) (by omega))
   have HK1:=Lib.hid ((HK.trans (hk1.mono fun _ _ => trivial)))
   have HN:=Lib.hid (And.intro HA.2 (And.intro HV.2.2 hr'))
   clear h0 h1 h2 h3' h4 h5 hs' hr' HA HV HAt hcl hcl1 HF HF1 HK hk1
   go_wp2_with fail
   refine HC.out.mono ?_
   rintro e w2 ⟨⟨v,rfl⟩,hF2,hK2⟩
   go_wp2
   go_roundg rr.len
   case measure => rw [HG'.out.1];simp [Fo.len]
   case rel =>
    refine ⟨j + 1,rr,_,rfl,by simp only [Fo.len] at hjr;omega,by go_num,HN.out.1,HN.out.2.1,by omega,fun _ => ⟨b',o',rfl,hb',?_⟩,hF2.mono (by simp only [Fo.count];omega),?_,HK1.out.trans hK2⟩
    ·rw [show o' + (j + 1) * 6 = o' + j * 6 + 6 by omega];exact HN.out.2.2
    ·rw [HG'.out.2.1,Fo.free_cons,Bool.or_assoc]
end Go.Proofs.YtmmecapgnmlaiaaGreatDoor
/- syntax.addFree: a function -/
namespace Go.Proofs.YtmmecapgnmlaiaaGreatDoor
open Go.RowKit Go.Proofs Go.Shelf
def FrW (W0 : World) (b : Nat) (W : World) : Prop:=Keeps (fun k => k ≠ b) W0 W ∧ ∃ q fb,FMap W b q fb
section
variable {W0 W W' : World} {b q : Nat} {fb : Bool}
theorem FrW.start (h : FMap W b q fb) (hk : Keeps (fun k => k ≠ b) W0 W) : FrW W0 b W:=⟨hk,_,_,h⟩
theorem FrW.cell (h0 : FMap W0 b q fb) (h : FrW W0 b W) (p : Addr) (hp : p.block < W0.heap.size) : W.cell? p = W0.cell? p:=by
  obtain ⟨hk,_,_,hf⟩:=h
  exact h0.cell hf hk p hp
theorem FrW.alloc (h : FrW W0 b W) (o : Obj) : FrW W0 b (W.alloc o):=by
  obtain ⟨hk,_,_,hf⟩:=h
  exact ⟨hk.alloc o,_,_,hf.keep (Below.heap_alloc _ _ _ hf.lt)⟩
theorem FrW.sls (h0 : FMap W0 b q fb) (h : FrW W0 b W) {N cB : Nat} {B : Option Addr} {l : List ByteArray} (hs : SlS W0 N B cB l) (hN : N ≤ W0.heap.size) : SlS W W.heap.size B cB l:=
  hs.keep (Nat.le_trans hN h.1.size) fun p hp => h.cell h0 p (by omega)
theorem FrW.sl (h0 : FMap W0 b q fb) (h : FrW W0 b W) {N c : Nat} {A : Option Addr} {s : Fo} (hs : s.Sl W0 N A c) (hN : N ≤ W0.heap.size) : s.Sl W W.heap.size A c:=
  hs.keep (Nat.le_trans hN h.1.size) fun p hp => h.cell h0 p (by omega)
theorem FMap.alloc (h : FMap W b q fb) (o : Obj) : FMap (W.alloc o) b q fb:=h.keep (Below.heap_alloc _ _ _ h.lt)
theorem FMap.below (h : FMap W b q fb) (hb : Below W.heap.size W W') : FMap W' b q fb:=h.keep (hb.block b h.lt)
theorem FMap.drew (h : FMap W b q fb) : FMap W.drew b q fb:=h
theorem Keeps.belowAll (h : Keeps (fun k => k ≠ b) W0 W) (hb : Below W.heap.size W W') : Keeps (fun k => k ≠ b) W0 W':=h.trans (Keeps.whole hb _)
theorem sls_own {base n cap g : Nat} {l : List ByteArray} (h : W.ownsRow base 9 1 (.slice (some ⟨g,0,none⟩) n cap) n (l.map Value.string)) (hn : l.length = n) : SlS W W.heap.size (some ⟨g,0,none⟩) cap l:=by
  subst hn
  have hlt:=(h.lt g rfl).2
  have hcap : l.length ≤ cap ∧ cap ≤ maxLen:=by
    rcases h.2 with ⟨h,_⟩ | ⟨g',cap',cur,h,_,_,hle,hmx,_⟩
    · cases h
    · cases h;exact ⟨hle,hmx⟩
  refine ⟨hcap.1,hcap.2,fun _ => ⟨g,0,rfl,hlt,fun j s hj => ?_⟩⟩
  have hjl : j < l.length:=(List.getElem?_eq_some_iff.1 hj).1
  rw [Nat.zero_add,h.cellAt j (by omega),List.getElem?_map,hj]
  rfl
theorem grown_own {base n : Nat} {v : Value} {xs : List Value} (hk : Keeps (fun k => k ≠ b) W0 W) (hF : FMap W b q fb) (ho : W.ownsRow base 9 1 v n xs) (hb : b < W0.heap.size) (hbase : W0.heap.size ≤ base) (hg : W.grownBy W' v.ownBlock) :
    Keeps (fun k => k ≠ b) W0 W' ∧ FMap W' b q fb:=by
  have hne : ∀ k,v.ownBlock = some k → k ≠ b:=fun k hk e => by have:=(ho.lt k hk).1;omega
  refine ⟨?_,hF.keep (hg.block b hF.lt fun e => hne b e.symm rfl)⟩
  refine ⟨hg.os.trans hk.os,hg.tape.trans hk.tape,hg.output.trans hk.output,Nat.le_trans hk.size hg.size,fun k hlt hkb => ?_⟩
  by_cases e : v.ownBlock = some k
  · have:=(ho.lt k e).1
    omega
  · exact (hg.block k (Nat.lt_of_lt_of_le hlt hk.size) fun h => e h.symm).trans (hk.block k hlt hkb)
end
set_option maxRecDepth 100000 in
set_option maxHeartbeats 600000 in
theorem af_fun (tk : Int) (tn tm : ByteArray) (ti td : Int) (tA : Option Addr) (tc : Nat) (ts : Fo) (ih : AfOK ts) (n m : ByteArray) (i d : Int) (A : Option Addr) (c : Nat) (bd : List ByteArray) (B : Option Addr) (cB b q : Nat) (fb : Bool) (w : World)
    (hs : (Fo.cons tk tn tm ti td tA tc ts .nil).Sl w w.heap.size A c) (hv : (Fo.cons tk tn tm ti td tA tc ts .nil).Vld) (hB : SlS w w.heap.size B cB bd) (hBn : B = none → cB = 0) (hF : FMap w b q fb) (hq : q + 1 + (ts.count + 1) ≤ 1000000) (hbd : bd.length + 2 * (1 + (ts.count + 1)) ≤ 1000000) :
    Calls Tryz.prog 175 #[.agg #[.int .i64 6,.string n,.string m,.int .i64 i,.int .i64 d,.slice A 1 c],.slice B bd.length cB,.map (some b)] w fun e w' =>
      (∃ v,e = .returned v) ∧ FMap w' b (q + 1 + (ts.count + 1)) (fb || nodeFree 6 n m (Fo.cons tk tn tm ti td tA tc ts .nil) bd) ∧ Keeps (fun k => k ≠ b) w w':=by
  obtain ⟨i0,hi,hz0,hz1,hz2⟩:=info_parts Tryz.infoString
  obtain ⟨E,HE⟩ : ∃ E,Hid (E = (fb || nodeFree 6 n m (Fo.cons tk tn tm ti td tA tc ts .nil) bd)):=⟨_,rfl⟩
  rw [← HE.out]
  have HE1:=Lib.hid (HE.out.trans (show (fb || nodeFree 6 n m (Fo.cons tk tn tm ti td tA tc ts .nil) bd) = (fb || nodeFree tk tn tm ts (bd ++ [n])) by
    rw [nodeFree,if_neg (by decide),Fo.free_cons];simp [Fo.free,boundBy]))
  clear HE
  have hlt:=hF.lt
  obtain ⟨W0,hW0⟩ : ∃ W0,w.alloc (.cells #[.int .i64 6,.string n,.string m,.int .i64 i,.int .i64 d,.slice A 1 c] 44) = W0:=⟨_,rfl⟩
  have hzw : W0.heap.size = w.heap.size + 1:=by subst hW0;simp
  have hx0 : W0.cell? ⟨w.heap.size,0,none⟩ = some (.int .i64 6):=by subst hW0;go_simp
  have hx1 : W0.cell? ⟨w.heap.size,1,none⟩ = some (.string n):=by subst hW0;go_simp
  have hx5 : W0.cell? ⟨w.heap.size,5,none⟩ = some (.slice A 1 c):=by subst hW0;go_simp
  have hk0 : Keeps (fun _ => True) w W0:=by subst hW0;exact (Keeps.refl _ w).alloc _
  have hcell0 : ∀ p : Addr,p.block < w.heap.size → W0.cell? p = w.cell? p:=fun p hp => World.cell?_of_block (hk0.block p.block hp trivial)
  have hS0:=Lib.hid (hB.keep (w':=W0) (B':=w.heap.size) (Nat.le_refl _) hcell0)
  have hs0:=hs.keep (w':=W0) (B':=w.heap.size) (Nat.le_refl _) hcell0
  obtain ⟨b',o',rfl,hb',h0,h1,h2,h3',h4,⟨h5,hc',hm',hs'⟩,hr'⟩:=hs0.2.2 (by simp)
  have hts:=Lib.hid (show ts.Sl W0 w.heap.size tA tc from ⟨hc',hm',hs'⟩)
  have hF0:=hF.keep (hk0.block b hlt trivial)
  have HF0:=Lib.hid hF0
  have HK0:=Lib.hid (hk0.mono (T:=fun k => k ≠ b) fun _ _ => trivial)
  have hcells : ∀ W,FrW W0 b W → (W.cell? ⟨w.heap.size,1,none⟩ = some (.string n) ∧ W.cell? ⟨w.heap.size,5,none⟩ = some (.slice (some ⟨b',o',none⟩) 1 c) ∧ W.cell? ⟨b',o',none⟩ = some (.int .i64 tk) ∧ W.cell? ⟨b',o' + 1,none⟩ = some (.string tn) ∧
      W.cell? ⟨b',o' + 2,none⟩ = some (.string tm) ∧ W.cell? ⟨b',o' + 3,none⟩ = some (.int .i64 ti) ∧ W.cell? ⟨b',o' + 4,none⟩ = some (.int .i64 td) ∧ W.cell? ⟨b',o' + 5,none⟩ = some (.slice tA ts.len tc)) ∧ FrW W0 b W:=fun W hW =>
    ⟨⟨(hW.cell hF0 ⟨w.heap.size,1,none⟩ (by simp;omega)).trans hx1,(hW.cell hF0 ⟨w.heap.size,5,none⟩ (by simp;omega)).trans hx5,(hW.cell hF0 ⟨b',o',none⟩ (by simp;omega)).trans h0,(hW.cell hF0 ⟨b',o' + 1,none⟩ (by simp;omega)).trans h1,
      (hW.cell hF0 ⟨b',o' + 2,none⟩ (by simp;omega)).trans h2,(hW.cell hF0 ⟨b',o' + 3,none⟩ (by simp;omega)).trans h3',(hW.cell hF0 ⟨b',o' + 4,none⟩ (by simp;omega)).trans h4,(hW.cell hF0 ⟨b',o' + 5,none⟩ (by simp;omega)).trans h5⟩,hW⟩
  have HC:=Lib.hid hcells
  have HR : Hid (∀ (gg cap base : Nat) (X : World),FMap X b q fb → Keeps (fun k => k ≠ b) W0 X → X.ownsRow base 9 1 (.slice (some ⟨gg,0,none⟩) (bd.length + 1) cap) (bd.length + 1) (bd.map .string ++ [.string n]) →
      Calls Tryz.prog 175 #[.agg #[.int .i64 tk,.string tn,.string tm,.int .i64 ti,.int .i64 td,.slice tA ts.len tc],.slice (some ⟨gg,0,none⟩) (bd.length + 1) cap,.map (some b)] X fun e w' =>
      (∃ v,e = .returned v) ∧ FMap w' b (q + 1 + ts.count) (fb || nodeFree tk tn tm ts (bd ++ [n])) ∧ Keeps (fun k => k ≠ b) X w'):=by
    intro gg cap base X hFX hKX hoX
    have h:=ih tk tn tm ti td tA tc (bd ++ [n]) (some ⟨gg,0,none⟩) cap b q fb X (FrW.sl hF0 (FrW.start hFX hKX) hts.out (by omega)) hv.1 hv.2.1 (sls_own (by simpa using hoX) (by simp)) (by simp) hFX (by omega) (by simp;omega)
    rw [show (bd ++ [n]).length = bd.length + 1 by simp] at h
    exact h
  have HNEW:=Lib.hid (show (W0.alloc (.cells #[.string n] 9)).heap[w.heap.size + 1]? = some (.cells #[.string n] 9 (0,0)) by rw [← hzw];exact heap_alloc_new W0 _)
  have hfr0:=Lib.hid (FrW.start (W0:=W0) hF0.drew ((Keeps.refl _ W0).drew))
  clear hk0 hF hB hcell0 hs hs0 h0 h1 h2 h3' h4 h5 hs' hr' hF0 hcells hv ih hc' hm'
  go_enter Tryz.func175,Tryz.ntmps175
  go_wp2_with fail
  clear hW0
  go_region_held3 (fun W => (W.cell? ⟨w.heap.size,1,none⟩ = some (.string n) ∧ W.cell? ⟨w.heap.size,5,none⟩ = some (.slice (some ⟨b',o',none⟩) 1 c) ∧ W.cell? ⟨b',o',none⟩ = some (.int .i64 tk) ∧ W.cell? ⟨b',o' + 1,none⟩ = some (.string tn) ∧
      W.cell? ⟨b',o' + 2,none⟩ = some (.string tm) ∧ W.cell? ⟨b',o' + 3,none⟩ = some (.int .i64 ti) ∧ W.cell? ⟨b',o' + 4,none⟩ = some (.int .i64 td) ∧ W.cell? ⟨b',o' + 5,none⟩ = some (.slice tA ts.len tc)) ∧ FrW W0 b W)
    (first | exact HC.out _ hfr0.out | exact HC.out _ (FrW.start hF3 hK3) | exact HC.out _ (FrW.start hF2 hK2) | exact HC.out _ (FrW.start (FMap.alloc hF1 _) (Keeps.alloc hK1 _)) | exact HC.out _ (FrW.start hF1 hK1) | exact HC.out _ (FrW.alloc hfr0.out _))
    (first
      | (go_at_call 236;refine (slcClone_any bd B cB _ (FrW.sls HF0.out (by first | exact hfr0.out | exact FrW.alloc hfr0.out _) hS0.out (by omega)) hBn (by omega)).mono ?_;rintro e w1 ⟨v1,rfl,hown1,hbel1⟩;have hF1 : FMap w1 b q fb:=FMap.below (by first | exact HF0.out.drew | exact HF0.out.drew.alloc _) hbel1;have hK1 : Keeps (fun k => k ≠ b) W0 w1:=Keeps.belowAll (by first | exact hfr0.out.1 | exact hfr0.out.1.alloc _) hbel1)
      | (go_at_call 175;refine (HR.out gg cap _ _ hF2 hK2 hown2).mono ?_;rintro e w3 ⟨⟨v3,rfl⟩,hF3,hK3'⟩;have hK3:=hK2.trans hK3')
      | (refine step_append_lies _ rfl (.tmp 27) (.tmp 30) 22 rfl _ 9 i0 _ 1 16 Tryz.underlying22 hi hz0 hz1 hz2 rfl (by omega) v1 bd.length (bd.map .string) rfl (hown1.alloc _) ⟨w1.heap.size,0,none⟩ 1 1 [.string n] rfl rfl (World.news_of_block (cs:=#[.string n]) (t:=9) (fr:=(0,0)) (heap_alloc_new w1 _)) (by simp [Value.oneCell']) (by omega) (by unfold maxLen;omega) (by omega) (by have:=hbel1.size;simp at this ⊢;omega) _ rfl ?_;intro gg cap w2 hown2 hgrow2 hat2 hlt2
         obtain ⟨hK2,hF2⟩:=grown_own (hK1.alloc _) (hF1.alloc _) (hown1.alloc _) (by omega) (by simp) hgrow2)
      | (refine step_append_lies _ rfl (.tmp 27) (.tmp 30) 22 rfl _ 9 i0 _ 1 16 Tryz.underlying22 hi hz0 hz1 hz2 rfl (by omega) v1 bd.length (bd.map .string) rfl hown1 ⟨w.heap.size + 1,0,none⟩ 1 1 [.string n] rfl rfl (World.news_of_block (cs:=#[.string n]) (t:=9) (fr:=(0,0)) ((hbel1.block (w.heap.size + 1) (by simp;omega)).trans HNEW.out)) (by simp [Value.oneCell']) (by omega) (by unfold maxLen;omega) (by omega) (by have:=hbel1.size;simp at this ⊢;omega) _ rfl ?_;intro gg cap w2 hown2 hgrow2 hat2 hlt2
         obtain ⟨hK2,hF2⟩:=grown_own hK1 hF1 hown1 (by omega) (by simp) hgrow2))
  all_goals (
    go_wp2
    refine bodyPost_ret (results_none rfl _ _ _) rfl ?_
    refine ⟨⟨_,rfl⟩,?_,HK0.out.trans hK3⟩
    rw [HE1.out]
    exact hF3.mono (by omega))
end Go.Proofs.YtmmecapgnmlaiaaGreatDoor
/- syntax.addFree: a let -/
namespace Go.Proofs.YtmmecapgnmlaiaaGreatDoor
open Go.RowKit Go.Proofs Go.Shelf
set_option maxRecDepth 100000 in
set_option maxHeartbeats 1000000 in
theorem af_let (xk : Int) (xn xm : ByteArray) (xi xd : Int) (xA : Option Addr) (xc : Nat) (xs : Fo) (ihx : AfOK xs) (yk : Int) (yn ym : ByteArray) (yi yd : Int) (yA : Option Addr) (yc : Nat) (ys : Fo) (ihy : AfOK ys) (n m : ByteArray) (i d : Int) (A : Option Addr) (c : Nat) (bd : List ByteArray) (B : Option Addr) (cB b q : Nat) (fb : Bool) (w : World)
    (hs : (Fo.cons xk xn xm xi xd xA xc xs (.cons yk yn ym yi yd yA yc ys .nil)).Sl w w.heap.size A c) (hv : (Fo.cons xk xn xm xi xd xA xc xs (.cons yk yn ym yi yd yA yc ys .nil)).Vld) (hB : SlS w w.heap.size B cB bd) (hBn : B = none → cB = 0) (hF : FMap w b q fb) (hq : q + 1 + (Fo.cons xk xn xm xi xd xA xc xs (.cons yk yn ym yi yd yA yc ys .nil)).count ≤ 1000000) (hbd : bd.length + 2 * (1 + (Fo.cons xk xn xm xi xd xA xc xs (.cons yk yn ym yi yd yA yc ys .nil)).count) ≤ 1000000) :
    Calls Tryz.prog 175 #[.agg #[.int .i64 8,.string n,.string m,.int .i64 i,.int .i64 d,.slice A 2 c],.slice B bd.length cB,.map (some b)] w fun e w' =>
      (∃ v,e = .returned v) ∧ FMap w' b (q + 1 + (Fo.cons xk xn xm xi xd xA xc xs (.cons yk yn ym yi yd yA yc ys .nil)).count) (fb || nodeFree 8 n m (Fo.cons xk xn xm xi xd xA xc xs (.cons yk yn ym yi yd yA yc ys .nil)) bd) ∧ Keeps (fun k => k ≠ b) w w':=by
  obtain ⟨i0,hi,hz0,hz1,hz2⟩:=info_parts Tryz.infoString
  obtain ⟨E,HE⟩ : ∃ E,Hid (E = (fb || nodeFree 8 n m (Fo.cons xk xn xm xi xd xA xc xs (.cons yk yn ym yi yd yA yc ys .nil)) bd)):=⟨_,rfl⟩
  rw [← HE.out]
  have HE1:=Lib.hid (HE.out.trans (show (fb || nodeFree 8 n m (Fo.cons xk xn xm xi xd xA xc xs (.cons yk yn ym yi yd yA yc ys .nil)) bd) = ((fb || nodeFree xk xn xm xs bd) || nodeFree yk yn ym ys (bd ++ [n])) by
    rw [nodeFree,if_neg (by decide)];simp only [Fo.free_cons];simp [Fo.free,boundBy,Bool.or_assoc]))
  clear HE
  have hcnt : (Fo.cons xk xn xm xi xd xA xc xs (.cons yk yn ym yi yd yA yc ys .nil)).count = (xs.count + 1) + (ys.count + 1):=by simp only [Fo.count] <;> omega
  rw [hcnt] at hq hbd ⊢
  clear hcnt
  have hlt:=hF.lt
  obtain ⟨W0,hW0⟩ : ∃ W0,w.alloc (.cells #[.int .i64 8,.string n,.string m,.int .i64 i,.int .i64 d,.slice A 2 c] 44) = W0:=⟨_,rfl⟩
  have hzw : w.heap.size < W0.heap.size:=by subst hW0;simp
  have hx0 : W0.cell? ⟨w.heap.size,0,none⟩ = some (.int .i64 8):=by subst hW0;go_simp
  have hx1 : W0.cell? ⟨w.heap.size,1,none⟩ = some (.string n):=by subst hW0;go_simp
  have hx2 : W0.cell? ⟨w.heap.size,2,none⟩ = some (.string m):=by subst hW0;go_simp
  have hx5 : W0.cell? ⟨w.heap.size,5,none⟩ = some (.slice A 2 c):=by subst hW0;go_simp
  have hk0 : Keeps (fun _ => True) w W0:=by subst hW0;exact (Keeps.refl _ w).alloc _
  have hcell0 : ∀ p : Addr,p.block < w.heap.size → W0.cell? p = w.cell? p:=fun p hp => World.cell?_of_block (hk0.block p.block hp trivial)
  have hS0:=Lib.hid (hB.keep (w':=W0) (B':=w.heap.size) (Nat.le_refl _) hcell0)
  have hs0:=hs.keep (w':=W0) (B':=w.heap.size) (Nat.le_refl _) hcell0
  obtain ⟨b',o',rfl,hb',xh0,xh1,xh2,xh3,xh4,⟨xh5,xhc,xhm,xhs⟩,yh0,yh1,yh2,yh3,yh4,⟨yh5,yhc,yhm,yhs⟩,_⟩:=hs0.2.2 (by simp)
  have xsl:=Lib.hid (show xs.Sl W0 w.heap.size xA xc from ⟨xhc,xhm,xhs⟩)
  have ysl:=Lib.hid (show ys.Sl W0 w.heap.size yA yc from ⟨yhc,yhm,yhs⟩)
  have hF0:=hF.keep (hk0.block b hlt trivial)
  have HF0:=Lib.hid hF0
  have HK0:=Lib.hid (hk0.mono (T:=fun k => k ≠ b) fun _ _ => trivial)
  have hcells : ∀ W,FrW W0 b W → (W.cell? ⟨w.heap.size,1,none⟩ = some (.string n) ∧ W.cell? ⟨w.heap.size,5,none⟩ = some (.slice (some ⟨b',o',none⟩) 2 c) ∧ W.cell? ⟨b',o' + 6,none⟩ = some (.int .i64 yk) ∧ W.cell? ⟨b',o' + 7,none⟩ = some (.string yn) ∧ W.cell? ⟨b',o' + 8,none⟩ = some (.string ym) ∧ W.cell? ⟨b',o' + 9,none⟩ = some (.int .i64 yi) ∧ W.cell? ⟨b',o' + 10,none⟩ = some (.int .i64 yd) ∧ W.cell? ⟨b',o' + 11,none⟩ = some (.slice yA ys.len yc)) ∧ FrW W0 b W:=fun W hW =>
    ⟨⟨(hW.cell hF0 ⟨w.heap.size,1,none⟩ (by simp;omega)).trans hx1,(hW.cell hF0 ⟨w.heap.size,5,none⟩ (by simp;omega)).trans hx5,(hW.cell hF0 ⟨b',o' + 6,none⟩ (by simp;omega)).trans yh0,(hW.cell hF0 ⟨b',o' + 7,none⟩ (by simp;omega)).trans yh1,(hW.cell hF0 ⟨b',o' + 8,none⟩ (by simp;omega)).trans yh2,(hW.cell hF0 ⟨b',o' + 9,none⟩ (by simp;omega)).trans yh3,(hW.cell hF0 ⟨b',o' + 10,none⟩ (by simp;omega)).trans yh4,(hW.cell hF0 ⟨b',o' + 11,none⟩ (by simp;omega)).trans yh5⟩,hW⟩
  have HC:=Lib.hid hcells
  have xcells : Hid (∀ W,FrW W0 b W → W.cell? ⟨w.heap.size,5,none⟩ = some (.slice (some ⟨b',o',none⟩) 2 c) ∧ W.cell? ⟨b',o',none⟩ = some (.int .i64 xk) ∧ W.cell? ⟨b',o' + 1,none⟩ = some (.string xn) ∧ W.cell? ⟨b',o' + 2,none⟩ = some (.string xm) ∧ W.cell? ⟨b',o' + 3,none⟩ = some (.int .i64 xi) ∧ W.cell? ⟨b',o' + 4,none⟩ = some (.int .i64 xd) ∧ W.cell? ⟨b',o' + 5,none⟩ = some (.slice xA xs.len xc)):=fun W hW =>
    ⟨(hW.cell hF0 ⟨w.heap.size,5,none⟩ (by simp;omega)).trans hx5,(hW.cell hF0 ⟨b',o',none⟩ (by simp;omega)).trans xh0,(hW.cell hF0 ⟨b',o' + 1,none⟩ (by simp;omega)).trans xh1,(hW.cell hF0 ⟨b',o' + 2,none⟩ (by simp;omega)).trans xh2,(hW.cell hF0 ⟨b',o' + 3,none⟩ (by simp;omega)).trans xh3,(hW.cell hF0 ⟨b',o' + 4,none⟩ (by simp;omega)).trans xh4,(hW.cell hF0 ⟨b',o' + 5,none⟩ (by simp;omega)).trans xh5⟩
  have xR : Hid (∀ X,FMap X b (q) fb → Keeps (fun k => k ≠ b) W0 X → Calls Tryz.prog 175 #[.agg #[.int .i64 xk,.string xn,.string xm,.int .i64 xi,.int .i64 xd,.slice xA xs.len xc],.slice B bd.length cB,.map (some b)] X fun e w' => (∃ v,e = .returned v) ∧ FMap w' b (q + 1 + xs.count) (fb || nodeFree xk xn xm xs bd) ∧ Keeps (fun k => k ≠ b) X w'):=by
    intro X hFX hKX
    exact ihx _ _ _ _ _ _ _ bd B cB b _ _ X (FrW.sl hF0 (FrW.start hFX hKX) xsl.out (by omega)) hv.1 hv.2.1 (FrW.sls hF0 (FrW.start hFX hKX) hS0.out (by omega)) hBn hFX (by omega) (by omega)
  have HR : Hid (∀ (gg cap base : Nat) (X : World),FMap X b (q + 1 + xs.count) (fb || nodeFree xk xn xm xs bd) → Keeps (fun k => k ≠ b) W0 X → X.ownsRow base 9 1 (.slice (some ⟨gg,0,none⟩) (bd.length + 1) cap) (bd.length + 1) (bd.map .string ++ [.string n]) →
      Calls Tryz.prog 175 #[.agg #[.int .i64 yk,.string yn,.string ym,.int .i64 yi,.int .i64 yd,.slice yA ys.len yc],.slice (some ⟨gg,0,none⟩) (bd.length + 1) cap,.map (some b)] X fun e w' =>
      (∃ v,e = .returned v) ∧ FMap w' b (q + 1 + xs.count + 1 + ys.count) ((fb || nodeFree xk xn xm xs bd) || nodeFree yk yn ym ys (bd ++ [n])) ∧ Keeps (fun k => k ≠ b) X w'):=by
    intro gg cap base X hFX hKX hoX
    have h:=ihy yk yn ym yi yd yA yc (bd ++ [n]) (some ⟨gg,0,none⟩) cap b _ _ X (FrW.sl hF0 (FrW.start hFX hKX) ysl.out (by omega)) hv.2.2.1 hv.2.2.2.1 (sls_own (by simpa using hoX) (by simp)) (by simp) hFX (by omega) (by simp;omega)
    rw [show (bd ++ [n]).length = bd.length + 1 by simp] at h
    exact h
  clear hk0 hF hB hcell0 hs hs0 hF0 hcells hv xh0 xh1 xh2 xh3 xh4 xh5 xhc xhm xhs ihx yh0 yh1 yh2 yh3 yh4 yh5 yhc yhm yhs ihy
  have hfrS:=Lib.hid (FrW.start HF0.out (Keeps.refl (fun k => k ≠ b) W0))
  obtain ⟨xc5,xc0,xc1,xc2,xc3,xc4,xc6⟩:=xcells.out _ (hfrS.out)
  go_enter Tryz.func175,Tryz.ntmps175
  go_wp2_with fail
  refine (xR.out _ HF0.out (Keeps.refl _ W0)).mono ?_
  rintro e Xx ⟨⟨v,rfl⟩,Fx,Kx'⟩
  have Kx : Keeps (fun k => k ≠ b) W0 Xx:=Keeps.trans (Keeps.refl _ W0) Kx'
  clear xc5 xc0 xc1 xc2 xc3 xc4 xc6 hW0 hx0 hx1 hx2 hx5
  have HXx:=Lib.hid (And.intro Fx (And.intro Kx (FrW.start Fx Kx)))
  have hzx:=Kx.size
  clear Fx Kx Kx'
  have hfr0:=Lib.hid (FrW.start (FMap.drew HXx.out.1) (Keeps.drew HXx.out.2.1))
  obtain ⟨zc5,zc0,zc1,zc2,zc3,zc4,zc6⟩:=xcells.out _ HXx.out.2.2
  go_wp2_with fail
  clear zc5 zc0 zc1 zc2 zc3 zc4 zc6
  have HNEW:=Lib.hid (show (Xx.alloc (.cells #[.string n] 9)).heap[Xx.heap.size]? = some (.cells #[.string n] 9 (0,0)) from heap_alloc_new Xx _)
  go_region_held3 (fun W => (W.cell? ⟨w.heap.size,1,none⟩ = some (.string n) ∧ W.cell? ⟨w.heap.size,5,none⟩ = some (.slice (some ⟨b',o',none⟩) 2 c) ∧ W.cell? ⟨b',o' + 6,none⟩ = some (.int .i64 yk) ∧ W.cell? ⟨b',o' + 7,none⟩ = some (.string yn) ∧ W.cell? ⟨b',o' + 8,none⟩ = some (.string ym) ∧ W.cell? ⟨b',o' + 9,none⟩ = some (.int .i64 yi) ∧ W.cell? ⟨b',o' + 10,none⟩ = some (.int .i64 yd) ∧ W.cell? ⟨b',o' + 11,none⟩ = some (.slice yA ys.len yc)) ∧ FrW W0 b W)
    (first | exact HC.out _ hfr0.out | exact HC.out _ (FrW.start hF3 hK3) | exact HC.out _ (FrW.start hF2 hK2) | exact HC.out _ (FrW.start (FMap.alloc hF1 _) (Keeps.alloc hK1 _)) | exact HC.out _ (FrW.start hF1 hK1) | exact HC.out _ (FrW.alloc hfr0.out _))
    (first
      | (go_at_call 236;refine (slcClone_any bd B cB _ (FrW.sls HF0.out (by first | exact hfr0.out | exact FrW.alloc hfr0.out _) hS0.out (by omega)) hBn (by omega)).mono ?_;rintro e w1 ⟨v1,rfl,hown1,hbel1⟩;have hF1 : FMap w1 b (q + 1 + xs.count) (fb || nodeFree xk xn xm xs bd):=FMap.below (by first | exact FMap.drew HXx.out.1 | exact FMap.alloc (FMap.drew HXx.out.1) _) hbel1;have hK1 : Keeps (fun k => k ≠ b) W0 w1:=Keeps.belowAll (by first | exact hfr0.out.1 | exact hfr0.out.1.alloc _) hbel1)
      | (go_at_call 175;refine (HR.out gg cap _ _ hF2 hK2 hown2).mono ?_;rintro e w3 ⟨⟨v3,rfl⟩,hF3,hK3'⟩;have hK3:=hK2.trans hK3')
      | (refine step_append_lies _ rfl (.tmp 48) (.tmp 51) 22 rfl _ 9 i0 _ 1 16 Tryz.underlying22 hi hz0 hz1 hz2 rfl (by omega) v1 bd.length (bd.map .string) rfl (hown1.alloc _) ⟨w1.heap.size,0,none⟩ 1 1 [.string n] rfl rfl (World.news_of_block (cs:=#[.string n]) (t:=9) (fr:=(0,0)) (heap_alloc_new w1 _)) (by simp [Value.oneCell']) (by omega) (by unfold maxLen;omega) (by omega) (by have:=hbel1.size;simp at this ⊢;omega) _ rfl ?_;intro gg cap w2 hown2 hgrow2 hat2 hlt2
         obtain ⟨hK2,hF2⟩:=grown_own (hK1.alloc _) (hF1.alloc _) (hown1.alloc _) (by omega) (by simp;omega) hgrow2)
      | (refine step_append_lies _ rfl (.tmp 48) (.tmp 51) 22 rfl _ 9 i0 _ 1 16 Tryz.underlying22 hi hz0 hz1 hz2 rfl (by omega) v1 bd.length (bd.map .string) rfl hown1 ⟨Xx.heap.size,0,none⟩ 1 1 [.string n] rfl rfl (World.news_of_block (cs:=#[.string n]) (t:=9) (fr:=(0,0)) ((hbel1.block Xx.heap.size (by simp)).trans HNEW.out)) (by simp [Value.oneCell']) (by omega) (by unfold maxLen;omega) (by omega) (by have:=hbel1.size;simp at this ⊢;omega) _ rfl ?_;intro gg cap w2 hown2 hgrow2 hat2 hlt2
         obtain ⟨hK2,hF2⟩:=grown_own hK1 hF1 hown1 (by omega) (by simp;omega) hgrow2))
  all_goals (
    go_wp2
    refine bodyPost_ret (results_none rfl _ _ _) rfl ?_
    refine ⟨⟨_,rfl⟩,?_,HK0.out.trans hK3⟩
    rw [HE1.out]
    exact hF3.mono (by omega))
end Go.Proofs.YtmmecapgnmlaiaaGreatDoor
