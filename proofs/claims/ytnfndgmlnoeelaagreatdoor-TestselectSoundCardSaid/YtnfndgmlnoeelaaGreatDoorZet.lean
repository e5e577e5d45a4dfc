/- depend.chance -/
import Derived.Test.YtnfndgmlnoeelaaGreatDoorZln
import Derived.Test.YtnfndgmlnoeelaaGreatDoorZlz
import Derived.Test.YtnfndgmlnoeelaaGreatDoorZex
import Derived.Test.YtnfndgmlnoeelaaGreatDoorZmd
import Derived.Test.YtnfndgmlnoeelaaGreatDoorZeo
import Derived.Test.YtnfndgmlnoeelaaGreatDoorDcp
namespace Go.Proofs.YtnfndgmlnoeelaaGreatDoor
open Go.RowKit Go.Proofs Go.Shelf
def Fo.chn : Fo → Bool
 | .nil => false
 | .cons k _ _ _ _ _ _ s r => (k == 14 || s.chn) || r.chn
end Go.Proofs.YtnfndgmlnoeelaaGreatDoor
/- depend.Flaky -/
namespace Go.Proofs.YtnfndgmlnoeelaaGreatDoor
open Go.RowKit Go.Proofs Go.Shelf
def chnD (d : Dc) : Bool:=d.k == 14 || d.s.chn
def chnN (l : List Mo) (x : ByteArray × Int) : Bool:=((bodyOf l x).map chnD).getD false
def flkB (l : List Mo) (L : List (ByteArray × Int)) : Bool:=L.any (chnN l)
def CapF (cb bm : Nat) (l : List Mo) (X : World) : Prop:=X.heap[cb]? = some (.cells #[.map (some bm)] 68 (0,0)) ∧ BodiesAt l X bm
theorem CapF.below {cb bm : Nat} {l : List Mo} {X Y : World} (h : CapF cb bm l X) (hb : Below X.heap.size X Y) : CapF cb bm l Y:=
 ⟨(hb.block cb (Array.getElem?_eq_some_iff.1 h.1).1).trans h.1,h.2.keep (hb.block bm h.2.lt)⟩
end Go.Proofs.YtnfndgmlnoeelaaGreatDoor
/- eval, plainly: what is reached from a name is its closure; without chance the seed does not matter -/
namespace Go.Proofs.YtnfndgmlnoeelaaGreatDoor
open Go Go.RowKit Go.Proofs Go.Shelf
theorem Fo.chn_vis : ∀ {f : Fo},f.chn = false → ∀ x ∈ f.vis,x.k ≠ 14
 | .nil,_,x,hx => by simp [Fo.vis] at hx
 | .cons k n m i d A c s r,h,x,hx => by
  simp only [Fo.chn,Bool.or_eq_false_iff] at h
  simp only [Fo.vis,List.mem_append,List.mem_cons] at hx
  rcases hx with hx | rfl | hx
  ·exact Fo.chn_vis h.2 x hx
  ·simpa using h.1.1
  ·exact Fo.chn_vis h.1.2 x hx
theorem full_noB (p n : ByteArray) (i : Int) : fullN p (n,i) = (if n = noB then p else n,i):=by
 unfold fullN
 have h : n.toList.isEmpty = decide (n = noB):=by
  rw [← toL_noB]
  cases n.toList <;> rfl
 simp only [h,decide_eq_true_eq]
 by_cases e : n = noB
 ·rw [if_pos e,if_pos e]
 ·rw [if_neg e,if_neg e]
theorem Fo.sk_nice {C : ByteArray → Int → Prop} {ch : Prop} {p : ByteArray} : ∀ (f : Fo),(∀ x ∈ f.vis,(x.k = 5 → C (fullN p (x.n,x.i)).1 x.i) ∧ (ch → x.k ≠ 14)) → f.sk.Nice C ch p
 | .nil,_ => trivial
 | .cons k n m i d A c s r,h => by
  simp only [Fo.vis,List.mem_append,List.mem_cons] at h
  refine ⟨?_,s.sk_nice fun x hx => h x (.inr (.inr hx)),r.sk_nice fun x hx => h x (.inl hx)⟩
  have:=h _ (.inr (.inl rfl))
  simp only [full_noB] at this
  exact this
theorem clo_nice {l : List Mo} {n : ByteArray × Int} {L : List (ByteArray × Int)} (ch : Prop) (hcl : Clo (grf l) n (some L)) (hch : ch → flkB l L = false) :
  ∀ p i x,(p,i) ∈ L → lookOf l p i = some x → x.Nice (fun p i => (p,i) ∈ L) ch p:=fun p i x hp hx => by
 unfold lookOf at hx
 obtain ⟨d,hd,rfl⟩:=Option.map_eq_some_iff.1 hx
 have hr:=(hcl.2.1 _).1 hp
 have hg : grf l (p,i) = some (usesOf p d.body):=by unfold grf;rw [hd];rfl
 have hn : d.body.sk.Nice (fun p i => (p,i) ∈ L) ch p:=d.body.sk_nice fun x hxv => by
  refine ⟨fun hk => ?_,fun hc => ?_⟩
  ·have hu : fullN p (x.n,x.i) ∈ usesOf p d.body:=by
    unfold usesOf
    rw [mem_ordN]
    refine List.mem_map_of_mem ?_
    have e : refsOf d.body.vis = ordN (refL d.body.vis):=rfl
    rw [e,mem_ordN]
    unfold refL
    exact List.mem_filterMap.2 ⟨x,hxv,by simp [hk]⟩
   have:=(hcl.2.1 _).2 (hr.step hg hu)
   rw [full_noB] at this ⊢
   exact this
  ·have hf:=hch hc
   unfold flkB at hf
   have h1:=(List.any_eq_false.1 hf) _ hp
   unfold chnN at h1
   rw [hd] at h1
   have h2 : chnD d = false:=by simpa using h1
   unfold chnD at h2
   have h3 : d.body.chn = false:=by
    unfold Dc.body
    simp only [Fo.chn,h2,Bool.or_false]
   exact Fo.chn_vis h3 x hxv
 unfold Dc.body at hn
 exact ⟨hn.1,hn.2.1⟩
theorem start_same {C : ByteArray → Int → Prop} {ch : Prop} {x : Xp} {p : ByteArray} {z z' : Int} (h : x.Nice C ch p) (hz : ¬ ch → z = z') : EsSame C ch ⟨0,z,[⟨x,0,p,.nil⟩],[]⟩ ⟨0,z',[⟨x,0,p,.nil⟩],[]⟩:=
 ⟨rfl,hz,rfl,rfl,fun f hf => by obtain rfl:=List.mem_singleton.1 hf;exact ⟨h,trivial⟩,fun v hv => by simp at hv⟩
end Go.Proofs.YtnfndgmlnoeelaaGreatDoor
/- Texts of keys can be read back: equal keys have equal parts -/
namespace Go.Proofs.YtnfndgmlnoeelaaGreatDoor
open Go.RowKit Go.Proofs Go.Shelf

theorem u8_inj {a b : Nat} (ha : a < 256) (hb : b < 256) (h : UInt8.ofNat a = UInt8.ofNat b) : a = b:=by
 have:=congrArg UInt8.toNat h
 rw [UInt8.toNat_ofNat',UInt8.toNat_ofNat',Nat.mod_eq_of_lt (by simpa using ha),Nat.mod_eq_of_lt (by simpa using hb)] at this
 exact this
theorem encL_inj (n : Nat) : ∀ (m : Nat) (r s : List UInt8),encL n ++ r = encL m ++ s → n = m ∧ r = s:=by
 induction n using Nat.strongRecOn with
 | _ n ih =>
  intro m r s h
  by_cases hn : n < 128 <;> by_cases hm : m < 128
  ·rw [encL_small hn,encL_small hm] at h
   simp only [List.cons_append,List.nil_append,List.cons.injEq] at h
   exact ⟨u8_inj (by omega) (by omega) h.1,h.2⟩
  ·rw [encL_small hn,encL_big hm] at h
   simp only [List.cons_append,List.nil_append,List.cons.injEq] at h
   have:=u8_inj (by omega) (by omega) h.1
   omega
  ·rw [encL_big hn,encL_small hm] at h
   simp only [List.cons_append,List.nil_append,List.cons.injEq] at h
   have:=u8_inj (by omega) (by omega) h.1
   omega
  ·rw [encL_big hn,encL_big hm] at h
   simp only [List.cons_append,List.cons.injEq] at h
   have h1:=u8_inj (by omega) (by omega) h.1
   obtain ⟨h2,h3⟩:=ih (n / 128) (by omega) (m / 128) r s h.2
   exact ⟨by omega,h3⟩
theorem numL_inj {a b : Int} (ha : 0 ≤ a ∧ a ≤ 1099511627776) (hb : 0 ≤ b ∧ b ≤ 1099511627776) {r s : List UInt8} (h : numL a ++ r = numL b ++ s) : a = b ∧ r = s:=by
 unfold numL at h
 rw [if_pos ha,if_pos hb] at h
 obtain ⟨h1,h2⟩:=encL_inj _ _ _ _ h
 exact ⟨by omega,h2⟩
theorem txtL_inj {a b : ByteArray} (ha : a.size ≤ 65536) (hb : b.size ≤ 65536) {r s : List UInt8} (h : txtL a ++ r = txtL b ++ s) : a = b ∧ r = s:=by
 unfold txtL at h
 rw [if_pos ha,if_pos hb,List.append_assoc,List.append_assoc] at h
 obtain ⟨h1,h2⟩:=encL_inj _ _ _ _ h
 have hl : a.data.toList.length = b.data.toList.length:=by
  have e1 : a.data.toList.length = a.size:=by simp
  have e2 : b.data.toList.length = b.size:=by simp
  omega
 obtain ⟨h3,h4⟩:=List.append_inj h2 hl
 exact ⟨ByteArray.ext (Array.ext' h3),h4⟩
end Go.Proofs.YtnfndgmlnoeelaaGreatDoor
/- Equal keys, equal closures and bodies (Kda without certificates; never together with Kda, Kdf) -/
namespace Go.Proofs.YtnfndgmlnoeelaaGreatDoor
open Go.RowKit Go.Proofs Go.Shelf
theorem toL_inj {a b : ByteArray} (h : a.toList = b.toList) : a = b:=by
 rw [ByteArray.toList_eq,ByteArray.toList_eq] at h
 exact ByteArray.ext (Array.ext' h)
theorem sgnK_inj {i j : Int} (h : sgnK i = sgnK j) : i = j:=by
 unfold sgnK at h
 split at h <;> split at h <;> omega
theorem sgnK_in {i : Int} (h : -999999999 ≤ i ∧ i ≤ 999999999) : 0 ≤ sgnK i ∧ sgnK i ≤ 1099511627776:=by
 unfold sgnK
 split <;> omega
theorem packS_size {pack : ByteArray} (hp : pack.size ≤ 90) {k : Int} {n : ByteArray} (h : n.size ≤ 65536) : (packS pack k n).size ≤ 65536:=by
 unfold packS
 split <;> omega
theorem packS_inj {pack : ByteArray} {k : Int} {n n' : ByteArray} (h1 : ((k == 5) && (n.toList == pack.toList)) = false) (h2 : ((k == 5) && (n'.toList == pack.toList)) = false) (h : packS pack k n = packS pack k n') : n = n':=by
 unfold packS at h
 by_cases hk : k = 5
 ·subst hk
  by_cases e1 : n.size = 0 <;> by_cases e2 : n'.size = 0
  ·have a1:=toList_nil e1
   have a2:=toList_nil e2
   exact toL_inj (a1.trans a2.symm)
  ·rw [if_pos ⟨rfl,e1⟩,if_neg (fun h => e2 h.2)] at h
   subst h
   simp at h2
  ·rw [if_neg (fun h => e1 h.2),if_pos ⟨rfl,e2⟩] at h
   subst h
   simp at h1
  ·rwa [if_neg (fun h => e1 h.2),if_neg (fun h => e2 h.2)] at h
 ·rwa [if_neg (fun h => hk h.1),if_neg (fun h => hk h.1)] at h
theorem len_in {k : Int} {n m : ByteArray} {i d : Int} {len : Nat} (h : nodeE k n m i d len = 0) : (0 : Int) ≤ (len : Int) ∧ (len : Int) ≤ 1099511627776:=by
 have h1:=err_len h
 have h2 : (shapeZ k).2.2.1 ≤ 3:=by
  by_cases hk : knownZ k
  ·unfold knownZ at hk
   rcases hk with rfl | rfl | rfl | rfl | rfl | rfl | rfl | rfl | rfl | rfl | rfl | rfl | rfl | rfl | rfl | rfl <;> simp [shapeZ]
  ·rw [shapeZ_no hk]
   decide
 omega
theorem kt_inj {pack : ByteArray} (hp : pack.size ≤ 90) : ∀ (f g : Fo) (r s : List UInt8),(∀ x ∈ f.vis,x.err = 0) → (∀ x ∈ g.vis,x.err = 0) → f.vis.any (isRefTo pack) = false → g.vis.any (isRefTo pack) = false → f.len = g.len →
  f.kt pack ++ r = g.kt pack ++ s → f.eqF g = true ∧ r = s
 | .nil,.nil,r,s,_,_,_,_,_,h => ⟨rfl,by simpa [Fo.kt] using h⟩
 | .nil,.cons ..,_,_,_,_,_,_,hl,_ => by simp [Fo.len] at hl
 | .cons ..,.nil,_,_,_,_,_,_,hl,_ => by simp [Fo.len] at hl
 | .cons k n m i d A c f1 f2,.cons k' n' m' i' d' A' c' g1 g2,r,s,hf,hg,nf,ng,hl,h => by
  simp only [Fo.vis,List.mem_append,List.mem_cons] at hf hg
  simp only [Fo.vis,List.any_append,List.any_cons,Bool.or_eq_false_iff] at nf ng
  have ef : nodeE k n m i d f1.len = 0:=hf ⟨0,k,n,m,i,d,A,f1.len,c⟩ (.inr (.inl rfl))
  have eg : nodeE k' n' m' i' d' g1.len = 0:=hg ⟨0,k',n',m',i',d',A',g1.len,c'⟩ (.inr (.inl rfl))
  obtain ⟨a1,a2,a3,a4⟩:=err_small ef
  obtain ⟨b1,b2,b3,b4⟩:=err_small eg
  simp only [Fo.kt,nodeT,List.append_assoc] at h
  obtain ⟨q1,t1⟩:=numL_inj ⟨by omega,by omega⟩ ⟨by omega,by omega⟩ h
  obtain ⟨q2,t2⟩:=txtL_inj (packS_size hp a2) (packS_size hp b2) t1
  obtain ⟨q3,t3⟩:=txtL_inj a3 b3 t2
  obtain ⟨q4,t4⟩:=numL_inj (sgnK_in (err_bnd ef)) (sgnK_in (err_bnd eg)) t3
  obtain ⟨q5,t5⟩:=numL_inj ⟨by omega,by omega⟩ ⟨by omega,by omega⟩ t4
  obtain ⟨q6,t6⟩:=numL_inj (len_in ef) (len_in eg) t5
  obtain ⟨h4,t7⟩:=kt_inj hp f1 g1 _ _ (fun x hx => hf x (.inr (.inr hx))) (fun x hx => hg x (.inr (.inr hx))) nf.2.2 ng.2.2 (by omega) t6
  obtain ⟨h5,t8⟩:=kt_inj hp f2 g2 _ _ (fun x hx => hf x (.inl hx)) (fun x hx => hg x (.inl hx)) nf.1 ng.1 (by simp only [Fo.len] at hl;omega) t7
  clear h t1 t2 t3 t4 t5 t6 t7 ef eg hf hg
  have nf':=nf.2.1
  have ng':=ng.2.1
  have q7:=sgnK_inj q4
  subst q1 q3 q5 q7
  have q8 : n = n':=packS_inj nf' ng' q2
  subst q8
  exact ⟨by simp [Fo.eqF,h4,h5],t8⟩
theorem body_v {l : List Mo} (h : chkL l = 0) {x : ByteArray × Int} {d : Dc} (hd : bodyOf l x = some d) : x.1.size ≤ 90 ∧ (1 ≤ x.2 ∧ x.2 ≤ 999999) ∧ (∀ y ∈ d.body.vis,y.err = 0) ∧ d.body.vis.any (isRefTo x.1) = false:=by
 obtain ⟨m,hm,hdm,hl,hi⟩:=bodyOf_mem hd
 obtain ⟨v1,_,v3⟩:=checkE_zero (chkL_zero h m hm)
 have hv:=v3 d hdm
 rw [← hl,← hi]
 exact ⟨labelB_size v1,hv.id,hv.err,hv.noref⟩
theorem bodyT_some {l : List Mo} {x : ByteArray × Int} {d : Dc} (hd : bodyOf l x = some d) : bodyT l x = d.body.kt x.1:=by
 unfold bodyT
 rw [hd]
 simp only [Dc.body,Fo.kt,List.append_nil]
theorem entT_pos (l : List Mo) {x : ByteArray × Int} (h : x.1.size ≤ 90) (r : List UInt8) : entT l x ++ r ≠ []:=by
 unfold entT txtL
 rw [if_pos (by omega)]
 intro e
 have h1 : encL x.1.size = []:=by
  have:=List.append_eq_nil_iff.1 e
  have:=List.append_eq_nil_iff.1 this.1
  exact (List.append_eq_nil_iff.1 this.1).1
 rw [encL_small (by omega)] at h1
 simp at h1
theorem catE_inj {old new : List Mo} (ho : chkL old = 0) (hn : chkL new = 0) : ∀ (L L' : List (ByteArray × Int)),(∀ x ∈ L,(bodyOf old x).isSome = true) → (∀ x ∈ L',(bodyOf new x).isSome = true) → catE old L = catE new L' → L = L' ∧ ∀ x ∈ L,sameB old new x = true
 | [],[],_,_,_ => ⟨rfl,by simp⟩
 | [],x :: L',_,h',h => by
  obtain ⟨d,hd⟩:=Option.isSome_iff_exists.1 (h' x (List.mem_cons_self ..))
  exact absurd h.symm (entT_pos new (body_v hn hd).1 _)
 | x :: L,[],h',_,h => by
  obtain ⟨d,hd⟩:=Option.isSome_iff_exists.1 (h' x (List.mem_cons_self ..))
  exact absurd h (entT_pos old (body_v ho hd).1 _)
 | x :: L,x' :: L',h1,h2,h => by
  obtain ⟨d,hd⟩:=Option.isSome_iff_exists.1 (h1 x (List.mem_cons_self ..))
  obtain ⟨d',hd'⟩:=Option.isSome_iff_exists.1 (h2 x' (List.mem_cons_self ..))
  obtain ⟨a1,a2,a3,a4⟩:=body_v ho hd
  obtain ⟨b1,b2,b3,b4⟩:=body_v hn hd'
  have e1 : catE old (x :: L) = entT old x ++ catE old L:=rfl
  have e2 : catE new (x' :: L') = entT new x' ++ catE new L':=rfl
  rw [e1,e2,entT,entT,bodyT_some hd,bodyT_some hd'] at h
  simp only [List.append_assoc] at h
  obtain ⟨c1,t1⟩:=txtL_inj (by omega) (by omega) h
  obtain ⟨c2,t2⟩:=numL_inj ⟨by omega,by omega⟩ ⟨by omega,by omega⟩ t1
  have hx : x = x':=Prod.ext c1 c2
  clear h t1 c1 c2 e1 e2
  subst hx
  obtain ⟨h3,t3⟩:=kt_inj a1 d.body d'.body _ _ a3 b3 a4 b4 rfl t2
  obtain ⟨h5,h4⟩:=catE_inj ho hn L L' (fun y hy => h1 y (List.mem_cons_of_mem _ hy)) (fun y hy => h2 y (List.mem_cons_of_mem _ hy)) t3
  subst h5
  refine ⟨rfl,fun y hy => ?_⟩
  rcases List.mem_cons.1 hy with rfl | hy
  ·unfold sameB
   rw [hd,hd']
   simp only [Dc.body,Fo.eqF,Bool.and_true] at h3
   exact h3
  ·exact h4 y hy
end Go.Proofs.YtnfndgmlnoeelaaGreatDoor
/- eval, plainly: equal keys, equal results -/
namespace Go.Proofs.YtnfndgmlnoeelaaGreatDoor
open Go Go.RowKit Go.Proofs Go.Shelf

theorem toL_eq {a b : ByteArray} (h : (a.toList == b.toList) = true) : a = b:=by
 have h:=eq_of_beq h
 rw [ByteArray.toList_eq,ByteArray.toList_eq] at h
 exact ByteArray.ext (Array.ext' h)
theorem eqF_sk : ∀ {s s' : Fo},s.eqF s' = true → s.sk = s'.sk
 | .nil,.nil,_ => rfl
 | .nil,.cons ..,h => by cases h
 | .cons ..,.nil,h => by cases h
 | .cons k n m i d A c s r,.cons k' n' m' i' d' A' c' s' r',h => by
  simp only [Fo.eqF,Bool.and_eq_true] at h
  obtain ⟨⟨⟨⟨⟨⟨h1,h2⟩,h3⟩,h4⟩,h5⟩,h6⟩,h7⟩:=h
  simp only [Fo.sk,eq_of_beq h1,toL_eq h2,toL_eq h3,eq_of_beq h4,eq_of_beq h5,eqF_sk h6,eqF_sk h7]
theorem eqD_xp {x y : Dc} (h : eqD x y = true) : xpOf x = xpOf y:=by
 unfold eqD eqNd at h
 simp only [Bool.and_eq_true] at h
 obtain ⟨⟨⟨⟨⟨h1,h2⟩,h3⟩,h4⟩,h5⟩,h6⟩:=h
 simp only [xpOf,eq_of_beq h1,toL_eq h2,toL_eq h3,eq_of_beq h4,eq_of_beq h5,eqF_sk h6]
theorem sameB_look {old new : List Mo} {p : ByteArray} {i : Int} (h : sameB old new (p,i) = true) : lookOf old p i = lookOf new p i:=by
 unfold sameB at h
 unfold lookOf
 cases h1 : bodyOf old (p,i) with
 | none => rw [h1] at h;cases h
 | some x =>
  cases h2 : bodyOf new (p,i) with
  | none => rw [h1,h2] at h;cases h
  | some y =>
   rw [h1,h2] at h
   simp only [Option.map_some,eqD_xp h]
theorem grf_is {l : List Mo} {x : ByteArray × Int} (h : grf l x ≠ none) : (bodyOf l x).isSome = true:=by
 unfold grf at h
 cases hb : bodyOf l x with
 | none => rw [hb] at h;exact absurd rfl h
 | some y => rfl
theorem key_code {old new : List Mo} {n : ByteArray × Int} {L L' : List (ByteArray × Int)} (ho : chkL old = 0) (hn : chkL new = 0) (hL : Clo (grf old) n (some L)) (hL' : Clo (grf new) n (some L')) (h : keyL old n L = keyL new n L') :
  ∀ p i,(p,i) ∈ L → lookOf old p i = lookOf new p i:=by
 unfold keyL at h
 have h1:=List.append_cancel_left (List.append_cancel_left h)
 obtain ⟨_,h2⟩:=catE_inj ho hn L L' (fun x hx => grf_is (hL.2.2 x ((hL.2.1 x).1 hx))) (fun x hx => grf_is (hL'.2.2 x ((hL'.2.1 x).1 hx))) h1
 exact fun p i hp => sameB_look (h2 _ hp)
theorem suff_same {old new : List Mo} {n : ByteArray × Int} {L : List (ByteArray × Int)} (hcl : Clo (grf old) n (some L)) (hk : ∀ p i,(p,i) ∈ L → lookOf old p i = lookOf new p i) {x : Xp} (hx : lookOf old n.1 n.2 = some x) {m z : Int} {t t' : Nat} {r r' : Va × Int × Int}
  (h : Ev (lookOf old) m ⟨0,z,[⟨x,0,n.1,.nil⟩],[]⟩ r t) (h' : Ev (lookOf new) m ⟨0,z,[⟨x,0,n.1,.nil⟩],[]⟩ r' t') : r = r':=by
 have hn : (n.1,n.2) ∈ L:=(hcl.2.1 _).2 .refl
 exact ev_same (C:=fun p i => (p,i) ∈ L) (ch:=False) hk (fun p i x hp hx => clo_nice False hcl (fun h => h.elim) p i x hp hx) (start_same (clo_nice False hcl (fun h => h.elim) _ _ _ hn hx) (fun _ => rfl)) h h'
end Go.Proofs.YtnfndgmlnoeelaaGreatDoor
