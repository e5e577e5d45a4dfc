/- infer, plainly: types that have been measured can be built -/
import Derived.Test.YtmmecapgnmlaiaaGreatDoorZxo
import Derived.Test.YtmmecapgnmlaiaaGreatDoorZxq
import Derived.Test.YtmmecapgnmlaiaaGreatDoorZxu
namespace Go.Proofs.Unify
def Ext (a b : Nat → Int) : Prop:=∀ k,0 < a k → b k = a k
theorem Ext.refl (a : Nat → Int) : Ext a a:=fun _ _ => rfl
theorem Ext.trans {a b c : Nat → Int} (h : Ext a b) (k : Ext b c) : Ext a c:=fun i hi => (k i (by rw [h i hi];exact hi)).trans (h i hi)
def sumS (S : St) (sz : Nat → Int) : List Nat → Int
 | [] => 0
 | s :: l => sz (rt S s) + sumS S sz l
def Dn (S : St) (sz : Nat → Int) : Prop:=∀ (r : Nat) (x : Nd),S[r]? = some x → 0 < sz r → (∀ s ∈ x.sub,0 < sz (rt S s)) ∧ (sz r ≤ 200 → sz r = 1 + sumS S sz x.sub)
theorem msL_ok {S : St} {g : Nat → (Nat → Int) → Bool × (Nat → Int)} (hg : ∀ s sz,Dn S sz → Dn S (g s sz).2 ∧ Ext sz (g s sz).2 ∧ (∀ k,sz k = -1 → (g s sz).2 k = -1) ∧ ((g s sz).1 = true → 0 < (g s sz).2 (rt S s))) :
  ∀ (l : List Nat) (n : Int) (sz : Nat → Int),Dn S sz → Dn S (msL S g l n sz).2.2 ∧ Ext sz (msL S g l n sz).2.2 ∧ (∀ k,sz k = -1 → (msL S g l n sz).2.2 k = -1) ∧
   ((msL S g l n sz).1 = true → (∀ s ∈ l,0 < (msL S g l n sz).2.2 (rt S s)) ∧ (msL S g l n sz).2.1 = n + sumS S (msL S g l n sz).2.2 l)
 | [],n,sz,hd => ⟨hd,Ext.refl _,fun _ h => h,fun _ => ⟨by simp,by simp [msL,sumS]⟩⟩
 | s :: l,n,sz,hd => by
  obtain ⟨h1,h2,h3,h4⟩:=hg s sz hd
  unfold msL
  split
  ·rename_i e
   obtain ⟨k1,k2,k3,k4⟩:=msL_ok hg l (n + (g s sz).2 (rt S s)) (g s sz).2 h1
   refine ⟨k1,h2.trans k2,fun k hk => k3 k (h3 k hk),fun hy => ?_⟩
   obtain ⟨m1,m2⟩:=k4 hy
   have hp:=h4 e
   have he:=k2 _ hp
   refine ⟨fun z hz => ?_,?_⟩
   ·rcases List.mem_cons.1 hz with rfl | hz
    ·rw [he];exact hp
    ·exact m1 z hz
   ·rw [m2,sumS,he]
    omega
  ·exact ⟨h1,h2,h3,fun h => by cases h⟩
theorem sum_upd {S : St} {sz : Nat → Int} {r : Nat} {z : Int} : ∀ {l : List Nat},(∀ s ∈ l,rt S s ≠ r) → sumS S (updI sz r z) l = sumS S sz l
 | [],_ => rfl
 | s :: l,hl => by
  simp only [sumS]
  rw [updI_ne _ (hl s List.mem_cons_self),sum_upd fun z hz => hl z (List.mem_cons_of_mem _ hz)]
theorem dn_mark {S : St} {sz : Nat → Int} (hd : Dn S sz) (h0 : Nat) (hz : sz h0 = 0) : Dn S (updI sz h0 (-1)):=fun r y hy hp => by
 have hne : r ≠ h0:=fun e => by rw [e,updI_same] at hp;omega
 rw [updI_ne _ hne] at hp ⊢
 obtain ⟨a1,a2⟩:=hd r y hy hp
 have hin : ∀ s ∈ y.sub,rt S s ≠ h0:=fun s hs e => by have:=a1 s hs;rw [e] at this;omega
 exact ⟨fun s hs => by rw [updI_ne _ (hin s hs)];exact a1 s hs,fun h => by rw [sum_upd hin];exact a2 h⟩
theorem ms_ok {S : St} : ∀ (f i : Nat) (sz : Nat → Int),Dn S sz → Dn S (ms S f i sz).2 ∧ Ext sz (ms S f i sz).2 ∧ (∀ k,sz k = -1 → (ms S f i sz).2 k = -1) ∧ ((ms S f i sz).1 = true → 0 < (ms S f i sz).2 (rt S i))
 | 0,_,_,hd => ⟨hd,Ext.refl _,fun _ h => h,fun h => by cases h⟩
 | f + 1,i,sz,hd => by
  have hpos:=ms_pos (S:=S) (f + 1) i sz
  refine ⟨?_,?_,?_,hpos⟩ <;> unfold ms <;> split
  ·exact hd
  ·rename_i h0
   have h0' : sz (rt S i) = 0:=by simpa using h0
   cases hx : S[rt S i]? with
   | none => exact hd
   | some x =>
    have hd1:=dn_mark hd (rt S i) h0'
    obtain ⟨k1,k2,k3,k4⟩:=msL_ok (S:=S) (g:=ms S f) (fun s sz hd => ms_ok f s sz hd) x.sub 1 _ hd1
    simp only
    split
    ·rename_i hy
     obtain ⟨m1,m2⟩:=k4 hy
     have hr1:=k3 (rt S i) (updI_same _ _ _)
     have hin : ∀ s ∈ x.sub,rt S s ≠ rt S i:=fun s hs e => by have:=m1 s hs;rw [e,hr1] at this;omega
     intro r y hy2 hp
     have hsum : ∀ l : List Nat,(∀ s ∈ l,rt S s ≠ rt S i) → sumS S (updI (msL S (ms S f) x.sub 1 (updI sz (rt S i) (-1))).2.2 (rt S i) (min (msL S (ms S f) x.sub 1 (updI sz (rt S i) (-1))).2.1 201)) l = sumS S (msL S (ms S f) x.sub 1 (updI sz (rt S i) (-1))).2.2 l:=by
      intro l
      induction l with
      | nil => intro _;rfl
      | cons s l ih =>
       intro hl
       simp only [sumS]
       rw [updI_ne _ (hl s List.mem_cons_self),ih fun z hz => hl z (List.mem_cons_of_mem _ hz)]
     by_cases e : r = rt S i
     ·subst e
      rw [hx] at hy2
      cases hy2
      refine ⟨fun s hs => by show 0 < updI _ _ _ _;rw [updI_ne _ (hin s hs)];exact m1 s hs,fun h => ?_⟩
      change updI _ _ _ _ ≤ 200 at h
      change updI _ _ _ _ = 1 + sumS S (updI _ _ _) _
      rw [updI_same] at h ⊢
      rw [hsum _ hin]
      omega
     ·change 0 < updI _ _ _ _ at hp
      rw [updI_ne _ e] at hp
      obtain ⟨a1,a2⟩:=k1 r y hy2 hp
      have hin2 : ∀ s ∈ y.sub,rt S s ≠ rt S i:=fun s hs e => by have:=a1 s hs;rw [e,hr1] at this;omega
      refine ⟨fun s hs => by show 0 < updI _ _ _ _;rw [updI_ne _ (hin2 s hs)];exact a1 s hs,fun h => ?_⟩
      change updI _ _ _ _ ≤ 200 at h
      change updI _ _ _ _ = 1 + sumS S (updI _ _ _) _
      rw [updI_ne _ e] at h ⊢
      rw [hsum _ hin2]
      exact a2 h
    ·exact k1
  ·exact Ext.refl _
  ·rename_i h0
   have h0' : sz (rt S i) = 0:=by simpa using h0
   cases hx : S[rt S i]? with
   | none => exact Ext.refl _
   | some x =>
    obtain ⟨k1,k2,k3,k4⟩:=msL_ok (S:=S) (g:=ms S f) (fun s sz hd => ms_ok f s sz hd) x.sub 1 _ (dn_mark hd (rt S i) h0')
    have hm : Ext sz (updI sz (rt S i) (-1)):=fun k hk => updI_ne _ (fun e => by rw [e,h0'] at hk;omega) _
    simp only
    split
    ·intro k hk
     have hne : k ≠ rt S i:=fun e => by rw [e,h0'] at hk;omega
     show updI _ _ _ k = _
     rw [updI_ne _ hne]
     exact (hm.trans k2) k hk
    ·exact hm.trans k2
  ·exact fun _ h => h
  ·rename_i h0
   have h0' : sz (rt S i) = 0:=by simpa using h0
   cases hx : S[rt S i]? with
   | none => exact fun _ h => h
   | some x =>
    obtain ⟨k1,k2,k3,k4⟩:=msL_ok (S:=S) (g:=ms S f) (fun s sz hd => ms_ok f s sz hd) x.sub 1 _ (dn_mark hd (rt S i) h0')
    have hm : ∀ k,sz k = -1 → updI sz (rt S i) (-1) k = -1:=fun k hk => by
     unfold updI
     split
     ·rfl
     ·exact hk
    simp only
    split
    ·intro k hk
     have hne : k ≠ rt S i:=fun e => by rw [e,h0'] at hk;omega
     show updI _ _ _ k = _
     rw [updI_ne _ hne]
     exact k3 k (hm k hk)
    ·exact fun k hk => k3 k (hm k hk)
theorem sumS_pos {S : St} {sz : Nat → Int} : ∀ {l : List Nat} {s : Nat},(∀ z ∈ l,0 < sz (rt S z)) → s ∈ l → sz (rt S s) ≤ sumS S sz l
 | [],_,_,h => by cases h
 | t :: l,s,hp,hs => by
  simp only [sumS]
  rcases List.mem_cons.1 hs with rfl | hs
  ·have : ∀ l : List Nat,(∀ z ∈ l,0 < sz (rt S z)) → 0 ≤ sumS S sz l:=by
    intro l
    induction l with
    | nil => intro _;exact Int.le_refl _
    | cons z l ih => intro h;simp only [sumS];have:=h z List.mem_cons_self;have:=ih fun y hy => h y (List.mem_cons_of_mem _ hy);omega
   have:=this l fun z hz => hp z (List.mem_cons_of_mem _ hz)
   omega
  ·have:=sumS_pos (fun z hz => hp z (List.mem_cons_of_mem _ hz)) hs
   have:=hp t List.mem_cons_self
   omega
theorem bl_of {S : St} {sz : Nat → Int} (hd : Dn S sz) : ∀ (f i : Nat),0 < sz (rt S i) → sz (rt S i) ≤ f → sz (rt S i) ≤ 200 → Bl S f i
 | 0,i,h1,h2,_ => by omega
 | f + 1,i,h1,h2,h3 => fun x hx _ s hs => by
  obtain ⟨a1,a2⟩:=hd _ x hx h1
  have e:=a2 h3
  have h4:=sumS_pos a1 hs
  exact bl_of hd f s (a1 s hs) (by omega) (by omega)
def msA (S : St) : List Nat → (Nat → Int) → Bool × (Nat → Int)
 | [],sz => (true,sz)
 | n :: l,sz => if (ms S (S.length + 1) n sz).1 = true then msA S l (ms S (S.length + 1) n sz).2 else (false,(ms S (S.length + 1) n sz).2)
theorem msA_ok {S : St} : ∀ (l : List Nat) (sz : Nat → Int),Dn S sz → Bd sz → Dn S (msA S l sz).2 ∧ Bd (msA S l sz).2 ∧ Ext sz (msA S l sz).2 ∧ ((msA S l sz).1 = true → ∀ n ∈ l,0 < (msA S l sz).2 (rt S n))
 | [],sz,hd,hb => ⟨hd,hb,Ext.refl _,fun _ n hn => by cases hn⟩
 | n :: l,sz,hd,hb => by
  obtain ⟨h1,h2,_,h4⟩:=ms_ok (S:=S) (S.length + 1) n sz hd
  have hb1:=(ms_pres (S:=S) (S.length + 1) n sz hb).1
  unfold msA
  split
  ·rename_i e
   obtain ⟨k1,k2,k3,k4⟩:=msA_ok l _ h1 hb1
   refine ⟨k1,k2,h2.trans k3,fun hy m hm => ?_⟩
   rcases List.mem_cons.1 hm with rfl | hm
   ·rw [k3 _ (h4 e)];exact h4 e
   ·exact k4 hy m hm
  ·exact ⟨h1,hb1,h2,fun h => by cases h⟩
end Go.Proofs.Unify
/- infer, plainly: the principal typing of a group -/
namespace Go.Proofs.Unify
structure De where
 id : Int
 kind : Int
 k : Int
 n : ByteArray
 m : ByteArray
 i : Int
 s : Ex
def De.ty (sc : Sc) (d : De) (σ : Tst) : Nat × Tst:=keepT (kindT sc d.k d.n d.m d.i (tyF sc d.s) [] σ)
def declT (sc : Sc) (d : De) (σ : Tst) : Tst:=match sc.G.lookup d.id with
 | none => σ
 | some j =>
  let q:=d.ty sc σ
  let s1:=sameT q.2 j q.1
  if d.kind ≠ 1 then sameT (addT s1 2 []).2 j (addT s1 2 []).1 else s1
def declsT (sc : Sc) : List De → Tst → Tst
 | [],σ => σ
 | d :: l,σ => declsT sc l (declT sc d σ)
def grp : List Int → Nat → List (Int × Nat)
 | [],_ => []
 | a :: l,j => (a,j) :: grp l (j + 1)
def startT (n : Nat) : Tst:=⟨List.replicate n ⟨none,5,[],0⟩,[],false⟩
inductive FindR where
 | err : Int → FindR
 | ok : List (Int × Int × Int × Int × Tf) → FindR
def great (S : St) (ns : List Nat) (sz : Nat → Int) : Bool:=ns.any fun n => decide (200 < sz (rt S n))
def schT (S : St) (x : Int × Nat) : Int × Int × Int × Int × Tf:=(x.1,((bT S 201 x.2 []).2.length : Int),(bT S 201 x.2 []).1)
def findT (sc0 : Sc) (ds : List De) (group : List Int) : FindR:=
 let σ:=declsT ⟨grp group 0,sc0.sch,sc0.frn⟩ ds (startT group.length)
 if σ.fl = true then .err 22
 else if (msA σ.S σ.ns fun _ => 0).1 = false then .err 22
 else if great σ.S σ.ns (msA σ.S σ.ns fun _ => 0).2 = true then .err 4
 else .ok ((grp group 0).map (schT σ.S))
def De.Ok (sc : Sc) (d : De) : Prop:=okE d.k d.s.len ∧ (d.k = 5 → if d.n = ⟨#[]⟩ then (sc.G.lookup d.i = none → TOk (sc.sch d.i)) else TOk (sc.frn (d.n,d.i))) ∧ d.s.Cok sc
structure DcW (σ σ' : Tst) (n : Nat) : Prop where
 wf : Wf arP σ'.S
 ref : RefR σ.S σ'.S
 fl : σ'.fl = false → σ.fl = false
 ns : ∃ l,σ'.ns = σ.ns ++ l ∧ l.length ≤ n ∧ ∀ j ∈ l,j < σ'.S.length
theorem DcW.trans {σ σ' σ'' : Tst} {n m : Nat} (h : DcW σ σ' n) (g : DcW σ' σ'' m) : DcW σ σ'' (n + m):=by
 obtain ⟨l,e1,e2,e3⟩:=h.ns
 obtain ⟨l',f1,f2,f3⟩:=g.ns
 refine ⟨g.wf,h.ref.trans g.ref,fun hf => h.fl (g.fl hf),l ++ l',by rw [f1,e1,List.append_assoc],by rw [List.length_append];omega,fun j hj => ?_⟩
 rcases List.mem_append.1 hj with h' | h'
 ·exact Nat.lt_of_lt_of_le (e3 j h') g.ref.le
 ·exact f3 j h'
theorem De.ty_spec {sc : Sc} {d : De} (hd : d.Ok sc) {σ : Tst} (hw : Wf arP σ.S) (hG : ∀ x ∈ sc.G,x.2 < σ.S.length) : TyW sc σ (d.ty sc σ) (d.s.cnt + 1):=
 (kindT_spec d.k d.n d.m d.i d.s hd.1 hd.2.1 (Ex.tw hd.2.2) [] σ hw hG (fun x hx => by cases hx)).keep
theorem DcW.same {σ : Tst} (hw : Wf arP σ.S) {a b : Nat} (ha : a < σ.S.length) (hb : b < σ.S.length) : DcW σ (sameT σ a b) 0:=by
 obtain ⟨h1,h2,h3⟩:=sameT_spec hw ha hb
 have hr:=sameT_ref hw ha hb
 exact ⟨h1,hr.1,fun h => (hr.2 h).1,[],by simp [h3],Nat.zero_le _,by simp⟩
theorem TyW.dc {sc : Sc} {σ : Tst} {R : Nat × Tst} {n : Nat} (h : TyW sc σ R n) : DcW σ R.2 n:=⟨h.wf,h.ref,h.fl,h.ns⟩
theorem declT_spec {sc : Sc} {d : De} (hd : d.Ok sc) {σ : Tst} (hw : Wf arP σ.S) (hG : ∀ x ∈ sc.G,x.2 < σ.S.length) :
  DcW σ (declT sc d σ) (d.s.cnt + 1) ∧ ∀ j,sc.G.lookup d.id = some j → (declT sc d σ).fl = false → ∃ n ∈ (declT sc d σ).ns,rt (declT sc d σ).S j = rt (declT sc d σ).S n:=by
 unfold declT
 cases hl : sc.G.lookup d.id with
 | none =>
  exact ⟨⟨hw,RefR.refl _,fun h => h,[],by simp,Nat.zero_le _,by simp⟩,fun j h => by cases h⟩
 | some j =>
  have hj:=hG _ (lookup_mem hl)
  have h1:=De.ty_spec hd hw hG
  have hj1 : j < (d.ty sc σ).2.S.length:=Nat.lt_of_lt_of_le hj h1.le
  have h2:=DcW.same h1.wf hj1 h1.lt
  have hs:=sameT_ref h1.wf hj1 h1.lt
  have hm : (d.ty sc σ).1 ∈ (d.ty sc σ).2.ns:=by simp [De.ty,keepT]
  have h12:=h1.dc.trans h2
  have hns : (sameT (d.ty sc σ).2 j (d.ty sc σ).1).ns = (d.ty sc σ).2.ns:=(sameT_spec h1.wf hj1 h1.lt).2.2
  simp only
  split
  ·have h3:=addT_spec (sc:=sc) h2.wf (k:=2) (l:=[]) rfl (by simp)
   have hj3 : j < (addT (sameT (d.ty sc σ).2 j (d.ty sc σ).1) 2 []).2.S.length:=Nat.lt_of_lt_of_le hj1 (Nat.le_trans h2.ref.le h3.le)
   have h4:=DcW.same h3.wf hj3 h3.lt
   have h123:=(h12.trans h3.dc).trans h4
   refine ⟨h123,fun j' e hf => ?_⟩
   cases e
   have hf1:=h3.fl (h4.fl hf)
   refine ⟨(d.ty sc σ).1,?_,?_⟩
   ·rw [(sameT_spec h3.wf hj3 h3.lt).2.2]
    show _ ∈ (sameT (d.ty sc σ).2 j (d.ty sc σ).1).ns
    rw [hns]
    exact hm
   ·exact (h3.ref.trans h4.ref).eq _ _ (Nat.lt_of_lt_of_le hj1 h2.ref.le) (Nat.lt_of_lt_of_le h1.lt h2.ref.le) (hs.2 hf1).2
  ·refine ⟨h12,fun j' e hf => ?_⟩
   cases e
   exact ⟨_,by rw [hns];exact hm,(hs.2 hf).2⟩
def cntD : List De → Nat
 | [] => 0
 | d :: l => d.s.cnt + 1 + cntD l
theorem DcW.mem {σ σ' : Tst} {n : Nat} (h : DcW σ σ' n) (hn : ∀ j ∈ σ.ns,j < σ.S.length) : ∀ j ∈ σ'.ns,j < σ'.S.length:=fun j hj => by
 obtain ⟨l,e1,_,e3⟩:=h.ns
 rw [e1] at hj
 rcases List.mem_append.1 hj with h' | h'
 ·exact Nat.lt_of_lt_of_le (hn j h') h.ref.le
 ·exact e3 j h'
theorem declsT_spec {sc : Sc} : ∀ {ds : List De} {σ : Tst},(∀ d ∈ ds,d.Ok sc) → Wf arP σ.S → (∀ x ∈ sc.G,x.2 < σ.S.length) → (∀ j ∈ σ.ns,j < σ.S.length) →
  DcW σ (declsT sc ds σ) (cntD ds) ∧ ∀ d ∈ ds,∀ j,sc.G.lookup d.id = some j → (declsT sc ds σ).fl = false → ∃ n ∈ (declsT sc ds σ).ns,rt (declsT sc ds σ).S j = rt (declsT sc ds σ).S n
 | [],σ,_,hw,_,_ => ⟨⟨hw,RefR.refl _,fun h => h,[],by simp [declsT],Nat.zero_le _,by simp⟩,fun d h => by cases h⟩
 | d :: l,σ,hd,hw,hG,hN => by
  obtain ⟨h1,h2⟩:=declT_spec (hd d List.mem_cons_self) hw hG
  obtain ⟨h3,h4⟩:=declsT_spec (fun z hz => hd z (List.mem_cons_of_mem _ hz)) h1.wf (fun x hx => Nat.lt_of_lt_of_le (hG x hx) h1.ref.le) (h1.mem hN)
  refine ⟨h1.trans h3,fun z hz j hj hf => ?_⟩
  rcases List.mem_cons.1 hz with rfl | hz
  ·obtain ⟨n,hn,e⟩:=h2 j hj (h3.fl hf)
   obtain ⟨l',e1,_,e3⟩:=h3.ns
   obtain ⟨l0,f1,_,f3⟩:=h1.ns
   refine ⟨n,?_,?_⟩
   ·show n ∈ (declsT sc l (declT sc z σ)).ns
    rw [e1]
    exact List.mem_append_left _ hn
   ·refine h3.ref.eq j n (Nat.lt_of_lt_of_le (hG _ (lookup_mem hj)) h1.ref.le) ?_ e
    exact h1.mem hN n hn
  ·exact h4 z hz j hj hf
theorem start_at {n i : Nat} (hi : i < n) : (startT n).S[i]? = some ⟨none,5,[],0⟩:=by
 show (List.replicate n (⟨none,5,[],0⟩ : Nd))[i]? = _
 rw [List.getElem?_replicate,if_pos hi]
theorem start_wf (n : Nat) : Wf arP (startT n).S:=by
 have hl : (startT n).S.length = n:=List.length_replicate
 refine ⟨fun i hi => ⟨i,0,.here (start_at (by omega)) rfl,?_⟩,fun i x hx => ?_⟩
 ·rw [Nat.zero_add]
  exact Nat.le_trans List.countP_le_length (by rw [List.length_range];exact Nat.le_refl _)
 ·have hi:=(List.getElem?_eq_some_iff.1 hx).1
  rw [start_at (by omega)] at hx
  cases hx
  exact ⟨rfl,by simp⟩
theorem grp_len : ∀ (l : List Int) (j : Nat),(grp l j).length = l.length
 | [],_ => rfl
 | _ :: l,j => by simp [grp,grp_len l]
theorem grp_mem : ∀ {l : List Int} {j : Nat} {x : Int × Nat},x ∈ grp l j → x.1 ∈ l ∧ j ≤ x.2 ∧ x.2 < j + l.length
 | [],_,_,h => by cases h
 | a :: l,j,x,h => by
  rcases List.mem_cons.1 h with rfl | h
  ·exact ⟨List.mem_cons_self,Nat.le_refl _,by simp⟩
  ·obtain ⟨h1,h2,h3⟩:=grp_mem h
   exact ⟨List.mem_cons_of_mem _ h1,by omega,by simp;omega⟩
theorem grp_look : ∀ {l : List Int} {j : Nat},l.Nodup → ∀ x ∈ grp l j,(grp l j).lookup x.1 = some x.2
 | [],_,_,_,h => by cases h
 | a :: l,j,hn,x,h => by
  rw [List.nodup_cons] at hn
  unfold grp
  rw [List.lookup_cons]
  rcases List.mem_cons.1 h with rfl | h
  ·simp
  ·have h1:=(grp_mem h).1
   have : (x.1 == a) = false:=by
    rw [beq_eq_false_iff_ne]
    intro e
    exact hn.1 (e ▸ h1)
   rw [this]
   exact grp_look hn.2 x h
theorem dn0 (S : St) : Dn S fun _ => 0:=fun _ _ _ h => by cases h
theorem bd0 : Bd fun _ => 0:=fun _ => ⟨by simp,by simp⟩
theorem find_bl {sc : Sc} {ds : List De} {group : List Int} (hG : sc.G = grp group 0) (hn : group.Nodup) (hd : ∀ d ∈ ds,d.Ok sc) (hg : ∀ a ∈ group,∃ d ∈ ds,d.id = a)
  (h1 : (declsT sc ds (startT group.length)).fl = false) (h2 : (msA (declsT sc ds (startT group.length)).S (declsT sc ds (startT group.length)).ns fun _ => 0).1 = true)
  (h3 : great (declsT sc ds (startT group.length)).S (declsT sc ds (startT group.length)).ns (msA (declsT sc ds (startT group.length)).S (declsT sc ds (startT group.length)).ns fun _ => 0).2 = false) :
  ∀ x ∈ grp group 0,x.2 < (declsT sc ds (startT group.length)).S.length ∧ Bl (declsT sc ds (startT group.length)).S 201 x.2:=by
 have hsl : (startT group.length).S.length = group.length:=List.length_replicate
 have hGl : ∀ x ∈ sc.G,x.2 < (startT group.length).S.length:=fun x hx => by
  rw [hG] at hx
  have:=(grp_mem hx).2.2
  omega
 obtain ⟨k1,k2⟩:=declsT_spec hd (start_wf _) hGl (fun j hj => by cases hj)
 obtain ⟨m1,m2,m3,m4⟩:=msA_ok (S:=(declsT sc ds (startT group.length)).S) (declsT sc ds (startT group.length)).ns _ (dn0 _) bd0
 intro x hx
 have hxl : x.2 < (declsT sc ds (startT group.length)).S.length:=Nat.lt_of_lt_of_le (hGl x (by rw [hG];exact hx)) k1.ref.le
 refine ⟨hxl,?_⟩
 obtain ⟨d,hdm,hde⟩:=hg x.1 (grp_mem hx).1
 obtain ⟨n,hnm,e⟩:=k2 d hdm x.2 (by rw [hG,hde];exact grp_look hn x hx) h1
 have hp:=m4 h2 n hnm
 have hle : ¬ (200 < (msA (declsT sc ds (startT group.length)).S (declsT sc ds (startT group.length)).ns fun _ => 0).2 (rt (declsT sc ds (startT group.length)).S n)):=fun h => by
  unfold great at h3
  rw [List.any_eq_false] at h3
  exact h3 n hnm (by simpa using h)
 exact bl_of m1 201 x.2 (by rw [e];exact hp) (by rw [e];omega) (by rw [e];omega)
end Go.Proofs.Unify
