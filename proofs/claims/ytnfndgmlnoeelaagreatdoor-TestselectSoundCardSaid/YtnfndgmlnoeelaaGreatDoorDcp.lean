/- depend.Changed in plain words -/
import Derived.Test.YtnfndgmlnoeelaaGreatDoorZlx
namespace Go.Proofs.YtnfndgmlnoeelaaGreatDoor
open Go.RowKit Go.Proofs Go.Shelf
def eqD (x y : Dc) : Bool:=eqNd x.k x.n x.m x.i x.d x.s y.k y.n y.m y.i y.d y.s
def sameB (old new : List Mo) (n : ByteArray × Int) : Bool:=match bodyOf old n,bodyOf new n with
 | some x,some y => eqD x y
 | _,_ => false
def exB (old new : List Mo) (n : ByteArray × Int) : Bool:=(bodyOf old n).isSome || (bodyOf new n).isSome
def gC (old new : List Mo) (n : ByteArray × Int) : Option (List (ByteArray × Int)):=if sameB old new n = true then grf old n else none
theorem gC_some {old new : List Mo} {n : ByteArray × Int} {us : List (ByteArray × Int)} (h : gC old new n = some us) : sameB old new n = true ∧ grf old n = some us:=by
 unfold gC at h
 split at h
 ·exact ⟨by assumption,h⟩
 ·cases h
theorem sameB_some {old new : List Mo} {n : ByteArray × Int} (h : sameB old new n = true) : ∃ x y,bodyOf old n = some x ∧ bodyOf new n = some y ∧ eqD x y = true:=by
 unfold sameB at h
 split at h
 ·rename_i x y h1 h2;exact ⟨x,y,h1,h2,h⟩
 ·cases h
theorem gC_of_same {old new : List Mo} {n : ByteArray × Int} {x : Dc} (hs : sameB old new n = true) (hx : bodyOf old n = some x) : gC old new n = some (usesOf n.1 x.body):=by
 unfold gC grf
 rw [if_pos hs,hx];rfl
def UC (old : List Mo) (L U : List (ByteArray × Int)) : Prop:=(∀ n ∈ L,n ∈ U) ∧ U.length ≤ 400000 ∧ (∀ x us,grf old x = some us → ∀ u ∈ us,u ∈ U ∧ NOk u) ∧ ∀ x y,bodyOf old x = some y → y.s.count ≤ 100000
structure ChI (old new : List Mo) (L U : List (ByteArray × Int)) (C rest : List (ByteArray × Int)) (f : ByteArray × Int → List (ByteArray × Int)) : Prop where
 nodup : C.Nodup
 sub : ∀ x ∈ C,NOk x ∧ x ∈ U ∧ Clo (gC old new) x none
 rsub : ∀ x ∈ rest,x ∈ C
 fs : ∀ u n,n ∈ f u → n ∈ L ∧ ∃ us,gC old new n = some us ∧ u ∈ us
def DoneN (old new : List Mo) (C : List (ByteArray × Int)) (f : ByteArray × Int → List (ByteArray × Int)) (n : ByteArray × Int) : Prop:=
 (gC old new n = none → n ∈ C) ∧ ∀ us,gC old new n = some us → ∀ u ∈ us,n ∈ f u ∧ (exB old new u = false → u ∈ C)
theorem addN_sub (C : List (ByteArray × Int)) (x : ByteArray × Int) : ∀ y ∈ C,y ∈ addN C x:=fun y hy => by
 unfold addN;split
 ·exact hy
 ·exact List.mem_append_left _ hy
theorem mem_addN (C : List (ByteArray × Int)) (x y : ByteArray × Int) : y ∈ addN C x ↔ y ∈ C ∨ y = x:=by
 unfold addN
 split
 ·rename_i h;exact ⟨.inl,fun h' => h'.elim id fun e => e ▸ memN_iff.1 h⟩
 ·simp
theorem ChI.visit {old new : List Mo} {L U C rest : List (ByteArray × Int)} {f : ByteArray × Int → List (ByteArray × Int)} (h : ChI old new L U C rest f) {x : ByteArray × Int} (hx : NOk x) (hU : x ∈ U) (hc : Clo (gC old new) x none) : ChI old new L U (addN C x) (addR C rest x) f where
 nodup:=by
  unfold addN
  split
  ·exact h.nodup
  ·rename_i hm
   exact List.nodup_append.2 ⟨h.nodup,by simp,fun a ha b hb e => hm (memN_iff.2 (by rw [List.mem_singleton.1 hb] at e;rw [← e];exact ha))⟩
 sub y hy:=by
  rcases (mem_addN C x y).1 hy with hy | rfl
  ·exact h.sub y hy
  ·exact ⟨hx,hU,hc⟩
 rsub y hy:=by
  rw [mem_addN]
  unfold addR at hy
  split at hy
  ·exact .inl (h.rsub y hy)
  ·rcases List.mem_append.1 hy with hy | hy
   ·exact .inl (h.rsub y hy)
   ·exact .inr (List.mem_singleton.1 hy)
 fs:=h.fs
theorem addR_mem {C rest : List (ByteArray × Int)} {x : ByteArray × Int} (h : ∀ y ∈ C,y ∈ rest) : ∀ y ∈ addN C x,y ∈ addR C rest x:=fun y hy => by
 unfold addN at hy
 unfold addR
 split at hy
 ·rename_i hm;rw [if_pos hm];exact h y hy
 ·rename_i hm
  rw [if_neg hm]
  rcases List.mem_append.1 hy with hy | hy
  ·exact List.mem_append_left _ (h y hy)
  ·exact List.mem_append_right _ hy
theorem addR_sub (C rest : List (ByteArray × Int)) (x : ByteArray × Int) : ∀ y ∈ rest,y ∈ addR C rest x:=fun y hy => by
 unfold addR;split
 ·exact hy
 ·exact List.mem_append_left _ hy
theorem addR_len {C rest : List (ByteArray × Int)} (x : ByteArray × Int) : (addR C rest x).length + C.length = rest.length + (addN C x).length:=by
 unfold addR addN;split <;> simp <;> omega
def addF (f : ByteArray × Int → List (ByteArray × Int)) (u n : ByteArray × Int) (x : ByteArray × Int) : List (ByteArray × Int):=if x = u then f x ++ [n] else f x
theorem addF_sub (f : ByteArray × Int → List (ByteArray × Int)) (u n x : ByteArray × Int) : ∀ y ∈ f x,y ∈ addF f u n x:=fun y hy => by
 unfold addF;split
 ·exact List.mem_append_left _ hy
 ·exact hy
theorem ChI.addF {old new : List Mo} {L U C rest : List (ByteArray × Int)} {f : ByteArray × Int → List (ByteArray × Int)} (h : ChI old new L U C rest f) {u n : ByteArray × Int} (hn : n ∈ L) {us : List (ByteArray × Int)} (hg : gC old new n = some us) (hu : u ∈ us) : ChI old new L U C rest (addF f u n) where
 nodup:=h.nodup
 sub:=h.sub
 rsub:=h.rsub
 fs v m hm:=by
  unfold Go.Proofs.YtnfndgmlnoeelaaGreatDoor.addF at hm
  split at hm
  ·rename_i e
   subst e
   rcases List.mem_append.1 hm with hm | hm
   ·exact h.fs v m hm
   ·rw [List.mem_singleton.1 hm];exact ⟨hn,us,hg,hu⟩
  ·exact h.fs v m hm
theorem DoneN.mono {old new : List Mo} {C C' : List (ByteArray × Int)} {f f' : ByteArray × Int → List (ByteArray × Int)} {n : ByteArray × Int} (h : DoneN old new C f n) (hC : ∀ y ∈ C,y ∈ C') (hf : ∀ x,∀ y ∈ f x,y ∈ f' x) : DoneN old new C' f' n:=
 ⟨fun hg => hC _ (h.1 hg),fun us hg u hu => ⟨hf u n (h.2 us hg u hu).1,fun he => hC _ ((h.2 us hg u hu).2 he)⟩⟩
theorem clo_none_step {g : ByteArray × Int → Option (List (ByteArray × Int))} {n u : ByteArray × Int} {us : List (ByteArray × Int)} (hg : g n = some us) (hu : u ∈ us) (h : Clo g u none) : Clo g n none:=by
 obtain ⟨x,h1,h2⟩:=h
 exact ⟨x,((Reach.refl).step hg hu).trans h1,h2⟩
theorem ChI.done {old new : List Mo} {L U C : List (ByteArray × Int)} {f : ByteArray × Int → List (ByteArray × Int)} (h : ChI old new L U C [] f) (hL : ∀ n ∈ L,DoneN old new C f n) (hex : ∀ n,NOk n → (n ∈ L ↔ exB old new n = true)) (hok : ∀ n ∈ L,NOk n) (hus : ∀ x us,gC old new x = some us → ∀ u ∈ us,NOk u)
  (hcl : ∀ x ∈ C,∀ n ∈ f x,n ∈ C) {n : ByteArray × Int} (hn : n ∈ L) : n ∈ C ↔ Clo (gC old new) n none:=by
 refine ⟨fun hc => (h.sub n hc).2.2,fun ⟨x,hr,hx⟩ => ?_⟩
 have hback : ∀ y,Reach (gC old new) n y → y ∈ C → n ∈ C:=by
  intro y hy
  induction hy with
  | refl => exact id
  | step h1 h2 h3 ih =>
   rename_i z u us
   intro hu
   refine ih (hcl u hu z ?_)
   have hz : NOk z ∧ z ∈ L:=by
    have hzok : NOk z:=by
     cases h1 with
     | refl => exact hok n hn
     | step h4 h5 h6 => exact hus _ _ h5 _ h6
    refine ⟨hzok,(hex z hzok).2 ?_⟩
    obtain ⟨p,q,h4,_⟩:=sameB_some (gC_some h2).1
    unfold exB;rw [h4];rfl
   exact ((hL z hz.2).2 us h2 u h3).1
 refine hback x hr ?_
 cases hr with
 | refl => exact (hL n hn).1 hx
 | step h1 h2 h3 =>
  rename_i z us
  have hxok:=hus _ _ h2 _ h3
  have hzL : z ∈ L:=by
   have hzok : NOk z:=by
    cases h1 with
    | refl => exact hok n hn
    | step h4 h5 h6 => exact hus _ _ h5 _ h6
   refine (hex z hzok).2 ?_
   obtain ⟨p,q,h4,_⟩:=sameB_some (gC_some h2).1
   unfold exB;rw [h4];rfl
  cases he : exB old new x with
  | true => exact (hL x ((hex x hxok).2 he)).1 hx
  | false => exact ((hL z hzL).2 us h2 x h3).2 he
theorem ChI.len {old new : List Mo} {L U C rest : List (ByteArray × Int)} {f : ByteArray × Int → List (ByteArray × Int)} (h : ChI old new L U C rest f) : C.length ≤ U.length:=nodup_len C U h.nodup fun x hx => (h.sub x hx).2.1
end Go.Proofs.YtnfndgmlnoeelaaGreatDoor
