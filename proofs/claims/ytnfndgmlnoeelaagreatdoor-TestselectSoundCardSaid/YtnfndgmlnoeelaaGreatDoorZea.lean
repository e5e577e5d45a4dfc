/- The evaluator in plain words: expressions and values without addresses, one round of its loop -/
import Derived.Test.YtnfndgmlnoeelaaGreatDoorZla
namespace Go.Proofs.YtnfndgmlnoeelaaGreatDoor
open Go Go.RowKit Go.Proofs
inductive Sk where
 | nil
 | cons (k : Int) (n m : ByteArray) (i d : Int) (s r : Sk)
structure Xp where
 k : Int
 n : ByteArray
 m : ByteArray
 i : Int
 d : Int
 s : Sk
def Sk.len : Sk → Nat
 | .nil => 0
 | .cons _ _ _ _ _ _ r => r.len + 1
def Sk.count : Sk → Nat
 | .nil => 0
 | .cons _ _ _ _ _ s r => s.count + 1 + r.count
def Sk.at : Sk → Nat → Option Xp
 | .nil,_ => none
 | .cons k n m i d s _,0 => some ⟨k,n,m,i,d,s⟩
 | .cons _ _ _ _ _ _ r,j + 1 => r.at j
def Sk.drop : Sk → Nat → Sk
 | .nil,_ => .nil
 | .cons k n m i d s r,0 => .cons k n m i d s r
 | .cons _ _ _ _ _ _ r,j + 1 => r.drop j
def Fo.sk : Fo → Sk
 | .nil => .nil
 | .cons k n m i d _ _ s r => .cons k n m i d s.sk r.sk
theorem Fo.sk_len : ∀ s : Fo,s.sk.len = s.len
 | .nil => rfl
 | .cons _ _ _ _ _ _ _ _ r => by simp [Fo.sk,Sk.len,Fo.len,Fo.sk_len r]
inductive Vl where
 | nil
 | cons (x : ByteArray) (k i : Int) (l : Vl) (p q : ByteArray) (b : Sk) (e r : Vl)
structure Va where
 k : Int
 i : Int
 l : Vl
 p : ByteArray
 q : ByteArray
 b : Sk
 e : Vl
def Vl.len : Vl → Nat
 | .nil => 0
 | .cons _ _ _ _ _ _ _ _ r => r.len + 1
def Vl.at : Vl → Nat → Option (ByteArray × Va)
 | .nil,_ => none
 | .cons x k i l p q b e _,0 => some (x,⟨k,i,l,p,q,b,e⟩)
 | .cons _ _ _ _ _ _ _ _ r,j + 1 => r.at j
def Vl.push (x : ByteArray) (v : Va) (r : Vl) : Vl:=.cons x v.k v.i v.l v.p v.q v.b v.e r
def Vl.snoc : Vl → ByteArray → Va → Vl
 | .nil,x,v => .push x v .nil
 | .cons y k i l p q b e r,x,v => .cons y k i l p q b e (r.snoc x v)
def Vl.look (e : Vl) (x : ByteArray) : Nat → Option Va
 | 0 => none
 | j + 1 => match e.at j with
  | some (y,v) => if y = x then some v else e.look x j
  | none => e.look x j
def noB : ByteArray:=⟨#[]⟩
def vaI (k i : Int) : Va:=⟨k,i,.nil,noB,noB,.nil,.nil⟩
def vaT (b : Bool) : Va:=vaI 2 (if b then 1 else 0)
structure Fe where
 e : Xp
 at_ : Nat
 p : ByteArray
 v : Vl
def Fe.put (f : Fe) (a : Nat) : Fe:={ f with at_:=a }
structure Es where
 n : Int
 z : Int
 fs : List Fe
 vs : List Va
inductive Rs where
 | go (s : Es)
 | bad (e n : Int)
def tick (L n : Int) (r : Rs) : Rs:=if L ≤ n then .bad 27 n else r
def partR (n z : Int) (f : Fe) (j a : Nat) (v : Vl) (fs : List Fe) (vs : List Va) : Rs:=match f.e.s.at j with
 | some e => .go ⟨n,z,⟨e,0,f.p,v⟩ :: f.put a :: fs,vs⟩
 | none => .bad 0 0
def insteadR (n z : Int) (f : Fe) (j : Nat) (fs : List Fe) (vs : List Va) : Rs:=match f.e.s.at j with
 | some e => .go ⟨n,z,⟨e,0,f.p,f.v⟩ :: fs,vs⟩
 | none => .bad 0 0
def sCon (L n z : Int) (f : Fe) (fs : List Fe) (vs : List Va) : Rs:=
 tick L n (.go ⟨n + 1,z,fs,(if f.e.k = 1 then vaI 1 f.e.i else if f.e.k = 2 then vaI 2 f.e.i else vaI 3 0) :: vs⟩)
def sVar (L n z : Int) (f : Fe) (fs : List Fe) (vs : List Va) : Rs:=
 tick L n (match f.v.look f.e.n f.v.len with
  | some v => .go ⟨n + 1,z,fs,v :: vs⟩
  | none => .bad 21 (n + 1))
def sRef (look : ByteArray → Int → Option Xp) (L n z : Int) (f : Fe) (fs : List Fe) (vs : List Va) : Rs:=
 tick L n (if f.at_ = 1 then .go ⟨n + 1,z,fs,vs⟩ else
  match look (if f.e.n = noB then f.p else f.e.n) f.e.i with
  | some b => .go ⟨n + 1,z,⟨b,0,if f.e.n = noB then f.p else f.e.n,.nil⟩ :: f.put 1 :: fs,vs⟩
  | none => .bad 21 (n + 1))
def sFun (L n z : Int) (f : Fe) (fs : List Fe) (vs : List Va) : Rs:=
 tick L n (.go ⟨n + 1,z,fs,⟨4,0,.nil,f.p,f.e.n,f.e.s,f.v⟩ :: vs⟩)
def sCall (L n z : Int) (f : Fe) (fs : List Fe) (vs : List Va) : Rs:=
 if f.at_ < 2 then partR n z f f.at_ (f.at_ + 1) f.v fs vs
 else if f.at_ = 2 then tick L n (match vs with
  | x :: g :: vs => if g.k ≠ 4 then .bad 26 (n + 1) else match g.b.at 0 with
   | some b => .go ⟨n + 1,z,⟨b,0,g.p,g.e.snoc g.q x⟩ :: f.put 3 :: fs,vs⟩
   | none => .bad 0 0
  | _ => .bad 0 0)
 else tick L n (.go ⟨n + 1,z,fs,vs⟩)
def sLet (L n z : Int) (f : Fe) (fs : List Fe) (vs : List Va) : Rs:=
 if f.at_ = 0 then partR n z f 0 1 f.v fs vs
 else if f.at_ = 1 then tick L n (match vs with
  | x :: vs => partR (n + 1) z f 1 2 (f.v.snoc f.e.n x) fs vs
  | _ => .bad 0 0)
 else tick L n (.go ⟨n + 1,z,fs,vs⟩)
def sIf (L n z : Int) (f : Fe) (fs : List Fe) (vs : List Va) : Rs:=
 if f.at_ = 0 then partR n z f 0 1 f.v fs vs
 else if f.at_ = 1 then tick L n (match vs with
  | x :: vs => if x.k ≠ 2 then .bad 26 (n + 1) else if x.i = 1 then partR (n + 1) z f 1 2 f.v fs vs else insteadR (n + 1) z f 2 fs vs
  | _ => .bad 0 0)
 else tick L n (.go ⟨n + 1,z,fs,vs⟩)
def opV (o : ByteArray) (a b : Int) : Option Va:=
 if o.data = #[61] then some (vaT (decide (a = b)))
 else if o.data = #[60] then some (vaT (decide (a < b)))
 else
  let r:=if o.data = #[43] then wrap64 (a + b) else if o.data = #[45] then wrap64 (a - b) else wrap64 (a * b)
  if r < -999999999 ∨ r > 999999999 then none else some (vaI 1 r)
def sOp (L n z : Int) (f : Fe) (fs : List Fe) (vs : List Va) : Rs:=
 if f.at_ < 2 then partR n z f f.at_ (f.at_ + 1) f.v fs vs
 else tick L n (match vs with
  | y :: x :: vs => if x.k ≠ 1 ∨ y.k ≠ 1 then .bad 26 (n + 1) else match opV f.e.n x.i y.i with
   | some v => .go ⟨n + 1,z,fs,v :: vs⟩
   | none => .bad 5 (n + 1)
  | _ => .bad 0 0)
def sLst (L n z : Int) (f : Fe) (fs : List Fe) (vs : List Va) : Rs:=
 if f.at_ < 2 then partR n z f f.at_ (f.at_ + 1) f.v fs vs
 else tick L n (match vs with
  | l :: x :: vs => if l.k ≠ 3 then .bad 26 (n + 1) else .go ⟨n + 1,z,fs,⟨3,0,l.l.push noB x,noB,noB,.nil,.nil⟩ :: vs⟩
  | _ => .bad 0 0)
def sCase (L n z : Int) (f : Fe) (fs : List Fe) (vs : List Va) : Rs:=
 if f.at_ = 0 then partR n z f 0 1 f.v fs vs
 else if f.at_ = 1 then tick L n (match vs with
  | x :: vs => if x.k ≠ 3 then .bad 26 (n + 1) else match x.l with
   | .nil => insteadR (n + 1) z f 1 fs vs
   | .cons _ k i l p q b e r => partR (n + 1) z f 2 2 ((f.v.snoc f.e.n ⟨k,i,l,p,q,b,e⟩).snoc f.e.m ⟨3,0,r,noB,noB,.nil,.nil⟩) fs vs
  | _ => .bad 0 0)
 else tick L n (tick L (n + 1) (.go ⟨n + 2,z,fs,vs⟩))
def nextZ (z : Int) : Int:=IntKind.u64.wrap (IntKind.u64.wrap (z * 6364136223846793005) + 1442695040888963407)
def luck (z i d : Int) : Bool:=decide ((z / 8589934592).tmod (IntKind.u64.wrap d) < IntKind.u64.wrap i)
def sChance (L n z : Int) (f : Fe) (fs : List Fe) (vs : List Va) : Rs:=
 tick L n (.go ⟨n + 1,nextZ z,fs,vaT (luck (nextZ z) f.e.i f.e.d) :: vs⟩)
def stepE (look : ByteArray → Int → Option Xp) (L n z : Int) (f : Fe) (fs : List Fe) (vs : List Va) : Rs:=
 if f.e.k = 1 ∨ f.e.k = 2 ∨ f.e.k = 11 then sCon L n z f fs vs
 else if f.e.k = 3 then sVar L n z f fs vs
 else if f.e.k = 4 then tick L n (.bad 21 (n + 1))
 else if f.e.k = 5 then sRef look L n z f fs vs
 else if f.e.k = 6 then sFun L n z f fs vs
 else if f.e.k = 7 then sCall L n z f fs vs
 else if f.e.k = 8 then sLet L n z f fs vs
 else if f.e.k = 9 then sIf L n z f fs vs
 else if f.e.k = 10 then sOp L n z f fs vs
 else if f.e.k = 12 then sLst L n z f fs vs
 else if f.e.k = 13 then sCase L n z f fs vs
 else if f.e.k = 14 then sChance L n z f fs vs
 else .bad 17 n
inductive Ev (look : ByteArray → Int → Option Xp) (L : Int) : Es → Va × Int × Int → Nat → Prop
 | stop {n z v vs} : L ≤ n → Ev look L ⟨n,z,[],v :: vs⟩ (vaI 0 0,n,27) 0
 | done {n z v vs} : n < L → Ev look L ⟨n,z,[],v :: vs⟩ (v,n + 1,0) 0
 | bad {n z f fs vs e m} : stepE look L n z f fs vs = .bad e m → Ev look L ⟨n,z,f :: fs,vs⟩ (vaI 0 0,m,e) 0
 | step {n z f fs vs s r t} : stepE look L n z f fs vs = .go s → Ev look L s r t → Ev look L ⟨n,z,f :: fs,vs⟩ r (t + 1)
/-! Whole states -/
def XpOk (k d : Int) (len : Nat) : Prop:=1 ≤ k ∧ k ≤ 15 ∧ (k = 6 → len = 1) ∧ (k = 7 → len = 2) ∧ (k = 8 → len = 2) ∧ (k = 9 → len = 3) ∧ (k = 10 → len = 2) ∧ (k = 12 → len = 2) ∧ (k = 13 → len = 3) ∧ (k = 14 → 1 ≤ d ∧ d ≤ 999999999)
def Sk.Ok : Sk → Prop
 | .nil => True
 | .cons k _ _ _ d s r => XpOk k d s.len ∧ s.Ok ∧ r.Ok
def Xp.Ok (x : Xp) : Prop:=XpOk x.k x.d x.s.len ∧ x.s.Ok
def Vl.Ok : Vl → Prop
 | .nil => True
 | .cons _ k _ l _ _ b e r => (k = 4 → b.len = 1) ∧ b.Ok ∧ l.Ok ∧ e.Ok ∧ r.Ok
def Va.Ok (v : Va) : Prop:=(v.k = 4 → v.b.len = 1) ∧ v.b.Ok ∧ v.l.Ok ∧ v.e.Ok
def held (k : Int) (a : Nat) : Nat:=
 if k = 7 then (if a = 3 then 1 else a) else if k = 8 ∨ k = 9 ∨ k = 13 then (if a = 0 then 0 else 1)
 else if k = 10 ∨ k = 12 ∨ k = 5 then a else 0
def atOk (k : Int) (a : Nat) : Prop:=(k = 7 → a ≤ 3) ∧ (k = 8 → a ≤ 2) ∧ (k = 9 → a ≤ 2) ∧ (k = 13 → a ≤ 2) ∧ (k = 10 → a ≤ 2) ∧ (k = 12 → a ≤ 2) ∧ (k = 5 → a ≤ 1)
def Fe.Ok (f : Fe) : Prop:=f.e.Ok ∧ f.v.Ok ∧ atOk f.e.k f.at_
def under : List Fe → Nat
 | [] => 0
 | f :: r => held f.e.k f.at_ - 1 + under r
structure Es.Ok (s : Es) : Prop where
 fr : ∀ f ∈ s.fs,f.Ok
 va : ∀ v ∈ s.vs,v.Ok
 up : ∀ f ∈ s.fs.tail,1 ≤ held f.e.k f.at_
 ct : s.vs.length = match s.fs with
  | [] => 1
  | f :: r => held f.e.k f.at_ + under r
def Rs.Ok : Rs → Prop
 | .go s => s.Ok
 | .bad e _ => e ≠ 0
theorem Sk.Ok.at : ∀ {s : Sk} {j : Nat} {x : Xp},s.Ok → s.at j = some x → x.Ok
 | .nil,_,_,_,h => by simp [Sk.at] at h
 | .cons k n m i d s r,0,x,h,e => by
  simp only [Sk.at,Option.some.injEq] at e
  subst e
  exact ⟨h.1,h.2.1⟩
 | .cons _ _ _ _ _ _ r,j + 1,x,h,e => Sk.Ok.at (s:=r) h.2.2 e
theorem Sk.at_lt : ∀ {s : Sk} {j : Nat},j < s.len → ∃ x,s.at j = some x
 | .nil,_,h => by simp [Sk.len] at h
 | .cons k n m i d s r,0,_ => ⟨_,rfl⟩
 | .cons _ _ _ _ _ _ r,j + 1,h => Sk.at_lt (s:=r) (by simp [Sk.len] at h;omega)
theorem Sk.drop_at : ∀ {s : Sk} {j : Nat} {x : Xp},s.at j = some x → (s.drop j).count = x.s.count + 1 + (s.drop (j + 1)).count
 | .nil,_,_,h => by simp [Sk.at] at h
 | .cons k n m i d s r,0,x,e => by
  simp only [Sk.at,Option.some.injEq] at e
  subst e
  cases r <;> simp [Sk.drop,Sk.count]
 | .cons _ _ _ _ _ _ r,j + 1,x,e => by
  have:=Sk.drop_at (s:=r) (j:=j) e
  cases r with
  | nil => simp [Sk.at] at e
  | cons => simpa [Sk.drop] using this
theorem Sk.drop_zero (s : Sk) : s.drop 0 = s:=by cases s <;> rfl
theorem Vl.Ok.at : ∀ {l : Vl} {j : Nat} {x : ByteArray × Va},l.Ok → l.at j = some x → x.2.Ok
 | .nil,_,_,_,h => by simp [Vl.at] at h
 | .cons y k i l p q b e r,0,x,h,e' => by
  simp only [Vl.at,Option.some.injEq] at e'
  subst e'
  exact ⟨h.1,h.2.1,h.2.2.1,h.2.2.2.1⟩
 | .cons _ _ _ _ _ _ _ _ r,j + 1,x,h,e => Vl.Ok.at (l:=r) h.2.2.2.2 e
theorem Vl.Ok.look {e : Vl} {x : ByteArray} (h : e.Ok) : ∀ {j : Nat} {v : Va},e.look x j = some v → v.Ok
 | 0,v,h' => by simp [Vl.look] at h'
 | j + 1,v,h' => by
  unfold Vl.look at h'
  split at h'
  ·rename_i y u hat
   split at h'
   ·obtain rfl:=Option.some.inj h'
    exact Vl.Ok.at h hat
   ·exact Vl.Ok.look h h'
  ·exact Vl.Ok.look h h'
theorem Vl.Ok.push {r : Vl} {x : ByteArray} {v : Va} (hv : v.Ok) (h : r.Ok) : (Vl.push x v r).Ok:=⟨hv.1,hv.2.1,hv.2.2.1,hv.2.2.2,h⟩
theorem Vl.Ok.snoc : ∀ {e : Vl} {x : ByteArray} {v : Va},e.Ok → v.Ok → (e.snoc x v).Ok
 | .nil,_,_,_,hv => Vl.Ok.push hv trivial
 | .cons _ _ _ _ _ _ _ _ r,_,_,h,hv => ⟨h.1,h.2.1,h.2.2.1,h.2.2.2.1,Vl.Ok.snoc (e:=r) h.2.2.2.2 hv⟩
theorem vaI_ok (k i : Int) (h : k ≠ 4) : (vaI k i).Ok:=⟨fun e => absurd e h,trivial,trivial,trivial⟩
end Go.Proofs.YtnfndgmlnoeelaaGreatDoor
/- The evaluator in plain words: whole states stay whole, and every run ends -/
namespace Go.Proofs.YtnfndgmlnoeelaaGreatDoor
open Go Go.RowKit Go.Proofs
variable {L n z n' z' : Int} {f : Fe} {fs : List Fe} {vs vs' : List Va}
theorem Rs.Ok.tick {r : Rs} (h : r.Ok) : (tick L n r).Ok:=by
 unfold Go.Proofs.YtnfndgmlnoeelaaGreatDoor.tick
 split
 ·exact (by decide : (27 : Int) ≠ 0)
 ·exact h
theorem held_zero (k : Int) : held k 0 = 0:=by
 unfold held
 split
 ·rfl
 ·split
  ·rfl
  ·split <;> rfl
theorem Es.Ok.rest (h : Es.Ok ⟨n,z,f :: fs,vs⟩) : (∀ g ∈ fs,g.Ok) ∧ (∀ g ∈ fs,1 ≤ held g.e.k g.at_) ∧ vs.length = held f.e.k f.at_ + under fs ∧ f.Ok ∧ ∀ v ∈ vs,v.Ok:=
 ⟨fun g hg => h.fr g (List.mem_cons_of_mem _ hg),h.up,h.ct,h.fr f List.mem_cons_self,h.va⟩
theorem Es.Ok.ended (h : Es.Ok ⟨n,z,f :: fs,vs⟩) (hv : ∀ v ∈ vs',v.Ok) (hl : vs'.length = 1 + under fs) : Es.Ok ⟨n',z',fs,vs'⟩:=by
 obtain ⟨h1,h2,h3,h4,h5⟩:=h.rest
 refine ⟨h1,hv,fun g hg => h2 g (List.mem_of_mem_tail hg),?_⟩
 cases fs with
 | nil => simpa [under] using hl
 | cons g r =>
  have:=h2 g List.mem_cons_self
  simp only [under] at hl
  show vs'.length = held g.e.k g.at_ + under r
  omega
theorem Es.Ok.result {v : Va} (h : Es.Ok ⟨n,z,f :: fs,vs⟩) (hh : held f.e.k f.at_ = 0) (hv : v.Ok) : Es.Ok ⟨n',z',fs,v :: vs⟩:=by
 refine h.ended (fun u hu => ?_) ?_
 ·rcases List.mem_cons.1 hu with rfl | hu
  ·exact hv
  ·exact h.va u hu
 ·have:=h.rest.2.2.1
  simp only [List.length_cons]
  omega
theorem Es.Ok.begun (h : Es.Ok ⟨n,z,f :: fs,vs⟩) {e : Xp} {a : Nat} {p : ByteArray} {v : Vl} (he : e.Ok) (hv : v.Ok) (ha : atOk f.e.k a) (h1 : 1 ≤ held f.e.k a) (hva : ∀ v ∈ vs',v.Ok) (hl : vs'.length = held f.e.k a - 1 + under fs) :
  Es.Ok ⟨n',z',⟨e,0,p,v⟩ :: f.put a :: fs,vs'⟩:=by
 obtain ⟨r1,r2,r3,r4,r5⟩:=h.rest
 refine ⟨fun g hg => ?_,hva,fun g hg => ?_,?_⟩
 ·rcases List.mem_cons.1 hg with rfl | hg
  ·exact ⟨he,hv,fun _ => Nat.zero_le _,fun _ => Nat.zero_le _,fun _ => Nat.zero_le _,fun _ => Nat.zero_le _,fun _ => Nat.zero_le _,fun _ => Nat.zero_le _,fun _ => Nat.zero_le _⟩
  ·rcases List.mem_cons.1 hg with rfl | hg
   ·exact ⟨r4.1,r4.2.1,ha⟩
   ·exact r1 g hg
 ·rcases List.mem_cons.1 (show g ∈ f.put a :: fs from hg) with rfl | hg
  ·exact h1
  ·exact r2 g hg
 ·show vs'.length = held e.k 0 + (held f.e.k a - 1 + under fs)
  rw [held_zero]
  omega
theorem Es.Ok.turned (h : Es.Ok ⟨n,z,f :: fs,vs⟩) {e : Xp} (he : e.Ok) (hva : ∀ v ∈ vs',v.Ok) (hl : vs'.length = under fs) : Es.Ok ⟨n',z',⟨e,0,f.p,f.v⟩ :: fs,vs'⟩:=by
 obtain ⟨r1,r2,r3,r4,r5⟩:=h.rest
 refine ⟨fun g hg => ?_,hva,r2,?_⟩
 ·rcases List.mem_cons.1 hg with rfl | hg
  ·exact ⟨he,r4.2.1,fun _ => Nat.zero_le _,fun _ => Nat.zero_le _,fun _ => Nat.zero_le _,fun _ => Nat.zero_le _,fun _ => Nat.zero_le _,fun _ => Nat.zero_le _,fun _ => Nat.zero_le _⟩
  ·exact r1 g hg
 ·show vs'.length = held e.k 0 + under fs
  rw [held_zero]
  omega
theorem partR_ok (h : Es.Ok ⟨n,z,f :: fs,vs⟩) {j a : Nat} {v : Vl} (hj : j < f.e.s.len) (hv : v.Ok) (ha : atOk f.e.k a) (h1 : 1 ≤ held f.e.k a) (hva : ∀ v ∈ vs',v.Ok) (hl : vs'.length = held f.e.k a - 1 + under fs) :
  (partR n' z' f j a v fs vs').Ok:=by
 obtain ⟨x,hx⟩:=Sk.at_lt hj
 unfold partR
 rw [hx]
 exact h.begun (h.rest.2.2.2.1.1.2.at hx) hv ha h1 hva hl
theorem insteadR_ok (h : Es.Ok ⟨n,z,f :: fs,vs⟩) {j : Nat} (hj : j < f.e.s.len) (hva : ∀ v ∈ vs',v.Ok) (hl : vs'.length = under fs) : (insteadR n' z' f j fs vs').Ok:=by
 obtain ⟨x,hx⟩:=Sk.at_lt hj
 unfold insteadR
 rw [hx]
 exact h.turned (h.rest.2.2.2.1.1.2.at hx) hva hl
theorem atOk_any {k : Int} {a : Nat} (_h : k = 7 ∨ k = 8 ∨ k = 9 ∨ k = 13 ∨ k = 10 ∨ k = 12 ∨ k = 5) (h5 : k = 5 → a ≤ 1) (h7 : a = 3 → k = 7) (h3 : a ≤ 3) : atOk k a:=by
 refine ⟨fun _ => h3,fun e => ?_,fun e => ?_,fun e => ?_,fun e => ?_,fun e => ?_,h5⟩ <;>
 ·have : a ≠ 3:=fun e' => by have:=h7 e';omega
  omega
theorem stepE_ok {look : ByteArray → Int → Option Xp} (hL : ∀ p i x,look p i = some x → x.Ok) (h : Es.Ok ⟨n,z,f :: fs,vs⟩) : (stepE look L n z f fs vs).Ok:=by
 obtain ⟨r1,r2,r3,⟨⟨⟨k1,k15,k6,k7,k8,k9,k10,k12,k13,k14⟩,hs⟩,hv,ha7,ha8,ha9,ha13,ha10,ha12,ha5⟩,r5⟩:=h.rest
 have hva:=r5
 unfold stepE
 by_cases c1 : f.e.k = 1 ∨ f.e.k = 2 ∨ f.e.k = 11
 ·rw [if_pos c1]
  have hh : held f.e.k f.at_ = 0:=by
   unfold held
   rw [if_neg (by omega),if_neg (by omega),if_neg (by omega)]
  refine Rs.Ok.tick (h.result hh ?_)
  split
  ·exact vaI_ok _ _ (by decide)
  ·split
   ·exact vaI_ok _ _ (by decide)
   ·exact vaI_ok _ _ (by decide)
 rw [if_neg c1]
 by_cases c3 : f.e.k = 3
 ·rw [if_pos c3]
  have hh : held f.e.k f.at_ = 0:=by
   unfold held
   rw [if_neg (by omega),if_neg (by omega),if_neg (by omega)]
  refine Rs.Ok.tick ?_
  split
  ·rename_i v e
   exact h.result hh (hv.look e)
  ·exact (by decide : (21 : Int) ≠ 0)
 rw [if_neg c3]
 by_cases c4 : f.e.k = 4
 ·rw [if_pos c4]
  exact Rs.Ok.tick (by decide : (21 : Int) ≠ 0)
 rw [if_neg c4]
 by_cases c5 : f.e.k = 5
 ·rw [if_pos c5]
  have hh : held f.e.k f.at_ = f.at_:=by
   unfold held
   rw [if_neg (by omega),if_neg (by omega),if_pos (by omega)]
  have:=ha5 c5
  refine Rs.Ok.tick ?_
  by_cases ca : f.at_ = 1
  ·rw [if_pos ca]
   exact h.ended hva (by omega)
  ·rw [if_neg ca]
   split
   ·rename_i b e
    have h5 : held f.e.k 1 = 1:=by
     unfold held
     rw [if_neg (by omega),if_neg (by omega),if_pos (by omega)]
    exact h.begun (hL _ _ _ e) trivial (atOk_any (by omega) (fun _ => by omega) (by omega) (by omega)) (by omega) hva (by omega)
   ·exact (by decide : (21 : Int) ≠ 0)
 rw [if_neg c5]
 by_cases c6 : f.e.k = 6
 ·rw [if_pos c6]
  have hh : held f.e.k f.at_ = 0:=by
   unfold held
   rw [if_neg (by omega),if_neg (by omega),if_neg (by omega)]
  exact Rs.Ok.tick (h.result hh ⟨fun _ => k6 c6,hs,trivial,hv⟩)
 rw [if_neg c6]
 by_cases c7 : f.e.k = 7
 ·rw [if_pos c7]
  have hl:=k7 c7
  have h3:=ha7 c7
  have hd : ∀ a,held f.e.k a = if a = 3 then 1 else a:=fun a => by
   unfold held
   rw [if_pos c7]
  unfold sCall
  by_cases ca : f.at_ < 2
  ·rw [if_pos ca]
   refine partR_ok h (by omega) hv (atOk_any (by omega) (by omega) (by omega) (by omega)) ?_ hva ?_
   ·rw [hd,if_neg (by omega)]
    omega
   ·rw [r3,hd,hd,if_neg (by omega),if_neg (by omega)]
    omega
  rw [if_neg ca]
  by_cases cb : f.at_ = 2
  ·rw [if_pos cb]
   refine Rs.Ok.tick ?_
   rw [hd,if_neg (by omega)] at r3
   match vs,r3,hva with
   | [],r3,_ => simp at r3;omega
   | [_],r3,_ => simp at r3;omega
   | x :: g :: vs,r3,hva =>
    simp only
    have hx:=hva x List.mem_cons_self
    have hg:=hva g (List.mem_cons_of_mem _ List.mem_cons_self)
    split
    ·exact (by decide : (26 : Int) ≠ 0)
    ·rename_i hk
     obtain ⟨b,hb⟩:=Sk.at_lt (s:=g.b) (j:=0) (by rw [hg.1 (by omega)];omega)
     rw [hb]
     refine h.begun (hg.2.1.at hb) (hg.2.2.2.snoc hx) (atOk_any (by omega) (by omega) (by omega) (by omega)) (by rw [hd,if_pos rfl];exact Nat.le_refl _) (fun v hm => hva v (List.mem_cons_of_mem _ (List.mem_cons_of_mem _ hm))) ?_
     rw [hd,if_pos rfl]
     simp only [List.length_cons] at r3
     omega
  rw [if_neg cb]
  refine Rs.Ok.tick (h.ended hva ?_)
  rw [r3,hd,if_pos (by omega)]
 rw [if_neg c7]
 by_cases c8 : f.e.k = 8
 ·rw [if_pos c8]
  have hl:=k8 c8
  have h3:=ha8 c8
  have hd : ∀ a,held f.e.k a = if a = 0 then 0 else 1:=fun a => by
   unfold held
   rw [if_neg (by omega),if_pos (by omega)]
  unfold sLet
  by_cases ca : f.at_ = 0
  ·rw [if_pos ca]
   refine partR_ok h (by omega) hv (atOk_any (by omega) (by omega) (by omega) (by omega)) ?_ hva ?_
   ·rw [hd,if_neg (by omega)]
    omega
   ·rw [r3,hd,hd,if_pos (by omega),if_neg (by omega)]
  rw [if_neg ca]
  rw [hd,if_neg ca] at r3
  by_cases cb : f.at_ = 1
  ·rw [if_pos cb]
   refine Rs.Ok.tick ?_
   match vs,r3,hva with
   | [],r3,_ => simp at r3;omega
   | x :: vs,r3,hva =>
    simp only
    refine partR_ok h (by omega) (hv.snoc (hva x List.mem_cons_self)) (atOk_any (by omega) (by omega) (by omega) (by omega)) ?_ (fun v hm => hva v (List.mem_cons_of_mem _ hm)) ?_
    ·rw [hd,if_neg (by omega)]
     omega
    ·rw [hd,if_neg (by omega)]
     simp only [List.length_cons] at r3
     omega
  rw [if_neg cb]
  exact Rs.Ok.tick (h.ended hva r3)
 rw [if_neg c8]
 by_cases c9 : f.e.k = 9
 ·rw [if_pos c9]
  have hl:=k9 c9
  have h3:=ha9 c9
  have hd : ∀ a,held f.e.k a = if a = 0 then 0 else 1:=fun a => by
   unfold held
   rw [if_neg (by omega),if_pos (by omega)]
  unfold sIf
  by_cases ca : f.at_ = 0
  ·rw [if_pos ca]
   refine partR_ok h (by omega) hv (atOk_any (by omega) (by omega) (by omega) (by omega)) ?_ hva ?_
   ·rw [hd,if_neg (by omega)]
    omega
   ·rw [r3,hd,hd,if_pos (by omega),if_neg (by omega)]
  rw [if_neg ca]
  rw [hd,if_neg ca] at r3
  by_cases cb : f.at_ = 1
  ·rw [if_pos cb]
   refine Rs.Ok.tick ?_
   match vs,r3,hva with
   | [],r3,_ => simp at r3;omega
   | x :: vs,r3,hva =>
    simp only
    simp only [List.length_cons] at r3
    split
    ·exact (by decide : (26 : Int) ≠ 0)
    ·split
     ·refine partR_ok h (by omega) hv (atOk_any (by omega) (by omega) (by omega) (by omega)) ?_ (fun v hm => hva v (List.mem_cons_of_mem _ hm)) ?_
      ·rw [hd,if_neg (by omega)]
       omega
      ·rw [hd,if_neg (by omega)]
       omega
     ·exact insteadR_ok h (by omega) (fun v hm => hva v (List.mem_cons_of_mem _ hm)) (by omega)
  rw [if_neg cb]
  exact Rs.Ok.tick (h.ended hva r3)
 rw [if_neg c9]
 by_cases c10 : f.e.k = 10
 ·rw [if_pos c10]
  have hl:=k10 c10
  have h3:=ha10 c10
  have hd : ∀ a,held f.e.k a = a:=fun a => by
   unfold held
   rw [if_neg (by omega),if_neg (by omega),if_pos (by omega)]
  unfold sOp
  by_cases ca : f.at_ < 2
  ·rw [if_pos ca]
   refine partR_ok h (by omega) hv (atOk_any (by omega) (by omega) (by omega) (by omega)) ?_ hva ?_
   ·rw [hd]
    omega
   ·rw [r3,hd,hd]
    omega
  rw [if_neg ca]
  refine Rs.Ok.tick ?_
  rw [hd] at r3
  match vs,r3,hva with
  | [],r3,_ => simp at r3;omega
  | [_],r3,_ => simp at r3;omega
  | y :: x :: vs,r3,hva =>
   simp only
   simp only [List.length_cons] at r3
   split
   ·exact (by decide : (26 : Int) ≠ 0)
   ·split
    ·rename_i v e
     refine h.ended (fun u hu => ?_) (by simp only [List.length_cons];omega)
     rcases List.mem_cons.1 hu with rfl | hu
     ·unfold opV at e
      simp only at e
      repeat' split at e
      all_goals first
       | (obtain rfl:=Option.some.inj e;exact vaI_ok _ _ (by decide))
       | (cases e)
     ·exact hva u (List.mem_cons_of_mem _ (List.mem_cons_of_mem _ hu))
    ·exact (by decide : (5 : Int) ≠ 0)
 rw [if_neg c10]
 by_cases c12 : f.e.k = 12
 ·rw [if_pos c12]
  have hl:=k12 c12
  have h3:=ha12 c12
  have hd : ∀ a,held f.e.k a = a:=fun a => by
   unfold held
   rw [if_neg (by omega),if_neg (by omega),if_pos (by omega)]
  unfold sLst
  by_cases ca : f.at_ < 2
  ·rw [if_pos ca]
   refine partR_ok h (by omega) hv (atOk_any (by omega) (by omega) (by omega) (by omega)) ?_ hva ?_
   ·rw [hd]
    omega
   ·rw [r3,hd,hd]
    omega
  rw [if_neg ca]
  refine Rs.Ok.tick ?_
  rw [hd] at r3
  match vs,r3,hva with
  | [],r3,_ => simp at r3;omega
  | [_],r3,_ => simp at r3;omega
  | l :: x :: vs,r3,hva =>
   simp only
   simp only [List.length_cons] at r3
   split
   ·exact (by decide : (26 : Int) ≠ 0)
   ·have hx:=hva x (List.mem_cons_of_mem _ List.mem_cons_self)
    have hl':=hva l List.mem_cons_self
    refine h.ended (fun u hu => ?_) (by simp only [List.length_cons];omega)
    rcases List.mem_cons.1 hu with rfl | hu
    ·exact ⟨fun e => absurd (show (3 : Int) = 4 from e) (by decide),trivial,Vl.Ok.push hx hl'.2.2.1,trivial⟩
    ·exact hva u (List.mem_cons_of_mem _ (List.mem_cons_of_mem _ hu))
 rw [if_neg c12]
 by_cases c13 : f.e.k = 13
 ·rw [if_pos c13]
  have hl:=k13 c13
  have h3:=ha13 c13
  have hd : ∀ a,held f.e.k a = if a = 0 then 0 else 1:=fun a => by
   unfold held
   rw [if_neg (by omega),if_pos (by omega)]
  unfold sCase
  by_cases ca : f.at_ = 0
  ·rw [if_pos ca]
   refine partR_ok h (by omega) hv (atOk_any (by omega) (by omega) (by omega) (by omega)) ?_ hva ?_
   ·rw [hd,if_neg (by omega)]
    omega
   ·rw [r3,hd,hd,if_pos (by omega),if_neg (by omega)]
  rw [if_neg ca]
  rw [hd,if_neg ca] at r3
  by_cases cb : f.at_ = 1
  ·rw [if_pos cb]
   refine Rs.Ok.tick ?_
   match vs,r3,hva with
   | [],r3,_ => simp at r3;omega
   | x :: vs,r3,hva =>
    simp only
    simp only [List.length_cons] at r3
    have hx:=hva x List.mem_cons_self
    have hva' : ∀ v ∈ vs,v.Ok:=fun v hm => hva v (List.mem_cons_of_mem _ hm)
    split
    ·exact (by decide : (26 : Int) ≠ 0)
    ·split
     ·exact insteadR_ok h (by omega) hva' (by omega)
     ·rename_i _ k i l p q b e r hxl
      have hx2:=hx.2.2.1
      rw [hxl] at hx2
      refine partR_ok h (by omega) ((hv.snoc ⟨hx2.1,hx2.2.1,hx2.2.2.1,hx2.2.2.2.1⟩).snoc ⟨fun e => absurd (show (3 : Int) = 4 from e) (by decide),trivial,hx2.2.2.2.2,trivial⟩) (atOk_any (by omega) (by omega) (by omega) (by omega)) ?_ hva' ?_
      ·rw [hd,if_neg (by omega)]
       omega
      ·rw [hd,if_neg (by omega)]
       omega
  rw [if_neg cb]
  exact Rs.Ok.tick (Rs.Ok.tick (h.ended hva r3))
 rw [if_neg c13]
 by_cases c14 : f.e.k = 14
 ·rw [if_pos c14]
  have hh : held f.e.k f.at_ = 0:=by
   unfold held
   rw [if_neg (by omega),if_neg (by omega),if_neg (by omega)]
  exact Rs.Ok.tick (h.result hh (vaI_ok _ _ (by decide)))
 rw [if_neg c14]
 exact (by decide : (17 : Int) ≠ 0)
end Go.Proofs.YtnfndgmlnoeelaaGreatDoor
/- The evaluator in plain words: every run ends -/
namespace Go.Proofs.YtnfndgmlnoeelaaGreatDoor
open Go Go.RowKit Go.Proofs
variable {L n z n' z' : Int} {f : Fe} {fs : List Fe} {vs vs' : List Va}
theorem tick_go {r : Rs} {s : Es} (h : tick L n r = .go s) : n < L ∧ r = .go s:=by
 unfold tick at h
 split at h
 ·cases h
 ·exact ⟨by omega,h⟩
theorem partR_go {j a : Nat} {v : Vl} {s : Es} (h : partR n z f j a v fs vs = .go s) : ∃ e,f.e.s.at j = some e ∧ s = ⟨n,z,⟨e,0,f.p,v⟩ :: f.put a :: fs,vs⟩:=by
 unfold partR at h
 split at h
 ·rename_i e he
  exact ⟨e,he,(Rs.go.inj h).symm⟩
 ·cases h
theorem insteadR_go {j : Nat} {s : Es} (h : insteadR n z f j fs vs = .go s) : ∃ e,f.e.s.at j = some e ∧ s = ⟨n,z,⟨e,0,f.p,f.v⟩ :: fs,vs⟩:=by
 unfold insteadR at h
 split at h
 ·rename_i e he
  exact ⟨e,he,(Rs.go.inj h).symm⟩
 ·cases h
def Fe.pot (f : Fe) : Nat:=(f.e.s.drop f.at_).count
def pot : List Fe → Nat
 | [] => 0
 | f :: r => f.pot + pot r
def Less (L n : Int) (p : Nat) (s : Es) : Prop:=(n < s.n ∧ n < L) ∨ (s.n = n ∧ pot s.fs < p)
theorem partR_less {v : Vl} {s : Es} (h : partR n z f f.at_ (f.at_ + 1) v fs vs = .go s) : Less L n (pot (f :: fs)) s:=by
 obtain ⟨e,he,rfl⟩:=partR_go h
 refine .inr ⟨rfl,?_⟩
 have:=Sk.drop_at he
 show (e.s.drop 0).count + ((f.e.s.drop (f.at_ + 1)).count + pot fs) < (f.e.s.drop f.at_).count + pot fs
 rw [Sk.drop_zero]
 omega
theorem partR_less0 {v : Vl} {s : Es} (ha : f.at_ = 0) (h : partR n z f 0 1 v fs vs = .go s) : Less L n (pot (f :: fs)) s:=by
 refine partR_less (v:=v) (z:=z) (vs:=vs) ?_
 rw [ha]
 exact h
theorem tick_less {r : Rs} {s : Es} {p : Nat} (h : tick L n r = .go s) (hr : r = .go s → n < s.n) : Less L n p s:=by
 obtain ⟨h1,h2⟩:=tick_go h
 exact .inl ⟨hr h2,h1⟩
theorem stepE_less {look : ByteArray → Int → Option Xp} {s : Es} (h : stepE look L n z f fs vs = .go s) : Less L n (pot (f :: fs)) s:=by
 unfold stepE at h
 by_cases c0 : f.e.k = 1 ∨ f.e.k = 2 ∨ f.e.k = 11
 ·rw [if_pos c0] at h
  refine tick_less h fun e => ?_
  obtain rfl:=Rs.go.inj e
  simp only
  omega
 rw [if_neg c0] at h
 by_cases c1 : f.e.k = 3
 ·rw [if_pos c1] at h
  refine tick_less h fun e => ?_
  split at e
  ·obtain rfl:=Rs.go.inj e
   simp only
   omega
  ·cases e
 rw [if_neg c1] at h
 by_cases c2 : f.e.k = 4
 ·rw [if_pos c2] at h
  exact tick_less h fun e => by cases e
 rw [if_neg c2] at h
 by_cases c3 : f.e.k = 5
 ·rw [if_pos c3] at h
  refine tick_less h fun e => ?_
  split at e
  ·obtain rfl:=Rs.go.inj e
   simp only
   omega
  ·split at e
   ·obtain rfl:=Rs.go.inj e
    simp only
    omega
   ·cases e
 rw [if_neg c3] at h
 by_cases c4 : f.e.k = 6
 ·rw [if_pos c4] at h
  refine tick_less h fun e => ?_
  obtain rfl:=Rs.go.inj e
  simp only
  omega
 rw [if_neg c4] at h
 by_cases c5 : f.e.k = 7
 ·rw [if_pos c5] at h
  unfold sCall at h
  split at h
  ·exact partR_less h
  ·split at h
   ·refine tick_less h fun e => ?_
    split at e
    ·split at e
     ·cases e
     ·split at e
      ·obtain rfl:=Rs.go.inj e
       simp only
       omega
      ·cases e
    ·cases e
   ·refine tick_less h fun e => ?_
    obtain rfl:=Rs.go.inj e
    simp only
    omega
 rw [if_neg c5] at h
 by_cases c6 : f.e.k = 8
 ·rw [if_pos c6] at h
  unfold sLet at h
  split at h
  ·rename_i ha
   exact partR_less0 ha h
  ·split at h
   ·refine tick_less h fun e => ?_
    split at e
    ·obtain ⟨_,_,rfl⟩:=partR_go e
     simp only
     omega
    ·cases e
   ·refine tick_less h fun e => ?_
    obtain rfl:=Rs.go.inj e
    simp only
    omega
 rw [if_neg c6] at h
 by_cases c7 : f.e.k = 9
 ·rw [if_pos c7] at h
  unfold sIf at h
  split at h
  ·rename_i ha
   exact partR_less0 ha h
  ·split at h
   ·refine tick_less h fun e => ?_
    split at e
    ·split at e
     ·cases e
     ·split at e
      ·obtain ⟨_,_,rfl⟩:=partR_go e
       simp only
       omega
      ·obtain ⟨_,_,rfl⟩:=insteadR_go e
       simp only
       omega
    ·cases e
   ·refine tick_less h fun e => ?_
    obtain rfl:=Rs.go.inj e
    simp only
    omega
 rw [if_neg c7] at h
 by_cases c8 : f.e.k = 10
 ·rw [if_pos c8] at h
  unfold sOp at h
  split at h
  ·exact partR_less h
  ·refine tick_less h fun e => ?_
   split at e
   ·split at e
    ·cases e
    ·split at e
     ·obtain rfl:=Rs.go.inj e
      simp only
      omega
     ·cases e
   ·cases e
 rw [if_neg c8] at h
 by_cases c9 : f.e.k = 12
 ·rw [if_pos c9] at h
  unfold sLst at h
  split at h
  ·exact partR_less h
  ·refine tick_less h fun e => ?_
   split at e
   ·split at e
    ·cases e
    ·obtain rfl:=Rs.go.inj e
     simp only
     omega
   ·cases e
 rw [if_neg c9] at h
 by_cases c10 : f.e.k = 13
 ·rw [if_pos c10] at h
  unfold sCase at h
  split at h
  ·rename_i ha
   exact partR_less0 ha h
  ·split at h
   ·refine tick_less h fun e => ?_
    split at e
    ·split at e
     ·cases e
     ·split at e
      ·obtain ⟨_,_,rfl⟩:=insteadR_go e
       simp only
       omega
      ·obtain ⟨_,_,rfl⟩:=partR_go e
       simp only
       omega
    ·cases e
   ·refine tick_less h fun e => ?_
    obtain ⟨_,e⟩:=tick_go e
    obtain rfl:=Rs.go.inj e
    simp only
    omega
 rw [if_neg c10] at h
 by_cases c11 : f.e.k = 14
 ·rw [if_pos c11] at h
  refine tick_less h fun e => ?_
  obtain rfl:=Rs.go.inj e
  simp only
  omega
 rw [if_neg c11] at h
 cases h
theorem ev_ends {look : ByteArray → Int → Option Xp} (hL : ∀ p i x,look p i = some x → x.Ok) : ∀ (a b : Nat) (s : Es),s.Ok → (L - s.n).toNat ≤ a → pot s.fs ≤ b → ∃ r t,Ev look L s r t:=by
 intro a
 induction a with
 | zero =>
  intro b
  induction b with
  | zero =>
   rintro ⟨n,z,fs,vs⟩ hs ha hb
   cases fs with
   | nil =>
    have:=hs.ct
    match vs,this with
    | v :: vs,_ => exact ⟨_,_,.stop (by simp only at ha;omega)⟩
   | cons f fs =>
    cases e : stepE look L n z f fs vs with
    | bad e' m => exact ⟨_,_,.bad e⟩
    | go s' =>
     rcases stepE_less e with ⟨h1,h2⟩ | ⟨h1,h2⟩
     ·simp only at ha
      omega
     ·simp only at hb
      omega
  | succ b ih =>
   rintro ⟨n,z,fs,vs⟩ hs ha hb
   cases fs with
   | nil =>
    have:=hs.ct
    match vs,this with
    | v :: vs,_ => exact ⟨_,_,.stop (by simp only at ha;omega)⟩
   | cons f fs =>
    cases e : stepE look L n z f fs vs with
    | bad e' m => exact ⟨_,_,.bad e⟩
    | go s' =>
     have hok:=stepE_ok (L:=L) hL hs
     rw [e] at hok
     rcases stepE_less e with ⟨h1,h2⟩ | ⟨h1,h2⟩
     ·simp only at ha
      omega
     ·simp only at hb ha
      obtain ⟨r,t,h⟩:=ih s' hok (by omega) (by omega)
      exact ⟨r,t + 1,.step e h⟩
 | succ a iha =>
  intro b
  induction b with
  | zero =>
   rintro ⟨n,z,fs,vs⟩ hs ha hb
   cases fs with
   | nil =>
    have:=hs.ct
    match vs,this with
    | v :: vs,_ =>
     by_cases hn : n < L
     ·exact ⟨_,_,.done hn⟩
     ·exact ⟨_,_,.stop (by omega)⟩
   | cons f fs =>
    cases e : stepE look L n z f fs vs with
    | bad e' m => exact ⟨_,_,.bad e⟩
    | go s' =>
     have hok:=stepE_ok (L:=L) hL hs
     rw [e] at hok
     rcases stepE_less e with ⟨h1,h2⟩ | ⟨h1,h2⟩
     ·simp only at ha
      obtain ⟨r,t,h⟩:=iha (pot s'.fs) s' hok (by omega) (Nat.le_refl _)
      exact ⟨r,t + 1,.step e h⟩
     ·simp only at hb
      omega
  | succ b ih =>
   rintro ⟨n,z,fs,vs⟩ hs ha hb
   cases fs with
   | nil =>
    have:=hs.ct
    match vs,this with
    | v :: vs,_ =>
     by_cases hn : n < L
     ·exact ⟨_,_,.done hn⟩
     ·exact ⟨_,_,.stop (by omega)⟩
   | cons f fs =>
    cases e : stepE look L n z f fs vs with
    | bad e' m => exact ⟨_,_,.bad e⟩
    | go s' =>
     have hok:=stepE_ok (L:=L) hL hs
     rw [e] at hok
     rcases stepE_less e with ⟨h1,h2⟩ | ⟨h1,h2⟩
     ·simp only at ha
      obtain ⟨r,t,h⟩:=iha (pot s'.fs) s' hok (by omega) (Nat.le_refl _)
      exact ⟨r,t + 1,.step e h⟩
     ·simp only at hb ha
      obtain ⟨r,t,h⟩:=ih s' hok (by omega) (by omega)
      exact ⟨r,t + 1,.step e h⟩
end Go.Proofs.YtnfndgmlnoeelaaGreatDoor
/- The evaluator in plain words: two runs over declarations that agree where they are reached -/
namespace Go.Proofs.YtnfndgmlnoeelaaGreatDoor
open Go Go.RowKit Go.Proofs
def Sk.Nice (C : ByteArray → Int → Prop) (ch : Prop) (p : ByteArray) : Sk → Prop
 | .nil => True
 | .cons k n _ i _ s r => ((k = 5 → C (if n = noB then p else n) i) ∧ (ch → k ≠ 14)) ∧ s.Nice C ch p ∧ r.Nice C ch p
def Xp.Nice (C : ByteArray → Int → Prop) (ch : Prop) (p : ByteArray) (x : Xp) : Prop:=((x.k = 5 → C (if x.n = noB then p else x.n) x.i) ∧ (ch → x.k ≠ 14)) ∧ x.s.Nice C ch p
def Vl.Nice (C : ByteArray → Int → Prop) (ch : Prop) : Vl → Prop
 | .nil => True
 | .cons _ _ _ l p _ b e r => b.Nice C ch p ∧ l.Nice C ch ∧ e.Nice C ch ∧ r.Nice C ch
def Va.Nice (C : ByteArray → Int → Prop) (ch : Prop) (v : Va) : Prop:=v.b.Nice C ch v.p ∧ v.l.Nice C ch ∧ v.e.Nice C ch
def Fe.Nice (C : ByteArray → Int → Prop) (ch : Prop) (f : Fe) : Prop:=f.e.Nice C ch f.p ∧ f.v.Nice C ch
section
variable {C : ByteArray → Int → Prop} {ch : Prop} {L n z z' : Int} {f : Fe} {fs : List Fe} {vs vs' : List Va}
theorem Sk.Nice.at {p : ByteArray} : ∀ {s : Sk} {j : Nat} {x : Xp},s.Nice C ch p → s.at j = some x → x.Nice C ch p
 | .nil,_,_,_,h => by simp [Sk.at] at h
 | .cons k n m i d s r,0,x,h,e => by
  simp only [Sk.at,Option.some.injEq] at e
  subst e
  exact ⟨h.1,h.2.1⟩
 | .cons _ _ _ _ _ _ r,j + 1,x,h,e => Sk.Nice.at (s:=r) h.2.2 e
theorem Vl.Nice.at : ∀ {l : Vl} {j : Nat} {x : ByteArray × Va},l.Nice C ch → l.at j = some x → x.2.Nice C ch
 | .nil,_,_,_,h => by simp [Vl.at] at h
 | .cons y k i l p q b e r,0,x,h,e' => by
  simp only [Vl.at,Option.some.injEq] at e'
  subst e'
  exact ⟨h.1,h.2.1,h.2.2.1⟩
 | .cons _ _ _ _ _ _ _ _ r,j + 1,x,h,e => Vl.Nice.at (l:=r) h.2.2.2 e
theorem Vl.Nice.look {e : Vl} {x : ByteArray} (h : e.Nice C ch) : ∀ {j : Nat} {v : Va},e.look x j = some v → v.Nice C ch
 | 0,v,h' => by simp [Vl.look] at h'
 | j + 1,v,h' => by
  unfold Vl.look at h'
  split at h'
  ·rename_i y u hat
   split at h'
   ·obtain rfl:=Option.some.inj h'
    exact Vl.Nice.at h hat
   ·exact Vl.Nice.look h h'
  ·exact Vl.Nice.look h h'
theorem Vl.Nice.push {r : Vl} {x : ByteArray} {v : Va} (hv : v.Nice C ch) (h : r.Nice C ch) : (Vl.push x v r).Nice C ch:=⟨hv.1,hv.2.1,hv.2.2,h⟩
theorem Vl.Nice.snoc : ∀ {e : Vl} {x : ByteArray} {v : Va},e.Nice C ch → v.Nice C ch → (e.snoc x v).Nice C ch
 | .nil,_,_,_,hv => Vl.Nice.push hv trivial
 | .cons _ _ _ _ _ _ _ _ r,_,_,h,hv => ⟨h.1,h.2.1,h.2.2.1,Vl.Nice.snoc (e:=r) h.2.2.2 hv⟩
theorem vaI_nice (k i : Int) : (vaI k i).Nice C ch:=⟨trivial,trivial,trivial⟩
structure EsSame (C : ByteArray → Int → Prop) (ch : Prop) (s t : Es) : Prop where
 n : s.n = t.n
 z : ¬ ch → s.z = t.z
 fs : s.fs = t.fs
 vs : s.vs = t.vs
 fr : ∀ f ∈ s.fs,f.Nice C ch
 va : ∀ v ∈ s.vs,v.Nice C ch
def RsSame (C : ByteArray → Int → Prop) (ch : Prop) : Rs → Rs → Prop
 | .go s,.go t => EsSame C ch s t
 | .bad e m,.bad e' m' => e = e' ∧ m = m'
 | _,_ => False
theorem RsSame.bad (e m : Int) : RsSame C ch (.bad e m) (.bad e m):=⟨rfl,rfl⟩
theorem RsSame.tick {r t : Rs} (h : RsSame C ch r t) : RsSame C ch (tick L n r) (tick L n t):=by
 unfold Go.Proofs.YtnfndgmlnoeelaaGreatDoor.tick
 split
 ·exact ⟨rfl,rfl⟩
 ·exact h
theorem same_res {n' : Int} (hz : ¬ ch → z = z') (hf : ∀ g ∈ fs,g.Nice C ch) (hv : ∀ v ∈ vs,v.Nice C ch) : RsSame C ch (.go ⟨n',z,fs,vs⟩) (.go ⟨n',z',fs,vs⟩):=⟨rfl,hz,rfl,rfl,hf,hv⟩
theorem same_part {n' : Int} {j a : Nat} {v : Vl} (hz : ¬ ch → z = z') (h : f.Nice C ch) (hf : ∀ g ∈ fs,g.Nice C ch) (hv : ∀ v ∈ vs,v.Nice C ch) (hw : v.Nice C ch) : RsSame C ch (partR n' z f j a v fs vs) (partR n' z' f j a v fs vs):=by
 unfold partR
 split
 ·rename_i e he
  refine same_res hz (fun g hg => ?_) hv
  rcases List.mem_cons.1 hg with rfl | hg
  ·exact ⟨h.1.2.at he,hw⟩
  ·rcases List.mem_cons.1 hg with rfl | hg
   ·exact h
   ·exact hf g hg
 ·exact ⟨rfl,rfl⟩
theorem same_instead {n' : Int} {j : Nat} (hz : ¬ ch → z = z') (h : f.Nice C ch) (hf : ∀ g ∈ fs,g.Nice C ch) (hv : ∀ v ∈ vs,v.Nice C ch) : RsSame C ch (insteadR n' z f j fs vs) (insteadR n' z' f j fs vs):=by
 unfold insteadR
 split
 ·rename_i e he
  refine same_res hz (fun g hg => ?_) hv
  rcases List.mem_cons.1 hg with rfl | hg
  ·exact ⟨h.1.2.at he,h.2⟩
  ·exact hf g hg
 ·exact ⟨rfl,rfl⟩
theorem cons_nice {v : Va} (h : v.Nice C ch) (hv : ∀ v ∈ vs,v.Nice C ch) : ∀ u ∈ v :: vs,u.Nice C ch:=fun u hu => by
 rcases List.mem_cons.1 hu with rfl | hu
 ·exact h
 ·exact hv u hu
theorem step_same {look look' : ByteArray → Int → Option Xp} (hl : ∀ p i,C p i → look p i = look' p i) (hN : ∀ p i x,C p i → look p i = some x → x.Nice C ch p)
  (hz : ¬ ch → z = z') (h : f.Nice C ch) (hf : ∀ g ∈ fs,g.Nice C ch) (hv : ∀ v ∈ vs,v.Nice C ch) : RsSame C ch (stepE look L n z f fs vs) (stepE look' L n z' f fs vs):=by
 unfold stepE
 by_cases c1 : f.e.k = 1 ∨ f.e.k = 2 ∨ f.e.k = 11
 ·rw [if_pos c1,if_pos c1]
  refine RsSame.tick (same_res hz hf (cons_nice ?_ hv))
  split
  ·exact vaI_nice _ _
  ·split <;> exact vaI_nice _ _
 rw [if_neg c1,if_neg c1]
 by_cases c3 : f.e.k = 3
 ·rw [if_pos c3,if_pos c3]
  unfold sVar
  refine RsSame.tick ?_
  split
  ·rename_i v e
   exact same_res hz hf (cons_nice (h.2.look e) hv)
  ·exact ⟨rfl,rfl⟩
 rw [if_neg c3,if_neg c3]
 by_cases c4 : f.e.k = 4
 ·rw [if_pos c4,if_pos c4]
  exact RsSame.tick ⟨rfl,rfl⟩
 rw [if_neg c4,if_neg c4]
 by_cases c5 : f.e.k = 5
 ·rw [if_pos c5,if_pos c5]
  unfold sRef
  refine RsSame.tick ?_
  by_cases ca : f.at_ = 1
  ·rw [if_pos ca,if_pos ca]
   exact same_res hz hf hv
  ·rw [if_neg ca,if_neg ca]
   have hC:=h.1.1.1 c5
   rw [← hl _ _ hC]
   split
   ·rename_i b e
    refine same_res hz (fun g hg => ?_) hv
    rcases List.mem_cons.1 hg with rfl | hg
    ·exact ⟨hN _ _ _ hC e,trivial⟩
    ·rcases List.mem_cons.1 hg with rfl | hg
     ·exact h
     ·exact hf g hg
   ·exact ⟨rfl,rfl⟩
 rw [if_neg c5,if_neg c5]
 by_cases c6 : f.e.k = 6
 ·rw [if_pos c6,if_pos c6]
  exact RsSame.tick (same_res hz hf (cons_nice ⟨h.1.2,trivial,h.2⟩ hv))
 rw [if_neg c6,if_neg c6]
 by_cases c7 : f.e.k = 7
 ·rw [if_pos c7,if_pos c7]
  unfold sCall
  by_cases ca : f.at_ < 2
  ·rw [if_pos ca,if_pos ca]
   exact same_part hz h hf hv h.2
  rw [if_neg ca,if_neg ca]
  by_cases cb : f.at_ = 2
  ·rw [if_pos cb,if_pos cb]
   refine RsSame.tick ?_
   match vs,hv with
   | [],_ => exact ⟨rfl,rfl⟩
   | [_],_ => exact ⟨rfl,rfl⟩
   | x :: g :: vs,hv =>
    simp only
    have hx:=hv x List.mem_cons_self
    have hg:=hv g (List.mem_cons_of_mem _ List.mem_cons_self)
    have hv' : ∀ v ∈ vs,v.Nice C ch:=fun v hm => hv v (List.mem_cons_of_mem _ (List.mem_cons_of_mem _ hm))
    split
    ·exact ⟨rfl,rfl⟩
    ·split
     ·rename_i b hb
      refine same_res hz (fun g' hg' => ?_) hv'
      rcases List.mem_cons.1 hg' with rfl | hg'
      ·exact ⟨hg.1.at hb,hg.2.2.snoc hx⟩
      ·rcases List.mem_cons.1 hg' with rfl | hg'
       ·exact h
       ·exact hf g' hg'
     ·exact ⟨rfl,rfl⟩
  rw [if_neg cb,if_neg cb]
  exact RsSame.tick (same_res hz hf hv)
 rw [if_neg c7,if_neg c7]
 by_cases c8 : f.e.k = 8
 ·rw [if_pos c8,if_pos c8]
  unfold sLet
  by_cases ca : f.at_ = 0
  ·rw [if_pos ca,if_pos ca]
   exact same_part hz h hf hv h.2
  rw [if_neg ca,if_neg ca]
  by_cases cb : f.at_ = 1
  ·rw [if_pos cb,if_pos cb]
   refine RsSame.tick ?_
   match vs,hv with
   | [],_ => exact ⟨rfl,rfl⟩
   | x :: vs,hv => exact same_part hz h hf (fun v hm => hv v (List.mem_cons_of_mem _ hm)) (h.2.snoc (hv x List.mem_cons_self))
  rw [if_neg cb,if_neg cb]
  exact RsSame.tick (same_res hz hf hv)
 rw [if_neg c8,if_neg c8]
 by_cases c9 : f.e.k = 9
 ·rw [if_pos c9,if_pos c9]
  unfold sIf
  by_cases ca : f.at_ = 0
  ·rw [if_pos ca,if_pos ca]
   exact same_part hz h hf hv h.2
  rw [if_neg ca,if_neg ca]
  by_cases cb : f.at_ = 1
  ·rw [if_pos cb,if_pos cb]
   refine RsSame.tick ?_
   match vs,hv with
   | [],_ => exact ⟨rfl,rfl⟩
   | x :: vs,hv =>
    simp only
    have hv' : ∀ v ∈ vs,v.Nice C ch:=fun v hm => hv v (List.mem_cons_of_mem _ hm)
    split
    ·exact ⟨rfl,rfl⟩
    ·split
     ·exact same_part hz h hf hv' h.2
     ·exact same_instead hz h hf hv'
  rw [if_neg cb,if_neg cb]
  exact RsSame.tick (same_res hz hf hv)
 rw [if_neg c9,if_neg c9]
 by_cases c10 : f.e.k = 10
 ·rw [if_pos c10,if_pos c10]
  unfold sOp
  by_cases ca : f.at_ < 2
  ·rw [if_pos ca,if_pos ca]
   exact same_part hz h hf hv h.2
  rw [if_neg ca,if_neg ca]
  refine RsSame.tick ?_
  match vs,hv with
  | [],_ => exact ⟨rfl,rfl⟩
  | [_],_ => exact ⟨rfl,rfl⟩
  | y :: x :: vs,hv =>
   simp only
   have hv' : ∀ v ∈ vs,v.Nice C ch:=fun v hm => hv v (List.mem_cons_of_mem _ (List.mem_cons_of_mem _ hm))
   split
   ·exact ⟨rfl,rfl⟩
   ·split
    ·rename_i v e
     refine same_res hz hf (cons_nice ?_ hv')
     unfold opV at e
     simp only at e
     repeat' split at e
     all_goals first
      | (obtain rfl:=Option.some.inj e;exact vaI_nice _ _)
      | (cases e)
    ·exact ⟨rfl,rfl⟩
 rw [if_neg c10,if_neg c10]
 by_cases c12 : f.e.k = 12
 ·rw [if_pos c12,if_pos c12]
  unfold sLst
  by_cases ca : f.at_ < 2
  ·rw [if_pos ca,if_pos ca]
   exact same_part hz h hf hv h.2
  rw [if_neg ca,if_neg ca]
  refine RsSame.tick ?_
  match vs,hv with
  | [],_ => exact ⟨rfl,rfl⟩
  | [_],_ => exact ⟨rfl,rfl⟩
  | l :: x :: vs,hv =>
   simp only
   have hx:=hv x (List.mem_cons_of_mem _ List.mem_cons_self)
   have hl':=hv l List.mem_cons_self
   split
   ·exact ⟨rfl,rfl⟩
   ·exact same_res hz hf (cons_nice ⟨trivial,Vl.Nice.push hx hl'.2.1,trivial⟩ fun v hm => hv v (List.mem_cons_of_mem _ (List.mem_cons_of_mem _ hm)))
 rw [if_neg c12,if_neg c12]
 by_cases c13 : f.e.k = 13
 ·rw [if_pos c13,if_pos c13]
  unfold sCase
  by_cases ca : f.at_ = 0
  ·rw [if_pos ca,if_pos ca]
   exact same_part hz h hf hv h.2
  rw [if_neg ca,if_neg ca]
  by_cases cb : f.at_ = 1
  ·rw [if_pos cb,if_pos cb]
   refine RsSame.tick ?_
   match vs,hv with
   | [],_ => exact ⟨rfl,rfl⟩
   | x :: vs,hv =>
    simp only
    have hx:=hv x List.mem_cons_self
    have hv' : ∀ v ∈ vs,v.Nice C ch:=fun v hm => hv v (List.mem_cons_of_mem _ hm)
    split
    ·exact ⟨rfl,rfl⟩
    ·split
     ·exact same_instead hz h hf hv'
     ·rename_i _ k i l p q b e r hxl
      have hx2:=hx.2.1
      rw [hxl] at hx2
      exact same_part hz h hf hv' ((h.2.snoc ⟨hx2.1,hx2.2.1,hx2.2.2.1⟩).snoc ⟨trivial,hx2.2.2.2,trivial⟩)
  rw [if_neg cb,if_neg cb]
  exact RsSame.tick (RsSame.tick (same_res hz hf hv))
 rw [if_neg c13,if_neg c13]
 by_cases c14 : f.e.k = 14
 ·rw [if_pos c14,if_pos c14]
  have hnc : ¬ ch:=fun hc => h.1.1.2 hc c14
  obtain rfl:=hz hnc
  exact RsSame.tick (same_res (fun _ => rfl) hf (cons_nice (vaI_nice _ _) hv))
 rw [if_neg c14,if_neg c14]
 exact ⟨rfl,rfl⟩
theorem ev_same {look look' : ByteArray → Int → Option Xp} (hl : ∀ p i,C p i → look p i = look' p i) (hN : ∀ p i x,C p i → look p i = some x → x.Nice C ch p) :
  ∀ {t t' : Nat} {s s' : Es} {r r' : Va × Int × Int},EsSame C ch s s' → Ev look L s r t → Ev look' L s' r' t' → r = r':=by
 intro t
 induction t with
 | zero =>
  rintro t' ⟨n,z,fs,vs⟩ ⟨n',z',fs',vs'⟩ r r' ⟨h1,h2,h3,h4,h5,h6⟩ ha hb
  simp only at h1 h2 h3 h4 h5 h6
  subst h1 h3 h4
  cases ha with
  | stop h =>
   cases hb with
   | stop _ => rfl
   | done h' => omega
  | done h =>
   cases hb with
   | stop _ => omega
   | done h' => rfl
  | bad h =>
   have hs:=step_same (L:=L) (n:=n) hl hN h2 (h5 _ List.mem_cons_self) (fun g hg => h5 g (List.mem_cons_of_mem _ hg)) h6
   rw [h] at hs
   cases hb with
   | bad h' =>
    rw [h'] at hs
    obtain ⟨rfl,rfl⟩:=hs
    rfl
   | step h' _ =>
    rw [h'] at hs
    exact hs.elim
 | succ t ih =>
  rintro t' ⟨n,z,fs,vs⟩ ⟨n',z',fs',vs'⟩ r r' ⟨h1,h2,h3,h4,h5,h6⟩ ha hb
  simp only at h1 h2 h3 h4 h5 h6
  subst h1 h3 h4
  cases ha with
  | step h ha =>
   have hs:=step_same (L:=L) (n:=n) hl hN h2 (h5 _ List.mem_cons_self) (fun g hg => h5 g (List.mem_cons_of_mem _ hg)) h6
   rw [h] at hs
   cases hb with
   | bad h' =>
    rw [h'] at hs
    exact hs.elim
   | step h' hb =>
    rw [h'] at hs
    exact ih hs ha hb
end
end Go.Proofs.YtnfndgmlnoeelaaGreatDoor
/- How large the evaluator's state gets along a run -/
namespace Go.Proofs.YtnfndgmlnoeelaaGreatDoor
open Go Go.RowKit Go.Proofs
def Sk.Fit (S : ByteArray → Prop) (I : Int → Prop) : Sk → Prop
 | .nil => True
 | .cons _ n _ i _ s r => (S n ∧ I i) ∧ s.Fit S I ∧ r.Fit S I
structure Xp.Fit (S : ByteArray → Prop) (I : Int → Prop) (M : Nat) (x : Xp) : Prop where
 n : S x.n
 i : I x.i
 s : x.s.Fit S I
 c : x.s.count ≤ M
def Vl.Sz (S : ByteArray → Prop) (I : Int → Prop) (M B : Nat) : Vl → Prop
 | .nil => True
 | .cons _ k _ l p _ b e r => (S p ∧ b.Fit S I ∧ b.count ≤ M ∧ k ≠ 0) ∧ (l.len ≤ B ∧ l.Sz S I M B) ∧ (e.len ≤ B ∧ e.Sz S I M B) ∧ r.Sz S I M B
def Va.Sz (S : ByteArray → Prop) (I : Int → Prop) (M B : Nat) (v : Va) : Prop:=(S v.p ∧ v.b.Fit S I ∧ v.b.count ≤ M ∧ v.k ≠ 0) ∧ (v.l.len ≤ B ∧ v.l.Sz S I M B) ∧ (v.e.len ≤ B ∧ v.e.Sz S I M B)
structure Fe.Sz (S : ByteArray → Prop) (I : Int → Prop) (M B : Nat) (f : Fe) : Prop where
 e : f.e.Fit S I M
 p : S f.p
 l : f.v.len ≤ B
 v : f.v.Sz S I M B
structure EsB (S : ByteArray → Prop) (I : Int → Prop) (M : Nat) (s : Es) : Prop where
 n0 : 0 ≤ s.n
 fs : ∀ f ∈ s.fs,f.Sz S I M (2 * s.n.toNat)
 vs : ∀ v ∈ s.vs,v.Sz S I M (2 * s.n.toNat)
 ln : s.fs.length + pot s.fs ≤ (s.n.toNat + 1) * (2 * M + 2)
def Rs.B (S : ByteArray → Prop) (I : Int → Prop) (M : Nat) : Rs → Prop
 | .go s => EsB S I M s
 | .bad _ _ => True
section
variable {S : ByteArray → Prop} {I : Int → Prop} {M B B' : Nat}
theorem Vl.Sz.mono (hB : B ≤ B') : ∀ {l : Vl},l.Sz S I M B → l.Sz S I M B'
 | .nil,_ => trivial
 | .cons _ _ _ l _ _ _ e r,h => ⟨h.1,⟨Nat.le_trans h.2.1.1 hB,Vl.Sz.mono hB (l:=l) h.2.1.2⟩,⟨Nat.le_trans h.2.2.1.1 hB,Vl.Sz.mono hB (l:=e) h.2.2.1.2⟩,Vl.Sz.mono hB (l:=r) h.2.2.2⟩
theorem Va.Sz.mono (hB : B ≤ B') {v : Va} (h : v.Sz S I M B) : v.Sz S I M B':=⟨h.1,⟨Nat.le_trans h.2.1.1 hB,h.2.1.2.mono hB⟩,⟨Nat.le_trans h.2.2.1 hB,h.2.2.2.mono hB⟩⟩
theorem Fe.Sz.mono (hB : B ≤ B') {f : Fe} (h : f.Sz S I M B) : f.Sz S I M B':=⟨h.e,h.p,Nat.le_trans h.l hB,h.v.mono hB⟩
theorem Sk.at_count : ∀ {s : Sk} {j : Nat} {x : Xp},s.at j = some x → x.s.count ≤ s.count
 | .nil,_,_,h => by simp [Sk.at] at h
 | .cons k n m i d s r,0,x,e => by
  simp only [Sk.at,Option.some.injEq] at e
  subst e
  simp only [Sk.count]
  omega
 | .cons _ _ _ _ _ s r,j + 1,x,e => by
  have:=Sk.at_count (s:=r) (j:=j) e
  simp only [Sk.count]
  omega
theorem Sk.drop_count : ∀ (s : Sk) (j : Nat),(s.drop j).count ≤ s.count
 | .nil,_ => Nat.le_refl _
 | .cons _ _ _ _ _ _ _,0 => Nat.le_refl _
 | .cons _ _ _ _ _ s r,j + 1 => by
  have:=Sk.drop_count r j
  simp only [Sk.drop,Sk.count]
  omega
theorem Sk.Fit.at : ∀ {s : Sk} {j : Nat} {x : Xp},s.Fit S I → s.at j = some x → S x.n ∧ I x.i ∧ x.s.Fit S I
 | .nil,_,_,_,h => by simp [Sk.at] at h
 | .cons k n m i d s r,0,x,h,e => by
  simp only [Sk.at,Option.some.injEq] at e
  subst e
  exact ⟨h.1.1,h.1.2,h.2.1⟩
 | .cons _ _ _ _ _ _ r,j + 1,x,h,e => Sk.Fit.at (s:=r) h.2.2 e
theorem Xp.Fit.at {y x : Xp} {j : Nat} (h : y.Fit S I M) (e : y.s.at j = some x) : x.Fit S I M:=
 ⟨(h.s.at e).1,(h.s.at e).2.1,(h.s.at e).2.2,Nat.le_trans (Sk.at_count e) h.c⟩
theorem Vl.Sz.at : ∀ {l : Vl} {j : Nat} {x : ByteArray × Va},l.Sz S I M B → l.at j = some x → x.2.Sz S I M B
 | .nil,_,_,_,h => by simp [Vl.at] at h
 | .cons y k i l p q b e r,0,x,h,e' => by
  simp only [Vl.at,Option.some.injEq] at e'
  subst e'
  exact ⟨h.1,h.2.1,h.2.2.1⟩
 | .cons _ _ _ _ _ _ _ _ r,j + 1,x,h,e => Vl.Sz.at (l:=r) h.2.2.2 e
theorem Vl.Sz.look {e : Vl} {x : ByteArray} (h : e.Sz S I M B) : ∀ {j : Nat} {v : Va},e.look x j = some v → v.Sz S I M B
 | 0,v,h' => by simp [Vl.look] at h'
 | j + 1,v,h' => by
  unfold Vl.look at h'
  split at h'
  ·rename_i y u hat
   split at h'
   ·obtain rfl:=Option.some.inj h'
    exact Vl.Sz.at h hat
   ·exact Vl.Sz.look h h'
  ·exact Vl.Sz.look h h'
theorem Vl.Sz.push {r : Vl} {x : ByteArray} {v : Va} (hv : v.Sz S I M B) (h : r.Sz S I M B) : (Vl.push x v r).Sz S I M B:=⟨hv.1,hv.2.1,hv.2.2,h⟩
theorem Vl.Sz.snoc : ∀ {e : Vl} {x : ByteArray} {v : Va},e.Sz S I M B → v.Sz S I M B → (e.snoc x v).Sz S I M B
 | .nil,_,_,_,hv => Vl.Sz.push hv trivial
 | .cons _ _ _ _ _ _ _ _ r,_,_,h,hv => ⟨h.1,h.2.1,h.2.2.1,Vl.Sz.snoc (e:=r) h.2.2.2 hv⟩
theorem Vl.snoc_lenB : ∀ (l : Vl) (x : ByteArray) (v : Va),(l.snoc x v).len = l.len + 1
 | .nil,_,_ => rfl
 | .cons _ _ _ _ _ _ _ _ r,x,v => by simp [Vl.snoc,Vl.len,Vl.snoc_lenB r]
theorem vaI_sz (hS : S noB) (k i : Int) (hk : k ≠ 0) : (vaI k i).Sz S I M B:=⟨⟨hS,trivial,Nat.zero_le _,hk⟩,⟨Nat.zero_le _,trivial⟩,⟨Nat.zero_le _,trivial⟩⟩
variable {L n n' z z' : Int} {f : Fe} {fs : List Fe} {vs vs' : List Va}
theorem Rs.B.tick {r : Rs} (h : r.B S I M) : (tick L n r).B S I M:=by
 unfold Go.Proofs.YtnfndgmlnoeelaaGreatDoor.tick
 split
 ·exact trivial
 ·exact h
theorem mul_up {a b c : Nat} (h : a ≤ b) : (a + 1) * c ≤ (b + 1) * c:=Nat.mul_le_mul_right _ (by omega)
theorem mul_up1 {a b c : Nat} (h : a + 1 ≤ b) : (a + 1) * c + c ≤ (b + 1) * c:=by
 have:=mul_up (c:=c) h
 rw [Nat.succ_mul] at this
 omega
theorem EsB.ended (h : EsB S I M ⟨n,z,f :: fs,vs⟩) (hn : n ≤ n') (hv : ∀ v ∈ vs',v.Sz S I M (2 * n.toNat)) : EsB S I M ⟨n',z',fs,vs'⟩:=by
 obtain ⟨h0,h1,h2,h3⟩:=h
 simp only at h0 h1 h2 h3
 have hb : 2 * n.toNat ≤ 2 * n'.toNat:=by omega
 refine ⟨show (0 : Int) ≤ n' by omega,fun g hg => (h1 g (List.mem_cons_of_mem _ hg)).mono hb,fun v hm => (hv v hm).mono hb,?_⟩
 have:=mul_up (c:=2 * M + 2) (show n.toNat ≤ n'.toNat by omega)
 simp only [List.length_cons,pot] at h3 ⊢
 omega
theorem EsB.resulted {v : Va} (h : EsB S I M ⟨n,z,f :: fs,vs⟩) (hn : n + 1 ≤ n') (hv : v.Sz S I M (2 * n'.toNat)) (hs : ∀ v ∈ vs',v.Sz S I M (2 * n.toNat)) : EsB S I M ⟨n',z',fs,v :: vs'⟩:=by
 obtain ⟨h0,h1,h2,h3⟩:=h.ended (n':=n') (z':=z') (by omega) hs
 refine ⟨h0,h1,fun u hu => ?_,h3⟩
 rcases List.mem_cons.1 hu with rfl | hu
 ·exact hv
 ·exact h2 u hu
theorem EsB.put (h : EsB S I M ⟨n,z,f :: fs,vs⟩) (hn : n ≤ n') (a : Nat) : ∀ g ∈ f.put a :: fs,g.Sz S I M (2 * n'.toNat):=fun g hg => by
 have h0:=h.n0
 simp only at h0
 have hb : 2 * n.toNat ≤ 2 * n'.toNat:=by omega
 rcases List.mem_cons.1 hg with rfl | hg
 ·have:=(h.fs f List.mem_cons_self).mono hb
  exact ⟨this.e,this.p,this.l,this.v⟩
 ·exact (h.fs g (List.mem_cons_of_mem _ hg)).mono hb
theorem EsB.begun {e : Xp} {a : Nat} {p : ByteArray} {v : Vl} (h : EsB S I M ⟨n,z,f :: fs,vs⟩) (hn : n + 1 ≤ n') (he : e.Fit S I M) (hp : S p) (hl : v.len ≤ 2 * n'.toNat) (hv : v.Sz S I M (2 * n'.toNat)) (hs : ∀ v ∈ vs',v.Sz S I M (2 * n.toNat)) :
  EsB S I M ⟨n',z',⟨e,0,p,v⟩ :: f.put a :: fs,vs'⟩:=by
 have h0:=h.n0
 have h3:=h.ln
 simp only at h0
 have hb : 2 * n.toNat ≤ 2 * n'.toNat:=by omega
 refine ⟨show (0 : Int) ≤ n' by omega,fun g hg => ?_,fun v hm => (hs v hm).mono hb,?_⟩
 ·rcases List.mem_cons.1 hg with rfl | hg
  ·exact ⟨he,hp,hl,hv⟩
  ·exact h.put (show n ≤ n' by omega) a g hg
 ·have:=mul_up1 (c:=2 * M + 2) (show n.toNat + 1 ≤ n'.toNat by omega)
  have c1:=Sk.drop_count e.s 0
  have c2:=Sk.drop_count f.e.s a
  have c3:=he.c
  have c4:=(h.fs f List.mem_cons_self).e.c
  simp only [List.length_cons,pot,Fe.pot,Fe.put] at h3 ⊢
  omega
theorem EsB.part {j a : Nat} {v : Vl} (h : EsB S I M ⟨n,z,f :: fs,vs⟩) (hn : n + 1 ≤ n') (hl : v.len ≤ 2 * n'.toNat) (hv : v.Sz S I M (2 * n'.toNat)) (hs : ∀ v ∈ vs',v.Sz S I M (2 * n.toNat)) : (partR n' z' f j a v fs vs').B S I M:=by
 unfold partR
 split
 ·rename_i e he
  have hf:=h.fs f List.mem_cons_self
  exact h.begun hn (hf.e.at he) hf.p hl hv hs
 ·exact trivial
theorem EsB.part0 (h : EsB S I M ⟨n,z,f :: fs,vs⟩) : (partR n z f f.at_ (f.at_ + 1) f.v fs vs).B S I M:=by
 unfold partR
 split
 ·rename_i e he
  have hf:=h.fs f List.mem_cons_self
  refine ⟨h.n0,fun g hg => ?_,h.vs,?_⟩
  ·rcases List.mem_cons.1 hg with rfl | hg
   ·exact ⟨hf.e.at he,hf.p,hf.l,hf.v⟩
   ·exact h.put (Int.le_refl _) _ g hg
  ·have h3:=h.ln
   have hd:=Sk.drop_at he
   simp only [List.length_cons,pot,Fe.pot,Fe.put,Sk.drop_zero] at h3 ⊢
   omega
 ·exact trivial
theorem EsB.part00 (h : EsB S I M ⟨n,z,f :: fs,vs⟩) (ha : f.at_ = 0) : (partR n z f 0 1 f.v fs vs).B S I M:=by
 have:=h.part0
 rw [ha] at this
 exact this
theorem EsB.instead {j : Nat} (h : EsB S I M ⟨n,z,f :: fs,vs⟩) (hn : n + 1 ≤ n') (hs : ∀ v ∈ vs',v.Sz S I M (2 * n.toNat)) : (insteadR n' z' f j fs vs').B S I M:=by
 unfold insteadR
 split
 ·rename_i e he
  have hf:=h.fs f List.mem_cons_self
  have h0:=h.n0
  simp only at h0
  have hb : 2 * n.toNat ≤ 2 * n'.toNat:=by omega
  refine ⟨show (0 : Int) ≤ n' by omega,fun g hg => ?_,fun v hm => (hs v hm).mono hb,?_⟩
  ·rcases List.mem_cons.1 hg with rfl | hg
   ·have:=hf.mono hb
    exact ⟨hf.e.at he,hf.p,this.l,this.v⟩
   ·exact (h.fs g (List.mem_cons_of_mem _ hg)).mono hb
  ·have:=mul_up1 (c:=2 * M + 2) (show n.toNat + 1 ≤ n'.toNat by omega)
   have h3:=h.ln
   have c3:=(hf.e.at he).c
   have c1:=Sk.drop_count e.s 0
   simp only [List.length_cons,pot,Fe.pot] at h3 ⊢
   omega
 ·exact trivial
theorem EsB.up (h : EsB S I M ⟨n,z,f :: fs,vs⟩) : 2 * n.toNat + 2 ≤ 2 * (n + 1).toNat:=by
 have h0:=h.n0
 simp only at h0
 omega
theorem stepE_sz {look : ByteArray → Int → Option Xp} (hS : S noB) (hL : ∀ p i x,look p i = some x → x.Fit S I M) (h : EsB S I M ⟨n,z,f :: fs,vs⟩) : (stepE look L n z f fs vs).B S I M:=by
 have hu:=h.up
 have hva : ∀ v ∈ vs,v.Sz S I M (2 * n.toNat):=h.vs
 have hf:=h.fs f List.mem_cons_self
 have hm : 2 * n.toNat ≤ 2 * (n + 1).toNat:=by omega
 simp only at hf
 have hf':=hf.mono hm
 unfold stepE
 by_cases c1 : f.e.k = 1 ∨ f.e.k = 2 ∨ f.e.k = 11
 ·rw [if_pos c1]
  refine Rs.B.tick (h.resulted (Int.le_refl _) ?_ hva)
  split
  ·exact vaI_sz hS _ _ (by decide)
  ·split
   ·exact vaI_sz hS _ _ (by decide)
   ·exact vaI_sz hS _ _ (by decide)
 rw [if_neg c1]
 by_cases c3 : f.e.k = 3
 ·rw [if_pos c3]
  refine Rs.B.tick ?_
  split
  ·rename_i v e
   exact h.resulted (Int.le_refl _) (hf'.v.look e) hva
  ·exact trivial
 rw [if_neg c3]
 by_cases c4 : f.e.k = 4
 ·rw [if_pos c4]
  exact Rs.B.tick trivial
 rw [if_neg c4]
 by_cases c5 : f.e.k = 5
 ·rw [if_pos c5]
  refine Rs.B.tick ?_
  by_cases ca : f.at_ = 1
  ·rw [if_pos ca]
   exact h.ended (by omega) hva
  ·rw [if_neg ca]
   split
   ·rename_i b e
    refine h.begun (Int.le_refl _) (hL _ _ _ e) ?_ (Nat.zero_le _) trivial hva
    split
    ·exact hf.p
    ·exact hf.e.n
   ·exact trivial
 rw [if_neg c5]
 by_cases c6 : f.e.k = 6
 ·rw [if_pos c6]
  exact Rs.B.tick (h.resulted (Int.le_refl _) ⟨⟨hf.p,hf.e.s,hf.e.c,show (4 : Int) ≠ 0 by decide⟩,⟨Nat.zero_le _,trivial⟩,⟨hf'.l,hf'.v⟩⟩ hva)
 rw [if_neg c6]
 by_cases c7 : f.e.k = 7
 ·rw [if_pos c7]
  unfold sCall
  by_cases ca : f.at_ < 2
  ·rw [if_pos ca]
   exact h.part0
  rw [if_neg ca]
  by_cases cb : f.at_ = 2
  ·rw [if_pos cb]
   refine Rs.B.tick ?_
   match vs,hva with
   | [],_ => exact trivial
   | [_],_ => exact trivial
   | x :: g :: vs,hva =>
    simp only
    have hx:=(hva x List.mem_cons_self).mono hm
    have hg:=hva g (List.mem_cons_of_mem _ List.mem_cons_self)
    have hg':=hg.mono hm
    split
    ·exact trivial
    ·split
     ·rename_i b hb
      have hft:=hg.1.2.1.at hb
      refine h.begun (Int.le_refl _) ⟨hft.1,hft.2.1,hft.2.2,Nat.le_trans (Sk.at_count hb) hg.1.2.2.1⟩ hg.1.1 ?_ (hg'.2.2.2.snoc hx) (fun v hm => hva v (List.mem_cons_of_mem _ (List.mem_cons_of_mem _ hm)))
      rw [Vl.snoc_lenB]
      have:=hg.2.2.1
      omega
     ·exact trivial
  rw [if_neg cb]
  exact Rs.B.tick (h.ended (by omega) hva)
 rw [if_neg c7]
 by_cases c8 : f.e.k = 8
 ·rw [if_pos c8]
  unfold sLet
  by_cases ca : f.at_ = 0
  ·rw [if_pos ca]
   exact h.part00 ca
  rw [if_neg ca]
  by_cases cb : f.at_ = 1
  ·rw [if_pos cb]
   refine Rs.B.tick ?_
   match vs,hva with
   | [],_ => exact trivial
   | x :: vs,hva =>
    simp only
    refine h.part (Int.le_refl _) ?_ (hf'.v.snoc ((hva x List.mem_cons_self).mono hm)) (fun v hm => hva v (List.mem_cons_of_mem _ hm))
    rw [Vl.snoc_lenB]
    have:=hf.l
    omega
  rw [if_neg cb]
  exact Rs.B.tick (h.ended (by omega) hva)
 rw [if_neg c8]
 by_cases c9 : f.e.k = 9
 ·rw [if_pos c9]
  unfold sIf
  by_cases ca : f.at_ = 0
  ·rw [if_pos ca]
   exact h.part00 ca
  rw [if_neg ca]
  by_cases cb : f.at_ = 1
  ·rw [if_pos cb]
   refine Rs.B.tick ?_
   match vs,hva with
   | [],_ => exact trivial
   | x :: vs,hva =>
    simp only
    split
    ·exact trivial
    ·split
     ·exact h.part (Int.le_refl _) hf'.l hf'.v (fun v hm => hva v (List.mem_cons_of_mem _ hm))
     ·exact h.instead (Int.le_refl _) (fun v hm => hva v (List.mem_cons_of_mem _ hm))
  rw [if_neg cb]
  exact Rs.B.tick (h.ended (by omega) hva)
 rw [if_neg c9]
 by_cases c10 : f.e.k = 10
 ·rw [if_pos c10]
  unfold sOp
  by_cases ca : f.at_ < 2
  ·rw [if_pos ca]
   exact h.part0
  rw [if_neg ca]
  refine Rs.B.tick ?_
  match vs,hva with
  | [],_ => exact trivial
  | [_],_ => exact trivial
  | y :: x :: vs,hva =>
   simp only
   split
   ·exact trivial
   ·split
    ·rename_i v e
     refine h.resulted (Int.le_refl _) ?_ (fun v hm => hva v (List.mem_cons_of_mem _ (List.mem_cons_of_mem _ hm)))
     unfold opV at e
     simp only at e
     repeat' split at e
     all_goals first
      | (obtain rfl:=Option.some.inj e;exact vaI_sz hS _ _ (by decide))
      | (cases e)
    ·exact trivial
 rw [if_neg c10]
 by_cases c12 : f.e.k = 12
 ·rw [if_pos c12]
  unfold sLst
  by_cases ca : f.at_ < 2
  ·rw [if_pos ca]
   exact h.part0
  rw [if_neg ca]
  refine Rs.B.tick ?_
  match vs,hva with
  | [],_ => exact trivial
  | [_],_ => exact trivial
  | l :: x :: vs,hva =>
   simp only
   split
   ·exact trivial
   ·have hx:=(hva x (List.mem_cons_of_mem _ List.mem_cons_self)).mono hm
    have hl0:=hva l List.mem_cons_self
    have hl':=hl0.mono hm
    refine h.resulted (Int.le_refl _) ⟨⟨hS,trivial,Nat.zero_le _,show (3 : Int) ≠ 0 by decide⟩,⟨?_,Vl.Sz.push hx hl'.2.1.2⟩,⟨Nat.zero_le _,trivial⟩⟩ (fun v hm => hva v (List.mem_cons_of_mem _ (List.mem_cons_of_mem _ hm)))
    show l.l.len + 1 ≤ _
    have:=hl0.2.1.1
    omega
 rw [if_neg c12]
 by_cases c13 : f.e.k = 13
 ·rw [if_pos c13]
  unfold sCase
  by_cases ca : f.at_ = 0
  ·rw [if_pos ca]
   exact h.part00 ca
  rw [if_neg ca]
  by_cases cb : f.at_ = 1
  ·rw [if_pos cb]
   refine Rs.B.tick ?_
   match vs,hva with
   | [],_ => exact trivial
   | x :: vs,hva =>
    simp only
    have hx:=(hva x List.mem_cons_self)
    have hva' : ∀ v ∈ vs,v.Sz S I M (2 * n.toNat):=fun v hm => hva v (List.mem_cons_of_mem _ hm)
    split
    ·exact trivial
    ·split
     ·exact h.instead (Int.le_refl _) hva'
     ·rename_i _ k i l p q b e r hxl
      have hx2:=hx.2.1
      rw [hxl] at hx2
      have hx3:=hx2.2.mono hm
      have hxr : r.len + 1 ≤ 2 * n.toNat:=hx2.1
      refine h.part (Int.le_refl _) ?_ ((hf'.v.snoc ⟨hx3.1,hx3.2.1,hx3.2.2.1⟩).snoc ⟨⟨hS,trivial,Nat.zero_le _,show (3 : Int) ≠ 0 by decide⟩,⟨by show r.len ≤ _;omega,hx3.2.2.2⟩,⟨Nat.zero_le _,trivial⟩⟩) hva'
      rw [Vl.snoc_lenB,Vl.snoc_lenB]
      have:=hf.l
      omega
  rw [if_neg cb]
  exact Rs.B.tick (Rs.B.tick (h.ended (by omega) hva))
 rw [if_neg c13]
 by_cases c14 : f.e.k = 14
 ·rw [if_pos c14]
  exact Rs.B.tick (h.resulted (Int.le_refl _) (vaI_sz hS _ _ (by decide)) hva)
 rw [if_neg c14]
 exact trivial
theorem under_le : ∀ (fs : List Fe),(∀ f ∈ fs,f.Ok) → under fs ≤ 2 * fs.length
 | [],_ => Nat.le_refl _
 | f :: r,h => by
  have ih:=under_le r fun g hg => h g (List.mem_cons_of_mem _ hg)
  obtain ⟨_,_,a7,a8,a9,a13,a10,a12,a5⟩:=h f List.mem_cons_self
  have : held f.e.k f.at_ ≤ 3:=by
   unfold held
   split
   ·split
    ·omega
    ·rename_i c _
     have:=a7 c
     omega
   ·split
    ·split <;> omega
    ·split
     ·rename_i c
      rcases c with c | c | c
      ·have:=a10 c
       omega
      ·have:=a12 c
       omega
      ·have:=a5 c
       omega
     ·omega
  simp only [under,List.length_cons]
  omega
theorem EsB.lens {s : Es} (h : EsB S I M s) (ho : s.Ok) (hM : M ≤ 400) (hn : s.n ≤ 100000) : s.fs.length ≤ 100000000 ∧ s.vs.length ≤ 300000000:=by
 have h0:=h.n0
 have h3:=h.ln
 have hk : (s.n.toNat + 1) * (2 * M + 2) ≤ 100001 * 802:=Nat.mul_le_mul (by omega) (by omega)
 have hf : s.fs.length ≤ 100000000:=by omega
 refine ⟨hf,?_⟩
 have hc:=ho.ct
 have hu:=under_le s.fs ho.fr
 revert hc hu hf
 cases hfs : s.fs with
 | nil =>
  intro hf hc hu
  have hc : s.vs.length = 1:=hc
  omega
 | cons f r =>
  intro hf hc hu
  have hc : s.vs.length = held f.e.k f.at_ + under r:=hc
  simp only [under,List.length_cons] at hu hf
  have : held f.e.k f.at_ ≤ 3:=by
   have hh:=under_le [f] fun g hg => ho.fr g (by rw [hfs];exact List.mem_cons.2 (.inl (List.mem_singleton.1 hg)))
   simp only [under,List.length_cons,List.length_nil] at hh
   omega
  omega
end
end Go.Proofs.YtnfndgmlnoeelaaGreatDoor
