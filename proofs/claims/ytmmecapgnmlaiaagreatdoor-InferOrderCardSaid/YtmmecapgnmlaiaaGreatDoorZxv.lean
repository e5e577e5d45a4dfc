/- infer: the typer in memory -/
import Derived.Test.YtmmecapgnmlaiaaGreatDoorZxr
import Derived.Test.YtmmecapgnmlaiaaGreatDoorZxu
import Derived.Test.YtmmecapgnmlaiaaGreatDoorZxb
namespace Go.Proofs.YtmmecapgnmlaiaaGreatDoor
open Go Go.RowKit Go.Proofs Go.Proofs.Unify
structure TyC where
 tb : Nat
 sb : Nat
 gb : Nat
 fb : Nat
 c0 : Value
 c1 : Value
 c2 : Value
 c3 : Value
 n0 : Nat
 sc : Sc
def PT (D : Nat → Prop) (X : World) (k : Nat) : Prop:=D k ∨ TgT X k
def zeroSch : Value:=.agg #[.int .i64 0,.int .i64 0,.int .i64 0,.slice none 0 0]
def TyE (C : TyC) (v : Value) (k : Nat) : Prop:=k = C.tb ∨ k = C.fb ∨ v.ownBlock = some k
structure TyI (D : Nat → Prop) (C : TyC) (X : World) (v : Value) (ix : List Nat) (σ : Tst) (nf : Nat) : Prop where
 box : X.heap[C.tb]? = some (.cells #[C.c0,C.c1,C.c2,C.c3,.map (some C.sb),.map (some C.gb),v,.map (some C.fb),.bool σ.fl] 95 (0,0))
 row : X.ownsRow C.n0 144 1 v σ.ns.length (σ.ns.map fun j => nP (blk ix j))
 st : StH D (TyE C v) X ix σ.S (fun _ => 0)
 gm : ∃ N,MapA intK X C.gb N (vsF ix C.sc.G)
 sm : ∃ N g,MapA intK X C.sb N g ∧ ∀ a,intK.ok a → ∃ q A c,(g a).getD zeroSch = .agg #[.int .i64 q,.int .i64 (C.sc.sch a).1,.int .i64 (C.sc.sch a).2.1,.slice A (C.sc.sch a).2.2.len c] ∧ (C.sc.sch a).2.2.Sl X (PT D X) A c
 fm : ∃ g,MapA nameK X C.fb nf g ∧ ∀ a,nameK.ok a → g a = none ∨ ∃ q A c,g a = some (.agg #[.int .i64 q,.int .i64 (C.sc.frn a).1,.int .i64 (C.sc.frn a).2.1,.slice A (C.sc.frn a).2.2.len c]) ∧ (C.sc.frn a).2.2.Sl X (PT D X) A c
 mem : ∀ j ∈ σ.ns,j < σ.S.length
 gmem : ∀ x ∈ C.sc.G,x.2 < σ.S.length
 dlt : ∀ k,D k → k < C.n0
 tn : C.n0 ≤ X.heap.size
 dt : ¬ D C.tb
 df : ¬ D C.fb
section
variable {D : Nat → Prop} {C : TyC} {X Y : World} {v : Value} {ix : List Nat} {σ : Tst} {nf : Nat}
theorem MapA.not {α : Type} {K : KeyT α} {w : World} {b N : Nat} {g : α → Option Value} (h : MapA K w b N g) : ¬ TgN w b ∧ ¬ TgT w b:=by
 obtain ⟨n,Dd,⟨es,cl,h1,_⟩,_⟩:=h
 refine ⟨TgN.notMap h1,fun ⟨cur,fz,h2⟩ => ?_⟩
 rw [h1] at h2
 simp at h2
theorem TyI.own (h : TyI D C X v ix σ nf) {g : Nat} (hg : v.ownBlock = some g) : C.n0 ≤ g ∧ g < X.heap.size ∧ ¬ TgN X g ∧ ¬ TgT X g:=by
 have h1:=h.row.lt g hg
 obtain ⟨c,fz,h2⟩:=Lib.ownsRow_kind h.row g hg
 refine ⟨h1.1,h1.2,TgN.not h2 (by decide),fun ⟨cur,fz,h3⟩ => ?_⟩
 rw [h2] at h3
 simp only [Option.some.injEq,Obj.cells.injEq] at h3
 exact absurd h3.2.1 (by decide)
theorem TyI.e (h : TyI D C X v ix σ nf) {k : Nat} (hk : TyE C v k) : ¬ D k ∧ ¬ TgT X k ∧ ¬ TgN X k ∧ k < X.heap.size:=by
 rcases hk with rfl | rfl | hk
 ·refine ⟨h.dt,fun ⟨cur,fz,h3⟩ => ?_,TgN.not h.box (by decide),(Array.getElem?_eq_some_iff.1 h.box).1⟩
  rw [h.box] at h3
  simp only [Option.some.injEq,Obj.cells.injEq] at h3
  exact absurd h3.2.1 (by decide)
 ·obtain ⟨g,hg,_⟩:=h.fm
  exact ⟨h.df,hg.not.2,hg.not.1,hg.lt⟩
 ·have:=h.own hk
  exact ⟨fun hd => by have:=h.dlt k hd;omega,this.2.2.2,this.2.2.1,this.2.1⟩
theorem TyI.pt (h : TyI D C X v ix σ nf) {E : Nat → Prop} (hk : Kx D E X Y) (hE : ∀ k,k < X.heap.size → E k → TyE C v k) {k : Nat} (hp : PT D X k) : Y.heap[k]? = X.heap[k]? ∧ PT D Y k:=by
 have hl : k < X.heap.size:=hp.elim (fun hd => by have:=h.dlt k hd;have:=h.tn;omega) (fun ht => ht.lt)
 have hne : ¬ E k:=fun he => by
  have h1:=h.e (hE k hl he)
  exact hp.elim h1.1 h1.2.1
 have e : Y.heap[k]? = X.heap[k]?:=hk.block k hl (hp.imp id fun ht => ht.not) hne
 exact ⟨e,hp.imp id fun ht => (TgT.congr e).2 ht⟩
theorem TyI.call (h : TyI D C X v ix σ nf) {y : List Nat} {S' : St} (hst : StH D (TyE C v) Y (ix ++ y) S' (fun _ => 0)) (hk : Kn D X Y) (hS : σ.S.length ≤ S'.length) : TyI D C Y v (ix ++ y) ⟨S',σ.ns,σ.fl⟩ nf:=by
 have hlen:=h.st.len
 have hkx:=hk.x (fun _ => False)
 have pt:=fun {k : Nat} => h.pt (k:=k) hkx (fun _ _ h => h.elim)
 obtain ⟨Ng,hg⟩:=h.gm
 obtain ⟨Ns,gs,hs1,hs2⟩:=h.sm
 obtain ⟨gf,hf1,hf2⟩:=h.fm
 have kp : ∀ k,k < X.heap.size → ¬ TgN X k → Y.heap[k]? = X.heap[k]?:=fun k hl hn => hk.block k hl (.inr hn)
 refine ⟨hk.box h.box (by decide),?_,hst,⟨Ng,?_⟩,⟨Ns,gs,hs1.keep (kp _ hs1.lt hs1.not.1),fun a ha => ?_⟩,⟨gf,hf1.keep (kp _ hf1.lt hf1.not.1),fun a ha => ?_⟩,fun j hj => Nat.lt_of_lt_of_le (h.mem j hj) hS,fun x hx => Nat.lt_of_lt_of_le (h.gmem x hx) hS,h.dlt,Nat.le_trans h.tn hk.size,h.dt,h.df⟩
 ·have e : (σ.ns.map fun j => nP (blk (ix ++ y) j)) = σ.ns.map fun j => nP (blk ix j):=List.map_congr_left fun j hj => by rw [blk_app (by rw [hlen];exact h.mem j hj)]
  simp only
  rw [e]
  refine ⟨h.row.1,?_⟩
  rcases h.row.2 with h' | ⟨g,cap,cur,e1,e2,e3,e4⟩
  ·exact .inl h'
  ·exact .inr ⟨g,cap,cur,e1,e2,hk.box e3 (by decide),e4⟩
 ·rw [vsF_app (fun x hx => by rw [hlen];exact h.gmem x hx)]
  exact hg.keep (kp _ hg.lt hg.not.1)
 ·obtain ⟨q,A,c,e,hsl⟩:=hs2 a ha
  exact ⟨q,A,c,e,hsl.keep (fun k hp => (pt hp).1) fun k hp => (pt hp).2⟩
 ·rcases hf2 a ha with e | ⟨q,A,c,e,hsl⟩
  ·exact .inl e
  ·exact .inr ⟨q,A,c,e,hsl.keep (fun k hp => (pt hp).1) fun k hp => (pt hp).2⟩
theorem TyI.below (h : TyI D C X v ix σ nf) (hb : Below X.heap.size X Y) : TyI D C Y v ix σ nf:=by
 have:=h.call (y:=[]) (Y:=Y) (S':=σ.S) (by rw [List.append_nil];exact h.st.keep hb) (Kn.below hb) (Nat.le_refl _)
 rw [List.append_nil] at this
 exact this
structure TyK (D : Nat → Prop) (C : TyC) (X : World) (v : Value) (Y : World) (v' : Value) : Prop where
 kx : Kx D (TyE C v) X Y
 own : ∀ g,v'.ownBlock = some g → v.ownBlock = some g ∨ X.heap.size ≤ g
theorem TyK.refl (X : World) (v : Value) : TyK D C X v X v:=⟨Kx.refl _ _,fun _ h => .inl h⟩
theorem TyK.trans {Z : World} {v' v'' : Value} (h : TyK D C X v Y v') (g : TyK D C Y v' Z v'') : TyK D C X v Z v'':=
 ⟨h.kx.trans g.kx fun k hk he => he.imp id fun he => he.imp id fun he => (h.own k he).elim id fun h' => by omega,fun k hk => (g.own k hk).elim (fun h' => h.own k h') fun h' => .inr (Nat.le_trans h.kx.size h')⟩
theorem TyK.kn (h : Kn D X Y) : TyK D C X v Y v:=⟨h.x _,fun _ h => .inl h⟩
theorem TyK.below (h : Below X.heap.size X Y) : TyK D C X v Y v:=TyK.kn (Kn.below h)
def TyP (D : Nat → Prop) (C : TyC) (X : World) (v : Value) (ix : List Nat) (nf : Nat) (R : Nat × Tst) (n : Nat) (e : Ending) (Y : World) : Prop:=
 ∃ v' ix' nf',e = .returned (nP (blk ix' R.1)) ∧ (∃ y,ix' = ix ++ y) ∧ TyI D C Y v' ix' R.2 nf' ∧ nf' ≤ nf + n ∧ TyK D C X v Y v'
end
section
variable {D : Nat → Prop} {C : TyC} {X Y : World} {v : Value} {ix : List Nat} {σ : Tst} {nf : Nat}
theorem row9 {W : World} {b : Nat} {t : TypeId} {c0 c1 c2 c3 c4 c5 c6 c7 c8 : Value} (h : W.heap[b]? = some (.cells #[c0,c1,c2,c3,c4,c5,c6,c7,c8] t (0,0))) :
  W.cell? ⟨b,0,none⟩ = some c0 ∧ W.cell? ⟨b,1,none⟩ = some c1 ∧ W.cell? ⟨b,2,none⟩ = some c2 ∧ W.cell? ⟨b,3,none⟩ = some c3 ∧ W.cell? ⟨b,4,none⟩ = some c4 ∧ W.cell? ⟨b,5,none⟩ = some c5 ∧ W.cell? ⟨b,6,none⟩ = some c6 ∧ W.cell? ⟨b,7,none⟩ = some c7 ∧ W.cell? ⟨b,8,none⟩ = some c8 ∧ W.frozen? ⟨b,6,none⟩ = false ∧ W.frozen? ⟨b,8,none⟩ = false:=
 ⟨cell_of_row W b 0 _ _ (0,0) h,cell_of_row W b 1 _ _ (0,0) h,cell_of_row W b 2 _ _ (0,0) h,cell_of_row W b 3 _ _ (0,0) h,cell_of_row W b 4 _ _ (0,0) h,cell_of_row W b 5 _ _ (0,0) h,cell_of_row W b 6 _ _ (0,0) h,cell_of_row W b 7 _ _ (0,0) h,cell_of_row W b 8 _ _ (0,0) h,frozen_of_row W b 6 _ _ h,frozen_of_row W b 8 _ _ h⟩
theorem TyI.turn (h : TyI D C X v ix σ nf) {u : Value} {v' : Value} {q : Nat} {fl' : Bool} (hc : (#[C.c0,C.c1,C.c2,C.c3,.map (some C.sb),.map (some C.gb),v,.map (some C.fb),.bool σ.fl] : Array Value).setIfInBounds q u = #[C.c0,C.c1,C.c2,C.c3,.map (some C.sb),.map (some C.gb),v',.map (some C.fb),.bool fl'])
  (hv : v'.ownBlock = v.ownBlock) (hr : X.ownsRow C.n0 144 1 v' σ.ns.length (σ.ns.map fun j => nP (blk ix j))) :
  TyI D C (X.setCell ⟨C.tb,q,none⟩ u) v' ix ⟨σ.S,σ.ns,fl'⟩ nf ∧ TyK D C X v (X.setCell ⟨C.tb,q,none⟩ u) v':=by
 have hsame : ∀ k,k ≠ C.tb → (X.setCell ⟨C.tb,q,none⟩ u).heap[k]? = X.heap[k]?:=fun k hk => Below.heap_setCell _ _ _ _ hk
 have hbx:=heap_set (i:=q) h.box u
 rw [hc] at hbx
 have hsz : (X.setCell ⟨C.tb,q,none⟩ u).heap.size = X.heap.size:=by simp [World.setCell]
 have hkx : Kx D (TyE C v) X (X.setCell ⟨C.tb,q,none⟩ u):=Kx.set h.box (by decide) (.inl rfl) u
 have hE : TyE C v' = TyE C v:=by funext k;unfold TyE;rw [hv]
 obtain ⟨Ng,hg⟩:=h.gm
 obtain ⟨Ns,gs,hs1,hs2⟩:=h.sm
 obtain ⟨gf,hf1,hf2⟩:=h.fm
 have pt:=fun {k : Nat} => h.pt (k:=k) hkx (fun _ _ h => h)
 have nmap : ∀ {b : Nat} {es : Array MapEntry} {c : Nat},X.heap[b]? = some (.map es c) → b ≠ C.tb:=fun hb e => by rw [e,h.box] at hb;cases hb
 have hne : ∀ {α : Type} {K : KeyT α} {b N : Nat} {g : α → Option Value},MapA K X b N g → b ≠ C.tb:=fun hm => by
  obtain ⟨n,Dd,⟨es,cl,h1,_⟩,_⟩:=hm
  exact nmap h1
 refine ⟨⟨hbx,?_,?_,⟨Ng,hg.keep (hsame _ (hne hg))⟩,⟨Ns,gs,hs1.keep (hsame _ (hne hs1)),fun a ha => ?_⟩,⟨gf,hf1.keep (hsame _ (hne hf1)),fun a ha => ?_⟩,h.mem,h.gmem,h.dlt,by rw [hsz];exact h.tn,h.dt,h.df⟩,hkx,fun g hg => .inl (hv ▸ hg)⟩
 ·refine ⟨hr.1,?_⟩
  rcases hr.2 with h' | ⟨g,cap,cur,e1,e2,e3,e4⟩
  ·exact .inl h'
  ·exact .inr ⟨g,cap,cur,e1,e2,(hsame g fun e => by rw [e,h.box] at e3;simp at e3).trans e3,e4⟩
 ·rw [hE]
  refine h.st.shift (by omega) (fun k _ hm => hsame k fun e => hm (.inl e)) (fun k hk => .inl hk) (fun k hk => ?_)
  have h1:=h.e hk
  refine ⟨by omega,?_⟩
  by_cases e : k = C.tb
  ·subst e;exact TgN.not hbx (by decide)
  ·exact fun ht => h1.2.2.1 ((TgN.congr (hsame k e)).1 ht)
 ·obtain ⟨q,A,c,e,hsl⟩:=hs2 a ha
  exact ⟨q,A,c,e,hsl.keep (fun k hp => (pt hp).1) fun k hp => (pt hp).2⟩
 ·rcases hf2 a ha with e | ⟨q,A,c,e,hsl⟩
  ·exact .inl e
  ·exact .inr ⟨q,A,c,e,hsl.keep (fun k hp => (pt hp).1) fun k hp => (pt hp).2⟩
def SameP (D : Nat → Prop) (C : TyC) (X : World) (v : Value) (ix : List Nat) (nf : Nat) (σ : Tst) (e : Ending) (Y : World) : Prop:=e = .returned (.tuple #[]) ∧ TyI D C Y v ix σ nf ∧ TyK D C X v Y v
set_option maxRecDepth 100000 in
set_option maxHeartbeats 1000000 in
theorem same_any (h : TyI D C X v ix σ nf) (hw : Wf arP σ.S) {a b : Nat} (ha : a < σ.S.length) (hb : b < σ.S.length) :
  Calls Tryz.prog 96 #[.pointer (some ⟨C.tb,0,none⟩),nP (blk ix a),nP (blk ix b)] X (SameP D C X v ix nf (sameT σ a b)):=by
 obtain ⟨S,ns,fl⟩:=σ
 obtain ⟨x0,x1,x2,x3,x4,x5,x6,x7,x8,f6,f8⟩:=row9 h.box
 cases fl with
 | true =>
  have H:=Lib.hid h
  clear h hw ha hb x0 x1 x2 x3 x4 x5 x6 x7
  go_enter Tryz.func96,Tryz.ntmps96
  go_wp2
  go_end0
  exact ⟨rfl,H.out,TyK.refl _ _⟩
 | false =>
  have HU:=Lib.hid (unify_any arP arP_le (nr S) S a b ix (fun _ => 0) X hw ha hb (Nat.le_refl _) h.st)
  have HL:=Lib.hid (uniS_spec (vk:=5) arP (nr S) S a b hw ha hb (Nat.le_refl _)).len
  have HS:=Lib.hid (show sameT ⟨S,ns,false⟩ a b = ⟨(uniS 5 (nr S) S a b).2,ns,!(uniS 5 (nr S) S a b).1⟩ from rfl)
  generalize uniS 5 (nr S) S a b = q at HU HL HS
  obtain ⟨ok,Q⟩:=q
  have H:=Lib.hid h
  have HX:=Lib.hid (show ∀ w1 : World,StH D (TyE C v) w1 ix Q (fun _ => 0) → Kn D X w1 → TyI D C w1 v ix ⟨Q,ns,false⟩ nf from fun w1 h1 hk => by
   have:=h.call (y:=[]) (S':=Q) (by rw [List.append_nil];exact h1) hk (by rw [HL.out];exact Nat.le_refl _)
   rw [List.append_nil] at this
   exact this)
  clear h hw ha hb x0 x1 x2 x3 x4 x5 x6 x7
  go_enter Tryz.func96,Tryz.ntmps96
  go_wp2_with fail
  refine HU.out.mono ?_
  rintro e w1 ⟨rfl,h1,hk1⟩
  have hI:=HX.out w1 h1 hk1
  obtain ⟨y0,y1,y2,y3,y4,y5,y6,y7,y8,g6,g8⟩:=row9 hI.box
  have HI:=Lib.hid (And.intro hI (TyK.kn (C:=C) (v:=v) hk1))
  clear h1 hk1 hI y0 y1 y2 y3 y4 y5 y6 y7
  cases ok with
  | true =>
   go_wp2
   go_end0
   rw [HS.out]
   exact ⟨rfl,HI.out⟩
  | false =>
   have HT:=Lib.hid (HI.out.1.turn (q:=8) (u:=.bool true) (v':=v) (fl':=true) rfl rfl HI.out.1.row)
   go_wp2
   go_end0
   rw [HS.out]
   exact ⟨rfl,HT.out.1,HI.out.2.trans HT.out.2⟩
end
end Go.Proofs.YtmmecapgnmlaiaaGreatDoor
/- infer: scopes; with -/
namespace Go.Proofs.YtmmecapgnmlaiaaGreatDoor
open Go Go.RowKit Go.Proofs Go.Proofs.Unify
def envC (ix : List Nat) : Env → List Value
 | [] => []
 | x :: l => .string x.1 :: nP (blk ix x.2) :: envC ix l
theorem envC_len (ix : List Nat) : ∀ l : Env,(envC ix l).length = l.length * 2
 | [] => rfl
 | x :: l => by simp only [envC,List.length_cons,envC_len ix l];omega
theorem envC_app (ix : List Nat) : ∀ l m : Env,envC ix (l ++ m) = envC ix l ++ envC ix m
 | [],_ => rfl
 | x :: l,m => by simp only [List.cons_append,envC,envC_app ix l m]
theorem envC_one (ix : List Nat) : ∀ l : Env,∀ u ∈ envC ix l,u.oneCell' = true
 | [],u,h => by cases h
 | x :: l,u,h => by
  rcases List.mem_cons.1 h with rfl | h
  ·rfl
  ·rcases List.mem_cons.1 h with rfl | h
   ·rfl
   ·exact envC_one ix l u h
theorem envC_at (ix : List Nat) : ∀ (l : Env) (j : Nat) (x : ByteArray × Nat),l[j]? = some x → (envC ix l)[j * 2]? = some (.string x.1) ∧ (envC ix l)[j * 2 + 1]? = some (nP (blk ix x.2))
 | [],j,x,h => by simp at h
 | y :: l,0,x,h => by
  simp only [List.getElem?_cons_zero,Option.some.injEq] at h
  subst h
  exact ⟨rfl,rfl⟩
 | y :: l,j + 1,x,h => by
  have:=envC_at ix l j x (by simpa using h)
  rw [show (j + 1) * 2 = j * 2 + 1 + 1 by omega]
  exact this
def EnvA (M : Nat → Prop) (w : World) (ix : List Nat) (A : Option Addr) (c : Nat) (env : Env) : Prop:=
 env.length ≤ c ∧ c ≤ maxLen ∧ ((A = none ∧ env = [] ∧ c = 0) ∨ ∃ g,A = some ⟨g,0,none⟩ ∧ g < w.heap.size ∧ ¬ TgN w g ∧ ¬ M g ∧ ∀ j u,(envC ix env)[j]? = some u → w.cell? ⟨g,j,none⟩ = some u)
theorem EnvA.nil (M : Nat → Prop) (w : World) (ix : List Nat) : EnvA M w ix none 0 []:=⟨Nat.le_refl _,Nat.zero_le _,.inl ⟨rfl,rfl,rfl⟩⟩
theorem envC_ix {ix y : List Nat} : ∀ {env : Env},(∀ x ∈ env,x.2 < ix.length) → envC (ix ++ y) env = envC ix env
 | [],_ => rfl
 | x :: l,h => by
  simp only [envC]
  rw [blk_app (h x List.mem_cons_self),envC_ix fun z hz => h z (List.mem_cons_of_mem _ hz)]
theorem EnvA.keep {D M M' E : Nat → Prop} {w w' : World} {ix y : List Nat} {A : Option Addr} {c : Nat} {env : Env} (h : EnvA M w ix A c env) (hk : Kx D E w w') (hE : ∀ k,k < w.heap.size → E k → M k) (hM : ∀ k,M' k → M k ∨ w.heap.size ≤ k) (hi : ∀ x ∈ env,x.2 < ix.length) : EnvA M' w' (ix ++ y) A c env:=by
 refine ⟨h.1,h.2.1,h.2.2.imp id fun ⟨g,e,h1,h2,h3,h4⟩ => ⟨g,e,Nat.lt_of_lt_of_le h1 hk.size,hk.nt g h1 (fun he => h3 (hE g h1 he)) h2,fun hm => ?_,fun j u hj => ?_⟩⟩
 ·rcases hM g hm with h5 | h5
  ·exact h3 h5
  ·omega
 ·rw [envC_ix hi] at hj
  exact (hk.cell h1 (.inr h2) fun he => h3 (hE g h1 he)).trans (h4 j u hj)
theorem EnvA.below {M : Nat → Prop} {w w' : World} {ix : List Nat} {A : Option Addr} {c : Nat} {env : Env} (h : EnvA M w ix A c env) (hb : Below w.heap.size w w') (hi : ∀ x ∈ env,x.2 < ix.length) : EnvA M w' ix A c env:=by
 have:=h.keep (D:=fun _ => False) (E:=fun _ => False) (M':=M) (y:=[]) ((Kn.below hb).x _) (fun _ _ h => h.elim) (fun _ h => .inl h) hi
 rw [List.append_nil] at this
 exact this
theorem EnvA.tyk {D : Nat → Prop} {C : TyC} {v v' : Value} {w w' : World} {ix y : List Nat} {A : Option Addr} {c : Nat} {env : Env} (h : EnvA (TyE C v) w ix A c env) (hk : TyK D C w v w' v') (hi : ∀ x ∈ env,x.2 < ix.length) : EnvA (TyE C v') w' (ix ++ y) A c env:=
 h.keep hk.kx (fun _ _ h => h) (fun k hk' => by
  rcases hk' with h' | h' | h'
  ·exact .inl (.inl h')
  ·exact .inl (.inr (.inl h'))
  ·exact (hk.own k h').imp (fun h => .inr (.inr h)) id) hi
theorem Tryz.infolocal : (Tryz.prog.info? 260).map (fun i => (i.zero,i.size,i.bytes)) = some (some (.agg #[.string ⟨#[]⟩,.pointer none]),2,24):=by kernel_rfl
theorem Tryz.undlocals : Tryz.prog.underlying 209 = some (.slice 260):=by kernel_rfl
def CloneLP (l : Env) (ix : List Nat) (w : World) (e : Ending) (w' : World) : Prop:=∃ v,e = .returned v ∧ w'.ownsRow w.heap.size 260 2 v l.length (envC ix l) ∧ Below w.heap.size w w'
set_option maxRecDepth 100000 in
set_option maxHeartbeats 1000000 in
theorem slcCloneL_any {M : Nat → Prop} (l : Env) (ix : List Nat) {A : Option Addr} {c : Nat} (w : World) (hs : EnvA M w ix A c l) (hl : l.length ≤ 1000000) :
  Calls Tryz.prog 252 #[.slice A l.length c] w (CloneLP l ix w):=by
 have q22 : ∀ (w : World) (a : Option Addr) (n c n' c' : Nat),(binOp .eql 209 (.slice a n c) (.slice none n' c')).run Tryz.prog w = .ok (.bool a.isNone) w:=fun w a n c n' c' => Lib.run_eql_slice_nil w _ _ a n c n' c' Tryz.undlocals
 rcases hs.2.2 with ⟨rfl,rfl,rfl⟩ | ⟨g,rfl,h1,h2,h3,h4⟩
 ·clear hs
  go_enter Tryz.func252,Tryz.ntmps252
  go_wp2
  go_ret
  exact ⟨_,rfl,World.ownsRow_nil _ _ _ _,Below.refl _ _⟩
 ·obtain ⟨i0,hi,hz0,hz1,hz2⟩:=info_parts Tryz.infolocal
  have hnews : ∀ a',some (⟨g,0,none⟩ : Addr) = some a' → ∀ j u,(envC ix l)[j]? = some u → (w.alloc (.cells #[] 260)).cell? (a'.add j) = some u:=by
   intro a' e j u hu
   cases e
   have h5:=(World.cell?_alloc_lt w (.cells #[] 260) ⟨g,j,none⟩ h1).trans (h4 j u hu)
   unfold Addr.add
   by_cases h0 : j = 0
   ·rw [if_pos h0]
    subst h0
    exact h5
   ·rw [if_neg h0]
    simpa using h5
  have HN:=Lib.hid hnews
  have hrow:=World.ownsRow_lit (base:=w.heap.size) (e:=260) (size:=2) w #[] 0 (Nat.le_refl _) (by simp) rfl
  have HW:=Lib.hid hrow
  clear hs hnews hrow h2 h3 h4
  go_enter Tryz.func252,Tryz.ntmps252
  go_wp2_with (at_builtin;refine wpList_append_own_any _ rfl _ _ 209 rfl w.heap.size 260 i0 _ 2 24 Tryz.undlocals hi hz0 hz1 hz2 rfl (by decide) _ 0 [] rfl HW.out (some ⟨g,0,none⟩) l.length c (envC ix l) rfl (envC_len ix l) (by simp) HN.out (envC_one ix l) (by unfold maxLen;omega) (by omega) (by simp) ?_;intro v' w1 hown' hgrow)
  go_ret
  refine ⟨_,rfl,by simpa using hown',?_⟩
  exact ((Below.refl _ _).alloc (Nat.le_refl _) _).trans (Keeps.to_below ((Keeps.refl (fun k => k < w.heap.size) _).grown hgrow (by rintro k hk;cases hk;simp)) (by simp) (by simp))
def WithP (M : Nat → Prop) (env : Env) (ix : List Nat) (w : World) (e : Ending) (w' : World) : Prop:=∃ A c,e = .returned (.slice A env.length c) ∧ EnvA M w' ix A c env ∧ Below w.heap.size w w'
theorem env_of_row {M : Nat → Prop} {w : World} {base : Nat} {v : Value} {ix : List Nat} {env : Env} (h : w.ownsRow base 260 2 v env.length (envC ix env)) (hM : ∀ k,M k → k < base) : ∃ A c,v = .slice A env.length c ∧ EnvA M w ix A c env:=by
 have h':=h
 rcases h.2 with ⟨rfl,h0⟩ | ⟨g,cap,cur,rfl,e2,e3,e4,e5,_⟩
 ·have : env = []:=List.length_eq_zero_iff.1 h0
  subst this
  exact ⟨none,0,rfl,EnvA.nil _ _ _⟩
 ·refine ⟨_,cap,rfl,e4,e5,.inr ⟨g,rfl,(Array.getElem?_eq_some_iff.1 e3).1,TgN.not e3 (by decide),fun hm => by have:=hM g hm;omega,fun j u hj => ?_⟩⟩
  exact (h'.cellAt j (by have:=(List.getElem?_eq_some_iff.1 hj).1;rw [envC_len] at this;exact this)).trans hj
set_option maxRecDepth 100000 in
set_option maxHeartbeats 1000000 in
theorem with_any {M : Nat → Prop} (env more : Env) (ix : List Nat) {A : Option Addr} {c : Nat} (w : World) (hs : EnvA M w ix A c env) (hl : env.length ≤ 1000000) {g mc : Nat} (hm : more.length ≤ 1000) (hg : g < w.heap.size) (hcs : ∀ j u,(envC ix more)[j]? = some u → w.cell? ⟨g,j,none⟩ = some u) (hM : ∀ k,M k → k < w.heap.size) :
  Calls Tryz.prog 215 #[.slice A env.length c,.slice (some ⟨g,0,none⟩) more.length mc] w (WithP M (env ++ more) ix w):=by
 have HC:=Lib.hid (slcCloneL_any env ix w hs hl)
 have HM:=Lib.hid (And.intro hM (And.intro hcs hg))
 obtain ⟨i0,hi,hz0,hz1,hz2⟩:=info_parts Tryz.infolocal
 clear hs hM hcs
 go_enter Tryz.func215,Tryz.ntmps215
 go_wp2_with fail
 refine HC.out.mono ?_
 rintro e w1 ⟨v1,rfl,hown,hb1⟩
 have hsz:=hb1.size
 have hnews : ∀ a',some (⟨g,0,none⟩ : Addr) = some a' → ∀ j u,(envC ix more)[j]? = some u → w1.cell? (a'.add j) = some u:=by
  intro a' e j u hu
  cases e
  have h5:=(hb1.cell (p:=⟨g,j,none⟩) HM.out.2.2).trans (HM.out.2.1 j u hu)
  unfold Addr.add
  by_cases h0 : j = 0
  ·rw [if_pos h0]
   subst h0
   exact h5
  ·rw [if_neg h0]
   simpa using h5
 have HN:=Lib.hid (And.intro hnews (And.intro hown hb1))
 clear hnews hown hb1
 go_wp2_with (at_builtin;refine wpList_append_own_any _ rfl _ _ 209 rfl w.heap.size 260 i0 _ 2 24 Tryz.undlocals hi hz0 hz1 hz2 rfl (by decide) v1 env.length (envC ix env) rfl HN.out.2.1 (some ⟨g,0,none⟩) more.length mc (envC ix more) rfl (envC_len ix more) (by simp) HN.out.1 (envC_one ix more) (by unfold maxLen;omega) (by omega) (by omega) ?_;intro v2 w2 hown2 hgrow)
 go_ret
 rw [← envC_app,← List.length_append] at hown2
 obtain ⟨A2,c2,e2,hE⟩:=env_of_row (M:=M) hown2 HM.out.1
 refine ⟨A2,c2,by rw [← e2];rfl,hE,HN.out.2.2.trans ?_⟩
 exact Keeps.to_below ((Keeps.refl (fun k => k < w.heap.size) _).grown hgrow (by rintro k hk hlt;have:=(HN.out.2.1.lt k hk).1;omega)) (by omega) (by simp)
end Go.Proofs.YtmmecapgnmlaiaaGreatDoor
