/- infer: the type of a reference -/
import Derived.Test.YtmmecapgnmlaiaaGreatDoorZxt
set_option maxRecDepth 100000
set_option maxHeartbeats 16000000
namespace Go.Proofs.Q
open Go Go.RowKit Go.Proofs Go.Proofs.Unify
theorem Tryz.jT:Tryz.prog.underlying 88=some (.map 3 55):=by kernel_rfl
theorem o7 (w:World):(zeroValue 55).run Tryz.prog w=.ok l8 w:=by kernel_rfl
theorem J9 (a b c d:Value)(w:World):(Instr.field 55 (.agg #[a,b,c,d]) 1).run Tryz.prog w=.ok (.agg #[b,c,d]) w:=by kernel_rfl
def Lb (C:TyC)(i:Int):Prop:=aH.ok i∧(C.sc.G.lookup i=none→TOk (C.sc.sch i)∧(C.sc.sch i).2.2.Ok∧(Lit.int .i64 (C.sc.sch i).2.1).wf=true∧(C.sc.sch i).2.2.cnt≤100000)
def kM (_D:Nat→Prop)(C:TyC)(_W:World)(n:ByteArray)(i:Int):Prop:=n=⟨#[]⟩∧Lb C i
section
variable {D:Nat→Prop} {C:TyC} {X Y:World} {v:Value} {ix:List Nat} {σ:Tst} {nf:Nat}
theorem TyI.inst (h:TyI D C X v ix σ nf)(hw:Wf arP σ.S){k z:Int}{s:Tf}{A:Option Addr}{c:Nat}(ht:TOk (k,z,s))(ho:s.Ok)(hz:(Lit.int .i64 z).wf=true)(hc:s.cnt≤100000)(hs:s.Sl X (PT D X) A c) :
  Calls Tryz.prog 251 #[.agg #[.int .i64 k,.int .i64 z,.slice A s.len c],.map (some X.heap.size)] (X.alloc (.map #[] 0)) fun e Y=>∃y,e=.returned (nP (blk (ix++y) (qb (k,z,s) σ).1))∧TyI D C Y v (ix++y) (qb (k,z,s) σ).2 nf∧TyK D C X v Y v:=by
 have hb:Below X.heap.size X (X.alloc (.map #[] 0)):=(TA _ _).alloc (SA _) _
 have h1:=h.below hb
 have hmn:(X.alloc (.map #[] 0)).heap[X.heap.size]?=some (.map #[] 0):=Sv X _
 have hst:StH D (fun k=>TyE C v k∨k=X.heap.size) (X.alloc (.map #[] 0)) ix σ.S (fun _=>0):=by
  refine h.st.shift hb.size (fun k hk _=>hb.block k hk) (fun k hk=>hk.imp id fun e=>by omega) (fun k hk=>?_)
  rcases hk with hk|hk
  ·have:=h1.e hk
   exact⟨this.2.2.2,this.2.2.1⟩
  ·subst hk
   exact⟨(Sz.1 hmn).1,TgN.vI hmn⟩
 have hvm:jX (X.alloc (.map #[] 0)) X.heap.size ix []:=by
  have:=aQ.made aH X
  exact aQ.eG this fun a _=>rfl
 have wT:Far D (PT D X) (X.alloc (.map #[] 0)) X.heap.size:=fun b hp=>by
  have hl:b<X.heap.size:=hp.elim (fun hd=>by have:=h.dlt b hd;have:=h.tn;omega) (fun ht=>ht.lt)
  refine⟨SB hl hb.size,hp.imp id fun ht=>?_,by omega⟩
  exact fun hn=>ht.not ((TgN.congr (hb.block b hl)).1 hn)
 have hsl:=hs.keep (w':=X.alloc (.map #[] 0)) (P':=PT D X) (fun k hp=>hb.block k (hp.elim (fun hd=>by have:=h.dlt k hd;have:=h.tn;omega) (fun ht=>ht.lt))) (fun _ h=>h)
 have hiw:=oH vM (v:=z) (vs:=[]) hw ht.1 ht.2 (by simp)
 refine(JY arP vL vM s D _ (PT D X) k z [] σ.S ix (X.alloc (.map #[] 0)) A c X.heap.size hw ht.1 ht.2 hz ho (by simp) wT hsl (.inr rfl) (fun b hd=>by have:=h.dlt b hd;have:=h1.tn;omega) hst hvm (by simp;omega)).mono ?_
 rintro e Y ⟨ix',rfl,⟨y,rfl⟩,hst',RQ,hkx⟩
 have hk:Kn D X Y:=((Kn.below (D:=D) hb).x _ |>.trans hkx (fun _ _ e=>e)).new fun k hk=>by omega
 have QA:StH D (TyE C v) Y (ix++y) (gW k z s [] σ.S).2.2 (fun _=>0):=hst'.shift (SA _) (fun _ _ _=>rfl) (fun k hk=>.inl (.inl hk)) (fun k hk=>hst'.not k (.inl hk))
 exact⟨y,rfl,h.call QA hk hiw.1.le,TyK.kn hk⟩
theorem L8 {W:World}(h:TyI D C X v ix σ nf)(hw:Wf arP σ.S)(k:Int)(n m:ByteArray)(i d:Int)(A:Option Addr)(l c:Nat)(hr:kM D C W n i) :
  Calls Tryz.prog 214 #[.pointer (some ⟨C.tb,0,none⟩),.agg #[.int .i64 k,.string n,.string m,.int .i64 i,.int .i64 d,.slice A l c]] X (TyP D C X v ix nf (qd C.sc n i σ) 1):=by
 obtain⟨rfl,hi,hs⟩:=hr
 obtain⟨W0,hW0⟩:∃W0,X.alloc (.cells #[.int .i64 k,.string ⟨#[]⟩,.string m,.int .i64 i,.int .i64 d,.slice A l c] 44)=W0:=⟨_,rfl⟩
 have hb0:Below X.heap.size X W0:=by subst hW0;exact(TA _ _).alloc (SA _) _
 have hr0:W0.heap[X.heap.size]?=some (.cells #[.int .i64 k,.string ⟨#[]⟩,.string m,.int .i64 i,.int .i64 d,.slice A l c] 44 (0,0)):=by subst hW0;exact Sv X _
 have h0:=h.below hb0
 have hlt:=lt_of_block hr0
 have e1:=Sq W0 X.heap.size 1 _ _ (0,0) hr0
 have e3:=Sq W0 X.heap.size 3 _ _ (0,0) hr0
 simp at e1 e3
 obtain⟨x0,x1,x2,x3,x4,x5,x6,x7,x8,f6,f8⟩:=lJ h0.box
 obtain⟨R,HR⟩:∃R,Hid (qd C.sc ⟨#[]⟩ i σ=R):=⟨_,Sk rfl⟩
 rw[HR.out]
 obtain⟨Ng,hg⟩:=h0.gm
 have hlk:=fun q=>(hg.keep (w':=W0.drewN q) rfl).look false (t:=91) Tryz.jH (kV _) (a:=i) hi
 simp only[TN,if_false,aH]at hlk
 have hd0:W0.drewN 0=W0:=rfl
 cases hG:C.sc.G.lookup i with
 | some j =>
  have hF:vsF ix C.sc.G i=some (nP (blk ix j)):=by unfold vsF;rw[hG];rfl
  rw[hF]at hlk
  simp only[Option.getD_some,nP]at hlk
  have HV:=Sk (show R=(j,σ) by rw[←HR.out];unfold qd;rw[TY rfl,hG])
  have HI:=Sk (Sn h0 (Sn hb0 (h.lC _ (gG hG))))
  clear h h0 hb0 hr0 hw hs hi hg hF hG x0 x1 x2 x3 x4 x6 x7 x8 f6 f8
  go_enter Tryz.func214,Tryz.ntmps214
  try rw[hW0]
  go_upto_region 2 with fail
  go_quiet (fail)
  go_wp2
  go_ret
  rw[HV.out]
  refine⟨v,ix,nf,rfl,⟨[],by simp⟩,HI.out.1.below (dJ _ _),by omega,TyK.below ?_⟩
  ·exact HI.out.2.1.trans ((dJ _ _).mono HI.out.2.1.size)
 | none =>
  obtain⟨ht,ho,hz,hcn⟩:=hs hG
  have HV:=Sk (show R=qb (C.sc.sch i) σ by rw[←HR.out];unfold qd;rw[TY rfl,hG])
  have HL:=Sk (oH vM (v:=(C.sc.sch i).2.1) (vs:=[]) hw ht.1 ht.2 (by simp)).2
  have hF:vsF ix C.sc.G i=none:=by unfold vsF;rw[hG];rfl
  rw[hF]at hlk
  simp only[Option.getD_none]at hlk
  have HI:=Sk (Sn h0 (Sn hb0 (Sn hw (Sn ht (Sn ho (Sn hz (Sn hcn (Sn hi hr0))))))))
  clear h h0 hb0 hr0 hw hs hi hg hF hG x0 x1 x2 x3 x4 x6 x7 x8 f6 f8 ht ho hz hcn
  go_enter Tryz.func214,Tryz.ntmps214
  try rw[hW0]
  go_upto_region 2 with fail
  go_quiet (fail)
  go_upto_region 5 with fail
  generalize hW1:World.drewN W0 _=W1
  have hb1:Below W0.heap.size W0 W1:=by rw[←hW1];exact dJ _ _
  have h1:=HI.out.1.below hb1
  have hr1:=(hb1.block X.heap.size (lt_of_block HI.out.2.2.2.2.2.2.2.2)).trans HI.out.2.2.2.2.2.2.2.2
  have e3:=Sq W1 X.heap.size 3 _ _ (0,0) hr1
  simp at e3
  obtain⟨x0,x1,x2,x3,x4,x5,x6,x7,x8,f6,f8⟩:=lJ h1.box
  obtain⟨Ns,gs,hs1,hs2⟩:=h1.sm
  obtain⟨q,qA,qc,hq,hqs⟩:=hs2 i HI.out.2.2.2.2.2.2.2.1
  have hlA:∀Z:World,Below W1.heap.size W1 Z→(Instr.lookup 88 (.map (some C.sb)) (.int .i64 i) false).run Tryz.prog Z=.ok (.agg #[.int .i64 q,.int .i64 (C.sc.sch i).1,.int .i64 (C.sc.sch i).2.1,.slice qA (C.sc.sch i).2.2.len qc]) Z∧Z.cell? ⟨C.tb,4,none⟩=some (.map (some C.sb))∧Z.cell? ⟨X.heap.size,3,none⟩=some (.int .i64 i):=fun Z hZ=>by
   have h2:=(hs1.keep (hZ.block C.sb hs1.lt)).look false (t:=88) Tryz.jT (o7 Z) (a:=i) HI.out.2.2.2.2.2.2.2.1
   simp only[TN,if_false,aH]at h2
   rw[hq]at h2
   exact⟨h2,(hZ.cell (p:=⟨C.tb,4,none⟩) (lt_of_block h1.box)).trans x4,(hZ.cell (p:=⟨X.heap.size,3,none⟩) (lt_of_block hr1)).trans e3⟩
  obtain⟨l1,m1,n1⟩:=hlA W1.drew (TA _ _).drew
  obtain⟨l2,m2,n2⟩:=hlA (W1.alloc (.map #[] 0)).drew ((TA _ _).alloc (SA _) _).drew
  have hC:Calls Tryz.prog 251 #[.agg #[.int .i64 (C.sc.sch i).1,.int .i64 (C.sc.sch i).2.1,.slice qA (C.sc.sch i).2.2.len qc],.map (some W1.heap.size)] (W1.alloc (.map #[] 0)).drew fun e Y=>∃y,e=.returned (nP (blk (ix++y) (qb (C.sc.sch i) σ).1))∧TyI D C Y v (ix++y) (qb (C.sc.sch i) σ).2 nf∧TyK D C W1.drew v Y v:=TyI.inst (h1.below (TA _ _).drew) HI.out.2.2.1 HI.out.2.2.2.1 HI.out.2.2.2.2.1 HI.out.2.2.2.2.2.1 HI.out.2.2.2.2.2.2.1 (Tf.Sl.keep (w:=W1) (w':=W1.drew) (P:=PT D W1) (P':=PT D W1.drew) (fun _ _=>rfl) (fun _ h=>h) hqs)
  have HC:=Sk hC
  have HB1:=Sk hb1
  have hz1:W1.drew.heap.size=W1.heap.size:=rfl
  have hmm:=@run_makeMap Tryz.prog
  have hfs:=fun w=>J9 (.int .i64 q) (.int .i64 (C.sc.sch i).1) (.int .i64 (C.sc.sch i).2.1) (.slice qA (C.sc.sch i).2.2.len qc) w
  clear h1 hr1 hs1 hs2 hq hqs hlA hC hb1 hW1 x0 x1 x2 x3 x4 x5 x6 x7 x8 f6 f8 e1 hlk hlt
  go_region_law (first
   | (go_simp;go_at_call 251;(with_reducible refine TJ HC.out ?_);rintro e w6 ⟨y,rfl,hI6,hk6⟩;have HI6:=Sk (Sn hI6 hk6);clear hI6 hk6)
   | fail)
  all_goals (
   go_wp2
   go_ret
   rw[HV.out]
   exact⟨v,ix++y,nf,rfl,⟨y,rfl⟩,HI6.out.1,by omega,(TyK.below (HI.out.2.1.trans ((HB1.out.trans (TA _ _).drew).mono HI.out.2.1.size))).trans HI6.out.2⟩)
end
end Go.Proofs.Q
namespace Go.Proofs.Q
open Go Go.RowKit Go.Proofs Go.Proofs.Unify
theorem bR {w:World}{base:Nat}{e:TypeId}{size:Nat}{v:Value}{n:Nat}{xs:List Value}(h:w.ownsRow base e size v n xs):∃A c,v=.slice A n c:=by
 rcases h.2 with⟨rfl,rfl⟩|⟨g,cap,cur,e1,_⟩
 ·exact⟨none,0,rfl⟩
 ·exact⟨_,cap,e1⟩
def Fo.ex:Fo→Ex
 | .nil=>.nil
 | .cons k n m i _ _ _ s r=>.cons k n m i s.ex r.ex
theorem Fo.ru:∀s:Fo,s.ex.len=s.len
 | .nil=>rfl
 | .cons _ _ _ _ _ _ _ s r=>by simp only[Fo.ex,Ex.len,Fo.len,Fo.ru r]
theorem Fo.iH:∀s:Fo,s.ex.cnt=s.count
 | .nil=>rfl
 | .cons _ _ _ _ _ _ _ s r=>by simp only[Fo.ex,Ex.cnt,Fo.count,Fo.iH s,Fo.iH r];omega
def Fo.Ro (D:Nat→Prop)(C:TyC)(W:World):Fo→Prop
 | .nil=>True
 | .cons k n _ i _ _ _ s r=>(k=5→kM D C W n i)∧s.Ro D C W∧r.Ro D C W
structure TyA (B:Nat)(C:TyC)(W X:World)(v:Value)(ix:List Nat)(σ:Tst)(nf:Nat)(env:Env)(eA:Option Addr)(ec:Nat):Prop where
 ti:TyI (fun k=>k<B) C X v ix σ nf
 wf:Wf arP σ.S
 en:iy env σ
 ea:eO (TyE C v) X ix eA ec env
 old:∀k,k<B→X.heap[k]?=W.heap[k]?
theorem TyK.old {B:Nat}{C:TyC}{X Y:World}{v v':Value}{ix:List Nat}{σ:Tst}{nf:Nat}(h:TyI (fun k=>k<B) C X v ix σ nf)(hk:TyK (fun k=>k<B) C X v Y v'):∀k,k<B→Y.heap[k]?=X.heap[k]?:=fun k hb =>
 hk.kx.block k (by have:=h.dlt k hb;have:=h.tn;omega) (.inl hb) fun he=>(h.e he).1 hb
section
variable {B:Nat} {C:TyC} {W X Y:World} {v v':Value} {ix:List Nat} {σ:Tst} {nf nf':Nat} {env:Env} {eA:Option Addr} {ec:Nat}
theorem TyA.next (h:TyA B C W X v ix σ nf env eA ec){y:List Nat}{R:Nat×Tst}{n:Nat}{sc:Sc}(hw:TyW sc σ R n)(hi:TyI (fun k=>k<B) C Y v' (ix++y) R.2 nf')(hk:TyK (fun k=>k<B) C X v Y v'):TyA B C W Y v' (ix++y) R.2 nf' env eA ec:=
 ⟨hi,hw.wf,h.en.le hw.le,h.ea.tyk hk (fun x hx=>by rw[h.ti.st.len];exact h.en x hx),fun k hb=>(hk.old h.ti k hb).trans (h.old k hb)⟩
theorem TyA.below (h:TyA B C W X v ix σ nf env eA ec)(hb:Below X.heap.size X Y):TyA B C W Y v ix σ nf env eA ec:=
 ⟨h.ti.below hb,h.wf,h.en,h.ea.below hb (fun x hx=>by rw[h.ti.st.len];exact h.en x hx),fun k hk=>(hb.block k (by have:=h.ti.dlt k hk;have:=h.ti.tn;omega)).trans (h.old k hk)⟩
theorem TyK.cell {b o:Nat}(h:TyI (fun k=>k<B) C X v ix σ nf)(hk:TyK (fun k=>k<B) C X v Y v')(hb:b<B):Y.cell? ⟨b,o,none⟩=X.cell? ⟨b,o,none⟩:=SN (hk.old h b hb)
theorem TyK.sl {s:Fo}{A:Option Addr}{c:Nat}(h:TyI (fun k=>k<B) C X v ix σ nf)(hk:TyK (fun k=>k<B) C X v Y v')(hs:s.Sl X B A c):s.Sl Y B A c:=hs.keep (SA _) fun _ hp=>SN (hk.old h _ hp)
theorem TyK.box {k:Nat}{cur:Array Value}{t:TypeId}{fz:Nat×Nat}(h:TyI (fun k=>k<B) C X v ix σ nf)(hk:TyK (fun k=>k<B) C X v Y v')(hb:X.heap[k]?=some (.cells cur t fz))(ht:t≠151∧t≠95∧t≠144):Y.heap[k]?=some (.cells cur t fz):=by
 refine(hk.kx.block k (lt_of_block hb) (.inr (TgN.not hb ht.1)) fun he=>?_).trans hb
 rcases he with he|he|he
 ·rw[he,h.box]at hb
  simp only[TK,Obj.cells.injEq]at hb
  exact ht.2.1 hb.2.1.symm
 ·obtain⟨g,⟨n,Dd,⟨es,cl,h1,_⟩,_⟩,_⟩:=h.fm
  rw[he,h1]at hb
  cases hb
 ·obtain⟨c,fz',h2⟩:=Lib.ownsRow_kind h.row k he
  rw[h2]at hb
  simp only[TK,Obj.cells.injEq]at hb
  exact ht.2.2 hb.2.1.symm
def mV (B:Nat)(C:TyC)(X:World)(v:Value)(ix:List Nat)(σ:Tst)(nf:Nat)(k:Int)(l:List Nat)(e:Ending)(Y:World):Prop:=
 ∃b,e=.returned (.pointer (some ⟨b,0,none⟩))∧blk (ix++[b]) (aJ σ k l).1=b∧TyI (fun k=>k<B) C Y v (ix++[b]) (aJ σ k l).2 nf∧TyK (fun k=>k<B) C X v Y v∧Below X.heap.size X Y
theorem mV.of (h:TyI (fun k=>k<B) C X v ix σ nf){k:Int}{l:List Nat}{e:Ending}(hn:AJ (fun k=>k<B) (TyE C v) X ix σ.S k l e Y):mV B C X v ix σ nf k l e Y:=by
 obtain⟨b,rfl,hst,hb⟩:=hn
 have hlen:=h.st.len
 refine⟨b,rfl,by show blk (ix++[b]) σ.S.length=b;rw[←hlen,lZ],h.call hst (Kn.below hb) (by simp),TyK.below hb,hb⟩
theorem rz (h:TyI (fun k=>k<B) C X v ix σ nf)(hw:Wf arP σ.S):Calls Tryz.prog 95 #[] X (mV B C X v ix σ nf 5 []):=
 (kL hw h.st fun k hk=>by have:=h.dlt k hk;have:=h.tn;omega).mono fun _ _ hn=>mV.of h hn
theorem sG (h:TyI (fun k=>k<B) C X v ix σ nf)(hw:Wf arP σ.S)(k:Int):Calls Tryz.prog 98 #[.int .i64 k,.slice none 0 0] X (mV B C X v ix σ nf k []):=
 (AL hw h.st (fun k hk=>by have:=h.dlt k hk;have:=h.tn;omega) k [] (SC _) (SC _) (fun h=>absurd rfl h) (by simp)).mono fun _ _ hn=>mV.of h hn
theorem Bj (h:TyI (fun k=>k<B) C X v ix σ nf)(hw:Wf arP σ.S)(k:Int)(l:List Nat)(hl:∀j∈l,j<σ.S.length)(hn:l.length≤1000) :
  Calls Tryz.prog 98 #[.int .i64 k,.slice (some ⟨X.heap.size,0,none⟩) l.length l.length] (X.alloc (.cells ⟨l.map fun j=>nP (blk ix j)⟩ 144)) (mV B C X v ix σ nf k l):=by
 have hb:Below X.heap.size X (X.alloc (.cells ⟨l.map fun j=>nP (blk ix j)⟩ 144)):=(TA _ _).alloc (SA _) _
 have h1:=h.below hb
 have hr:(X.alloc (.cells ⟨l.map fun j=>nP (blk ix j)⟩ 144)).heap[X.heap.size]?=some (.cells ⟨l.map fun j=>nP (blk ix j)⟩ 144 (0,0)):=Sv X _
 refine(AL hw h1.st (fun k hk=>by have:=h1.dlt k hk;have:=h1.tn;omega) k l (SA _) (by unfold maxLen;omega) (fun _=>⟨X.heap.size,0,rfl,lt_of_block hr,TgN.not hr (by decide),fun he=>?_,fun j p hj=>?_⟩) hl).mono fun _ Y hn=>?_
 ·have:=(h.e he).2.2.2
  omega
 ·rw[Nat.zero_add,Sq _ _ j _ _ (0,0) hr]
  simp[hj]
 ·obtain⟨b,e1,e2,e3,e4,e5⟩:=mV.of h1 hn
  exact⟨b,e1,e2,e3,(TyK.below hb).trans e4,hb.trans (e5.mono (by simp))⟩
end
section
variable {D:Nat→Prop} {C:TyC} {X Y:World} {v:Value} {ix:List Nat} {S:St} {ns:List Nat} {fl:Bool} {nf:Nat}
theorem TyI.push (h:TyI D C X v ix ⟨S,ns,fl⟩ nf){j:Nat}(hj:j<S.length){v2:Value}{w2:World}{O:Obj}
  (ho:w2.ownsRow C.n0 144 1 v2 (ns.length+1) ((ns.map fun j=>nP (blk ix j))++[.pointer (some ⟨blk ix j,0,none⟩)]))(hg:(X.alloc O).grownBy w2 v.ownBlock)(hat:v2.ownBlock=v.ownBlock∨v2.ownBlock=some (X.alloc O).heap.size) :
  TyI D C (w2.setCell ⟨C.tb,6,none⟩ v2) v2 ix (aG (j,⟨S,ns,fl⟩)).2 nf∧TyK D C X v (w2.setCell ⟨C.tb,6,none⟩ v2) v2:=by
 have hbl:=lt_of_block h.box
 have hsz:(X.alloc O).heap.size=X.heap.size+1:=by simp
 have hsY:X.heap.size+1≤w2.heap.size:=by rw[←hsz];exact hg.size
 have hZ:(w2.setCell ⟨C.tb,6,none⟩ v2).heap.size=w2.heap.size:=by simp[World.setCell]
 have otb:v.ownBlock≠some C.tb:=fun e=>by
  obtain⟨cc,fz,h2⟩:=Lib.ownsRow_kind h.row C.tb e
  rw[h.box]at h2
  simp at h2
 have same:∀k,k<X.heap.size→k≠C.tb→v.ownBlock≠some k→(w2.setCell ⟨C.tb,6,none⟩ v2).heap[k]?=X.heap[k]?:=fun k h1 h2 h3 =>
  (Tx _ _ _ _ h2).trans ((hg.block k (by omega) (fun e=>h3 e.symm)).trans (Tt _ _ _ h1))
 have pV:w2.heap[C.tb]?=some (.cells #[C.c0,C.c1,C.c2,C.c3,.map (some C.sb),.map (some C.gb),v,.map (some C.fb),.bool fl] 95 (0,0)):=((hg.block C.tb (by omega) (fun e=>otb e.symm)).trans (Tt _ _ _ hbl)).trans h.box
 have zq:=heap_set (i:=6) pV v2
 have hown2:∀g,v2.ownBlock=some g→C.n0≤g∧g<w2.heap.size∧¬TgN w2 g∧g≠C.tb:=fun g hgg=>by
  have h1:=ho.lt g hgg
  obtain⟨c,fz,h2⟩:=Lib.ownsRow_kind ho g hgg
  refine⟨h1.1,h1.2,TgN.not h2 (by decide),fun e=>?_⟩
  subst e
  rw[pV]at h2
  simp at h2
 have hat':∀g,v2.ownBlock=some g→v.ownBlock=some g∨X.heap.size≤g:=fun g hgg=>by
  rcases hat with e|e
  ·exact .inl (e▸hgg)
  ·rw[hgg]at e
   cases e
   exact .inr (by omega)
 have hne:∀{α:Type} {K:fq α} {b N:Nat} {g:α→Option Value},aQ K X b N g→b≠C.tb∧v.ownBlock≠some b:=fun hm=>by
  obtain⟨n,Dd,⟨es,cl,h1,_⟩,_⟩:=hm
  refine⟨fun e=>(by rw[e,h.box]at h1;cases h1),fun e=>?_⟩
  obtain⟨cc,fz,h2⟩:=Lib.ownsRow_kind h.row _ e
  rw[h1]at h2
  cases h2
 have hkx:Kx D (TyE C v) X (w2.setCell ⟨C.tb,6,none⟩ v2):=by
  have hin:∀k,k<X.heap.size→¬TyE C v k→(w2.setCell ⟨C.tb,6,none⟩ v2).heap[k]?=X.heap[k]?:=fun k hk hE=>same k hk (fun e=>hE (.inl e)) (fun e=>hE (.inr (.inr e)))
  refine⟨hg.os.trans rfl,hg.tape.trans rfl,hg.output.trans rfl,by omega,fun k hk _ hE=>hin k hk hE,fun k hk ht=>?_,fun k hk hE q _=>SN (hin k hk hE)⟩
  ·by_cases hE:TyE C v k
   ·exact absurd ht (h.e hE).2.2.1
   ·exact(TgN.congr (hin k hk hE)).2 ht
 obtain⟨Ng,hgm⟩:=h.gm
 obtain⟨Ns,gs,hs1,hs2⟩:=h.sm
 obtain⟨gf,hf1,hf2⟩:=h.fm
 have pt:=fun {k:Nat}=>h.pt (k:=k) hkx (fun _ _ h=>h)
 have km:∀{α:Type} {K:fq α} {b N:Nat} {g:α→Option Value},aQ K X b N g→aQ K (w2.setCell ⟨C.tb,6,none⟩ v2) b N g:=fun hm=>hm.keep (same _ hm.lt (hne hm).1 (hne hm).2)
 refine⟨⟨zq,?_,?_,⟨Ng,km hgm⟩,⟨Ns,gs,km hs1,fun a ha=>?_⟩,⟨gf,km hf1,fun a ha=>?_⟩,fun q hq=>?_,h.lC,h.dlt,by have:=h.tn;omega,h.dt,h.df⟩,hkx,hat'⟩
 ·have e:(aG (j,(⟨S,ns,fl⟩:Tst))).2.ns=ns++[j]:=rfl
  rw[e,SX,SY,Tp,List.map_singleton]
  refine⟨ho.1,?_⟩
  rcases ho.2 with h'|⟨g,cap,cur,e1,e2,e3,e4⟩
  ·exact .inl h'
  ·exact .inr ⟨g,cap,cur,e1,e2,(Tx _ _ _ _ (by show g≠C.tb;exact(hown2 g (by rw[e1];rfl)).2.2.2)).trans e3,e4⟩
 ·refine h.st.shift (by omega) (fun k hk hm=>same k hk (fun e=>hm (.inl e)) (fun e=>hm (.inr (.inr e)))) (fun k hk=>?_) (fun k hk=>?_)
  ·rcases hk with hk|hk|hk
   ·exact .inl (.inl hk)
   ·exact .inl (.inr (.inl hk))
   ·exact(hat' k hk).imp (fun h=>.inr (.inr h)) id
  ·rcases hk with hk|hk|hk
   ·subst hk
    exact⟨by omega,TgN.not zq (by decide)⟩
   ·subst hk
    have h5:=(km hf1).not.1
    exact⟨(km hf1).lt,h5⟩
   ·have h5:=hown2 k hk
    exact⟨by omega,fun ht=>h5.2.2.1 ((TgN.congr (Tx _ _ _ _ h5.2.2.2)).1 ht)⟩
 ·obtain⟨q,A,c,e,hsl⟩:=hs2 a ha
  exact⟨q,A,c,e,hsl.keep (fun k hp=>(pt hp).1) fun k hp=>(pt hp).2⟩
 ·rcases hf2 a ha with e|⟨q,A,c,e,hsl⟩
  ·exact .inl e
  ·exact .inr ⟨q,A,c,e,hsl.keep (fun k hp=>(pt hp).1) fun k hp=>(pt hp).2⟩
 ·rcases Td.1 hq with h'|h'
  ·exact h.mem q h'
  ·rw[Te.1 h']
   exact hj
end
def eH (B:Nat)(s:Fo):Prop:=∀(C:TyC)(W X:World)(v:Value)(ix:List Nat)(σ:Tst)(nf:Nat)(env:Env)(eA:Option Addr)(ec:Nat)(k:Int)(n m:ByteArray)(i d:Int)(A:Option Addr)(c:Nat),
 TyA B C W X v ix σ nf env eA ec→s.Sl X B A c→okE k s.len→(k=5→kM (fun k=>k<B) C W n i)→s.ex.Cok C.sc→s.Ro (fun k=>k<B) C W→(k=5→if n=⟨#[]⟩then (C.sc.G.lookup i=none→TOk (C.sc.sch i))else TOk (C.sc.frn (n,i))) →
 env.length+2*s.count≤900000→σ.ns.length+s.count≤900000 →
 Calls Tryz.prog 97 #[.pointer (some ⟨C.tb,0,none⟩),.agg #[.int .i64 k,.string n,.string m,.int .i64 i,.int .i64 d,.slice A s.len c],.slice eA env.length ec] X (TyP (fun k=>k<B) C X v ix nf (aG (aF C.sc k n m i (tyF C.sc s.ex) env σ)) (s.count+1))
def Io (B:Nat)(s:Fo):Prop:=∀(C:TyC)(W X:World)(v:Value)(ix:List Nat)(σ:Tst)(nf:Nat)(env:Env)(eA:Option Addr)(ec:Nat)(k:Int)(n m:ByteArray)(i d:Int)(A:Option Addr)(c:Nat),
 TyA B C W X v ix σ nf env eA ec→s.Sl X B A c→okE k s.len→(k=5→kM (fun k=>k<B) C W n i)→s.ex.Cok C.sc→s.Ro (fun k=>k<B) C W→(k=5→if n=⟨#[]⟩then (C.sc.G.lookup i=none→TOk (C.sc.sch i))else TOk (C.sc.frn (n,i))) →
 env.length+2*s.count≤900000→σ.ns.length+s.count≤900000 →
 Calls Tryz.prog 157 #[.pointer (some ⟨C.tb,0,none⟩),.agg #[.int .i64 k,.string n,.string m,.int .i64 i,.int .i64 d,.slice A s.len c],.slice eA env.length ec] X (TyP (fun k=>k<B) C X v ix nf (aF C.sc k n m i (tyF C.sc s.ex) env σ) (s.count+1))
theorem Ip {B:Nat}{s:Fo}(hk:Io B s):eH B s:=by
 intro C W X v ix σ nf env eA ec k n m i d A c ha hs hok hr hc hro hrf he hn
 obtain⟨W0,hW0⟩:∃W0,X.alloc (.cells #[.int .i64 k,.string n,.string m,.int .i64 i,.int .i64 d,.slice A s.len c] 44)=W0:=⟨_,rfl⟩
 have hb0:Below X.heap.size X W0:=by subst hW0;exact(TA _ _).alloc (SA _) _
 have hr0:W0.heap[X.heap.size]?=some (.cells #[.int .i64 k,.string n,.string m,.int .i64 i,.int .i64 d,.slice A s.len c] 44 (0,0)):=by subst hW0;exact Sv X _
 have e0:=Sq W0 X.heap.size 0 _ _ (0,0) hr0
 have e1:=Sq W0 X.heap.size 1 _ _ (0,0) hr0
 have e2:=Sq W0 X.heap.size 2 _ _ (0,0) hr0
 have e3:=Sq W0 X.heap.size 3 _ _ (0,0) hr0
 have e4:=Sq W0 X.heap.size 4 _ _ (0,0) hr0
 have e5:=Sq W0 X.heap.size 5 _ _ (0,0) hr0
 simp at e0 e1 e2 e3 e4 e5
 have ha0:=ha.below hb0
 have hxB:B≤X.heap.size:=by
  rcases Nat.lt_or_ge X.heap.size B with h|h
  ·have h1:=ha.ti.dlt _ h;have h2:=ha.ti.tn;omega
  ·exact h
 have HC:=Sk (hk C W W0 v ix σ nf env eA ec k n m i d A c ha0 (hs.keep (SA _) fun p hp=>hb0.cell (by omega)) hok hr hc hro hrf he hn)
 have HW:=Sk (gD (sc:=C.sc) k n m i s.ex (by rw[Fo.ru];exact hok) hrf (Ex.tw hc) env σ ha.wf ha.ti.lC ha.en)
 have HN:=Sk (Sn hn (Fo.iH s))
 generalize aF C.sc k n m i (tyF C.sc s.ex) env σ=R at HC HW
 obtain⟨j,S1,ns1,fl1⟩:=R
 have HB:=Sk hb0
 obtain⟨i0,hi,hz0,hz1,hz2⟩:=info_parts Tryz.yw
 clear ha ha0 hs hok hr hc hro hrf he hn hr0 hb0 hxB hk
 go_enter Tryz.func97,Tryz.ntmps97
 go_wp2_with fail
 try rw[hW0]
 refine HC.out.mono ?_
 rintro e w1 ⟨v1,ix1,nf1,rfl,⟨y,rfl⟩,hI,hnf,hK⟩
 obtain⟨x0,x1,x2,x3,x4,x5,x6,x7,x8,f6,f8⟩:=lJ hI.box
 have hns:ns1.length≤900000:=by
  obtain⟨l,h1,h2,_⟩:=HW.out.ns
  have h3:=HN.out.1
  have h4:=HN.out.2
  simp only at h1
  rw[h1,SX]
  omega
 have HI:=Sk (Sn hI (Sn hnf hK))
 have hn0:=hI.tn
 have HBX:=Sk (fun w2 (hg:(w1.alloc (.cells #[.pointer (some ⟨blk (ix++y) j,0,none⟩)] 144)).grownBy w2 v1.ownBlock)=>((hg.block C.tb (by have:=lt_of_block hI.box;simp;omega) (fun e=>by have h1:=(hI.own e.symm).2.2;obtain⟨cc,fz,h2⟩:=Lib.ownsRow_kind hI.row C.tb e.symm;rw[hI.box]at h2;simp at h2)).trans (Tt _ _ _ (lt_of_block hI.box))).trans hI.box)
 have Ph:=Sk (fun v2 w2 ho hg ha=>TyI.push hI HW.out.lt (O:=.cells #[.pointer (some ⟨blk (ix++y) j,0,none⟩)] 144) (v2:=v2) (w2:=w2) ho hg ha)
 unfold nP
 clear hI hnf hK x0 x1 x2 x3 x4 x5 x7 x8 f8 e0 e1 e2 e3 e4 e5
 go_wp2_with (at_builtin;refine wpList_append_own_at _ rfl _ _ 92 rfl C.n0 144 i0 _ 1 8 Tryz.yu hi hz0 hz1 hz2 rfl (by decide) v1 ns1.length (ns1.map fun j=>nP (blk (ix++y) j)) rfl (qV HI.out.1.row _) ⟨w1.heap.size,0,none⟩ 1 1 [.pointer (some ⟨blk (ix++y) j,0,none⟩)] rfl rfl (World.news_of_block (cs:=#[.pointer (some ⟨blk (ix++y) j,0,none⟩)]) (t:=144) (fr:=(0,0)) (Sv _ _)) (by simp[Value.oneCell']) (by unfold maxLen;omega) (by omega) (by simp;omega) ?_;intro v2 w2 hown2 hgrow _ kD;obtain⟨A2,c2,rfl⟩:=bR hown2;have wZ:=HBX.out w2 hgrow;have z6:=Sq w2 C.tb 6 _ _ (0,0) wZ;have z6f:=Sr w2 C.tb 6 _ _ wZ;simp at z6;clear wZ)
 go_ret
 have hT:=Ph.out _ w2 hown2 hgrow kD
 exact⟨_,ix++y,nf1,rfl,⟨y,rfl⟩,hT.1,HI.out.2.1,((TyK.below HB.out).trans HI.out.2.2).trans hT.2⟩
end Go.Proofs.Q
namespace Go.Proofs.Q
open Go Go.RowKit Go.Proofs Go.Proofs.Unify
theorem NZ {B:Nat}{C:TyC}{W X:World}{v:Value}{ix:List Nat}{σ:Tst}{nf:Nat}{env:Env}{eA:Option Addr}{ec:Nat}(n m:ByteArray)(i d:Int)(A:Option Addr)(l c:Nat)
  (ha:TyA B C W X v ix σ nf env eA ec) :
  Calls Tryz.prog 157 #[.pointer (some ⟨C.tb,0,none⟩),.agg #[.int .i64 1,.string n,.string m,.int .i64 i,.int .i64 d,.slice A l c],.slice eA env.length ec] X (TyP (fun k=>k<B) C X v ix nf (aJ σ 1 []) 1):=by
 obtain⟨W0,hW0⟩:∃W0,X.alloc (.cells #[.int .i64 1,.string n,.string m,.int .i64 i,.int .i64 d,.slice A l c] 44)=W0:=⟨_,rfl⟩
 have hb0:Below X.heap.size X W0:=by subst hW0;exact(TA _ _).alloc (SA _) _
 have hr0:W0.heap[X.heap.size]?=some (.cells #[.int .i64 1,.string n,.string m,.int .i64 i,.int .i64 d,.slice A l c] 44 (0,0)):=by subst hW0;exact Sv X _
 have e0:=Sq W0 X.heap.size 0 _ _ (0,0) hr0
 have e1:=Sq W0 X.heap.size 1 _ _ (0,0) hr0
 have e2:=Sq W0 X.heap.size 2 _ _ (0,0) hr0
 have e3:=Sq W0 X.heap.size 3 _ _ (0,0) hr0
 have e4:=Sq W0 X.heap.size 4 _ _ (0,0) hr0
 have e5:=Sq W0 X.heap.size 5 _ _ (0,0) hr0
 simp at e0 e1 e2 e3 e4 e5
 have ha0:=ha.below hb0
 have HB:=Sk hb0
 have HC:=Sk (sG ha0.ti ha0.wf 1)
 clear ha ha0 hb0 hr0
 go_enter Tryz.func157,Tryz.ntmps157
 go_wp2_with fail
 try rw[hW0]
 refine HC.out.mono ?_
 rintro e w1 ⟨b,rfl,hbk,hI,hK,hb⟩
 have HI:=Sk (Sn hbk (Sn hI hK))
 clear hbk hI hK hb
 go_wp2
 go_ret
 exact⟨v,ix++[b],nf,by rw[nP,HI.out.1];rfl,⟨[b],rfl⟩,HI.out.2.1,by omega,(TyK.below HB.out).trans HI.out.2.2⟩
theorem N7 {B:Nat}{C:TyC}{W X:World}{v:Value}{ix:List Nat}{σ:Tst}{nf:Nat}{env:Env}{eA:Option Addr}{ec:Nat}(n m:ByteArray)(i d:Int)(A:Option Addr)(l c:Nat)
  (ha:TyA B C W X v ix σ nf env eA ec) :
  Calls Tryz.prog 157 #[.pointer (some ⟨C.tb,0,none⟩),.agg #[.int .i64 2,.string n,.string m,.int .i64 i,.int .i64 d,.slice A l c],.slice eA env.length ec] X (TyP (fun k=>k<B) C X v ix nf (aJ σ 2 []) 1):=by
 obtain⟨W0,hW0⟩:∃W0,X.alloc (.cells #[.int .i64 2,.string n,.string m,.int .i64 i,.int .i64 d,.slice A l c] 44)=W0:=⟨_,rfl⟩
 have hb0:Below X.heap.size X W0:=by subst hW0;exact(TA _ _).alloc (SA _) _
 have hr0:W0.heap[X.heap.size]?=some (.cells #[.int .i64 2,.string n,.string m,.int .i64 i,.int .i64 d,.slice A l c] 44 (0,0)):=by subst hW0;exact Sv X _
 have e0:=Sq W0 X.heap.size 0 _ _ (0,0) hr0
 have e1:=Sq W0 X.heap.size 1 _ _ (0,0) hr0
 have e2:=Sq W0 X.heap.size 2 _ _ (0,0) hr0
 have e3:=Sq W0 X.heap.size 3 _ _ (0,0) hr0
 have e4:=Sq W0 X.heap.size 4 _ _ (0,0) hr0
 have e5:=Sq W0 X.heap.size 5 _ _ (0,0) hr0
 simp at e0 e1 e2 e3 e4 e5
 have ha0:=ha.below hb0
 have HB:=Sk hb0
 have HC:=Sk (sG ha0.ti ha0.wf 2)
 clear ha ha0 hb0 hr0
 go_enter Tryz.func157,Tryz.ntmps157
 go_wp2_with fail
 try rw[hW0]
 refine HC.out.mono ?_
 rintro e w1 ⟨b,rfl,hbk,hI,hK,hb⟩
 have HI:=Sk (Sn hbk (Sn hI hK))
 clear hbk hI hK hb
 go_wp2
 go_ret
 exact⟨v,ix++[b],nf,by rw[nP,HI.out.1];rfl,⟨[b],rfl⟩,HI.out.2.1,by omega,(TyK.below HB.out).trans HI.out.2.2⟩
theorem L9 {B:Nat}{C:TyC}{W X:World}{v:Value}{ix:List Nat}{σ:Tst}{nf:Nat}{env:Env}{eA:Option Addr}{ec:Nat}(n m:ByteArray)(i d:Int)(A:Option Addr)(l c:Nat)
  (ha:TyA B C W X v ix σ nf env eA ec) :
  Calls Tryz.prog 157 #[.pointer (some ⟨C.tb,0,none⟩),.agg #[.int .i64 14,.string n,.string m,.int .i64 i,.int .i64 d,.slice A l c],.slice eA env.length ec] X (TyP (fun k=>k<B) C X v ix nf (aJ σ 2 []) 1):=by
 obtain⟨W0,hW0⟩:∃W0,X.alloc (.cells #[.int .i64 14,.string n,.string m,.int .i64 i,.int .i64 d,.slice A l c] 44)=W0:=⟨_,rfl⟩
 have hb0:Below X.heap.size X W0:=by subst hW0;exact(TA _ _).alloc (SA _) _
 have hr0:W0.heap[X.heap.size]?=some (.cells #[.int .i64 14,.string n,.string m,.int .i64 i,.int .i64 d,.slice A l c] 44 (0,0)):=by subst hW0;exact Sv X _
 have e0:=Sq W0 X.heap.size 0 _ _ (0,0) hr0
 have e1:=Sq W0 X.heap.size 1 _ _ (0,0) hr0
 have e2:=Sq W0 X.heap.size 2 _ _ (0,0) hr0
 have e3:=Sq W0 X.heap.size 3 _ _ (0,0) hr0
 have e4:=Sq W0 X.heap.size 4 _ _ (0,0) hr0
 have e5:=Sq W0 X.heap.size 5 _ _ (0,0) hr0
 simp at e0 e1 e2 e3 e4 e5
 have ha0:=ha.below hb0
 have HB:=Sk hb0
 have HC:=Sk (sG ha0.ti ha0.wf 2)
 clear ha ha0 hb0 hr0
 go_enter Tryz.func157,Tryz.ntmps157
 go_wp2_with fail
 try rw[hW0]
 refine HC.out.mono ?_
 rintro e w1 ⟨b,rfl,hbk,hI,hK,hb⟩
 have HI:=Sk (Sn hbk (Sn hI hK))
 clear hbk hI hK hb
 go_wp2
 go_ret
 exact⟨v,ix++[b],nf,by rw[nP,HI.out.1];rfl,⟨[b],rfl⟩,HI.out.2.1,by omega,(TyK.below HB.out).trans HI.out.2.2⟩
theorem Ma {B:Nat}{C:TyC}{W X:World}{v:Value}{ix:List Nat}{σ:Tst}{nf:Nat}{env:Env}{eA:Option Addr}{ec:Nat}(k:Int)(n m:ByteArray)(i d:Int)(A:Option Addr)(l c:Nat)
  (ha:TyA B C W X v ix σ nf env eA ec)(hk:k≠1∧k≠2∧k≠14∧k≠11∧k≠3∧k≠5∧k≠6∧k≠7∧k≠8∧k≠9∧k≠10∧k≠12∧k≠13) :
  Calls Tryz.prog 157 #[.pointer (some ⟨C.tb,0,none⟩),.agg #[.int .i64 k,.string n,.string m,.int .i64 i,.int .i64 d,.slice A l c],.slice eA env.length ec] X (TyP (fun k=>k<B) C X v ix nf (aJ σ 5 []) 1):=by
 obtain⟨W0,hW0⟩:∃W0,X.alloc (.cells #[.int .i64 k,.string n,.string m,.int .i64 i,.int .i64 d,.slice A l c] 44)=W0:=⟨_,rfl⟩
 have hb0:Below X.heap.size X W0:=by subst hW0;exact(TA _ _).alloc (SA _) _
 have hr0:W0.heap[X.heap.size]?=some (.cells #[.int .i64 k,.string n,.string m,.int .i64 i,.int .i64 d,.slice A l c] 44 (0,0)):=by subst hW0;exact Sv X _
 have e0:=Sq W0 X.heap.size 0 _ _ (0,0) hr0
 have e1:=Sq W0 X.heap.size 1 _ _ (0,0) hr0
 have e2:=Sq W0 X.heap.size 2 _ _ (0,0) hr0
 have e3:=Sq W0 X.heap.size 3 _ _ (0,0) hr0
 have e4:=Sq W0 X.heap.size 4 _ _ (0,0) hr0
 have e5:=Sq W0 X.heap.size 5 _ _ (0,0) hr0
 simp at e0 e1 e2 e3 e4 e5
 have ha0:=ha.below hb0
 have HB:=Sk hb0
 have HC:=Sk (rz ha0.ti ha0.wf)
 obtain⟨h1,h2,h14,h11,h3,h5,h6,h7,h8,h9,h10,h12,h13⟩:=hk
 clear ha ha0 hb0 hr0
 go_enter Tryz.func157,Tryz.ntmps157
 go_wp2_with fail
 try rw[hW0]
 refine HC.out.mono ?_
 rintro e w1 ⟨b,rfl,hbk,hI,hK,hb⟩
 have HI:=Sk (Sn hbk (Sn hI hK))
 clear hbk hI hK hb
 go_wp2
 go_ret
 exact⟨v,ix++[b],nf,by rw[nP,HI.out.1];rfl,⟨[b],rfl⟩,HI.out.2.1,by omega,(TyK.below HB.out).trans HI.out.2.2⟩
theorem Mc {B:Nat}{C:TyC}{W X:World}{v:Value}{ix:List Nat}{σ:Tst}{nf:Nat}{env:Env}{eA:Option Addr}{ec:Nat}(n m:ByteArray)(i d:Int)(A:Option Addr)(l c:Nat)
  (ha:TyA B C W X v ix σ nf env eA ec) :
  Calls Tryz.prog 157 #[.pointer (some ⟨C.tb,0,none⟩),.agg #[.int .i64 11,.string n,.string m,.int .i64 i,.int .i64 d,.slice A l c],.slice eA env.length ec] X (TyP (fun k=>k<B) C X v ix nf (aJ (aJ σ 5 []).2 3 [(aJ σ 5 []).1]) 1):=by
 obtain⟨W0,hW0⟩:∃W0,X.alloc (.cells #[.int .i64 11,.string n,.string m,.int .i64 i,.int .i64 d,.slice A l c] 44)=W0:=⟨_,rfl⟩
 have hb0:Below X.heap.size X W0:=by subst hW0;exact(TA _ _).alloc (SA _) _
 have hr0:W0.heap[X.heap.size]?=some (.cells #[.int .i64 11,.string n,.string m,.int .i64 i,.int .i64 d,.slice A l c] 44 (0,0)):=by subst hW0;exact Sv X _
 have e0:=Sq W0 X.heap.size 0 _ _ (0,0) hr0
 have e1:=Sq W0 X.heap.size 1 _ _ (0,0) hr0
 have e2:=Sq W0 X.heap.size 2 _ _ (0,0) hr0
 have e3:=Sq W0 X.heap.size 3 _ _ (0,0) hr0
 have e4:=Sq W0 X.heap.size 4 _ _ (0,0) hr0
 have e5:=Sq W0 X.heap.size 5 _ _ (0,0) hr0
 simp at e0 e1 e2 e3 e4 e5
 have ha0:=ha.below hb0
 have HB:=Sk hb0
 have HC:=Sk (rz ha0.ti ha0.wf)
 have h1:=aZ (sc:=C.sc) ha0.wf (k:=5) (l:=[]) rfl (by simp)
 have HD:=Sk (show ∀(w1:World) (b:Nat),blk (ix++[b]) (aJ σ 5 []).1=b→TyI (fun k=>k<B) C w1 v (ix++[b]) (aJ σ 5 []).2 nf→Calls Tryz.prog 98 #[.int .i64 3,.slice (some ⟨w1.heap.size,0,none⟩) 1 1] (w1.alloc (.cells #[.pointer (some ⟨b,0,none⟩)] 144)) (mV B C w1 v (ix++[b]) (aJ σ 5 []).2 nf 3 [(aJ σ 5 []).1])from fun w1 b hb h=>by
  have:=Bj h h1.wf 3 [(aJ σ 5 []).1] (fun j hj=>by rw[Te.1 hj];exact h1.lt) (by simp)
  simp only[List.map_cons,List.map_nil,nP,hb]at this
  exact this)
 clear h1
 clear ha ha0 hb0 hr0
 go_enter Tryz.func157,Tryz.ntmps157
 go_wp2_with fail
 try rw[hW0]
 refine HC.out.mono ?_
 rintro e w1 ⟨b,rfl,hbk,hI,hK,hb⟩
 have HI:=Sk (Sn (HD.out w1 b hbk hI) hK)
 clear hbk hI hK hb
 go_wp2_with fail
 refine HI.out.1.mono ?_
 rintro e w2 ⟨b',rfl,hbk2,hI2,hK2,hb2⟩
 have HI2:=Sk (Sn hbk2 (Sn hI2 hK2))
 clear hbk2 hI2 hK2 hb2
 go_wp2
 go_ret
 exact⟨v,(ix++[b])++[b'],nf,by rw[nP,HI2.out.1];rfl,⟨[b]++[b'],by rw[TR]⟩,HI2.out.2.1,by omega,((TyK.below HB.out).trans HI.out.2).trans HI2.out.2.2⟩
theorem N8 {B:Nat}{C:TyC}{W X:World}{v:Value}{ix:List Nat}{σ:Tst}{nf:Nat}{env:Env}{eA:Option Addr}{ec:Nat}(n m:ByteArray)(i d:Int)(A:Option Addr)(l c:Nat)
  (ha:TyA B C W X v ix σ nf env eA ec)(hl:env.length≤900000) :
  Calls Tryz.prog 157 #[.pointer (some ⟨C.tb,0,none⟩),.agg #[.int .i64 3,.string n,.string m,.int .i64 i,.int .i64 d,.slice A l c],.slice eA env.length ec] X (TyP (fun k=>k<B) C X v ix nf (qX n env σ) 1):=by
 obtain⟨W0,hW0⟩:∃W0,X.alloc (.cells #[.int .i64 3,.string n,.string m,.int .i64 i,.int .i64 d,.slice A l c] 44)=W0:=⟨_,rfl⟩
 have hb0:Below X.heap.size X W0:=by subst hW0;exact(TA _ _).alloc (SA _) _
 have hr0:W0.heap[X.heap.size]?=some (.cells #[.int .i64 3,.string n,.string m,.int .i64 i,.int .i64 d,.slice A l c] 44 (0,0)):=by subst hW0;exact Sv X _
 have e0:=Sq W0 X.heap.size 0 _ _ (0,0) hr0
 have e1:=Sq W0 X.heap.size 1 _ _ (0,0) hr0
 have e2:=Sq W0 X.heap.size 2 _ _ (0,0) hr0
 have e3:=Sq W0 X.heap.size 3 _ _ (0,0) hr0
 have e4:=Sq W0 X.heap.size 4 _ _ (0,0) hr0
 have e5:=Sq W0 X.heap.size 5 _ _ (0,0) hr0
 simp at e0 e1 e2 e3 e4 e5
 have ha0:=ha.below hb0
 have HB:=Sk hb0
 have HC:=Sk (Bg ha0.wf ha0.ti.st (fun k hk=>by have:=ha0.ti.dlt k hk;have:=ha0.ti.tn;omega) n ha0.ea (by omega))
 have HA:=Sk ha0
 clear ha ha0 hb0 hr0
 go_enter Tryz.func157,Tryz.ntmps157
 go_wp2_with fail
 try rw[hW0]
 refine HC.out.mono ?_
 rintro e w1 (⟨j,hj,rfl,hb⟩|⟨hj,hn⟩)
 ·have HI:=Sk (Sn hj hb)
  clear hj hb
  go_wp2
  go_ret
  refine⟨v,ix,nf,?_,⟨[],by simp⟩,?_,by omega,(TyK.below HB.out).trans (TyK.below HI.out.2)⟩
  ·unfold qX
   rw[HI.out.1]
   rfl
  ·unfold qX
   rw[HI.out.1]
   exact HA.out.ti.below HI.out.2
 ·obtain⟨b,rfl,hbk,hI,hK,hb⟩:=mV.of HA.out.ti hn
  have HI:=Sk (Sn hj (Sn hbk (Sn hI hK)))
  clear hj hbk hI hK hb hn
  go_wp2
  go_ret
  refine⟨v,ix++[b],nf,?_,⟨[b],rfl⟩,?_,by omega,(TyK.below HB.out).trans HI.out.2.2.2⟩
  ·unfold qX
   rw[HI.out.1]
   simp only
   rw[nP,HI.out.2.1]
   rfl
  ·unfold qX
   rw[HI.out.1]
   exact HI.out.2.2.1
theorem N9 {B:Nat}{C:TyC}{W X:World}{v:Value}{ix:List Nat}{σ:Tst}{nf:Nat}{env:Env}{eA:Option Addr}{ec:Nat}(n m:ByteArray)(i d:Int)(A:Option Addr)(l c:Nat)
  (ha:TyA B C W X v ix σ nf env eA ec)(hr:kM (fun k=>k<B) C W n i) :
  Calls Tryz.prog 157 #[.pointer (some ⟨C.tb,0,none⟩),.agg #[.int .i64 5,.string n,.string m,.int .i64 i,.int .i64 d,.slice A l c],.slice eA env.length ec] X (TyP (fun k=>k<B) C X v ix nf (qd C.sc n i σ) 1):=by
 obtain⟨W0,hW0⟩:∃W0,X.alloc (.cells #[.int .i64 5,.string n,.string m,.int .i64 i,.int .i64 d,.slice A l c] 44)=W0:=⟨_,rfl⟩
 have hb0:Below X.heap.size X W0:=by subst hW0;exact(TA _ _).alloc (SA _) _
 have hr0:W0.heap[X.heap.size]?=some (.cells #[.int .i64 5,.string n,.string m,.int .i64 i,.int .i64 d,.slice A l c] 44 (0,0)):=by subst hW0;exact Sv X _
 have e0:=Sq W0 X.heap.size 0 _ _ (0,0) hr0
 have e1:=Sq W0 X.heap.size 1 _ _ (0,0) hr0
 have e2:=Sq W0 X.heap.size 2 _ _ (0,0) hr0
 have e3:=Sq W0 X.heap.size 3 _ _ (0,0) hr0
 have e4:=Sq W0 X.heap.size 4 _ _ (0,0) hr0
 have e5:=Sq W0 X.heap.size 5 _ _ (0,0) hr0
 simp at e0 e1 e2 e3 e4 e5
 have ha0:=ha.below hb0
 have HB:=Sk hb0
 have HC:=Sk (L8 ha0.ti ha0.wf 5 n m i d A l c hr)
 clear ha ha0 hb0 hr0 hr
 go_enter Tryz.func157,Tryz.ntmps157
 go_wp2_with fail
 try rw[hW0]
 refine HC.out.mono ?_
 rintro e w1 ⟨v',ix',nf',rfl,hy,hI,hn,hK⟩
 have HI:=Sk (Sn hy (Sn hI (Sn hn hK)))
 clear hy hI hn hK
 unfold nP
 go_wp2
 go_ret
 exact⟨v',ix',nf',rfl,HI.out.1,HI.out.2.1,HI.out.2.2.1,(TyK.below HB.out).trans HI.out.2.2.2⟩
end Go.Proofs.Q
