/- helper lemmas -/
import Derived.Test.YtmmecapgnmlaiaaGreatDoorZyl
set_option maxRecDepth 100000
set_option maxHeartbeats 16000000
namespace Go.Proofs.Q
open Go Go.RowKit Go.Proofs Go.Proofs.Unify Go.Proofs.Scc
theorem Tryz.Lx:Tryz.prog.underlying 35=some (.slice 57):=by kernel_rfl
theorem Tryz.LA:(Tryz.prog.info? 57).map (fun i=>(i.zero,i.size,i.bytes))=some (some (.agg #[.int .i64 0,.string ⟨#[]⟩,.int .i64 0,.int .i64 0,.int .i64 0,.slice none 0 0]),6,72):=by kernel_rfl
theorem uP {ids:List Int}{sch:ByteArray×Int→Bool}:∀{ds:List Dc}{met:List ByteArray},(eB ids sch met ds).2=0→∀x∈ds,∃nm,x.names=[nm]
 | [],_,_,x,hx=>by cases hx
 | y::l,met,h,x,hx=>by
  unfold eB at h
  split at h
  ·simp at h
  ·rename_i hc
   split at h
   ·simp at h
   ·rcases TI.1 hx with rfl|hx
    ·refine List.length_eq_one_iff.1 ?_
     apply Classical.byContradiction
     intro hn
     apply hc
     unfold lT
     simp[hn]
    ·exact uP h x hx
theorem xI (s:Sm)(x:Dc)(p:Option Addr×Nat):∀(l:List Dc)(L:List (Option Addr×Nat)),l.length=L.length→oZ s (l++[x]) (L++[p])=oZ s l L++[.int .i64 x.id,.string (nameOf x),.int .i64 (s x.id).1,.int .i64 (s x.id).2.1,.int .i64 (s x.id).2.2.1,.slice p.1 (s x.id).2.2.2.len p.2]
 | [],[],_=>rfl
 | y::l,q::L,h=>by
  simp only[TU,oZ]
  rw[xI s x p l L (by simpa using h)]
  simp
 | [],_::_,h=>by simp at h
 | _::_,[],h=>by simp at h
def nQ (s:Sm)(L:List (Int×Int×Int×Int×Tf)):Sm:=L.foldl (fun s x=>fun a=>if a=x.1 then x.2 else s a) s
theorem GI (s:Sm)(L:List (Int×Int×Int×Int×Tf))(x:Int×Int×Int×Int×Tf):nQ s (L++[x])=fun a=>if a=x.1 then x.2 else nQ s L a:=by
 unfold nQ
 rw[List.foldl_append]
 rfl
theorem DC:∀{L:List (Int×Int×Int×Int×Tf)}(s:Sm),(L.map (·.1)).Nodup→nQ s L=tQ s L
 | [],_,_=>rfl
 | x::l,s,h=>by
  rw[List.map_cons,List.nodup_cons]at h
  have ih:=DC (L:=l) (fun a=>if a=x.1 then x.2 else s a) h.2
  show nQ (fun a=>if a=x.1 then x.2 else s a) l=_
  rw[ih]
  funext a
  unfold tQ
  have hl:(x::l).lookup a=if (a==x.1)=true then some x.2 else l.lookup a:=by
   rw[show (x::l).lookup a=(match a==x.1 with|true=>some x.2|false=>l.lookup a)from rfl]
   cases a==x.1 <;> rfl
  rw[hl]
  by_cases e:a=x.1
  ·have hn:l.lookup a=none:=by
    cases hk:l.lookup a with
    | none=>rfl
    | some t =>
     exact absurd (TH.2 ⟨(a,t),xJ hk,rfl⟩) (e▸h.1)
   rw[hn,TY (by simpa using e)]
   simp[e]
  ·rw[TW (by simpa using e)]
   cases hk:l.lookup a with
   | none=>simp[e]
   | some t=>rfl
theorem LB {s:Sm}(hs:∀a,SmP s a):∀{L:List (Int×Int×Int×Int×Tf)},(∀x∈L,Jg x)→∀a,SmP (nQ s L) a:=by
 intro L
 induction L generalizing s with
 | nil=>exact fun _=>hs
 | cons x l ih =>
  intro h
  refine ih (s:=fun a=>if a=x.1 then x.2 else s a) (fun a=>?_) fun z hz=>h z (Tc _ hz)
  have hx:=h x Ta
  have ha:=hs a
  by_cases e:a=x.1
  ·exact⟨by simp only[TY e];exact hx.t,by simp only[TY e];exact hx.cnt,by simp only[TY e];exact hx.n,by simp only[TY e];exact hx.v,by simp only[TY e];exact hx.vb⟩
  ·exact⟨by simp only[TW e];exact ha.t,by simp only[TW e];exact ha.cnt,by simp only[TW e];exact ha.n,by simp only[TW e];exact ha.v,by simp only[TW e];exact ha.vb⟩
def FdI (w:World)(mb N:Nat)(L:List (Int×Int×Int×Int×Tf)):Prop:=∃g,aQ aH w mb N g∧∀x∈L,∃A c,g x.1=some (.agg #[.int .i64 x.2.1,.int .i64 x.2.2.1,.int .i64 x.2.2.2.1,.slice A x.2.2.2.2.len c])∧x.2.2.2.2.Sl w (fun k=>TgT w k) A c
theorem FdI.keep {w w':World}{mb N sb:Nat}{L:List (Int×Int×Int×Int×Tf)}(h:FdI w mb N L)(hs:∀k,k<w.heap.size→k≠sb→w'.heap[k]?=w.heap[k]?)(hm:mb≠sb)(hn:¬TgT w sb):FdI w' mb N L:=by
 obtain⟨g,h1,h2⟩:=h
 refine⟨g,h1.keep (hs mb h1.lt hm),fun x hx=>?_⟩
 obtain⟨A,c,e,hsl⟩:=h2 x hx
 have pt:∀k,TgT w k→w'.heap[k]?=w.heap[k]?:=fun k hk=>hs k hk.lt fun e=>hn (e▸hk)
 exact⟨A,c,e,hsl.keep pt fun k hk=>(TgT.congr (pt k hk)).2 hk⟩
theorem FdI.look {w:World}{mb N:Nat}{L:List (Int×Int×Int×Int×Tf)}(h:FdI w mb N L){x:Int×Int×Int×Int×Tf}(hx:x∈L)(ha:aH.ok x.1):∃A c,(Instr.lookup 88 (.map (some mb)) (.int .i64 x.1) false).run Tryz.prog w=.ok (.agg #[.int .i64 x.2.1,.int .i64 x.2.2.1,.int .i64 x.2.2.2.1,.slice A x.2.2.2.2.len c]) w∧x.2.2.2.2.Sl w (fun k=>TgT w k) A c:=by
 obtain⟨g,h1,h2⟩:=h
 obtain⟨A,c,e,hs⟩:=h2 x hx
 have:=h1.look false (t:=88) Tryz.jT (o7 w) ha
 simp only[TN,if_false,aH]at this
 rw[e]at this
 exact⟨A,c,this,hs⟩
theorem GJ {sc0:Sc}{ds:List De}{group:List Int}{z:Int}(h:iR sc0 ds group=.err z):z=22∨z=4:=by
 unfold iR at h
 simp only at h
 split at h
 ·cases h;exact .inl rfl
 ·split at h
  ·cases h;exact .inl rfl
  ·split at h
   ·cases h;exact .inr rfl
   ·cases h
theorem qF (label:ByteArray)(uses:List ByteArray)(uA:Option Addr)(uc:Nat)(ds:List Dc)(dA:Option Addr)(dc:Nat)(kA:Option Addr)(kn kc:Nat)(W:World)(hu:SlS W W.heap.size uA uc uses)(hd:SlD W W.heap.size dA dc ds)(hst:Jc ds)
  (sch:ByteArray×Int→Bool)(frn:ByteArray×Int→Int×Int×Tf)(hfr:∀n,TOk (frn n))
  (hsb:MdV label ds→∀W',RowKit.Below W.heap.size W W'→M4 W' (.agg #[.string label,.slice uA uses.length uc,.slice dA ds.length dc]) (.slice kA kn kc) ds sch)
  (hro:MdV label ds→RoH W (.string label) (.slice uA uses.length uc) (.slice dA ds.length dc) (.slice kA kn kc) ds frn) :
  Calls Tryz.prog 17 #[.agg #[.string label,.slice uA uses.length uc,.slice dA ds.length dc],.slice kA kn kc] W (PS W ds (tT label uses ds sch frn)):=by
 obtain⟨W0,hW0⟩:∃W0,W.alloc (.cells #[.string label,.slice uA uses.length uc,.slice dA ds.length dc] 25)=W0:=⟨_,rfl⟩
 have hb0:RowKit.Below W.heap.size W W0:=by subst hW0;exact(Tz _ _).alloc (SA _) _
 have hr0:W0.heap[W.heap.size]?=some (.cells #[.string label,.slice uA uses.length uc,.slice dA ds.length dc] 25 (0,0)):=by subst hW0;exact Sv W _
 have hz0:W.heap.size<W0.heap.size:=by subst hW0;simp
 have iX:=uO label uses uA uc ds dA dc W0 (hu.keep hb0.size fun p hp=>hb0.cell hp) (hd.keep hb0.size fun p hp=>hb0.cell hp)
 have hE:tT label uses ds sch frn=if bY label uses ds≠0 then .err 0 (bY label uses ds)else if (eB (aA ds) sch [] ds).2≠0 then .err (eB (aA ds) sch [] ds).1 (eB (aA ds) sch [] ds).2 else if dM ds=true then .err 0 21 else lu frn (ds.map Dc.de) (bX ds) sm0:=rfl
 have hV0:bY label uses ds=0→MdV label ds:=MdV.of
 have hgE:kr label uses ds=if bY label uses ds≠0 then bY label uses ds else if dM ds=true then 21 else 0:=rfl
 obtain⟨C0,HC0⟩:∃C0,Hid (bY label uses ds=C0):=⟨_,Sk rfl⟩
 rw[HC0.out]at iX hE hV0 hgE
 obtain⟨R,HR⟩:∃R,Hid (tT label uses ds sch frn=R):=⟨_,Sk rfl⟩
 rw[HR.out]at hE ⊢
 obtain⟨N,HN⟩:∃N,Hid (ds.length=N):=⟨_,Sk rfl⟩
 obtain⟨NU,HNU⟩:∃N,Hid (uses.length=N):=⟨_,Sk rfl⟩
 rw[HN.out,HNU.out]at hW0 hr0 iX hsb hro ⊢
 have t0:=Sq W0 W.heap.size 0 _ _ (0,0) hr0
 have t1:=Sq W0 W.heap.size 1 _ _ (0,0) hr0
 have t2:=Sq W0 W.heap.size 2 _ _ (0,0) hr0
 simp at t0 t1 t2
 have HCK:=Sk iX
 have HD:=Sk (Sn hu (Sn hd (Sn hst (Sn hfr (Sn hsb hro)))))
 have HB0:=Sk (Sn hb0 (Sn hr0 hz0))
 have HT:=Sk (show ∀X,RowKit.Below W0.heap.size W0 X→X.cell? ⟨W.heap.size,0,none⟩=some (.string label)∧X.cell? ⟨W.heap.size,1,none⟩=some (.slice uA NU uc)∧X.cell? ⟨W.heap.size,2,none⟩=some (.slice dA N dc)∧RowKit.Below W.heap.size W X∧W.heap.size<X.heap.size from fun X hX =>
  ⟨(hX.cell (p:=⟨W.heap.size,0,none⟩) hz0).trans t0,(hX.cell (p:=⟨W.heap.size,1,none⟩) hz0).trans t1,(hX.cell (p:=⟨W.heap.size,2,none⟩) hz0).trans t2,hb0.trans (hX.mono hb0.size),SB hz0 hX.size⟩)
 have hdc:=hd.2.1
 have hdl:=hd.1
 unfold maxLen at hdc
 rw[HN.out]at hdl
 clear hu hd hst hfr hsb hro hb0 hr0 iX
 by_cases h0:C0=0
 rotate_left
 ·have h0':(C0 != 0)=true:=by simpa using h0
  have M8:(C0==0)=false:=by simpa using h0
  have HEE:=Sk (show R=.err 0 C0 by rw[hE,TY h0])
  clear hE hgE hV0 hz0
  go_enter Tryz.func17,Tryz.ntmps17
  go_wp2_with (go_at_call 24;(with_reducible refine TJ HCK.out ?_);rintro e w1 ⟨rfl,hb1⟩;have HB1:=Sk hb1;clear hb1)
  refine Ua (v:=.tuple #[.slice none 0 0,.int .i64 0,.int .i64 C0]) (by simp[results,Tryz.results17,go_sem]) rfl ?_
  rw[HEE.out]
  exact⟨HB0.out.1.trans (HB1.out.mono HB0.out.1.size),rfl⟩
 subst h0
 have HV:=Sk (hV0 rfl)
 have hE':R=if (eB (aA ds) sch [] ds).2≠0 then .err (eB (aA ds) sch [] ds).1 (eB (aA ds) sch [] ds).2 else if dM ds=true then .err 0 21 else lu frn (ds.map Dc.de) (bX ds) sm0:=by rw[hE,TW (by simp)]
 have KW:N≤100:=by rw[←HN.out];exact HV.out.len
 have hCD:∀X,RowKit.Below W.heap.size W X→Calls Tryz.prog 49 #[.agg #[.string label,.slice uA NU uc,.slice dA N dc],.slice kA kn kc] X fun e Y=>e=.returned (.tuple #[.int .i64 (eB (aA ds) sch [] ds).1,.int .i64 (eB (aA ds) sch [] ds).2])∧RowKit.Below X.heap.size X Y:=fun X hX=>by
  have h1:=HD.out.2.2.2.2.1 HV.out X hX
  rw[←HN.out,←HNU.out]at h1 ⊢
  exact wE label uses uA uc ds dA dc kA kn kc X ((HD.out.2.1.keepW hX).keep hX.size fun _ _=>rfl) HV.out HD.out.2.2.1 sch h1
 have hGR:∀X,RowKit.Below W.heap.size W X→Calls Tryz.prog 14 #[.agg #[.string label,.slice uA NU uc,.slice dA N dc]] X (rX X (kr label uses ds) (bX ds)):=fun X hX=>by
  rw[←HN.out,←HNU.out]
  exact oV label uses uA uc ds dA dc X (HD.out.1.keep hX.size fun p hp=>hX.cell hp) ((HD.out.2.1.keepW hX).keep hX.size fun _ _=>rfl)
 obtain⟨c1,Hc1⟩:∃c1,Hid ((eB (aA ds) sch [] ds).1=c1):=⟨_,Sk rfl⟩
 obtain⟨c2,Hc2⟩:∃c2,Hid ((eB (aA ds) sch [] ds).2=c2):=⟨_,Sk rfl⟩
 rw[Hc1.out,Hc2.out]at hE' hCD
 have Jh:kr label uses ds=if dM ds=true then 21 else 0:=by rw[hgE,TW (by simp)]
 obtain⟨gE,HgE⟩:∃gE,Hid (kr label uses ds=gE):=⟨_,Sk rfl⟩
 rw[HgE.out]at Jh hGR
 have HCD:=Sk hCD
 have HGR:=Sk hGR
 have HEE:=Sk (Sn hE' Jh)
 clear hE hgE hV0 hE' hCD hGR Jh hz0
 go_enter Tryz.func17,Tryz.ntmps17
 go_wp2_with (go_at_call 24;(with_reducible refine TJ HCK.out ?_);rintro e w1 ⟨rfl,hb1⟩;obtain⟨s0,s1,s2,hbW,hz1⟩:=HT.out w1 hb1;have HC1:=Sk (HCD.out w1 hbW);have HB1:=Sk hb1;clear hb1 hbW)
 with_reducible refine TJ HC1.out ?_
 rintro e w2 ⟨rfl,hb2⟩
 have Ji:RowKit.Below W0.heap.size W0 w2:=HB1.out.trans (hb2.mono HB1.out.size)
 obtain⟨r0,r1,r2,hbW2,hz2⟩:=HT.out w2 Ji
 have HB2:=Sk (Sn Ji hbW2)
 clear hb2 Ji hbW2 s0 s1 s2 hz1 t0 t1 t2
 by_cases h2:c2=0
 rotate_left
 ·have h2':(c2 != 0)=true:=by simpa using h2
  have Rz:(c2==0)=false:=by simpa using h2
  have HV2:=Sk (show R=.err c1 c2 by rw[HEE.out.1,TY h2])
  go_wp2
  refine Ua (v:=.tuple #[.slice none 0 0,.int .i64 c1,.int .i64 c2]) (by simp[results,Tryz.results17,go_sem]) rfl ?_
  rw[HV2.out]
  exact⟨HB2.out.2,rfl⟩
 subst h2
 have HG2:=Sk (HGR.out w2 HB2.out.2)
 go_wp2_with fail
 with_reducible refine TJ HG2.out ?_
 rintro e w3 ⟨gv,gl,rfl,hb3,hgr⟩
 have Er:RowKit.Below W0.heap.size W0 w3:=HB2.out.1.trans (hb3.mono HB2.out.1.size)
 obtain⟨q0,q1,q2,Es,hz3⟩:=HT.out w3 Er
 clear r0 r1 r2 hz2
 by_cases hm:dM ds=true
 ·have PU:gE=21:=by rw[HEE.out.2,TY hm]
  have HV2:=Sk (show R=.err 0 21 by rw[HEE.out.1,TW (by simp),TY hm])
  have hgv:gv=.slice none 0 0:=by
   rcases hgr with⟨e,_⟩|⟨_,e⟩
   ·omega
   ·exact e
  subst hgv
  have HB3:=Sk Es
  subst PU
  clear Er hb3 hgr Es
  go_wp2
  refine Ua (v:=.tuple #[.slice none 0 0,.int .i64 0,.int .i64 21]) (by simp[results,Tryz.results17,go_sem]) rfl ?_
  rw[HV2.out]
  exact⟨HB3.out,rfl⟩
 have hg0:gE=0:=by rw[HEE.out.2,TW hm]
 have hRG:RG w3 w2.heap.size w2.heap.size gv gl (bX ds):=by
  rcases hgr with⟨_,e⟩|⟨e,_⟩
  ·exact e
  ·exact absurd hg0 e
 subst hg0
 obtain⟨gA,gc,rfl⟩:=bR hRG.row
 have hmf:dM ds=false:=by simpa using hm
 have HM:=Sk (Sn hmf (show R=lu frn (ds.map Dc.de) (bX ds) sm0 by rw[HEE.out.1,TW (by simp),TW hm]))
 have HNT:=Sk (zP frn label uA dA kA NU uc N dc kn kc w3)
 obtain⟨GN,HGN⟩:∃GN,Hid (gl.length=GN):=⟨_,Sk rfl⟩
 have HR3:=Sk (Sn hRG (Sn Er Es))
 rw[HGN.out]
 clear hgr hRG hb3 Er Es hm hmf
 go_wp2_with (go_at_call 50;(with_reducible refine TJ HNT.out ?_);rintro e w4 ⟨rfl,hb4,hty,hsm⟩;have HTY:=Sk (Sn hb4 (Sn hty hsm));clear hb4 hty hsm)
 obtain⟨B,HB⟩:∃B,Hid (w3.heap.size=B):=⟨_,Sk rfl⟩
 obtain⟨C,hC⟩:∃C,C=ntC w3 (.string label) (.slice uA NU uc) (.slice dA N dc) (.slice kA kn kc) frn:=⟨_,rfl⟩
 obtain⟨TB,HTB⟩:∃TB,Hid (w3.heap.size+3=TB):=⟨_,Sk rfl⟩
 rw[HTB.out]
 have hCt:C.tb=TB:=by rw[hC];exact HTB.out
 have hM0:MoI w3.heap.size C w3 w4 0 0 sm0:=by
  rw[hC]
  exact⟨HTY.out.2.1,HTY.out.2.2,by simp[ntC],by simp[ntC]⟩
 have tV:=zQ (jL HV.out.asc) (HV.out.gr HM.out.1).us
 have hgl:GN≤1000:=by
  have h1:(bX ds).length≤(aA ds).length:=by
   have hp:((bX ds).map bK).Nodup:=by
    rw[List.nodup_iff_pairwise_ne,List.pairwise_map]
    refine tV.2.1.imp_of_mem fun {a b} ha hb hab e=>?_
    exact hab _ (head_mem (tV.1 a ha).ne) (e▸head_mem (tV.1 b hb).ne)
   have:(((bX ds).map bK).mergeSort leI).length=(bX ds).length:=by rw[List.length_mergeSort,S9]
   rw[←this]
   refine uN HV.out.asc (tX hp) fun x hx=>?_
   obtain⟨g,hg,rfl⟩:=TH.1 (gZ.1 hx)
   exact(tV.1 g hg).sub _ (head_mem (tV.1 g hg).ne)
  have h2:(aA ds).length=ds.length:=S9 ..
  have h3:=HR3.out.1.len
  have h4:=HV.out.len
  rw[HGN.out]at h3
  omega
 have HC:=Sk (Sn hC (Sn hM0 (Sn tV hCt)))
 clear hC hM0 tV q0 q1 q2 hz3 hCt
 go_loopg [50] GN (fun g ct w=>∃(j nf K:Nat) (s:Sm),g=GN-j∧j≤GN∧ct=.int .i64 j∧MoI w3.heap.size C w3 w nf K s∧K≤j*1000∧(∀a,SmP s a)∧R=lu frn (ds.map Dc.de) ((bX ds).drop j) s∧RowKit.Below w3.heap.size w3 w)
 case atStart=>exact⟨0,0,0,sm0,rfl,SC _,rfl,HC.out.2.1,SA _,Na,HM.out.2,HTY.out.1⟩
 case round =>
  obtain⟨j,nf,K,s,hg,hj,rfl,hI,hK,hS,hR,hbX⟩:=hrel
  by_cases hlt:j<GN
  ·have hlt':j<gl.length:=by rw[HGN.out];exact hlt
   obtain⟨gv,hgv⟩:∃v,gl[j]?=some v:=⟨_,Sw hlt'⟩
   obtain⟨group,hgr⟩:∃l,(bX ds)[j]?=some l:=⟨_,Sw (by rw[←HR3.out.1.len];exact hlt')⟩
   have hGV:=HR3.out.1.gs j gv group hgv hgr
   obtain⟨vA,vc,rfl,hIA⟩:=hGV.ints
   obtain⟨gb,rfl⟩:∃gb,gA=some ⟨gb,0,none⟩:=by
    rcases HR3.out.1.row.2 with⟨e,e'⟩|⟨g',cap',cur,e,_⟩
    ·omega
    ·cases e;exact⟨_,rfl⟩
   have PV:=(HR3.out.1.blk (g:=gb) rfl).2.1
   have c0:wr.cell? ⟨gb,j,none⟩=some (.slice vA group.length vc):=(SN (hI.old gb PV)).trans ((HR3.out.1.row.cellAt j (by rw[Nat.mul_one];exact hlt')).trans hgv)
   have hGr:=HC.out.2.2.1.1 group (SV hgr)
   have hdr:(bX ds).drop j=group::(bX ds).drop (j+1):=by
    have h1:=Sy.1 hgr
    rw[TQ h1.1,h1.2]
   rw[hdr]at hR
   have hfind:=MoI.find HV.out hI hS (by rw[HC.out.1];exact HD.out.2.2.2.1) (dA:=dA) (dc:=dc) ((HD.out.2.1.keepW HR3.out.2.2).keep HR3.out.2.2.size fun _ _=>rfl) (by rw[HC.out.1,HN.out];rfl) (fun C' e0 e1 e2 e3 ef es=>by
    rw[HC.out.1]at e0 e1 e2 e3 ef
    exact HD.out.2.2.2.2.2 HV.out w3 C' HR3.out.2.2 e0 e1 e2 e3 ef es) hIA (jL hGr.srt) hGr.sub
   have hfe:C.sc.frn=frn:=by rw[HC.out.1];rfl
   rw[hfe,HC.out.2.2.2]at hfind
   have hm1:lu frn (ds.map Dc.de) (group::(bX ds).drop (j+1)) s=match iR ⟨[],fun a=>(s a).2,frn⟩ (ds.map Dc.de) group with
    | .err z=>.err (group.headD 0) z
    | .ok L=>lu frn (ds.map Dc.de) ((bX ds).drop (j+1)) (tQ s L):=rfl
   rw[hm1]at hR
   obtain⟨F,hF⟩:∃F,iR ⟨[],fun a=>(s a).2,frn⟩ (ds.map Dc.de) group=F:=⟨_,rfl⟩
   rw[hF]at hfind hR
   obtain⟨M,HMM⟩:∃M,Hid (group.length=M):=⟨_,Sk rfl⟩
   have hFC:=hfind.1
   rw[HMM.out]at hFC c0
   have HFC:=Sk hFC
   have HJ:=Sk (Sn hg (Sn hI (Sn hK (Sn hS (Sn hR (Sn hfind.2 (Sn hIA (Sn hGr (Sn hGV (Sn hF hbX))))))))))
   clear hg hI hK hS hR hfind hIA hGr hGV hF hbX hFC hgv hgr hdr hm1 hlt' hfe
   go_wp2_with fail
   with_reducible refine TJ HFC.out ?_
   rintro e w5 ⟨⟨nf',hnf,hr5⟩,hk5,hres⟩
   have Nb:RowKit.Below w3.heap.size w3 w5:=⟨hk5.os.trans HJ.out.2.2.2.2.2.2.2.2.2.2.os,hk5.tape.trans HJ.out.2.2.2.2.2.2.2.2.2.2.tape,hk5.output.trans HJ.out.2.2.2.2.2.2.2.2.2.2.output,hr5.bs,hr5.old⟩
   obtain⟨q,qc,RA,qfz,qe,hqb,hqk,hqc,hqn,hql,hqm⟩:=HJ.out.2.2.2.2.2.2.2.2.1
   have Nc:=lt_of_block hqk
   simp only[Value.slice.injEq]at qe
   obtain⟨rfl,-,rfl⟩:=qe
   have hMc:M≤100:=by
    have h1:=uN HV.out.asc HJ.out.2.2.2.2.2.2.2.1.srt HJ.out.2.2.2.2.2.2.2.1.sub
    have h2:(aA ds).length=ds.length:=S9 ..
    have h3:=HV.out.len
    rw[HMM.out]at h1
    omega
   have hMp:0<M:=by rw[←HMM.out];exact List.length_pos_iff.2 hqn
   rw[HMM.out]at hql
   unfold maxLen at hqm
   have HG5:=Sk (Sn Nb (Sn hqc (Sn hqn (show ∀Y,RowKit.Below w3.heap.size w3 Y→∀(t:Nat) (i:Int),group[t]?=some i→Y.cell? ⟨q,t,none⟩=some (.int .i64 i)from fun Y hY t i ht=>(SN (hY.block q Nc)).trans (hqc t i ht)))))
   clear hqb hqk hqc Nc Nb
   cases F with
   | err z =>
    have hz:z=22∨z=4:=GJ HJ.out.2.2.2.2.2.2.2.2.2.1
    have hres':e=.returned (.tuple #[.map none,.int .i64 z]):=hres
    subst hres'
    have hz':(z != 0)=true:=by rcases hz with rfl|rfl <;> rfl
    have RB:(z==0)=false:=by rcases hz with rfl|rfl <;> rfl
    obtain⟨x,l,hxl⟩:=List.exists_cons_of_ne_nil hqn
    have u0:=HG5.out.2.2.2 w5 HG5.out.1 0 x (by rw[hxl];rfl)
    have HV2:=Sk (show R=.err x z by rw[HJ.out.2.2.2.2.1];simp only[hxl];rfl)
    have i1:(0:Int)<(M:Int):=by omega
    clear hres hr5 hk5 hz hqn hxl hnf
    go_wp2
    go_quiet (fail)
    go_wp2
    refine Ua (v:=.tuple #[.slice none 0 0,.int .i64 x,.int .i64 z]) (by simp[results,Tryz.results17,go_sem]) rfl ?_
    rw[HV2.out]
    refine⟨?_,rfl⟩
    exact(HR3.out.2.2.trans (HG5.out.1.mono HR3.out.2.2.size)).trans (below_drewN (Tz _ _) _)
   | ok L =>
    have hI5:=HJ.out.2.1.found hr5 hk5
    obtain⟨mb,FN,fg,he,hmb,hfn,hfm,hfs⟩:=hres
    subst he
    have hF5:FdI w5 mb FN L:=⟨fg,hfm,fun x hx=>by
     obtain⟨A,c,e,hs⟩:=hfs x hx
     exact⟨A,c,e,hs.keep (fun _ _=>rfl) fun k hk=>hk.2⟩⟩
    obtain⟨hLg,hLs⟩:=HJ.out.2.2.2.2.2.1 L rfl
    have hms:mb≠C.sb:=fun e=>by
     obtain⟨g',hm',_⟩:=HJ.out.2.1.m.m
     have:=hm'.lt
     omega
    have HF:=Sk (Sn hI5 (Sn hF5 (Sn hLg (Sn hLs hms))))
    have hLM:L.length=M:=by rw[←HMM.out,←hLg,S9]
    clear hr5 hk5 hfm hfs hfn hmb hI5 hF5 hLg hLs hnf
    go_wp2
    go_loopg [68] M (fun g ct w=>∃(q':Nat),g=M-q'∧q'≤M∧ct=.int .i64 q'∧MoI w3.heap.size C w3 w nf' (K+q') (nQ s (L.take q'))∧FdI w mb FN L∧RowKit.Below w3.heap.size w3 w)
    case atStart=>exact⟨0,rfl,SC _,rfl,HF.out.1,HF.out.2.1,HG5.out.1⟩
    case round =>
     obtain⟨q',hg,hq',rfl,hI6,hF6,hb6⟩:=hrel
     by_cases hlq:q'<M
     ·obtain⟨x,hx⟩:∃x,L[q']?=some x:=⟨_,Sw (by omega)⟩
      have hxm:=SV hx
      have hxg:group[q']?=some x.1:=by rw[←HF.out.2.2.1,Tk,hx];rfl
      have eu:=HG5.out.2.2.2 wr hb6 q' x.1 hxg
      have hxo:aH.ok x.1:=by
       have h1:=HJ.out.2.2.2.2.2.2.2.1.sub x.1 (SV hxg)
       obtain⟨d,hd,e⟩:=TH.1 h1
       rw[←e]
       exact lq (HV.out.v d hd).id
      have hI7:=hI6.below (Tz _ wr).drew
      have hF7:FdI wr.drew mb FN L:=hF6.keep (sb:=wr.heap.size) (fun _ _ _=>rfl) (by obtain⟨_,h1,_⟩:=hF6;have:=h1.lt;omega) (fun ht=>by have:=ht.lt;omega)
      obtain⟨A,c,lkf,hsl⟩:=hF7.look hxm hxo
      obtain⟨Z,hrun,hI8,hs8,hz8⟩:=hI7.put (t:=x.2) hxo (by have:=HJ.out.2.2.1;unfold maxLen;omega) (hsl.keep (P':=PT (fun k=>k<w3.heap.size) wr.drew) (fun _ _=>rfl) fun k hk=>.inr hk)
      have htk:L.take (q'+1)=L.take q'++[x]:=by rw[Tn,hx];rfl
      have hI9:MoI w3.heap.size C w3 Z nf' (K+(q'+1)) (nQ s (L.take (q'+1))):=by rw[htk,GI];exact hI8
      have hF9:FdI Z mb FN L:=hF7.keep hs8 HF.out.2.2.2.2 (by obtain⟨g',hm',_⟩:=hI7.m.m;exact hm'.not.2)
      have hb9:RowKit.Below w3.heap.size w3 Z:=hb6.drew.trans (hz8.mono hI7.sb.1)
      obtain⟨gv',nv',f',hbx⟩:=hI7.r.box
      change wr.drew.heap[C.tb]?=_ at hbx
      rw[HC.out.2.2.2]at hbx
      have x4:wr.drew.cell? ⟨TB,4,none⟩=some (.map (some C.sb)):=Sq wr.drew TB 4 _ _ (0,0) hbx
      have x4':wr.cell? ⟨TB,4,none⟩=some (.map (some C.sb)):=x4
      have HQ:=Sk (Sn hg (Sn hI9 (Sn hF9 hb9)))
      clear hg hI6 hF6 hb6 hx hxm hxg hxo hI7 hF7 hsl hI8 hs8 hz8 htk hI9 hF9 hb9 hbx
      go_upto_region 20 with fail
      go_region_law (fail)
      all_goals (
       go_wp2
       go_roundg (M-(q'+1))
       case measure=>have:=HQ.out.1;omega
       case rel=>exact⟨q'+1,rfl,by omega,by go_num,HQ.out.2.1,HQ.out.2.2.1,HQ.out.2.2.2⟩)
     ·have hqM:M=q':=by omega
      subst hqM
      have i1:decide ((M:Int)<(M:Int))=false:=SH (by omega)
      have i2:decide (M<M)=false:=SH (by omega)
      rw[Tm (by omega)]at hI6
      have hgn:=jL HJ.out.2.2.2.2.2.2.2.1.srt
      rw[←HF.out.2.2.1]at hgn
      have hRL:=HJ.out.2.2.2.2.1
      have HQ:=Sk (Sn hI6 (Sn hb6 (Sn (LB HJ.out.2.2.2.1 HF.out.2.2.2.1) (show R=lu frn (ds.map Dc.de) ((bX ds).drop (j+1)) (nQ s L) by rw[DC s hgn];exact hRL))))
      clear hI6 hF6 hb6 hgn hRL hg
      go_wp2
      go_roundg (GN-(j+1))
      case measure=>have:=HJ.out.1;omega
      case rel=>exact⟨j+1,nf',K+M,nQ s L,rfl,by omega,by go_num,HQ.out.1,by have:=HJ.out.2.2.1;omega,HQ.out.2.2.1,HQ.out.2.2.2,HQ.out.2.1⟩
  ·have hjN:GN=j:=by omega
   subst hjN
   have i1:decide ((GN:Int)<(GN:Int))=false:=SH (by omega)
   have i2:decide (GN<GN)=false:=SH (by omega)
   have hRs:R=.ok s:=by
    rw[hR,List.drop_of_length_le (by rw[←HR3.out.1.len,HGN.out];exact SA _)]
    rfl
   obtain⟨_,_,b2,hbW,hzW⟩:=HT.out wr (HR3.out.2.1.trans (hbX.mono HR3.out.2.1.size))
   have HQ:=Sk (Sn hI (Sn hbX (Sn hRs hbW)))
   clear hI hbX hRs hbW hR hS hK hg hzW
   go_wp2
   obtain⟨X0,hX0⟩:∃X0,wr=X0:=⟨_,rfl⟩
   subst hX0
   have Rc:W.heap.size≤wr.heap.size:=HQ.out.2.2.2.size
   obtain⟨X0h,Jj⟩:∃n,Hid (wr.heap.size=n∧w3.heap.size≤n):=⟨_,Sk ⟨rfl,HQ.out.2.1.size⟩⟩
   go_loopg [19,21,85] N (fun g lv _ ct w=>∃(j:Nat) (L:List (Option Addr×Nat)),g=N-j∧j≤N∧ct=.int .i64 j∧MoI w3.heap.size C w3 w nf K s∧RowKit.Below W.heap.size W w∧L.length=j∧w.ownsRow W.heap.size 57 6 lv j (oZ s (ds.take j) L)∧(∀g,lv.ownBlock=some g→X0h≤g)∧X0h≤w.heap.size∧∀(t:Nat) (x:Dc) (p:Option Addr×Nat),ds[t]?=some x→L[t]?=some p→(s x.id).2.2.2.Sl w (PT (fun k=>k<w3.heap.size) w) p.1 p.2)
   case atStart=>exact⟨0,[],rfl,SC _,rfl,HQ.out.1,HQ.out.2.2.2,rfl,TD _ _ _ _,by simp[Value.ownBlock],by rw[Jj.out.1];exact SA _,by simp⟩
   case round =>
    obtain⟨j,L,hg,hj,rfl,hI,hbW,hLj,hrow,hlo,PW,hSl⟩:=hrel
    by_cases hlt:j<N
    ·have hlt':j<ds.length:=by rw[HN.out];exact hlt
     obtain⟨x,hx⟩:∃x,ds[j]?=some x:=⟨_,Sw hlt'⟩
     have hxm:=SV hx
     have mq:=(HV.out.v x hxm).id
     obtain⟨nm,hnm⟩:=uP Hc2.out x hxm
     have hd:=HD.out.2.1.keepW hbW
     obtain⟨b,o,rfl,hb,hall⟩:=hd.2.2 (by intro e;rw[e]at hlt';simp at hlt')
     obtain⟨hcs,iq⟩:=hall j x hx
     obtain⟨lA,lc,rfl⟩:=bR hrow
     have htk:ds.take (j+1)=ds.take j++[x]:=by rw[Tn,hx];rfl
     obtain⟨xid,bD,bS,xnA,xnc,aK,aY,xk,xn,xm,xi,xd,xA,xc,xs⟩:=x
     simp only at hnm mq
     subst hnm
     obtain⟨d0,d1,d2,d3,d4,d5,d6,d7,d8,d9,d10⟩:=dcs hcs
     obtain⟨W3,hW3⟩:∃W3,wr.alloc (.cells #[.int .i64 xid,.int .i64 bD,.bool bS,.slice xnA 1 xnc,.bool aY,.int .i64 xk,.string xn,.string xm,.int .i64 xi,.int .i64 xd,.slice xA xs.len xc] 46)=W3:=⟨_,rfl⟩
     have hb3:RowKit.Below wr.heap.size wr W3.drew:=by subst hW3;exact((Tz _ _).alloc (SA _) _).drew
     have hr3:W3.heap[wr.heap.size]?=some (.cells #[.int .i64 xid,.int .i64 bD,.bool bS,.slice xnA 1 xnc,.bool aY,.int .i64 xk,.string xn,.string xm,.int .i64 xi,.int .i64 xd,.slice xA xs.len xc] 46 (0,0)):=by subst hW3;exact Sv wr _
     have e0:=Sq W3 wr.heap.size 0 _ _ (0,0) hr3
     have e3:=Sq W3 wr.heap.size 3 _ _ (0,0) hr3
     simp at e0 e3
     have hI3:=hI.below hb3
     obtain⟨nb,no,rfl,hnb,mG⟩:=iq.1.at_ (j:=0) (by simp)
     simp only[List.getElem_cons_zero,Nat.add_zero]at mG
     have nc3:W3.drew.cell? ⟨nb,no,none⟩=some (.string nm):=(hb3.cell (p:=⟨nb,no,none⟩) (by have:=hbW.size;show nb<wr.heap.size;omega)).trans mG
     have Jd:=iq.1.1
     have Je:=iq.1.2.1
     unfold maxLen at Je
     simp only[SY]at Jd
     obtain⟨sA,sc,lks,hsl⟩:=hI3.m.look (lq mq)
     obtain⟨gv',nv',f',hbx⟩:=hI3.r.box
     change W3.drew.heap[C.tb]?=_ at hbx
     rw[HC.out.2.2.2]at hbx
     have x4:W3.drew.cell? ⟨TB,4,none⟩=some (.map (some C.sb)):=Sq W3.drew TB 4 _ _ (0,0) hbx
     have hrow3:=bQ hrow (w':=W3.drew) fun g hg=>hb3.block g (hrow.lt g hg).2
     obtain⟨i0,hi,hz0,hz1,hz2⟩:=info_parts Tryz.LA
     have HQ3:=Sk (Sn hg (Sn hI3 (Sn (hbW.trans (hb3.mono hbW.size)) (Sn hLj (Sn hrow3 (Sn (Sn hlo PW) (Sn hSl (Sn hsl (Sn htk (Sn hb3 (Sn (Sn hxm hx) (Sn hr3 (Sn hnb hbx)))))))))))))
     clear hg hI hbW hLj hrow hlo hSl hsl hb3 hr3 hI3 hbx hall hcs iq hx hxm htk hd hrow3 hlt' hnb mG
     go_upto_region 27 with fail
     try rw[hW3]
     have HJL:=Sk HQ3.out.2.2.2.1
     have HKP:=Sk (show ∀Y,RowKit.Below W3.heap.size W3 Y→Y.cell? ⟨wr.heap.size,0,none⟩=some (.int .i64 xid)∧Y.cell? ⟨wr.heap.size,3,none⟩=some (.slice (some ⟨nb,no,none⟩) 1 xnc)∧Y.cell? ⟨nb,no,none⟩=some (.string nm)∧Y.cell? ⟨TB,4,none⟩=some (.map (some C.sb))from fun Y hY =>
      ⟨(hY.cell (p:=⟨wr.heap.size,0,none⟩) (SS W3 ⟨wr.heap.size,0,none⟩ e0)).trans e0,(hY.cell (p:=⟨wr.heap.size,3,none⟩) (SS W3 ⟨wr.heap.size,3,none⟩ e3)).trans e3,(hY.cell (p:=⟨nb,no,none⟩) (SS W3.drew ⟨nb,no,none⟩ nc3)).trans nc3,(hY.cell (p:=⟨TB,4,none⟩) (SS W3.drew ⟨TB,4,none⟩ x4)).trans x4⟩)
     have HK8:=Sk (show ∀(o:Obj) (w8:World),(W3.drew.alloc o).grownBy w8 (Value.slice lA j lc).ownBlock→w8.cell? ⟨wr.heap.size,0,none⟩=some (.int .i64 xid)∧w8.cell? ⟨wr.heap.size,3,none⟩=some (.slice (some ⟨nb,no,none⟩) 1 xnc)∧w8.cell? ⟨nb,no,none⟩=some (.string nm)∧w8.cell? ⟨TB,4,none⟩=some (.map (some C.sb))from fun o w8 hg8=>by
      obtain⟨k0,k3,kn,k4⟩:=HKP.out (W3.drew.alloc o) ((Tz _ _).drew.alloc (SA _) o)
      have hown:=HQ3.out.2.2.2.2.1
      have kp:∀(p:Addr),p.block<W3.heap.size→(∀g,(Value.slice lA j lc).ownBlock=some g→g≠p.block)→w8.cell? p=(W3.drew.alloc o).cell? p:=fun p hp hne=>SN (hg8.block p.block (by simp;omega) (fun e=>hne _ e.symm rfl))
      have PX:=HQ3.out.2.2.2.2.2.2.2.2.2.2.2.1
      have hb0:=SS W3 ⟨wr.heap.size,0,none⟩ e0
      have hb1:=SS W3.drew ⟨nb,no,none⟩ nc3
      have hb2:=SS W3.drew ⟨TB,4,none⟩ x4
      have ne0:∀g,(Value.slice lA j lc).ownBlock=some g→g≠wr.heap.size:=fun g hg e=>by
       obtain⟨c',fz',h1⟩:=Lib.ownsRow_kind hown g hg
       have h2:=(show W3.drew.heap[g]?=W3.drew.heap[wr.heap.size]? by rw[e]).trans PX
       rw[h2]at h1
       simp only[TK,Obj.cells.injEq]at h1
       exact absurd h1.2.1 (by decide)
      have ne1:∀g,(Value.slice lA j lc).ownBlock=some g→g≠nb:=fun g hg e=>by
       have:=(hown.lt g hg).1
       have h9:nb<W.heap.size:=HQ3.out.2.2.2.2.2.2.2.2.2.2.2.2.1
       omega
      have ne2:∀g,(Value.slice lA j lc).ownBlock=some g→g≠TB:=fun g hg e=>by
       obtain⟨c',fz',h1⟩:=Lib.ownsRow_kind hown g hg
       have h2:=(show W3.drew.heap[g]?=W3.drew.heap[TB]? by rw[e]).trans HQ3.out.2.2.2.2.2.2.2.2.2.2.2.2.2
       rw[h2]at h1
       simp only[TK,Obj.cells.injEq]at h1
       exact absurd h1.2.1 (by decide)
      exact⟨(kp ⟨wr.heap.size,0,none⟩ hb0 ne0).trans k0,(kp ⟨wr.heap.size,3,none⟩ hb0 ne0).trans k3,(kp ⟨nb,no,none⟩ hb1 ne1).trans kn,(kp ⟨TB,4,none⟩ hb2 ne2).trans k4⟩)
     go_region_held3 (fun Y=>Y.cell? ⟨wr.heap.size,0,none⟩=some (.int .i64 xid)∧Y.cell? ⟨wr.heap.size,3,none⟩=some (.slice (some ⟨nb,no,none⟩) 1 xnc)∧Y.cell? ⟨nb,no,none⟩=some (.string nm)∧Y.cell? ⟨TB,4,none⟩=some (.map (some C.sb)))
      (first|exact HS8.out|exact HKP.out _ (Tz _ _).drew|exact HKP.out _ ((Tz _ _).drew.alloc (SA _) _)|exact HKP.out _ (Tz _ _))
      ((refine step_append_lies _ rfl (.tmp 89) (.tmp 104) 35 rfl W.heap.size 57 i0 _ 6 72 Tryz.Lx hi hz0 hz1 hz2 rfl (by omega) (.slice lA j lc) j _ rfl (HQ3.out.2.2.2.2.1.alloc _) ⟨W3.heap.size,0,none⟩ 1 1 [.int .i64 xid,.string nm,.int .i64 (s xid).1,.int .i64 (s xid).2.1,.int .i64 (s xid).2.2.1,.slice sA (s xid).2.2.2.len sc] rfl rfl (World.news_of_block (cs:=#[.int .i64 xid,.string nm,.int .i64 (s xid).1,.int .i64 (s xid).2.1,.int .i64 (s xid).2.2.1,.slice sA (s xid).2.2.2.len sc]) (t:=57) (fr:=(0,0)) (Sv _ _)) (by simp[Value.oneCell']) (by omega) (by unfold maxLen;omega) (by omega) (by have:=HQ3.out.2.2.1.size;simp at this ⊢;omega) _ rfl ?_;intro gg RD w8 KZ zR Nf Nh;have HO8:=Sk (Sn KZ (Sn zR (Sn Nf Nh)));have HS8:=Sk (HK8.out _ _ zR);clear KZ zR Nf Nh))
     all_goals (
      go_wp2
      go_roundg (N-(j+1))
      case measure=>have:=HQ3.out.1;omega
      case rel =>
       have hI3:=HQ3.out.2.1
       have hown:=HQ3.out.2.2.2.2.1
       have hba:RowKit.Below W3.drew.heap.size W3.drew (W3.alloc (.cells #[.int .i64 xid,.string nm,.int .i64 (s xid).1,.int .i64 (s xid).2.1,.int .i64 (s xid).2.2.1,.slice sA (s xid).2.2.2.len sc] 57)).drew:=(Tz _ W3.drew).alloc (SA _) _
       have hIa:=hI3.below hba
       have PY:=hba.size
       obtain⟨hI8,hpt⟩:=hIa.sigs HO8.out.2.1 (fun k hk=>⟨SE Jj.out.2 (HQ3.out.2.2.2.2.2.1.1 k hk),by
        obtain⟨c',fz',h1⟩:=Lib.ownsRow_kind hown k hk
        exact⟨c',fz',(hba.block k (hown.lt k hk).2).trans h1⟩⟩)
       have Et:∀k,PT (fun k=>k<w3.heap.size) W3.drew k→w8.heap[k]?=W3.drew.heap[k]?∧PT (fun k=>k<w3.heap.size) w8 k:=fun k hp=>by
        have hl:k<W3.drew.heap.size:=hp.elim (fun hd=>by have:=hI3.r.bs;omega) (fun ht=>ht.lt)
        have e:=hba.block k hl
        have hp2:PT (fun k=>k<w3.heap.size) _ k:=hp.imp id fun ht=>(TgT.congr e).2 ht
        exact⟨(hpt k hp2).1.trans e,(hpt k hp2).2⟩
       refine⟨j+1,L++[(sA,sc)],rfl,by omega,by go_num,hI8,(HQ3.out.2.2.1.trans (hba.mono HQ3.out.2.2.1.size)).trans (cu HO8.out.2.1 (by have:=HQ3.out.2.2.1.size;omega) fun k hk=>(hown.lt k hk).1),?_,?_,?_,?_,?_⟩
       ·rw[SX,HQ3.out.2.2.2.1];rfl
       ·rw[HQ3.out.2.2.2.2.2.2.2.2.1,xI _ _ _ _ _ (by rw[Um,HN.out,HQ3.out.2.2.2.1];omega)]
        exact HO8.out.1
       ·intro g hg
        cases hg
        rcases HO8.out.2.2.1 with h'|h'
        ·exact HQ3.out.2.2.2.2.2.1.1 _ h'
        ·have h1:=HQ3.out.2.2.2.2.2.1.2
         have h2:=HQ3.out.2.2.2.2.2.2.2.2.2.1.size
         have h3:W3.drew.heap.size≤gg:=by rw[h'];exact PY
         exact SE h1 (SE h2 h3)
       ·have h1:=HQ3.out.2.2.2.2.2.1.2
        have h2:=HQ3.out.2.2.2.2.2.2.2.2.2.1.size
        have h3:=HO8.out.2.1.size
        omega
       ·intro t x p hx hp
        rcases Nat.lt_or_ge t L.length with ht|ht
        ·rw[Tg ht]at hp
         have h1:=HQ3.out.2.2.2.2.2.2.1 t x p hx hp
         have hpw:∀k,PT (fun k=>k<w3.heap.size) wr k→W3.drew.heap[k]?=wr.heap[k]?∧PT (fun k=>k<w3.heap.size) W3.drew k:=fun k hpk=>by
          have hl:k<wr.heap.size:=hpk.elim (fun hd=>by have:=Jj.out.2;have:=HQ3.out.2.2.2.2.2.1.2;omega) (fun ht=>ht.lt)
          have e:=HQ3.out.2.2.2.2.2.2.2.2.2.1.block k hl
          exact⟨e,hpk.imp id fun ht=>(TgT.congr e).2 ht⟩
         exact h1.keep (fun k hk=>((Et k (hpw k hk).2).1).trans (hpw k hk).1) fun k hk=>(Et k (hpw k hk).2).2
        ·rw[Ti ht]at hp
         have e:t-L.length=0:=by
          rcases Nat.eq_zero_or_pos (t-L.length)with e|e
          ·exact e
          ·rw[Ui (by simp;omega)]at hp;cases hp
         rw[e]at hp
         simp only[List.getElem?_cons_zero,TK]at hp
         subst hp
         have htj:t=j:=by have:=HQ3.out.2.2.2.1;omega
         subst htj
         have hxe:=HQ3.out.2.2.2.2.2.2.2.2.2.2.1.2
         rw[hxe]at hx
         cases hx
         exact HQ3.out.2.2.2.2.2.2.2.1.keep (fun k hk=>(Et k hk).1) fun k hk=>(Et k hk).2)
    ·have hjN:N=j:=by omega
     subst hjN
     have i1:decide ((N:Int)<(N:Int))=false:=SH (by omega)
     have i2:decide (N<N)=false:=SH (by omega)
     rw[Tm (by rw[HN.out];exact SA _)]at hrow
     have HE:=Sk (Sn hbW (Sn hLj (Sn hrow (Sn hSl hI.r.bs))))
     clear hI hbW hLj hrow hlo hSl hg
     go_wp2
     refine Ua (v:=.tuple #[_,.int .i64 0,.int .i64 0]) (by simp[results,Tryz.results17,go_sem];rfl) rfl ?_
     rw[HQ.out.2.2.1]
     refine⟨HE.out.1,_,L,rfl,by rw[HN.out];exact HE.out.2.1,by rw[HN.out];exact HE.out.2.2.1,fun t x p hx hp=>(HE.out.2.2.2.1 t x p hx hp).keep (fun _ _=>rfl) fun k hk=>?_⟩
     rcases hk with hk|hk
     ·have:=HE.out.2.2.2.2
      omega
     ·exact hk.lt
end Go.Proofs.Q
