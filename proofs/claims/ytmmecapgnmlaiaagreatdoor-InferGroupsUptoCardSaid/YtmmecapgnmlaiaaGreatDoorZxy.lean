/- helper lemmas -/
import Derived.Test.YtmmecapgnmlaiaaGreatDoorZxq
import Derived.Test.YtmmecapgnmlaiaaGreatDoorLyq
import Derived.Sort.OwnSortedInts
import Derived.Laws.EntriesVeiled
import Derived.Lib.SlicesDelete
import Derived.Test.YtmmecapgnmlaiaaGreatDoorZxz
set_option maxRecDepth 100000
set_option maxHeartbeats 16000000
namespace Go.Proofs.Q
open Go Go.RowKit Go.Proofs Go.Proofs.Scc Go.Shelf Go.Sort
def rC (l:List Int)(x:Int):Int:=if x∈l then (l.idxOf x:Int)else -1
theorem tF {B:Nat}{A:Option Addr}{c:Nat}{l:List Int}{w:World}(h:dF w B A c l)(x:Int):Calls Tryz.prog 83 #[.slice A l.length c,.int .i64 x] w fun e w'=>e=.returned (.int .i64 (rC l x))∧w'=w:=by
 obtain⟨N,HN⟩:∃N,Hid (l.length=N):=⟨_,Sk rfl⟩
 have hcap:N≤maxLen:=by rw[←HN.out];exact SE h.1 h.2.1
 obtain⟨R,HR⟩:∃R,Hid (rC l x=R):=⟨_,Sk rfl⟩
 have HH:=Sk h
 rw[HN.out,HR.out]
 unfold maxLen at hcap
 clear h
 go_enter Tryz.func83,Tryz.ntmps83
 go_wp2
 go_loopg [5,8] N (fun g _ ct wr=>∃j:Nat,g=N-j∧j≤N∧ct=.int .i64 j∧wr=w∧x∉l.take j)
 case atStart=>exact⟨0,rfl,SC _,rfl,rfl,by simp⟩
 case round =>
  obtain⟨j,hg,hj,rfl,rfl,hx⟩:=hrel
  by_cases hlt:j<N
  ·obtain⟨a,ha⟩:∃a,l[j]?=some a:=⟨_,Sw (by rw[HN.out];exact hlt)⟩
   obtain⟨g,o,rfl,hgB,hgc⟩:=HH.out.2.2 (by intro e;rw[e]at ha;simp at ha)
   have eg:=hgc j a ha
   have htk:l.take (j+1)=l.take j++[a]:=by rw[Tn,ha];rfl
   by_cases he:x=a
   ·subst he
    have HV:=Sk (show R=(j:Int) by
     rw[←HR.out]
     unfold rC
     rw[TY (SV ha)]
     congr 1
     obtain⟨i1,i2⟩:=wW (id:=x) (l:=l.take j) (m:=l) (by rw[←htk];exact List.take_prefix _ _) hx
     rw[i1,Um]
     rw[HN.out]
     omega)
    clear hgc ha hx hg htk
    go_wp2
    go_ret
    exact⟨by rw[HV.out];rfl,rfl⟩
   ·have he':(x==a)=false:=by simpa using he
    have HX:=Sk (Sn hg (show x∉l.take (j+1) by rw[htk,Td,Te];exact fun h=>h.elim hx he))
    clear hgc ha hx hg htk
    go_wp2
    go_roundg (N-(j+1))
    case measure=>have:=HX.out.1;omega
    case rel=>exact⟨j+1,rfl,by omega,by go_num,rfl,HX.out.2⟩
  ·obtain rfl:j=N:=by omega
   have i1:decide ((j:Int)<(j:Int))=false:=SH (by omega)
   have i2:decide (j<j)=false:=SH (by omega)
   rw[Tm (by rw[HN.out];exact SA _)]at hx
   have HV:=Sk (show R=-1 by rw[←HR.out];unfold rC;rw[TW hx])
   clear hx
   go_wp2
   go_ret
   exact⟨by rw[HV.out];rfl,rfl⟩
theorem Db {B:Nat}{A:Option Addr}{c:Nat}{l:List Int}{w:World}(h:dF w B A c l)(x:Int):Calls Tryz.prog 80 #[.slice A l.length c,.int .i64 x] w fun e w'=>e=.returned (.bool (decide (x∈l)))∧w'=w:=by
 have HC:=Sk (tF h x)
 obtain⟨R,HR⟩:∃R,Hid (rC l x=R):=⟨_,Sk rfl⟩
 have HV:=Sk (show decide (0≤R)=decide (x∈l) by
  rw[←HR.out]
  unfold rC
  by_cases e:x∈l
  ·rw[TY e,SI e];exact SI (by omega)
  ·rw[TW e,SH e];rfl)
 obtain⟨N,HN⟩:∃N,Hid (l.length=N):=⟨_,Sk rfl⟩
 rw[HR.out,HN.out]at HC
 rw[HN.out]
 clear h
 go_enter Tryz.func80,Tryz.ntmps80
 go_wp2_with fail
 with_reducible refine TJ HC.out ?_
 rintro e w' ⟨rfl,rfl⟩
 go_wp2
 go_ret
 exact⟨by rw[←HV.out];rfl,rfl⟩
theorem yU {g o c:Nat}{l:List Int}{w:World}(hg:g<w.heap.size)(hl:l.length≤1000000)(hc:∀(j:Nat)(i:Int),l[j]?=some i→w.cell? ⟨g,o+j,none⟩=some (.int .i64 i)) :
  Calls Tryz.prog 84 #[.slice (some ⟨g,o,none⟩) l.length c] w fun e w'=>∃v,e=.returned v∧w'.ownsRow w.heap.size 3 1 v l.length (l.map (.int .i64))∧Below w.heap.size w w':=by
 have q22:∀(w:World) (a:Option Addr) (n c n' c':Nat),(binOp .eql 39 (.slice a n c) (.slice none n' c')).run Tryz.prog w=.ok (.bool a.isNone) w:=fun w a n c n' c'=>Lib.run_eql_slice_nil w _ _ a n c n' c' Tryz.lX
 obtain⟨i0,hi,hz0,hz1,hz2⟩:=info_parts Tryz.oz
 have hnews:∀a',some (⟨g,o,none⟩:Addr)=some a'→∀j u,(l.map (Value.int .i64))[j]?=some u→(w.alloc (.cells #[] 3)).cell? (a'.add j)=some u:=by
  intro a' e j u hu
  cases e
  rw[Tk]at hu
  cases hj:l[j]? with
  | none=>rw[hj]at hu;cases hu
  | some i =>
   rw[hj]at hu
   cases hu
   have h5:=(SQ w (.cells #[] 3) ⟨g,o+j,none⟩ hg).trans (hc j i hj)
   unfold Addr.add
   by_cases h0:j=0
   ·rw[TY h0]
    subst h0
    exact h5
   ·rw[TW h0]
    exact h5
 have HN:=Sk hnews
 have hrow:=World.ownsRow_lit (base:=w.heap.size) (e:=3) (size:=1) w #[] 0 (SA _) (by simp) rfl
 have HW:=Sk hrow
 clear hnews hrow hc
 go_enter Tryz.func84,Tryz.ntmps84
 go_wp2_with (at_builtin;refine aC _ rfl _ _ 39 rfl w.heap.size 3 i0 _ 1 8 Tryz.lX hi hz0 hz1 hz2 rfl (by decide) _ 0 [] rfl HW.out (some ⟨g,o,none⟩) l.length c (l.map (.int .i64)) rfl (by simp) (by simp) HN.out (by simp[Value.oneCell']) (by unfold maxLen;omega) (by omega) (by simp) ?_;intro v' w1 hown' hgrow)
 go_ret
 refine⟨_,rfl,by simpa using hown',?_⟩
 exact((TA _ _).alloc (SA _) _).trans (Keeps.dX ((Keeps.refl (fun k=>k<w.heap.size) _).grown hgrow (by rintro k hk;cases hk;simp)) (by simp) (by simp))
theorem Bu {base:Nat}{v:Value}{l:List Int}{w:World}(h:w.ownsRow base 3 1 v l.length (l.map (.int .i64)))(hn:l≠[])(hl:l.length≤1000000) :
  Calls Tryz.prog 85 #[v] w fun e w'=>e=.returned (.tuple #[])∧w'.ownsRow base 3 1 v l.length ((gN l).map (.int .i64))∧w.grownBy w' v.ownBlock:=by
 rcases h.2 with⟨_,e0⟩|⟨g,cap,cur,rfl,e2,e3,e4,e5,e6,e7⟩
 ·exact absurd (Tq.1 e0) hn
 have hH:=holds_of_blockI e3 (by simpa using e7)
 refine(Any.slices_Sort_int Tryz.laysSortI g 0 cap l w hH (lt_of_block e3) (by omega)).mono ?_
 rintro e w' ⟨rfl,nn,os,rfl⟩
 exact⟨rfl,ownsRow_sortedI (by simp) e2 e3 e4 e5 e6,grownBy_sortedI _⟩
end Go.Proofs.Q
namespace Go.Proofs.Q
open Go Go.RowKit Go.Proofs Go.Proofs.Scc
def QE (n ub:Nat)(used:Int→List Int)(W:World)(τ:Tj)(e:Ending)(Y:World):Prop:=e=.returned (.tuple #[])∧∃ov gv gl,TjI n ub used W Y ov gv gl τ
def zB (n ub:Nat)(used:Int→List Int)(W:World)(V:List Int)(f:Nat):Prop:=∀(id:Int)(X:World)(ov gv:Value)(gl:List Value)(σ:Tj),TjI n ub used W X ov gv gl σ→Ok V σ→id∈V→σ.num id=0→V.length≤f+σ.cnt →
 Calls Tryz.prog 82 #[.int .i64 id,.pointer (some ⟨n+5,0,none⟩),.pointer (some ⟨n+6,0,none⟩),.pointer (some ⟨n+9,0,none⟩),.pointer (some ⟨n+1,0,none⟩),.pointer (some ⟨n+10,0,none⟩),.pointer (some ⟨n+8,0,none⟩),.pointer (some ⟨n+2,0,none⟩)] X (QE n ub used W (visit used f id σ))
theorem vR (vis:Int→Tj→Tj)(id u:Int):∀(l:List Int)(σ:Tj),edges vis id (l++[u]) σ=edge vis id u (edges vis id l σ)
 | [],_=>rfl
 | x::l,σ=>vR vis id u l (edge vis id x σ)
structure FM (used:Int→List Int)(V:List Int):Prop where
 nd:V.Nodup
 ok:∀x∈V,aH.ok x
 us:∀x∈V,∀u∈used x,u∈V
 vl:V.length≤1000
 ul:∀x∈V,(used x).length≤1000000
theorem FP {n ub:Nat}{used:Int→List Int}{W:World}{V:List Int}(hG:FM used V)(f:Nat)(ih:zB n ub used W V f):zB n ub used W V (f+1):=by
 intro id X ov gv gl σ h hok hid h0 hf
 have hcl:=hok.lt hid h0
 have hvl:=hG.vl
 obtain⟨Y1,QF,lk1,y15,y16,Z1,QG,hI1,hN1⟩:=h.enter (hG.ok id hid) h0 (by omega)
 obtain⟨c5,c6,c8,c1,c10,c9,c2,f9,f2⟩:=h.cells
 have d5:Y1.cell? ⟨n+5,0,none⟩=some (.map (some (n+3))):=(SN y15).trans c5
 have d6:Y1.cell? ⟨n+6,0,none⟩=some (.map (some (n+4))):=(SN y16).trans c6
 have hlen:=h.m3.len Tryz.kG 3
 have eg:=jO (fid:=82) rfl rfl rfl
 have hgr:=hok.gr
 obtain⟨_,_,_,_,_,d9,_,e9,_⟩:=hI1.cells
 obtain⟨i0,hi,hz0,hz1,hz2⟩:=info_parts Tryz.oz
 have hro:(Z1.alloc (.cells #[.int .i64 id] 3)).ownsRow (n+11) 3 1 ov σ.opn.length (σ.opn.map (.int .i64)):=hI1.ro.alloc _
 have hzB:n+11≤(Z1.alloc (.cells #[.int .i64 id] 3)).heap.size:=by have:=hI1.f.z;simp;omega
 have Oi:σ.opn.length+1≤2000:=by omega
 obtain⟨k1,k2,k3⟩:=hok.enter hG.nd hid h0
 have HP:=Sk (show ∀ov' Z,_→_→_→_ from fun ov' Z h1 h2 h3=>hI1.pushed (id:=id) (ov':=ov') (Z:=Z) hN1 h1 h2 h3)
 have HRO:=Sk (Sn hro (Sn hzB Oi))
 have HK:=Sk (Sn k1 (Sn k2 k3))
 have H0:=Sk (Sn h (Sn hok (Sn hid (Sn h0 (Sn hf hcl)))))
 clear hI1 hN1 y15 y16 h hok hf k1 k2 k3 c8 c1 c10 c9 c2 f9 f2 hro hzB Oi
 go_enter Tryz.func82,Tryz.ntmps82
 go_upto_region 3 with (at_builtin;refine wpList_append_own_at _ rfl _ _ 39 rfl (n+11) 3 i0 _ 1 8 Tryz.lX hi hz0 hz1 hz2 rfl (by decide) ov σ.opn.length (σ.opn.map (.int .i64)) rfl HRO.out.1 ⟨Z1.heap.size,0,none⟩ 1 1 [.int .i64 id] rfl rfl (ji Z1 _ _) (by simp[Value.oneCell']) (by have:=HRO.out.2.2;unfold maxLen;omega) (by have:=HRO.out.2.2;omega) HRO.out.2.1 ?_;intro ov1 Z2 hown2 hgrow2 _ kD;obtain⟨oA1,oc1,rfl⟩:=bR hown2;obtain⟨q9,q9f,hI2⟩:=HP.out _ _ hown2 hgrow2 kD;have HE:=Sk hI2;clear hown2 hgrow2 kD hI2)
 obtain⟨Z3,hZ3⟩:∃Z3,Z2.setCell ⟨n+9,0,none⟩ (.slice oA1 (σ.opn.length+1) oc1)=Z3:=⟨_,rfl⟩
 try rw[hZ3]
 rw[hZ3]at HE
 obtain⟨s1,Hs1⟩:∃s1,Hid (enter id σ=s1):=⟨_,Sk rfl⟩
 have hE:TjI n ub used W Z3 (.slice oA1 (σ.opn.length+1) oc1) gv gl s1:=by rw[←Hs1.out];exact HE.out
 obtain⟨_,_,_,uA,uc,lku,hia⟩:=hE.looks (hG.ok id hid)
 obtain⟨_,_,_,z1,_⟩:=hE.cells
 obtain⟨N,HN⟩:∃N,Hid ((used id).length=N):=⟨_,Sk rfl⟩
 have hNc:N≤1000000:=by rw[←HN.out];exact hG.ul id hid
 rw[HN.out]at lku
 have HE1:=Sk (Sn hE hia)
 have HSP:=Sk (show ∀l,(∀u∈l,u∈V)→Ok V (edges (visit used f) id l s1)∧Le s1 (edges (visit used f) id l s1)from fun l hl=>by
  have h1:=HK.out.1
  rw[Hs1.out]at h1
  exact p8 (V:=V) (τ:=s1) (id:=id) (p:=fun u=>u∈V) (fun u τ' hτ hu hu0 hc=>by
   obtain⟨a,b,_⟩:=p9 hG.nd hG.us f u τ' hτ hu hu0 (by
    have h2:s1.cnt=σ.cnt+1:=by rw[←Hs1.out];rfl
    have:=H0.out.2.2.2.2.1
    omega)
   exact⟨a,b⟩) l s1 hl h1 (SA _))
 obtain⟨R,HR⟩:∃R,Hid (visit used (f+1) id σ=R):=⟨_,Sk rfl⟩
 rw[HR.out]
 clear hE hia hZ3 q9 q9f QF lk1 QG hlen d5 d6 c5 c6 d9 e9
 go_wp2
 go_loopg [10,33] N (fun g _ ct wr=>∃(j:Nat) (ov gv:Value) (gl:List Value),g=N-j∧j≤N∧ct=.int .i64 j∧TjI n ub used W wr ov gv gl (edges (visit used f) id ((used id).take j) s1))
 case atStart=>exact⟨0,_,_,_,rfl,SC _,rfl,HE1.out.1⟩
 case round =>
  obtain⟨j,ov,gv,gl,hg,hj,rfl,hI⟩:=hrel
  obtain⟨τ,Hτ⟩:∃τ,Hid (edges (visit used f) id ((used id).take j) s1=τ):=⟨_,Sk rfl⟩
  have hsp:=HSP.out ((used id).take j) fun u hu=>hG.us id hid u (List.mem_of_mem_take hu)
  rw[Hτ.out]at hI hsp
  have hni:τ.num id≠0:=by
   have:=HK.out.2.2
   rw[Hs1.out]at this
   rw[hsp.2.num id this]
   exact this
  obtain⟨c5,c6,c8,c1,c10,c9,c2,f9,f2⟩:=hI.cells
  by_cases hlt:j<N
  ·obtain⟨u,hu⟩:∃u,(used id)[j]?=some u:=⟨_,Sw (by rw[HN.out];exact hlt)⟩
   obtain⟨g,o,rfl,hgB,hgc⟩:=HE1.out.2.2.2 (by intro e;rw[e]at hu;simp at hu)
   have eu:wr.cell? ⟨g,o+j,none⟩=some (.int .i64 u):=(SN ((hI.f.old g hgB).trans (HE1.out.1.f.old g hgB).symm)).trans (hgc j u hu)
   have huV:u∈V:=hG.us id hid u (SV hu)
   obtain⟨l3,l4,l7,_⟩:=hI.looks (hG.ok u huV)
   obtain⟨m3,m4,_,_⟩:=hI.looks (hG.ok id hid)
   have m4:=m4 hni
   have hst:edges (visit used f) id ((used id).take (j+1)) s1=edge (visit used f) id u τ:=by
    rw[Tn,hu]
    show edges _ id (_++[u]) s1=_
    rw[vR,Hτ.out]
   have HJ:=Sk (Sn hI (Sn hsp (Sn hni (Sn hg (Sn huV hst)))))
   by_cases hn0:τ.num u=0
   ·have Kl:(τ.num u==0)=true:=by simpa using hn0
    have hfu:V.length≤f+τ.cnt:=by
     have h2:s1.cnt=σ.cnt+1:=by rw[←Hs1.out];rfl
     have:=H0.out.2.2.2.2.1
     have:=hsp.2.cnt
     omega
    have HC:=Sk (ih u wr ov gv gl τ hI hsp.1 huV hn0 hfu)
    obtain⟨τ',Oj⟩:∃τ',Hid (visit used f u τ=τ'):=⟨_,Sk rfl⟩
    have hvo:=p9 hG.nd hG.us f u τ hsp.1 huV hn0 hfu
    rw[Oj.out]at HC hvo
    have HV:=Sk (show edge (visit used f) id u τ=jY id (τ'.low u) τ' by unfold edge;rw[TY hn0,Oj.out])
    have HVO:=Sk hvo
    clear hI hsp hni hgc hu huV hst hg hfu hvo
    rw[hn0]at l3
    unfold caps cP at c10
    go_wp2_with fail
    with_reducible refine TJ HC.out ?_
    rintro e Y ⟨rfl,ov2,gv2,gl2,hI2⟩
    have Km:τ'.num id≠0:=by rw[HVO.out.2.1.num id HJ.out.2.2.1];exact HJ.out.2.2.1
    have hcc:τ'.cnt<100000:=by have:=HVO.out.1.ct;have:=Uc (p:=fun x=>decide (τ'.num x≠0)) (l:=V);omega
    obtain⟨_,r4,_,_⟩:=hI2.looks (hG.ok id hid)
    have r4:=r4 Km
    obtain⟨_,t4,_,_⟩:=hI2.looks (hG.ok u HJ.out.2.2.2.2.1)
    have t4:=t4 HVO.out.2.2
    obtain⟨_,v6,_⟩:=hI2.cells
    obtain⟨Y2,RX,hI5⟩:=hI2.NR (hG.ok id hid) Km hcc (τ'.low u)
    have HI5:=Sk hI5
    clear hI2 hI5 Km
    go_wp2
    go_roundg (N-(j+1))
    case measure=>have:=HJ.out.2.2.2.1;omega
    case rel=>exact⟨j+1,_,_,_,rfl,by omega,by go_num,by rw[HJ.out.2.2.2.2.2,HV.out];exact HI5.out⟩
   ·have Kl:(τ.num u==0)=false:=by simpa using hn0
    have hcc:τ.cnt<100000:=by have:=hsp.1.ct;have:=Uc (p:=fun x=>decide (τ.num x≠0)) (l:=V);omega
    cases hd:τ.dn u with
    | true =>
     rw[hd]at l7
     have HV:=Sk (show edge (visit used f) id u τ=τ by unfold edge;rw[TW hn0,TW (by rw[hd];simp)])
     clear hI hsp hni hgc hu huV hst hg hd
     go_wp2
     go_roundg (N-(j+1))
     case measure=>have:=HJ.out.2.2.2.1;omega
     case rel=>exact⟨j+1,_,_,_,rfl,by omega,by go_num,by rw[HJ.out.2.2.2.2.2,HV.out];exact HJ.out.1⟩
    | false =>
     rw[hd]at l7
     have HV:=Sk (show edge (visit used f) id u τ=jY id (τ.num u) τ by unfold edge;rw[TW hn0,TY hd])
     obtain⟨Y,RY,hI4⟩:=hI.NR (hG.ok id hid) hni hcc (τ.num u)
     have HI4:=Sk hI4
     clear hI hsp hni hgc hu huV hst hg hd hI4
     go_wp2
     go_roundg (N-(j+1))
     case measure=>have:=HJ.out.2.2.2.1;omega
     case rel=>exact⟨j+1,_,_,_,rfl,by omega,by go_num,by rw[HJ.out.2.2.2.2.2,HV.out];exact HI4.out⟩
  ·obtain rfl:j=N:=by omega
   have i1:decide ((j:Int)<(j:Int))=false:=SH (by omega)
   have i2:decide (j<j)=false:=SH (by omega)
   have hfull:(used id).take j=used id:=Tm (by rw[HN.out];exact SA _)
   have hR:R=close id τ:=by
    rw[←HR.out,←Hτ.out,hfull,←Hs1.out];rfl
   obtain⟨m3,m4,_,_⟩:=hI.looks (hG.ok id hid)
   have m4:=m4 hni
   by_cases hlw:τ.low id<τ.num id
   ·have HV:=Sk (show R=τ by rw[hR];unfold close;rw[TY hlw])
    have HI:=Sk hI
    have j1:decide (τ.low id<τ.num id)=true:=SI hlw
    clear hI hsp hni hfull hR
    go_wp2
    go_end0
    rw[HR.out,HV.out]
    exact⟨rfl,_,_,_,HI.out⟩
   ·have j1:decide (τ.low id<τ.num id)=false:=SH hlw
    have HV:=Sk (show R=qW id τ by rw[hR];unfold close;rw[TW hlw])
    have hmem:id∈τ.opn:=hsp.2.pre.subset (by rw[←Hs1.out];simp[enter])
    obtain⟨a,Ha⟩:∃a,Hid (τ.opn.idxOf id=a):=⟨_,Sk rfl⟩
    have hal:a<τ.opn.length:=by rw[←Ha.out];exact List.idxOf_lt_length_of_mem hmem
    obtain⟨g,oc,rfl,hLc,hcm,hcl,hgX,Nd,hNd,hmd,hIc⟩:=hI.cut hal
    have hic:=tF (B:=wr.heap.size) (w:=wr) (A:=some ⟨g,0,none⟩) (c:=oc) (l:=τ.opn) ⟨hLc,hcm,fun _=>⟨g,0,rfl,hgX,fun q i hq=>by rw[Nat.zero_add];exact hcl q i hq⟩⟩ id
    have hiz:rC τ.opn id=(a:Int):=by unfold rC;rw[TY hmem,Ha.out]
    rw[hiz]at hic
    have hdl:(τ.opn.drop a).length=τ.opn.length-a:=List.length_drop
    have hcn:=yU (g:=g) (o:=a) (c:=oc-a) (l:=τ.opn.drop a) (w:=wr) hgX (by have:=hsp.1.gr;have:=hsp.1.ct;have:=Uc (p:=fun x=>decide (τ.num x≠0)) (l:=V);omega) (fun q i hq=>by rw[List.getElem?_drop]at hq;exact hcl _ i hq)
    rw[hdl]at hcn
    obtain⟨L,HL⟩:∃L,Hid (τ.opn.length=L):=⟨_,Sk rfl⟩
    rw[HL.out]at hcn hic c9 hLc hal
    have hLb:L≤1000:=by rw[←HL.out];have:=hsp.1.gr;have:=hsp.1.ct;have:=Uc (p:=fun x=>decide (τ.num x≠0)) (l:=V);omega
    have HX:=Sk (Sn hic hcn)
    have HC:=Sk (Sn hNd (Sn hmd hIc))
    have HS:=Sk (Sn hI (Sn hsp (Sn hni hmem)))
    clear hI hsp hni hfull hR hmem hcl hic hiz hdl hcn hNd hmd hIc
    unfold maxLen at hcm
    go_upto_region 13 with fail
    go_upto_region 14 with (go_at_call 83;(with_reducible refine TJ HX.out.1 ?_);rintro e w1 ⟨rfl,rfl⟩)
    go_upto_region 15 with (go_at_call 84;(with_reducible refine TJ HX.out.2 ?_);rintro e w2 ⟨v2,rfl,hrow2,hb2⟩)
    obtain⟨K,HKK⟩:∃K,Hid (L-a=K):=⟨_,Sk rfl⟩
    have hK0:0<K:=by rw[←HKK.out];omega
    have hKb:K≤1000:=by rw[←HKK.out];omega
    obtain⟨Bs,HBs⟩:∃Bs,Hid (w1.heap.size=Bs):=⟨_,Sk rfl⟩
    rw[HKK.out,HBs.out]at hrow2
    have Bv:=hrow2
    rcases hrow2.2 with⟨_,e0⟩|⟨gc,vc,cur,rfl,e2,e3,e4,e5,e6,e7⟩
    ·omega
    have hI2:=HS.out.1.below hb2
    obtain⟨g',oc',e,QH,hcm',hcl',RZ,Nd,hNd,hmd,hIc⟩:=hI2.cut (at_:=a) (by rw[HL.out];exact hal)
    cases e
    obtain⟨_,_,_,_,_,q9,_,q9f,_⟩:=hI2.cells
    rw[HL.out]at q9
    obtain⟨W3,hW3⟩:∃W3,w2.setCell ⟨n+9,0,none⟩ (.slice (some ⟨g,0,none⟩) a oc)=W3:=⟨_,rfl⟩
    rw[hW3]at hIc hmd
    have QI:gc≠n+9:=by have:=HS.out.1.f.z;have:=HBs.out;omega
    have Ol:W3.heap[gc]?=w2.heap[gc]?:=by rw[←hW3];exact Tx _ _ _ _ QI
    have Om:∀(q:Nat) (i:Int),(τ.opn.drop a)[q]?=some i→w2.cell? ⟨gc,q,none⟩=some (.int .i64 i):=fun q i hq=>by
     have hql:=(Sy.1 hq).1
     have:=Bv.cellAt q (by rw[List.length_drop,HL.out,HKK.out]at hql;omega)
     rw[Tk,hq]at this
     exact this
    have HR2:=Sk (Sn hIc (Sn hNd (Sn hmd (Sn Ol (Sn Om (Sn Bv (Sn hI2 hb2)))))))
    clear hIc hNd hmd Ol Om Bv hI2 hb2 hcl' hcm' QH hrow2 e6 e7
    have k1:decide (a≤oc)=true:=SI (by omega)
    go_upto_region 16 with fail
    try rw[hW3]
    go_wp2
    go_loopg [14,86] K (fun g' _ ct w=>∃j:Nat,g'=K-j∧j≤K∧ct=.int .i64 j∧TjI n ub used W w (.slice (some ⟨g,0,none⟩) a oc) gv gl { τ with opn:=τ.opn.take a,dn:=fun x=>τ.dn x||((τ.opn.drop a).take j).contains x }∧(∃N,N+(K-j)+a≤τ.cnt∧aQ aH w (n+7) N (fun x=>if (τ.dn x||((τ.opn.drop a).take j).contains x)=true then some (.bool true)else none))∧w.heap[gc]?=w2.heap[gc]?∧w2.heap.size≤w.heap.size)
    case atStart =>
     have e:(fun x=>τ.dn x||((τ.opn.drop a).take 0).contains x)=τ.dn:=by funext x;simp
     refine⟨0,rfl,SC _,rfl,by rw[e];exact HR2.out.1,⟨Nd,?_,?_⟩,HR2.out.2.2.2.1,by rw[←hW3];simp[World.setCell]⟩
     ·have:=HR2.out.2.1
      rw[HL.out]at this
      have:=HKK.out
      omega
     ·have:=HR2.out.2.2.1
      refine this.eG fun x _=>?_
      have this:(τ.dn x||((τ.opn.drop a).take 0).contains x)=τ.dn x:=congrFun e x
      simp only[this]
    case round =>
     obtain⟨j,hg,hj,rfl,hI,⟨Nj,hNj,hmj⟩,hgc,hwz⟩:=hrel
     have hcc:τ.cnt<100000:=by have:=HS.out.2.1.1.ct;have:=Uc (p:=fun x=>decide (τ.num x≠0)) (l:=V);omega
     have hdl:(τ.opn.drop a).length=K:=by rw[List.length_drop,HL.out,HKK.out]
     have htl:(τ.opn.take a).length=a:=by rw[Um,HL.out];omega
     by_cases hlt:j<K
     ·obtain⟨u,hu⟩:∃u,(τ.opn.drop a)[j]?=some u:=⟨_,Sw (by rw[hdl];exact hlt)⟩
      have eu:wr.cell? ⟨gc,j,none⟩=some (.int .i64 u):=(SN hgc).trans (HR2.out.2.2.2.2.1 j u hu)
      have huV:u∈V:=HS.out.2.1.1.nV u (HS.out.2.1.1.op u (List.mem_of_mem_drop (SV hu)))
      obtain⟨Y,R3,hI6,hg6,hm6⟩:=hI.O9 (hG.ok u huV) (N:=Nj) (by show Nj+1+(τ.opn.take a).length≤τ.cnt;rw[htl];omega) hcc hmj
      obtain⟨_,_,c8,_⟩:=hI.cells
      have e:(fun x=>(τ.dn x||((τ.opn.drop a).take j).contains x)||decide (x=u))=fun x=>τ.dn x||((τ.opn.drop a).take (j+1)).contains x:=by
       funext x
       rw[Tn,hu]
       by_cases ex:x=u
       ·subst ex;simp
       ·simp[ex]
      have HJ:=Sk (Sn hg (Sn (show TjI n ub used W Y (.slice (some ⟨g,0,none⟩) a oc) gv gl { τ with opn:=τ.opn.take a,dn:=fun x=>τ.dn x||((τ.opn.drop a).take (j+1)).contains x } by rw[←e];exact hI6) (Sn (show aQ aH Y (n+7) (Nj+1) (fun x=>if (τ.dn x||((τ.opn.drop a).take (j+1)).contains x)=true then some (.bool true)else none)from hm6.eG fun x _=>by have this:((τ.dn x||((τ.opn.drop a).take j).contains x)||decide (x=u))=(τ.dn x||((τ.opn.drop a).take (j+1)).contains x):=congrFun e x;simp only[←this]) (Sn ((hg6.block gc (by have:=HR2.out.2.2.2.2.2.1.lt gc rfl;omega) (by intro h;have:=TL h;have:=HS.out.1.f.z;have:=HBs.out;omega)).trans hgc) (SE hwz hg6.size)))))
      clear hI hmj hgc hwz hu huV hI6 hg6 hm6 e hg
      go_wp2
      go_roundg (K-(j+1))
      case measure=>have:=HJ.out.1;omega
      case rel=>exact⟨j+1,rfl,by omega,by go_num,HJ.out.2.1,⟨Nj+1,by omega,HJ.out.2.2.1⟩,HJ.out.2.2.2.1,HJ.out.2.2.2.2⟩
     ·obtain rfl:j=K:=by omega
      have i1:decide ((j:Int)<(j:Int))=false:=SH (by omega)
      have i2:decide (j<j)=false:=SH (by omega)
      have htk:(τ.opn.drop a).take j=τ.opn.drop a:=Tm (by rw[hdl];exact SA _)
      rw[htk]at hI
      obtain⟨gl0,Ko⟩:∃gl0,Hid (τ.opn.drop a=gl0):=⟨_,Sk rfl⟩
      rw[Ko.out]at hI hdl
      have hrw:wr.ownsRow Bs 3 1 (.slice (some ⟨gc,0,none⟩) gl0.length vc) gl0.length (gl0.map (.int .i64)):=by
       have:=bQ HR2.out.2.2.2.2.2.1 (w':=wr) (fun q hq=>by cases hq;exact hgc)
       rw[Ko.out]at this
       rw[hdl]
       exact this
      have hne:gl0≠[]:=by intro e;rw[e]at hdl;simp at hdl;omega
      have hsort:=Bu hrw hne (by omega)
      rw[hdl]at hsort
      have HSo:=Sk hsort
      have hvz:gc<wr.heap.size:=(hrw.lt gc rfl).2
      have HI:=Sk (Sn hI hdl)
      clear hI hmj hgc hrw hsort hne htk hg hNj
      go_upto_region 22 with (go_at_call 85;(with_reducible refine TJ HSo.out ?_);rintro e w5 ⟨rfl,sH,hg5⟩)
      have hsl:(gN gl0).length=j:=by rw[←HI.out.2];simp[gN]
      have hI5:=HI.out.1.other (gc:=gc) (Y:=w5) (by have:=HS.out.1.f.z;have:=HBs.out;omega) (by intro h;have h2:g=gc:=TL h;have:=HBs.out;omega) (fun h=>by have:=(HS.out.1.gvB h).2.1;have:=HBs.out;omega) (fun v hv h=>by have:=HS.out.1.glB v hv gc h;have:=HBs.out;omega) hg5
      have hGr:mU w5 n (.slice (some ⟨g,0,none⟩) a oc) (.slice (some ⟨gc,0,none⟩) j vc) (gN gl0):=by
       obtain⟨c5',fz5,hk5⟩:=Lib.ownsRow_kind sH gc rfl
       refine⟨gc,vc,c5',fz5,by rw[hsl],by have:=HS.out.1.f.z;have:=HBs.out;omega,by intro h;have h2:g=gc:=TL h;have:=HBs.out;omega,hk5,fun q i hq=>?_,fun e=>by rw[e]at hsl;simp at hsl;omega,by omega,e5⟩
       have:=sH.cellAt q (by have:=(Sy.1 hq).1;omega)
       rw[Tk,hq]at this
       exact this
      obtain⟨i1',hi',hz0',hz1',hz2'⟩:=info_parts Tryz.oP
      have R4:gl.length≤1000:=by
       have h1:=HS.out.1.gn
       have h2:=HS.out.2.1.1.gr
       have h3:=HS.out.2.1.1.ct
       have h4:=Uc (p:=fun x=>decide (τ.num x≠0)) (l:=V)
       omega
      obtain⟨_,_,_,_,_,_,p2,_,p2f⟩:=hI5.cells
      have hrg:(w5.alloc (.cells #[.slice (some ⟨gc,0,none⟩) j vc] 39)).ownsRow (n+11) 39 1 gv gl.length gl:=hI5.rg.alloc _
      have HG5:=Sk (Sn hrg (Sn hI5 (Sn hGr (show n+11≤(w5.alloc (.cells #[.slice (some ⟨gc,0,none⟩) j vc] 39)).heap.size by have:=hI5.f.z;simp;omega))))
      clear hI5 hGr hrg sH hg5
      go_wp2_with (at_builtin;refine wpList_append_own_at _ rfl _ _ 28 rfl (n+11) 39 i1' _ 1 24 Tryz.mD hi' hz0' hz1' hz2' rfl (by decide) gv gl.length gl rfl HG5.out.1 ⟨w5.heap.size,0,none⟩ 1 1 [.slice (some ⟨gc,0,none⟩) j vc] rfl rfl (ji w5 _ _) (by simp[Value.oneCell']) (by unfold maxLen;omega) (by omega) HG5.out.2.2.2 ?_;intro gv6 Z6 hown6 dh _ FQ;obtain⟨gA6,gc6,rfl⟩:=bR hown6;obtain⟨r2,r2f,hI6⟩:=HG5.out.2.1.grouped HG5.out.2.2.1 hown6 dh FQ;have HI6:=Sk hI6;clear hown6 dh FQ hI6)
      go_end0
      rw[HR.out,HV.out]
      have JA:qW id τ={ τ with opn:=τ.opn.take a,dn:=fun x=>τ.dn x||gl0.contains x,grs:=τ.grs++[gN gl0] }:=by
       unfold qW
       rw[Ha.out,Ko.out]
      rw[JA]
      exact⟨rfl,_,_,_,HI6.out⟩
theorem QJ {n ub:Nat}{used:Int→List Int}{W:World}{V:List Int}:zB n ub used W V 0:=fun id _ _ _ _ _ _ hok hid h0 hf=>by
 have:=hok.lt hid h0
 omega
theorem yE {n ub:Nat}{used:Int→List Int}{W:World}{V:List Int}(hG:FM used V):∀f,zB n ub used W V f
 | 0=>QJ
 | f+1=>FP hG f (yE hG f)
def zN (W:World)(grs:List (List Int))(e:Ending)(Y:World):Prop:=
 ∃gv gl ov,e=.returned gv∧Below W.heap.size W Y∧Y.ownsRow (W.heap.size+11) 39 1 gv gl.length gl∧gl.length=grs.length∧∀(j:Nat) (v:Value) (l:List Int),gl[j]?=some v→grs[j]?=some l→mU Y W.heap.size ov v l
def cW (W:World)(mo:Array Value)(ub:Nat):World:=
 (((((((((((W.alloc (.cells mo 25)).alloc (.cells #[.map (some ub)] 77)).alloc (.cells #[.slice none 0 0] 28)).alloc (.map #[] 0)).alloc (.map #[] 0)).alloc
  (.cells #[.map (some (W.heap.size+3))] 129)).alloc (.cells #[.map (some (W.heap.size+4))] 129)).alloc (.map #[] 0)).alloc (.cells #[.map (some (W.heap.size+7))] 79)).alloc (.cells #[.slice none 0 0] 39)).alloc
  (.cells #[.func (.func 82) #[] (caps W.heap.size)] 130))
theorem bW (X:World)(o:Obj)(k:Nat)(h:X.heap.size=k):(X.alloc o).heap[k]?=some o:=by rw[←h];exact Sv X o
theorem bZ (X:World)(o:Obj)(k:Nat)(h:k<X.heap.size):(X.alloc o).heap[k]?=X.heap[k]?:=Tt _ _ _ h
theorem bP (X:World)(o:Obj):(X.alloc o).heap.size=X.heap.size+1:=by simp
theorem Bw {w:World}{b:Nat}(h:w.heap[b]?=some (.map #[] 0)):iP aH w b 0 (fun _=>none):=
 ⟨_,⟨#[],0,h,⟨by simp,Go.MapKept.stamped_empty 0,by simp⟩,SA _,rfl⟩,rfl,⟨_,rfl⟩,fun _ _=>Maps.atKey_of_not_has rfl _⟩
theorem TjI.start {W:World}{mo:Array Value}{ub:Nat}{used:Int→List Int}(hu:zM W.heap.size ub used W)(hub:ub<W.heap.size) :
  TjI W.heap.size ub used W (cW W mo ub) (.slice none 0 0) (.slice none 0 0) [] tj0∧(cW W mo ub).heap[W.heap.size]?=some (.cells mo 25 (0,0)):=by
 have hz:(cW W mo ub).heap.size=W.heap.size+11:=by simp[cW]
 have hold:Below W.heap.size W (cW W mo ub):=by
  unfold cW
  repeat (first|exact TA _ _|refine Below.alloc ?_ (by simp <;> omega) _)
 refine⟨⟨⟨by omega,?_,?_,?_,?_,?_,hu,hub,fun k hk=>hold.block k hk,hold.os,hold.tape,hold.output⟩,?_,?_,?_,?_,⟨0,SA _,?_⟩,TD _ _ _ _,TD _ _ _ _,rfl,fun j v l hv=>by simp at hv⟩,?_⟩
 ·(unfold cW;repeat (first|(refine bW _ _ _ ?_;simp only[bP] <;> omega)|(refine(bZ _ _ _ ?_).trans ?_;(simp only[bP];omega))))
 ·(unfold cW;repeat (first|(refine bW _ _ _ ?_;simp only[bP] <;> omega)|(refine(bZ _ _ _ ?_).trans ?_;(simp only[bP];omega))))
 ·(unfold cW;repeat (first|(refine bW _ _ _ ?_;simp only[bP] <;> omega)|(refine(bZ _ _ _ ?_).trans ?_;(simp only[bP];omega))))
 ·(unfold cW;repeat (first|(refine bW _ _ _ ?_;simp only[bP] <;> omega)|(refine(bZ _ _ _ ?_).trans ?_;(simp only[bP];omega))))
 ·(unfold cW;repeat (first|(refine bW _ _ _ ?_;simp only[bP] <;> omega)|(refine(bZ _ _ _ ?_).trans ?_;(simp only[bP];omega))))
 ·(unfold cW;repeat (first|(refine bW _ _ _ ?_;simp only[bP] <;> omega)|(refine(bZ _ _ _ ?_).trans ?_;(simp only[bP];omega))))
 ·(unfold cW;repeat (first|(refine bW _ _ _ ?_;simp only[bP] <;> omega)|(refine(bZ _ _ _ ?_).trans ?_;(simp only[bP];omega))))
 ·exact(Bw (b:=W.heap.size+3) (by (unfold cW;repeat (first|(refine bW _ _ _ ?_;simp only[bP] <;> omega)|(refine(bZ _ _ _ ?_).trans ?_;(simp only[bP];omega)))))).eG fun a _=>rfl
 ·exact(Bw (b:=W.heap.size+4) (by (unfold cW;repeat (first|(refine bW _ _ _ ?_;simp only[bP] <;> omega)|(refine(bZ _ _ _ ?_).trans ?_;(simp only[bP];omega)))))).eG fun a _=>rfl
 ·exact((Bw (b:=W.heap.size+7) (by (unfold cW;repeat (first|(refine bW _ _ _ ?_;simp only[bP] <;> omega)|(refine(bZ _ _ _ ?_).trans ?_;(simp only[bP];omega)))))).eG (g':=fun a=>if tj0.dn a=true then some (.bool true)else none) fun a _=>rfl).a
 ·(unfold cW;repeat (first|(refine bW _ _ _ ?_;first|rfl|omega)|(refine(bZ _ _ _ ?_).trans ?_;(simp only[bP];omega))))
theorem vS (succ:Int→List Int)(f:Nat)(d:Int):∀(l:List Int)(σ:Tj),comps succ f (l++[d]) σ=(if (comps succ f l σ).num d=0 then visit succ f d (comps succ f l σ)else comps succ f l σ)
 | [],_=>rfl
 | _::l,_=>vS succ f d l _
theorem Bz {V:List Int}{succ:Int→List Int}(hV:V.Nodup)(hs:∀x∈V,∀u∈succ x,u∈V){f:Nat}(hf:V.length≤f):∀(l:List Int)(σ:Tj),(∀x∈l,x∈V)→Ok V σ→Ok V (comps succ f l σ)
 | [],_,_,h=>h
 | x::l,σ,hl,h=>by
  unfold comps
  refine Bz hV hs hf l _ (fun z hz=>hl z (Tc _ hz)) ?_
  split
  ·exact(p9 hV hs f x σ h (hl x Ta) (by assumption) (by omega)).1
  ·exact h
theorem SlD.keepW {w w':World}{B:Nat}{A:Option Addr}{c:Nat}{l:List Dc}(h:SlD w B A c l)(hk:Below B w w'):SlD w' B A c l:=h.keep (SA _) fun _ hp=>SN (hk.block _ hp)
theorem GH {ub:Nat}{used:Int→List Int}{W:World}{label:ByteArray}{uA dA:Option Addr}{un uc dc:Nat}{ds:List Dc}(hG:FM used (ds.map Dc.id))(hd:SlD W W.heap.size dA dc ds)(hu:zM W.heap.size ub used W)(hub:ub<W.heap.size) :
  Calls Tryz.prog 45 #[.agg #[.string label,.slice uA un uc,.slice dA ds.length dc],.map (some ub)] W (zN W (comps used ds.length (ds.map Dc.id) tj0).grs):=by
 have hmm:=@run_makeMap Tryz.prog
 obtain⟨M,HM⟩:∃M,Hid (ds.length=M):=⟨_,Sk rfl⟩
 have hMc:M≤1000:=by rw[←HM.out];have:=hG.vl;simpa using this
 obtain⟨hS,hmo⟩:=TjI.start (mo:=#[.string label,.slice uA un uc,.slice dA ds.length dc]) hu hub
 have t2:=Sq _ W.heap.size 2 _ _ (0,0) hmo
 simp at t2
 rw[HM.out]at hS t2 hmo ⊢
 obtain⟨W1,hW1⟩:∃W1,cW W #[.string label,.slice uA un uc,.slice dA M dc] ub=W1:=⟨_,rfl⟩
 rw[hW1]at hS t2 hmo
 obtain⟨n,Hn⟩:∃n,Hid (W.heap.size=n):=⟨_,Sk rfl⟩
 have HH:=Sk (Sn hG (Sn hd (Sn hu hub)))
 have HS:=Sk (Sn hS hmo)
 obtain⟨R,HR⟩:∃R,Hid ((comps used M (ds.map Dc.id) tj0).grs=R):=⟨_,Sk rfl⟩
 rw[HR.out]
 have eg:=jO (fid:=82) rfl rfl rfl
 clear hG hd hu hub hS hmo
 go_enter Tryz.func45,Tryz.ntmps45
 go_upto_region 7 with fail
 simp only[Nat.add_assoc,Nat.reduceAdd]
 unfold cW caps cP at hW1
 try rw[hW1]
 go_wp2
 go_loopg [12,20] M (fun g _ ct w=>∃(j:Nat) (ov gv:Value) (gl:List Value),g=M-j∧j≤M∧ct=.int .i64 j∧TjI W.heap.size ub used W w ov gv gl (comps used M ((ds.map Dc.id).take j) tj0))
 case atStart=>exact⟨0,_,_,_,rfl,SC _,rfl,HS.out.1⟩
 case round =>
  obtain⟨j,ov,gv,gl,hg,hj,rfl,hI⟩:=hrel
  have hbW:Below W.heap.size W wr:=⟨hI.f.os,hI.f.tape,hI.f.output,by have:=hI.f.z;omega,hI.f.old⟩
  by_cases hlt:j<M
  ·have hlt':j<ds.length:=by rw[HM.out];exact hlt
   obtain⟨x,hx⟩:∃x,ds[j]?=some x:=⟨_,Sw hlt'⟩
   have hd:=HH.out.2.1.keepW hbW
   obtain⟨b,o,rfl,hb,hall⟩:=hd.2.2 (by intro e;rw[e]at hlt';simp at hlt')
   obtain⟨hcs,_⟩:=hall j x hx
   have hxV:x.id∈ds.map Dc.id:=TH.2 ⟨x,SV hx,rfl⟩
   have hxj:(ds.map Dc.id)[j]?=some x.id:=by rw[Tk,hx];rfl
   obtain⟨xid,bD,bS,xnA,xnc,aK,aY,xk,xn,xm,xi,xd,xA,xc,xs⟩:=x
   obtain⟨d0,d1,d2,d3,d4,d5,d6,d7,d8,d9,d10⟩:=dcs hcs
   have hst:=vS used M xid ((ds.map Dc.id).take j) tj0
   have htk:(ds.map Dc.id).take j++[xid]=(ds.map Dc.id).take (j+1):=by rw[Tn,hxj];rfl
   rw[htk]at hst
   obtain⟨W3,hW3⟩:∃W3,wr.alloc (.cells #[.int .i64 xid,.int .i64 bD,.bool bS,.slice xnA aK.length xnc,.bool aY,.int .i64 xk,.string xn,.string xm,.int .i64 xi,.int .i64 xd,.slice xA xs.len xc] 46)=W3:=⟨_,rfl⟩
   have hb3:Below wr.heap.size wr W3:=by subst hW3;exact(TA _ _).alloc (SA _) _
   have hr3:W3.heap[wr.heap.size]?=some (.cells #[.int .i64 xid,.int .i64 bD,.bool bS,.slice xnA aK.length xnc,.bool aY,.int .i64 xk,.string xn,.string xm,.int .i64 xi,.int .i64 xd,.slice xA xs.len xc] 46 (0,0)):=by subst hW3;exact Sv wr _
   have e0:=Sq W3 wr.heap.size 0 _ _ (0,0) hr3
   simp at e0
   have hI3:=hI.below hb3
   obtain⟨c5,_,_,_,c10,_⟩:=hI3.cells
   unfold caps cP at c10
   obtain⟨τ,Hτ⟩:∃τ,Hid (comps used M ((ds.map Dc.id).take j) tj0=τ):=⟨_,Sk rfl⟩
   rw[Hτ.out]at hI3 hst
   have zC:Ok (ds.map Dc.id) τ:=by
    rw[←Hτ.out]
    exact Bz HH.out.1.nd HH.out.1.us (by rw[S9,HM.out];exact SA _) _ _ (fun z hz=>List.mem_of_mem_take hz) (Ok.start _)
   obtain⟨l3,_,_,_⟩:=hI3.looks (HH.out.1.ok xid hxV)
   have HJ:=Sk (Sn hg (Sn hI3 (Sn hst zC)))
   by_cases hn0:τ.num xid=0
   ·have Kl:(τ.num xid==0)=true:=by simpa using hn0
    have HC:=Sk (yE HH.out.1 M xid W3 ov gv gl τ hI3 zC hxV hn0 (by rw[S9,HM.out];omega))
    rw[hn0]at l3
    clear hI hbW hd hall hcs hx hxV hxj htk hst hb3 hr3 hI3 zC hg
    go_upto_region 10 with fail
    try rw[hW3]
    go_wp2_with fail
    with_reducible refine TJ HC.out ?_
    rintro e Y ⟨rfl,ov2,gv2,gl2,hI2⟩
    have HI2:=Sk hI2
    clear hI2
    go_wp2
    go_roundg (M-(j+1))
    case measure=>have:=HJ.out.1;omega
    case rel=>exact⟨j+1,_,_,_,rfl,by omega,by go_num,by rw[HJ.out.2.2.1,TY hn0];exact HI2.out⟩
   ·have Kl:(τ.num xid==0)=false:=by simpa using hn0
    clear hI hbW hd hall hcs hx hxV hxj htk hst hb3 hr3 hI3 zC hg
    go_upto_region 10 with fail
    try rw[hW3]
    go_wp2
    go_roundg (M-(j+1))
    case measure=>have:=HJ.out.1;omega
    case rel=>exact⟨j+1,_,_,_,rfl,by omega,by go_num,by rw[HJ.out.2.2.1,TW hn0];exact HJ.out.2.1⟩
  ·obtain rfl:j=M:=by omega
   have i1:decide ((j:Int)<(j:Int))=false:=SH (by omega)
   have i2:decide (j<j)=false:=SH (by omega)
   rw[Tm (by rw[S9,HM.out];exact SA _)]at hI
   obtain⟨_,_,_,_,_,_,c2,_⟩:=hI.cells
   have HI:=Sk (Sn hI hbW)
   clear hI hbW hg
   go_wp2
   go_ret
   refine⟨gv,gl,ov,rfl,HI.out.2,HI.out.1.rg,?_,?_⟩
   ·rw[HI.out.1.gn,HR.out]
   ·have:=HI.out.1.gs
    rw[HR.out]at this
    exact this
open Go.Sort
theorem yF {α:Type} [Inhabited α]{enc:α→Value}{w:World}{base g cap:Nat}{e:TypeId}{l:List α}(h:w.ownsRow base e 1 (.slice (some ⟨g,0,none⟩) l.length cap) l.length (l.map enc)):Holds enc w g 0 l.toArray:=by
 intro j hj
 have hj':j<l.length:=by simpa using hj
 refine⟨?_,h.frozenAt _⟩
 rw[Nat.zero_add,h.cellAt j (by omega),Tk,Sw hj']
 rw[getElem!_pos _ j (by simpa using hj')]
 simp
theorem tH {α:Type} [Inhabited α]{enc:α→Value}{w:World}{base g cap n:Nat}{e:TypeId}{xs:List Value}(h:w.ownsRow base e 1 (.slice (some ⟨g,0,none⟩) n cap) n xs)(d:Array α)(hd:d.size=n){m:Nat}(hm:m≤n)(q:Nat) :
  (putRow enc (Sort.ahead w q) g 0 d).ownsRow base e 1 (.slice (some ⟨g,0,none⟩) m cap) m ((d.toList.map enc).take m)∧w.grownBy (putRow enc (Sort.ahead w q) g 0 d) (some g):=by
 rcases h.2 with⟨e0,_⟩|⟨g',cap',cur,e1,e2,e3,e4,e5,e6,e7⟩
 ·cases e0
 ·cases e1
  have hb:(putRow enc (Sort.ahead w q) g 0 d).heap[g]?=some (.cells (putCells enc 0 d cur) e (0,0)):=by
   simp[putRow,mapBlock,Sort.ahead,Uj,e3,onCells]
  refine⟨⟨by simp[hd];omega,.inr ⟨g,cap,_,rfl,e2,hb,by omega,e5,by simp[putCells,e6],?_⟩⟩,⟨rfl,rfl,rfl,by simp[putRow,mapBlock,Sort.ahead],fun k hk hne=>?_⟩⟩
  ·apply List.ext_getElem?
   intro j
   by_cases hj:j<m
   ·have hjd:j<d.size:=by omega
    rw[Nat.mul_one,List.getElem?_take_of_lt hj,List.getElem?_take_of_lt hj,Array.getElem?_toList,Tk]
    have hjc:j<cur.size:=by omega
    simp[putCells,hjd,hjc]
   ·rw[Nat.mul_one,List.getElem?_take_eq_none (by omega),List.getElem?_take_eq_none (by omega)]
  ·have:g≠k:=fun e'=>hne (by rw[e'])
   simp[putRow,mapBlock,Sort.ahead,Uj,this]
theorem Df (blk cap i j:Nat)(d:Array Value)(w:World)(hH:Holds id w blk 0 d)(hone:∀v∈d.toList,v.oneCell'=true)(hcap:d.size≤cap)(_hm:cap≤9223372036854775807)(hij:i+1=j)(hi:j≤d.size) :
  Calls Tryz.prog 81 #[.slice (some ⟨blk,0,none⟩) d.size cap,.int .i64 i,.int .i64 j] w fun e w'=>e=.returned (.slice (some ⟨blk,0,none⟩) (d.size-1) cap)∧∃q,w'=putRow id (Sort.ahead w q) blk 0 (d.toList.take i++d.toList.drop j++List.replicate 1 (Value.slice none 0 0)).toArray:=by
 have mixed:Tryz.prog.follows .mixedOrders=true:=rfl
 obtain⟨i0,hi0,hz0,hz1,hz2⟩:=info_parts Tryz.oP
 obtain⟨news,hnews⟩:∃news,news=d.toList.drop j:=⟨_,rfl⟩
 have hlen:news.length=d.size-j:=by rw[hnews];simp
 have hget:∀t,t<d.size-j→news[t]?=some (d[j+t]!):=by
  intro t ht
  rw[hnews,List.getElem?_drop,Array.getElem?_toList,getElem!_pos d (j+t) (by omega),Array.getElem?_eq_getElem (by omega)]
 obtain⟨A,hA,hsrc⟩:∃A:Addr,(if cap=j then some (⟨blk,0,none⟩:Addr)else some ⟨blk,j,none⟩)=some A∧Hid (∀t u,news[t]?=some u→w.drew.cell? (A.add t)=some u):=by
  by_cases h:cap=j
  ·refine⟨⟨blk,0,none⟩,by simp[h],fun t u hu=>?_⟩
   have h0:news.length=0:=by rw[hlen];omega
   rw[Tq.1 h0]at hu
   simp at hu
  ·refine⟨⟨blk,j,none⟩,by simp[h],fun t u hu=>?_⟩
   have ht:t<d.size-j:=by
    have:=(Sy.1 hu).1
    rwa [hlen]at this
   rw[hget t ht]at hu
   rw[Addr.add_lit]
   have:=(hH (j+t) (by omega)).1
   rw[Nat.zero_add]at this
   exact this.trans hu
 have s1:Hid (news.length=(d.size-j)*1):=by rw[Nat.mul_one];exact hlen
 have s2:Hid (∀u∈news,u.oneCell'=true):=by
  intro u hu
  rw[hnews]at hu
  exact hone u (List.mem_of_mem_drop hu)
 have s3:Hid (∀t,t<news.length→(w.drew.cell? ⟨blk,0+i*1+t,none⟩).isSome=true∧w.drew.frozen? ⟨blk,0+i*1+t,none⟩=false):=by
  intro t ht
  rw[hlen]at ht
  rw[Nat.mul_one,Nat.add_assoc]
  exact⟨by show (w.cell? _).isSome=true;rw[(hH (i+t) (by omega)).1];rfl,(hH (i+t) (by omega)).2⟩
 obtain⟨W1,hW1⟩:∃W1,W1=w.drew.setCells blk (0+i*1) news:=⟨_,rfl⟩
 have hW1':W1=putRow id (Sort.ahead w 1) blk 0 (Lib.lay d i (d.toList.drop j)):=by
  have e0:=Lib.putRow_setCells id (Sort.ahead w 1) blk 0 (d.toList.drop j) d i (by simp;omega)
  rw[hW1,hnews,Nat.mul_one,←e0,putRow_self id (Sort.ahead w 1) blk 0 d (Sort.holds_ahead id w 1 blk 0 d hH),List.map_id]
  rfl
 have hH1:Holds id W1 blk 0 (Lib.lay d i (d.toList.drop j)):=by rw[hW1'];exact holds_putRow id _ blk 0 d _ (Sort.holds_ahead id w 1 blk 0 d hH) (Lib.lay_size _ _ _)
 have hcl:∀ty,(Builtin.clear_ #[28] ty #[.slice (some ⟨blk,i+(d.size-j),none⟩) (d.size-(i+(d.size-j))) (cap-(i+(d.size-j)))]).run Tryz.prog W1=.ok (.tuple #[]) (W1.setCells blk (i+(d.size-j)) (List.replicate (d.size-(i+(d.size-j))) (.slice none 0 0))):=
  fun ty=>Lib.run_clear_slice W1 _ _ ty _ Tryz.mD pY rfl rfl blk (i+(d.size-j)) _ _ (by omega) (fun t ht=>by have:=(hH1 (i+(d.size-j)+t) (by rw[Lib.lay_size];omega)).1;rw[Nat.zero_add]at this;rw[this];rfl) (fun t ht=>by have:=(hH1 (i+(d.size-j)+t) (by rw[Lib.lay_size];omega)).2;rw[Nat.zero_add]at this;exact this)
 have X:Hid (W1=putRow id (Sort.ahead w 1) blk 0 (Lib.lay d i (d.toList.drop j))):=hW1'
 have hW:Hid (W1=w.drew.setCells blk (0+i*1) news):=hW1
 have hic:i≤cap:=by omega
 have hjc:j≤cap:=by omega
 obtain⟨N,HN⟩:∃N,Hid (d.size=N):=⟨_,Sk rfl⟩
 rw[HN.out]at hcl hcap hi s1 ⊢
 have e1:i+(N-j)=N-1:=by omega
 simp only[e1]at hcl
 have e2:N-(N-1)=1:=by omega
 simp only[e2]at hcl
 have hne:(i==j)=false:=by simp;omega
 clear hW1 hW1' hH1 hH hget hnews hlen
 go_enter Tryz.func81,Tryz.ntmps81
 go_wp2_with fail
 go_region_law_o (refine step_append_room rfl (.tmp 22) (.tmp 25) 28 rfl 39 i0 1 Tryz.mD hi0 hz1 blk 0 i cap (by simp[Act.eval,Act.put]) A (N-j) (cap-j) news (by simp[Act.eval,Act.put]) s1.out hsrc.out s2.out (by omega) s3.out ?_;rw[←hW.out])
 go_wp2
 go_ret
 refine⟨rfl,1,?_⟩
 have e3:=Lib.delete_arr d i j (Value.slice none 0 0) (by omega) (by rw[HN.out];omega)
 have e4:j-i=1:=by omega
 rw[e4,HN.out,e1]at e3
 rw[←e3,←Lib.putRow_setCells id _ blk 0 _ _ (N-1) (by rw[Lib.lay_size,HN.out];simp;omega),←X.out,List.map_id,Nat.zero_add]
 rfl
theorem Dg {base g cap:Nat}{gl:List Value}{w:World}(h:w.ownsRow base 39 1 (.slice (some ⟨g,0,none⟩) gl.length cap) gl.length gl)(h1:∀v∈gl,v.oneCell'=true){i j:Nat}(hij:i+1=j)(hi:j≤gl.length) :
  Calls Tryz.prog 81 #[.slice (some ⟨g,0,none⟩) gl.length cap,.int .i64 i,.int .i64 j] w fun e w'=>e=.returned (.slice (some ⟨g,0,none⟩) (gl.length-1) cap)∧w'.ownsRow base 39 1 (.slice (some ⟨g,0,none⟩) (gl.length-1) cap) (gl.length-1) (gl.eraseIdx i)∧w.grownBy w' (some g):=by
 have hH:Holds id w g 0 gl.toArray:=yF (enc:=id) (by rw[List.map_id];exact h)
 have hc:gl.length≤cap∧cap≤maxLen:=by
  rcases h.2 with⟨e0,_⟩|⟨g',cap',cur,e1,e2,e3,e4,e5,e6,e7⟩
  ·cases e0
  ·cases e1;exact⟨e4,e5⟩
 have hm:=Df g cap i j gl.toArray w hH (by simpa using h1) (by simpa using hc.1) (by have:=hc.2;unfold maxLen at this;omega) hij (by simpa using hi)
 simp only[List.size_toArray]at hm
 refine hm.mono ?_
 rintro e w' ⟨rfl,q,rfl⟩
 have hl:(gl.take i++gl.drop j).length=gl.length-1:=by simp;omega
 obtain⟨k1,k2⟩:=tH (enc:=id) h (gl.take i++gl.drop j++List.replicate 1 (Value.slice none 0 0)).toArray (by simp;omega) (m:=gl.length-1) (by omega) q
 refine⟨rfl,?_,k2⟩
 have e:((gl.take i++gl.drop j++List.replicate 1 (Value.slice none 0 0)).toArray.toList.map id).take (gl.length-1)=gl.eraseIdx i:=by
  rw[List.map_id]
  show (gl.take i++gl.drop j++_).take _=_
  rw[List.take_append_of_le_length (by omega),←hl,List.take_length,List.eraseIdx_eq_take_drop_succ,hij]
 rw[e]at k1
 exact k1
structure OrF (used:Int→List Int)(come:Int→Bool)(p1 p2 ub cb:Nat)(w:World):Prop where
 c1:w.cell? ⟨p1,0,none⟩=some (.map (some ub))
 c2:w.cell? ⟨p2,0,none⟩=some (.map (some cb))
 us:∃N g B,aQ aH w ub N g∧∀a,∃A c,(g a).getD (.slice none 0 0)=.slice A (used a).length c∧dF w B A c (used a)
 co:∃N,aQ aH w cb N (fun a=>if come a=true then some (.bool true)else none)
theorem OrF.looks {used:Int→List Int}{come:Int→Bool}{p1 p2 ub cb:Nat}{w:World}(h:OrF used come p1 p2 ub cb w){a:Int}(ha:aH.ok a) :
  (Instr.lookup 79 (.map (some cb)) (.int .i64 a) false).run Tryz.prog w=.ok (.bool (come a)) w∧∃A c B,(Instr.lookup 77 (.map (some ub)) (.int .i64 a) false).run Tryz.prog w=.ok (.slice A (used a).length c) w∧dF w B A c (used a):=by
 constructor
 ·obtain⟨N,hm⟩:=h.co
  have:=hm.look false (t:=79) Tryz.iW (kQ w) ha
  simp only[TN,if_false,aH]at this
  have e:(if come a=true then some (Value.bool true)else none).getD (.bool false)=.bool (come a):=by cases come a <;> rfl
  rw[e]at this
  exact this
 ·obtain⟨N,g,B,hm,hg⟩:=h.us
  have:=hm.look false (t:=77) Tryz.pX (pY w) ha
  simp only[TN,if_false,aH]at this
  obtain⟨A,c,e,hi⟩:=hg a
  rw[e]at this
  exact⟨A,c,B,this,hi⟩
theorem BA {used:Int→List Int}{come:Int→Bool}{p1 p2 ub cb B:Nat}{w:World}(h:OrF used come p1 p2 ub cb w){A:Option Addr}{c:Nat}{g:List Int}(hg:dF w B A c g)(hok:∀a∈g,aH.ok a∧(used a).length≤1000000∧∀u∈used a,aH.ok u)(hgl:g.length≤1000000) :
  Calls Tryz.prog 79 #[.slice A g.length c,.pointer (some ⟨p1,0,none⟩),.pointer (some ⟨p2,0,none⟩)] w fun e w'=>e=.returned (.bool (rdy used come g))∧w'=w:=by
 have h0:=h
 obtain⟨c1,c2,_,_⟩:=h0
 obtain⟨R,HR⟩:∃R,Hid (rdy used come g=R):=⟨_,Sk rfl⟩
 obtain⟨N,HN⟩:∃N,Hid (g.length=N):=⟨_,Sk rfl⟩
 have HH:=Sk (Sn h (Sn hg hok))
 rw[HR.out]
 rw[HN.out]at hgl ⊢
 clear h hg hok
 go_enter Tryz.func79,Tryz.ntmps79
 go_wp2
 go_loopg [11] N (fun k ct wr=>∃j:Nat,k=N-j∧j≤N∧ct=.int .i64 j∧wr=w∧R=((g.drop j).all fun id=>rE come g (used id)))
 case atStart=>exact⟨0,rfl,SC _,rfl,rfl,HR.out.symm⟩
 case round =>
  obtain⟨j,hk,hj,rfl,rfl,hR⟩:=hrel
  by_cases hlt:j<N
  ·obtain⟨a,ha⟩:∃a,g[j]?=some a:=⟨_,Sw (by rw[HN.out];exact hlt)⟩
   obtain⟨gb,o,rfl,hgB,hgc⟩:=HH.out.2.1.2.2 (by intro e;rw[e]at ha;simp at ha)
   have eg:=hgc j a ha
   have hdr:g.drop j=a::g.drop (j+1):=by
    have h1:=(Sy.1 ha)
    rw[TQ h1.1,h1.2]
   rw[hdr,List.all_cons]at hR
   obtain⟨oka,ula,oku⟩:=HH.out.2.2 a (SV ha)
   obtain⟨_,uA,uc,uB,lku,hiu⟩:=HH.out.1.looks oka
   obtain⟨M,HM⟩:∃M,Hid ((used a).length=M):=⟨_,Sk rfl⟩
   rw[HM.out]at lku ula
   have HJ:=Sk (Sn hk (Sn hR (Sn hiu oku)))
   clear hk hR hiu oku hgc ha hdr
   go_wp2
   go_loopg [19] M (fun k ct wr'=>∃q:Nat,k=M-q∧q≤M∧ct=.int .i64 q∧wr'=wr∧rE come g (used a)=rE come g ((used a).drop q))
   case atStart=>exact⟨0,rfl,SC _,rfl,rfl,rfl⟩
   case round =>
    obtain⟨q,hk,hq,rfl,rfl,hU⟩:=hrel
    by_cases hlq:q<M
    ·obtain⟨u,hu⟩:∃u,(used a)[q]?=some u:=⟨_,Sw (by rw[HM.out];exact hlq)⟩
     obtain⟨gb2,o2,rfl,R5,Oo⟩:=HJ.out.2.2.1.2.2 (by intro e;rw[e]at hu;simp at hu)
     have eu:=Oo q u hu
     have hdu:(used a).drop q=u::(used a).drop (q+1):=by
      have h1:=(Sy.1 hu)
      rw[TQ h1.1,h1.2]
     rw[hdu]at hU
     obtain⟨lkc,_⟩:=HH.out.1.looks (HJ.out.2.2.2 u (SV hu))
     have HC:=Sk (Db (x:=u) HH.out.2.1)
     rw[HN.out]at HC
     have HU:=Sk (Sn hk (show rE come g (used a)=((come u||decide (u∈g))&&rE come g ((used a).drop (q+1)))from hU))
     clear hk hU hdu Oo hu
     cases hcu:come u with
     | true =>
      rw[hcu]at lkc HU
      go_wp2
      go_roundg (M-(q+1))
      case measure=>have:=HU.out.1;omega
      case rel=>exact⟨q+1,rfl,by omega,by go_num,rfl,by rw[HU.out.2];simp⟩
     | false =>
      rw[hcu]at lkc HU
      cases hdg:decide (u∈g)with
      | true =>
       rw[hdg]at HC HU
       go_wp2_with (go_at_call 80;(with_reducible refine TJ HC.out ?_);rintro e w' ⟨rfl,rfl⟩)
       go_roundg (M-(q+1))
       case measure=>have:=HU.out.1;omega
       case rel=>exact⟨q+1,rfl,by omega,by go_num,rfl,by rw[HU.out.2];simp⟩
      | false =>
       rw[hdg]at HC HU
       have HV:=Sk (show R=false by rw[HJ.out.2.1,HU.out.2];rfl)
       go_wp2_with (go_at_call 80;(with_reducible refine TJ HC.out ?_);rintro e w' ⟨rfl,rfl⟩)
       go_ret
       exact⟨by rw[HV.out];rfl,rfl⟩
    ·obtain rfl:q=M:=by omega
     have i1:decide ((q:Int)<(q:Int))=false:=SH (by omega)
     have i2:decide (q<q)=false:=SH (by omega)
     rw[List.drop_of_length_le (by rw[HM.out];exact SA _)]at hU
     have HU:=Sk (show R=((g.drop (j+1)).all fun id=>rE come g (used id)) by rw[HJ.out.2.1,hU];rfl)
     clear hU hk
     go_wp2
     go_roundg (N-(j+1))
     case measure=>have:=HJ.out.1;omega
     case rel=>exact⟨j+1,rfl,by omega,by go_num,rfl,HU.out⟩
  ·obtain rfl:j=N:=by omega
   have i1:decide ((j:Int)<(j:Int))=false:=SH (by omega)
   have i2:decide (j<j)=false:=SH (by omega)
   rw[List.drop_of_length_le (by rw[HN.out];exact SA _)]at hR
   have HV:=Sk (show R=true from hR)
   clear hR hk
   go_wp2
   go_ret
   exact⟨by rw[HV.out];rfl,rfl⟩
end Go.Proofs.Q
