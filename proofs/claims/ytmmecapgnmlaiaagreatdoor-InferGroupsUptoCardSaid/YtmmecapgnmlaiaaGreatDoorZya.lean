/- helper lemmas -/
import Derived.Test.YtmmecapgnmlaiaaGreatDoorZxy
import Derived.Test.YtmmecapgnmlaiaaGreatDoorLyg
set_option maxRecDepth 100000
set_option maxHeartbeats 16000000
namespace Go.Proofs.Q
open Go Go.RowKit Go.Proofs Go.Proofs.Scc Go.Sort
def GrV (w:World)(base:Nat)(v:Value)(l:List Int):Prop:=∃g c cur fz,v=.slice (some ⟨g,0,none⟩) l.length c∧base≤g∧w.heap[g]?=some (.cells cur 3 fz)∧(∀(j:Nat)(i:Int),l[j]?=some i→w.cell? ⟨g,j,none⟩=some (.int .i64 i))∧l≠[]∧l.length≤c∧c≤maxLen
theorem mU.v {X:World}{n:Nat}{ov v:Value}{l:List Int}(h:mU X n ov v l):GrV X (n+11) v l:=by
 obtain⟨g,c,cur,fz,e1,e2,e3,e4,e5,e6,e7,e8⟩:=h
 exact⟨g,c,cur,fz,e1,e2,e4,e5,e6,e7,e8⟩
section
variable {w w':World} {base rb:Nat} {v gv:Value} {l:List Int} {gl:List Value} {grs:List (List Int)}
theorem GrV.keep (h:GrV w base v l)(hk:∀k cur fz,w.heap[k]?=some (.cells cur 3 fz)→base≤k→w'.heap[k]?=w.heap[k]?):GrV w' base v l:=by
 obtain⟨g,c,cur,fz,e1,e2,e3,e4,e5,e6,e7⟩:=h
 have e:=hk g cur fz e3 e2
 exact⟨g,c,cur,fz,e1,e2,e.trans e3,fun j i hj=>(SN e).trans (e4 j i hj),e5,e6,e7⟩
theorem GrV.mono (h:GrV w base v l){b:Nat}(hb:b≤base):GrV w b v l:=by
 obtain⟨g,c,cur,fz,e1,e2,e3⟩:=h
 exact⟨g,c,cur,fz,e1,SE hb e2,e3⟩
theorem GrV.ints (h:GrV w base v l):∃A c,v=.slice A l.length c∧dF w w.heap.size A c l:=by
 obtain⟨g,c,cur,fz,e1,e2,e3,e4,e5,e6,e7⟩:=h
 exact⟨_,c,e1,e6,e7,fun _=>⟨g,0,rfl,lt_of_block e3,fun j i hj=>by rw[Nat.zero_add];exact e4 j i hj⟩⟩
theorem GrV.one (h:GrV w base v l):v.oneCell'=true:=by
 obtain⟨g,c,cur,fz,rfl,_⟩:=h
 rfl
structure RG (w:World)(base rb:Nat)(gv:Value)(gl:List Value)(grs:List (List Int)):Prop where
 row:w.ownsRow rb 39 1 gv gl.length gl
 len:gl.length=grs.length
 gs:∀(j:Nat) (v:Value) (l:List Int),gl[j]?=some v→grs[j]?=some l→GrV w base v l
theorem RG.blk (h:RG w base rb gv gl grs){g:Nat}(hg:gv.ownBlock=some g):rb≤g∧g<w.heap.size∧∃c fz,w.heap[g]?=some (.cells c 39 fz):=
 ⟨(h.row.lt g hg).1,(h.row.lt g hg).2,Lib.ownsRow_kind h.row g hg⟩
theorem RG.keep (h:RG w base rb gv gl grs)(hg:∀g,gv.ownBlock=some g→w'.heap[g]?=w.heap[g]?)(hk:∀k cur fz,w.heap[k]?=some (.cells cur 3 fz)→base≤k→w'.heap[k]?=w.heap[k]?):RG w' base rb gv gl grs:=
 ⟨bQ h.row hg,h.len,fun j v l hv hl=>(h.gs j v l hv hl).keep hk⟩
theorem RG.below (h:RG w base rb gv gl grs)(hb:Below w.heap.size w w'):RG w' base rb gv gl grs:=
 h.keep (fun _ hg=>hb.block _ (h.blk hg).2.1) fun k _ _ hc _=>hb.block k (lt_of_block hc)
theorem RG.one (h:RG w base rb gv gl grs):∀v∈gl,v.oneCell'=true:=fun v hv=>by
 obtain⟨j,hj,e⟩:=List.getElem_of_mem hv
 exact(h.gs j v (grs[j]'(by rw[←h.len];exact hj)) (by rw[Sw hj,e]) (Sw _)).one
end
theorem BG {w:World}{b1 b2:Nat}{v1 v2:Value}{l1 l2:List Int}(h1:GrV w b1 v1 l1)(h2:GrV w b2 v2 l2)(k1:∀i∈l1,0≤i∧i≤999999999)(k2:∀i∈l2,0≤i∧i≤999999999) :
  Calls Tryz.prog 77 #[v1,v2] w fun e w'=>e=.returned (.int .i64 (bK l1-bK l2))∧∃q,w'=w.drewN q:=by
 obtain⟨g,c,_,_,rfl,_,_,hc1,hn1,hl1,hm1⟩:=h1
 obtain⟨g',c',_,_,rfl,_,_,hc2,hn2,hl2,hm2⟩:=h2
 obtain⟨x,l,rfl⟩:=List.exists_cons_of_ne_nil hn1
 obtain⟨y,m,rfl⟩:=List.exists_cons_of_ne_nil hn2
 have a1:=hc1 0 x rfl
 have a2:=hc2 0 y rfl
 have i1:(0:Int)<((x::l).length:Int):=by simp only[TS];omega
 have i2:(0:Int)<((y::m).length:Int):=by simp only[TS];omega
 have j1:=k1 x Ta
 have j2:=k2 y Ta
 have hw:IntKind.i64.wrap (x-y)=x-y:=IntWalk.i64_in _ (by omega)
 have i3:0<(x::l).length:=by simp
 have i4:0<(y::m).length:=by simp
 generalize (x::l).length=n1 at i1 i3 hl1 ⊢
 generalize (y::m).length=n2 at i2 i4 hl2 ⊢
 have d1:decide ((0:Int)<(n1:Int))=true:=SI i1
 have d2:decide ((0:Int)<(n2:Int))=true:=SI i2
 show Calls Tryz.prog 77 _ w fun e w'=>e=.returned (.int .i64 (x-y))∧_
 clear hc1 hc2 k1 k2 hn1 hn2 hm1 hm2 hl1 hl2
 go_enter Tryz.func77,Tryz.ntmps77
 go_wp2
 go_quiet (fail)
 go_wp2
 go_ret
 exact⟨rfl,_,rfl⟩
def fIdx (o:Option Nat):Int:=match o with
 | some k=>k
 | none=>-1
theorem Dh {w:World}{base rb p1 p2 ub cb:Nat}{used:Int→List Int}{come:Int→Bool}{A:Option Addr}{c:Nat}{gl:List Value}{grs:List (List Int)}(h:RG w base rb (.slice A gl.length c) gl grs)(hF:OrF used come p1 p2 ub cb w)
  (hok:∀g∈grs,∀a∈g,aH.ok a∧(used a).length≤1000000∧∀u∈used a,aH.ok u)(hgl:gl.length≤1000000)(hgg:∀g∈grs,g.length≤1000000) :
  Calls Tryz.prog 78 #[.slice A gl.length c,.func (.func 79) #[] #[.pointer (some ⟨p1,0,none⟩),.pointer (some ⟨p2,0,none⟩)]] w fun e w'=>e=.returned (.int .i64 (fIdx (grs.findIdx? (rdy used come))))∧w'=w:=by
 obtain⟨R,HR⟩:∃R,Hid (fIdx (grs.findIdx? (rdy used come))=R):=⟨_,Sk rfl⟩
 obtain⟨N,HN⟩:∃N,Hid (gl.length=N):=⟨_,Sk rfl⟩
 have HH:=Sk (Sn h (Sn hF (Sn hok hgg)))
 have hcap:N≤c∧c≤9223372036854775807:=by
  rw[←HN.out]
  rcases h.row.2 with⟨e,_⟩|⟨g',cap',cur,e,_,_,hle,hmx,_⟩
  ·simp only[Value.slice.injEq]at e;exact⟨by omega,by omega⟩
  ·simp only[Value.slice.injEq]at e;unfold maxLen at hmx;exact⟨by omega,by omega⟩
 rw[HR.out]
 rw[HN.out]at hgl ⊢
 clear h hF hok hgg
 go_enter Tryz.func78,Tryz.ntmps78
 go_wp2
 go_loopg [5,8] N (fun gg _ ct wr=>∃j:Nat,gg=N-j∧j≤N∧ct=.int .i64 j∧wr=w∧∀x∈grs.take j,rdy used come x=false)
 case atStart=>exact⟨0,rfl,by omega,rfl,rfl,by simp⟩
 case round =>
  obtain⟨j,HG,hj,rfl,rfl,hC⟩:=hrel
  by_cases hlt:j<N
  ·have hlt':j<gl.length:=by rw[HN.out];exact hlt
   obtain⟨v,hv⟩:∃v,gl[j]?=some v:=⟨_,Sw hlt'⟩
   obtain⟨l,hl⟩:∃l,grs[j]?=some l:=⟨_,Sw (by rw[←HH.out.1.len];exact hlt')⟩
   have hG:=HH.out.1.gs j v l hv hl
   obtain⟨vA,vc,rfl,hI⟩:=hG.ints
   obtain⟨g,e0⟩:∃g,A=some ⟨g,0,none⟩:=by
    rcases HH.out.1.row.2 with⟨e,e'⟩|⟨g',cap',cur,e,_⟩
    ·omega
    ·cases e;exact⟨_,rfl⟩
   subst e0
   have c0:wr.cell? ⟨g,j,none⟩=some (.slice vA l.length vc):=(HH.out.1.row.cellAt j (by rw[Nat.mul_one];exact hlt')).trans hv
   have lm:=SV hl
   have HC:=Sk (BA HH.out.2.1 hI (HH.out.2.2.1 l lm) (HH.out.2.2.2 l lm))
   have htk:grs.take (j+1)=grs.take j++[l]:=by rw[Tn,hl];rfl
   cases hr:rdy used come l with
   | true =>
    rw[hr]at HC
    have HV:=Sk (show R=(j:Int) by
     rw[←HR.out]
     have:grs.findIdx? (rdy used come)=some j:=by
      obtain⟨hjl,e⟩:=Sy.1 hl
      rw[Ug]
      refine⟨hjl,by rw[e];exact hr,fun q hq=>?_⟩
      have:=hC (grs[q]'(by omega)) (List.mem_iff_getElem?.2 ⟨q,by rw[List.getElem?_take_of_lt hq];exact Sw _⟩)
      rw[this]
      simp
     rw[this]
     rfl)
    clear hC hG hI hv hl lm htk hr HG
    go_wp2_with fail
    with_reducible refine TJ HC.out ?_
    rintro e w1 ⟨rfl,rfl⟩
    go_wp2
    go_ret
    exact⟨by rw[HV.out];rfl,rfl⟩
   | false =>
    rw[hr]at HC
    have HM:=Sk (Sn HG (show ∀x∈grs.take (j+1),rdy used come x=false by
     intro x hx
     rw[htk,Td,Te]at hx
     rcases hx with hx|rfl
     ·exact hC x hx
     ·exact hr))
    clear hC hG hI hv hl lm htk hr HG
    go_wp2_with fail
    with_reducible refine TJ HC.out ?_
    rintro e w1 ⟨rfl,rfl⟩
    go_wp2
    go_roundg (N-(j+1))
    case measure=>have:=HM.out.1;omega
    case rel=>exact⟨j+1,rfl,by omega,by go_num,rfl,HM.out.2⟩
  ·obtain rfl:j=N:=by omega
   have i1:decide ((j:Int)<(j:Int))=false:=SH (by omega)
   have i2:decide (j<j)=false:=SH (by omega)
   have HV:=Sk (show R=-1 by
    rw[←HR.out]
    have:grs.findIdx? (rdy used come)=none:=by
     rw[Uh]
     rw[Tm (by rw[←HH.out.1.len,HN.out];exact SA _)]at hC
     exact hC
    rw[this]
    rfl)
   clear hC HG
   go_wp2
   go_ret
   exact⟨by rw[HV.out];rfl,rfl⟩
end Go.Proofs.Q
namespace Go.Proofs.Q
open Go Go.RowKit Go.Proofs Go.Proofs.Scc Go.Shelf Go.Sort
theorem FT (w:World)(os:Array Obj):w.grownBy (grow w os) none:=by
 refine⟨rfl,rfl,rfl,by simp[grow],fun k hk _=>heap_grow_old _ _ hk⟩
theorem Ea {α β:Type}{n:Nat}{l:List α}(h:l.length=n)(f:α→β):(List.finRange n).map (fun i=>f (l[i.1]'(by rw[h];exact i.2)))=l.map f:=by
 apply List.ext_getElem
 ·simp[h]
 ·intro i h1 h2
  simp
theorem BH {w:World}{base rb:Nat}{gv:Value}{gl:List Value}{grs:List (List Int)}(h:RG w base rb gv gl grs)(hn:gl.length≤1000000)(hok:∀l∈grs,∀i∈l,0≤i∧i≤999999999)(hd:grs.Pairwise fun a b=>bK a≠bK b) :
  Calls Tryz.prog 76 #[gv,.func (.func 77) #[] #[]] w fun e w'=>(∃v,e=.returned v)∧(∃gl',RG w' base rb gv gl' (sortG grs))∧w.grownBy w' gv.ownBlock:=by
 have eg:=jO (fid:=77) rfl rfl rfl
 rcases h.row.2 with⟨e1,e2⟩|⟨g,cap,cur,e1,e2,e3,e4,e5,e6,e7⟩
 ·subst e1
  have hg:gl=[]:=Tq.1 e2
  have hgr:grs=[]:=Tq.1 (by rw[←h.len,e2])
  subst hg
  subst hgr
  refine(AnyF.slices_SortFunc_none Tryz.sortG0 none 0 _ w).mono ?_
  rintro e w' ⟨rfl,rfl⟩
  exact⟨⟨_,rfl⟩,⟨[],by rw[show sortG []=[]from List.mergeSort_nil];exact h⟩,⟨rfl,rfl,rfl,SA _,fun _ _ _=>rfl⟩⟩
 ·subst e1
  obtain⟨n,hn'⟩:∃n,gl.length=n:=⟨_,rfl⟩
  have hgn:grs.length=n:=by rw[←h.len,hn']
  by_cases h0:n=0
  ·have hg:gl=[]:=Tq.1 (by omega)
   have hgr:grs=[]:=Tq.1 (by omega)
   subst hg
   subst hgr
   refine(AnyF.slices_SortFunc_none Tryz.sortG0 (some ⟨g,0,none⟩) cap _ w).mono ?_
   rintro e w' ⟨rfl,rfl⟩
   exact⟨⟨_,rfl⟩,⟨[],by rw[show sortG []=[]from List.mergeSort_nil];exact h⟩,⟨rfl,rfl,rfl,SA _,fun _ _ _=>rfl⟩⟩
  ·haveI:Inhabited (Fin n):=⟨⟨0,by omega⟩⟩
   obtain⟨enc,henc⟩:∃enc:Fin n→Value,enc=fun i=>gl[i.1]'(by rw[hn'];exact i.2):=⟨_,rfl⟩
   obtain⟨key,hkey⟩:∃key:Fin n→List Int,key=fun i=>grs[i.1]'(by rw[hgn];exact i.2):=⟨_,rfl⟩
   have hmap:(List.finRange n).map enc=gl:=by rw[henc];have:=Ea hn' (id:Value→Value);simpa using this
   have Pn:(List.finRange n).map key=grs:=by rw[hkey];have:=Ea hgn (id:List Int→List Int);simpa using this
   have hG:∀i:Fin n,GrV w base (enc i) (key i):=fun i=>h.gs i.1 _ _ (by rw[henc];exact Sw _) (by rw[hkey];exact Sw _)
   have hkm:∀i:Fin n,key i∈grs:=fun i=>by rw[hkey];exact Ul _
   have hrow:w.ownsRow rb 39 1 (.slice (some ⟨g,0,none⟩) (List.finRange n).length cap) (List.finRange n).length ((List.finRange n).map enc):=by
    rw[hmap,List.length_finRange,←hn']
    exact h.row
   have hH:=yF hrow
   have hgz:g<w.heap.size:=lt_of_block e3
   have hwk:∀(m:Nat) (dk:Array (Fin n)) (os:Array Obj),dk.size=n→(sortWorld enc w g 0 m dk os).ownsRow rb 39 1 (.slice (some ⟨g,0,none⟩) n cap) n (dk.toList.map enc)∧w.grownBy (sortWorld enc w g 0 m dk os) (some g):=fun m dk os hdk=>by
    obtain⟨k1,k2⟩:=tH (enc:=enc) (n:=n) (by rw[List.length_finRange]at hrow;exact hrow) dk hdk (m:=n) (SA _) m
    have k3:=FT (putRow enc (Sort.ahead w m) g 0 dk) os
    refine⟨?_,⟨k3.os.trans k2.os,k3.tape.trans k2.tape,k3.output.trans k2.output,SE k2.size k3.size,fun k hk hne=>(k3.block k (SB hk k2.size) (by simp)).trans (k2.block k hk hne)⟩⟩
    rw[Tm (by simp[hdk])]at k1
    exact bQ k1 fun q hq=>k3.block q (k1.lt q hq).2 (by simp)
   have hcmp:CmpLays1 Tryz.prog 77 #[] enc (fun i j=>bK (key i)-bK (key j)) g 0 (List.finRange n).toArray.size w:=by
    intro m os dk hs x y
    have hs':dk.size=n:=by simpa using hs
    obtain⟨_,k2⟩:=hwk m dk os hs'
    have kp:∀i:Fin n,GrV (sortWorld enc w g 0 m dk os) base (enc i) (key i):=fun i=>(hG i).keep fun k c fz hk _=>k2.block k (lt_of_block hk) (fun e=>by
     have e':g=k:=TL e.symm
     subst e'
     rw[e3]at hk
     simp only[TK,Obj.cells.injEq]at hk
     exact absurd hk.2.1 (by decide))
    refine(BG (kp x) (kp y) (hok _ (hkm x)) (hok _ (hkm y))).mono ?_
    rintro e w' ⟨rfl,q,rfl⟩
    exact⟨rfl,q,#[],by rw[grow_empty]⟩
   have hlt:∀i j:Fin n,ltOf (fun i j=>bK (key i)-bK (key j)) i j=decide (bK (key i)<bK (key j)):=fun i j=>decide_eq_decide.2 (by simp only;omega)
   have hO:SWO (ltOf fun i j:Fin n=>bK (key i)-bK (key j)):=by
    refine⟨fun x=>?_,fun x y z h1 h2=>?_,fun x y z h1 h2=>?_⟩
    ·rw[hlt];exact SH (by omega)
    ·rw[hlt]at *
     have h1:=SK h1
     have h2:=SK h2
     exact SI (by omega)
    ·rw[hlt]at *
     have h1:=SL h1
     have h2:=SL h2
     exact SH (by omega)
   have hT:∀x y:Fin n,ltOf (fun i j=>bK (key i)-bK (key j)) x y=false→ltOf (fun i j=>bK (key i)-bK (key j)) y x=false→x=y:=fun x y h1 h2=>by
    rw[hlt]at h1 h2
    have h1:=SL h1
    have h2:=SL h2
    apply Classical.byContradiction
    intro hne
    have hp:=List.pairwise_iff_getElem.1 hd
    have hv:x.1≠y.1:=fun e=>hne (Fin.ext e)
    rw[hkey]at h1 h2
    rcases Nat.lt_or_gt_of_ne hv with h'|h'
    ·exact hp x.1 y.1 (by omega) (by omega) h' (by simp only at h1 h2;omega)
    ·exact hp y.1 x.1 (by omega) (by omega) h' (by simp only at h1 h2;omega)
   have hone:OneCell enc:=fun i=>(hG i).one
   have hc:=Any.slices_SortFunc_total Tryz.sortG enc hone (fun i j=>bK (key i)-bK (key j)) hO 77 #[] g 0 cap (List.finRange n).toArray w eg hcmp hH hgz (by simp;omega) hT
   rw[List.size_toArray,List.length_finRange]at hc
   rw[hn']
   refine hc.mono ?_
   rintro e w' ⟨rfl,m,os,rfl⟩
   obtain⟨d',hd'⟩:∃d',d'=(List.finRange n).mergeSort fun x y=>!ltOf (fun i j=>bK (key i)-bK (key j)) y x:=⟨_,rfl⟩
   have hdl:d'.length=n:=by rw[hd'];simp
   obtain⟨k1,k2⟩:=hwk m d'.toArray os (by simpa using hdl)
   have hks:d'.map key=sortG grs:=by
    rw[hd',List.map_mergeSort (s:=fun a b=>decide (bK a≤bK b)),Pn]
    ·rfl
    ·intro a _ b _
     rw[hlt]
     by_cases e:bK (key a)≤bK (key b)
     ·rw[SI e,SH (by omega)];rfl
     ·rw[SH e,SI (by omega)];rfl
   rw[←hd']
   refine⟨⟨_,rfl⟩,⟨d'.map enc,⟨?_,by rw[←hks];simp,fun j v l hv hl=>?_⟩⟩,k2⟩
   ·rw[S9,hdl]
    exact k1
   ·rw[←hks,Tk]at hl
    rw[Tk]at hv
    cases hj:d'[j]? with
    | none=>rw[hj]at hv;cases hv
    | some i =>
     rw[hj]at hv hl
     cases hv
     cases hl
     refine(hG i).keep fun k c fz hk _=>k2.block k (lt_of_block hk) (fun e=>by
      have e':g=k:=TL e.symm
      subst e'
      rw[e3]at hk
      simp only[TK,Obj.cells.injEq]at hk
      exact absurd hk.2.1 (by decide))
end Go.Proofs.Q
namespace Go.Proofs.Q
open Go Go.RowKit Go.Proofs Go.Proofs.Scc Go.Sort
def UsB (base ub:Nat)(used:Int→List Int)(W:World):Prop:=∃N g,aQ aH W ub N g∧∀a,∃A c,(g a).getD (.slice none 0 0)=.slice A (used a).length c∧dF W base A c (used a)
theorem dF.below {w w':World}{B:Nat}{A:Option Addr}{c:Nat}{l:List Int}(h:dF w B A c l)(hb:Below B w w'):dF w' B A c l:=
 ⟨h.1,h.2.1,fun hne=>by
  obtain⟨g,o,e,hg,hc⟩:=h.2.2 hne
  exact⟨g,o,e,hg,fun j i hj=>(SN (hb.block g hg)).trans (hc j i hj)⟩⟩
theorem UsB.below {base ub:Nat}{used:Int→List Int}{W W':World}(h:UsB base ub used W)(hu:ub<base)(hb:Below base W W'):UsB base ub used W':=by
 obtain⟨N,g,hm,ha⟩:=h
 refine⟨N,g,hm.keep (hb.block ub hu),fun a=>?_⟩
 obtain⟨A,c,e,hi⟩:=ha a
 exact⟨A,c,e,hi.below hb⟩
structure OrI (W:World)(base n rb ub pb mb:Nat)(used:Int→List Int)(w:World)(gv lv:Value)(gl ll:List Value)(gs Ld:List (List Int))(come:Int→Bool)(K:Nat):Prop where
 bl:Below base W w
 us:UsB base ub used w
 bu:w.heap[n]?=some (.cells #[.map (some ub)] 77 (0,0))
 bc:w.heap[pb]?=some (.cells #[.map (some mb)] 79 (0,0))
 cm:aQ aH w mb K (fun a=>if come a=true then some (.bool true)else none)
 rg:RG w base rb gv gl gs
 rl:RG w base (pb+1) lv ll Ld
 go:∀g,gv.ownBlock=some g→g<n
 ord:ub<base∧base≤n∧n<mb∧mb+1=pb∧pb<w.heap.size
section
variable {W w w':World} {base n rb ub pb mb K:Nat} {used:Int→List Int} {gv lv:Value} {gl ll:List Value} {gs Ld:List (List Int)} {come:Int→Bool}
theorem OrI.orF (h:OrI W base n rb ub pb mb used w gv lv gl ll gs Ld come K):OrF used come n pb ub mb w:=by
 refine⟨Sq w n 0 _ _ (0,0) h.bu,Sq w pb 0 _ _ (0,0) h.bc,?_,K,h.cm⟩
 obtain⟨N,g,hm,ha⟩:=h.us
 exact⟨N,g,base,hm,ha⟩
theorem OrI.below (h:OrI W base n rb ub pb mb used w gv lv gl ll gs Ld come K)(hb:Below w.heap.size w w'):OrI W base n rb ub pb mb used w' gv lv gl ll gs Ld come K:=by
 have ho:=h.ord
 exact⟨h.bl.trans (hb.mono (by omega)),h.us.below ho.1 (hb.mono (by omega)),(hb.block n (by omega)).trans h.bu,(hb.block pb (by omega)).trans h.bc,h.cm.keep (hb.block mb (by omega)),h.rg.below hb,h.rl.below hb,h.go,⟨ho.1,ho.2.1,ho.2.2.1,ho.2.2.2.1,SB ho.2.2.2.2 hb.size⟩⟩
theorem cu {b:Option Nat}(hg:w.grownBy w' b){m:Nat}(hm:m≤w.heap.size)(hb:∀k,b=some k→m≤k):Below m w w':=
 ⟨hg.os,hg.tape,hg.output,hg.size,fun k hk=>hg.block k (by omega) (fun e=>by have:=hb k e.symm;omega)⟩
theorem OrI.put (h:OrI W base n rb ub pb mb used w gv lv gl ll gs Ld come K){a:Int}(ha:aH.ok a)(hK:K<maxLen) :
  ∃Y,(Instr.mapUpdate 79 (.map (some mb)) (.int .i64 a) (.bool true)).run Tryz.prog w=.ok () Y∧OrI W base n rb ub pb mb used Y gv lv gl ll gs Ld (fun x=>come x||decide (x=a)) (K+1):=by
 have ho:=h.ord
 obtain⟨Y,hr,hm,hg⟩:=h.cm.put (t:=79) Tryz.iW hK ha (.bool true)
 have hs:∀k,k<w.heap.size→k≠mb→Y.heap[k]?=w.heap[k]?:=fun k hk hne=>hg.block k hk (fun e=>hne (TL e))
 have hmap:∀{k:Nat} {cur:Array Value} {t:TypeId} {fz:Nat×Nat},w.heap[k]?=some (.cells cur t fz)→k≠mb:=fun hc e=>by
  obtain⟨_,_,⟨es,cl,h1,_⟩,_⟩:=h.cm
  rw[e,h1]at hc
  cases hc
 have hb:Below base w Y:=cu hg (by omega) (fun k e=>by have:=TL e;omega)
 refine⟨Y,hr,h.bl.trans hb,h.us.below ho.1 hb,(hs n (by omega) (by omega)).trans h.bu,(hs pb (by omega) (by omega)).trans h.bc,hm.eG fun x _=>?_,h.rg.keep (fun g hg'=>?_) (fun k cur fz hc _=>hs k (lt_of_block hc) (hmap hc)),h.rl.keep (fun g hg'=>?_) (fun k cur fz hc _=>hs k (lt_of_block hc) (hmap hc)),h.go,⟨ho.1,ho.2.1,ho.2.2.1,ho.2.2.2.1,SB ho.2.2.2.2 hg.size⟩⟩
 ·by_cases e:x=a
  ·subst e;simp
  ·simp[e]
 ·obtain⟨_,h2,c,fz,h3⟩:=h.rg.blk hg'
  exact hs g h2 (hmap h3)
 ·obtain⟨_,h2,c,fz,h3⟩:=h.rl.blk hg'
  exact hs g h2 (hmap h3)
theorem OrI.push (h:OrI W base n rb ub pb mb used w gv lv gl ll gs Ld come K){v:Value}{l:List Int}(hv:GrV w base v l){lv':Value}(hr:w'.ownsRow (pb+1) 39 1 lv' (ll.length+1) (ll++[v]))(hg:w.grownBy w' lv.ownBlock) :
  OrI W base n rb ub pb mb used w' gv lv' gl (ll++[v]) gs (Ld++[l]) come K:=by
 have ho:=h.ord
 have hs:∀k,k<w.heap.size→lv.ownBlock≠some k→w'.heap[k]?=w.heap[k]?:=fun k hk hne=>hg.block k hk (Ne.symm hne)
 have hlv:∀k,lv.ownBlock=some k→pb+1≤k:=fun k e=>(h.rl.blk e).1
 have hb:Below (pb+1) w w':=cu hg (by omega) hlv
 have hb0:Below base w w':=hb.mono (by omega)
 have hint:∀k cur fz,w.heap[k]?=some (.cells cur 3 fz)→base≤k→w'.heap[k]?=w.heap[k]?:=fun k cur fz hc _=>hs k (lt_of_block hc) fun e=>by
  obtain⟨_,_,c,fz',h3⟩:=h.rl.blk e
  rw[h3]at hc
  simp only[TK,Obj.cells.injEq]at hc
  exact absurd hc.2.1 (by decide)
 refine⟨h.bl.trans hb0,h.us.below ho.1 hb0,(hb.block n (by omega)).trans h.bu,(hb.block pb (by omega)).trans h.bc,h.cm.keep (hb.block mb (by omega)),h.rg.keep (fun g hg'=>hb.block g (by have:=h.go g hg';omega)) hint,⟨?_,?_,?_⟩,h.go,⟨ho.1,ho.2.1,ho.2.2.1,ho.2.2.2.1,SB ho.2.2.2.2 hg.size⟩⟩
 ·rw[SX,SY]
  exact hr
 ·rw[SX,SX,h.rl.len]
  rfl
 ·intro j u m hu hm
  have hl:=h.rl.len
  rcases Nat.lt_or_ge j ll.length with hj|hj
  ·rw[Tg hj]at hu
   rw[Tg (by omega)]at hm
   exact(h.rl.gs j u m hu hm).keep hint
  ·rw[Ti hj]at hu
   rw[Ti (by omega)]at hm
   have e:j-ll.length=0:=by
    rcases Nat.eq_zero_or_pos (j-ll.length)with e|e
    ·exact e
    ·rw[Ui (by simp;omega)]at hu;cases hu
   rw[e]at hu
   rw[show j-Ld.length=0 by omega]at hm
   simp only[List.getElem?_cons_zero,TK]at hu hm
   subst hu
   subst hm
   exact hv.keep hint
theorem OrI.del (h:OrI W base n rb ub pb mb used w gv lv gl ll gs Ld come K)(hrb:base≤rb){k:Nat}{gv':Value}(hv:gv'.ownBlock=gv.ownBlock)(hr:w'.ownsRow rb 39 1 gv' (gl.length-1) (gl.eraseIdx k))(hk:k<gl.length)(hg:w.grownBy w' gv.ownBlock) :
  OrI W base n rb ub pb mb used w' gv' lv (gl.eraseIdx k) ll (gs.eraseIdx k) Ld come K:=by
 have ho:=h.ord
 have hs:∀k,k<w.heap.size→gv.ownBlock≠some k→w'.heap[k]?=w.heap[k]?:=fun k hk hne=>hg.block k hk (Ne.symm hne)
 have hgo:∀q,n≤q→gv.ownBlock≠some q:=fun q hq e=>by have:=h.go q e;omega
 have hb0:Below base w w':=cu hg (by omega) fun q e=>by have:=(h.rg.blk e).1;omega
 have hint:∀k cur fz,w.heap[k]?=some (.cells cur 3 fz)→base≤k→w'.heap[k]?=w.heap[k]?:=fun k cur fz hc _=>hs k (lt_of_block hc) fun e=>by
  obtain⟨_,_,c,fz',h3⟩:=h.rg.blk e
  rw[h3]at hc
  simp only[TK,Obj.cells.injEq]at hc
  exact absurd hc.2.1 (by decide)
 have hl:=h.rg.len
 have e1:(gl.eraseIdx k).length=gl.length-1:=List.length_eraseIdx_of_lt hk
 refine⟨h.bl.trans hb0,h.us.below ho.1 hb0,(hs n (by omega) (hgo n (SA _))).trans h.bu,(hs pb (by omega) (hgo pb (by omega))).trans h.bc,h.cm.keep (hs mb (by omega) (hgo mb (by omega))),⟨by rw[e1];exact hr,by rw[e1,List.length_eraseIdx_of_lt (by omega),hl],fun j u m hu hm=>?_⟩,h.rl.keep (fun g hg'=>hs g (h.rl.blk hg').2.1 (hgo g (by have:=(h.rl.blk hg').1;omega))) hint,fun g hg'=>h.go g (by rw[←hv];exact hg'),⟨ho.1,ho.2.1,ho.2.2.1,ho.2.2.2.1,SB ho.2.2.2.2 hg.size⟩⟩
 rw[List.getElem?_eraseIdx]at hu hm
 split at hu
 ·rw[TY (by assumption)]at hm
  exact(h.rg.gs j u m hu hm).keep hint
 ·rw[TW (by assumption)]at hm
  exact(h.rg.gs (j+1) u m hu hm).keep hint
end
def QK (W:World)(base:Nat)(R:List (List Int))(e:Ending)(Y:World):Prop:=∃v gl,e=.returned v∧Below base W Y∧RG Y base W.heap.size v gl R
theorem fQ {w:World}{b b':Nat}{e:TypeId}{size:Nat}{v:Value}{n:Nat}{xs:List Value}(h:w.ownsRow b e size v n xs)(hb:b'≤b):w.ownsRow b' e size v n xs:=by
 refine⟨h.1,?_⟩
 rcases h.2 with h'|⟨g,cap,cur,rfl,e2,e3,e4⟩
 ·exact .inl h'
 ·exact .inr ⟨g,cap,cur,rfl,SE hb e2,e3,e4⟩
theorem Iy {used:Int→List Int}{come:Int→Bool}{gs:List (List Int)}{k:Nat}(h:gs.findIdx? (rdy used come)=some k){g:List Int}(hg:gs[k]?=some g):iE used gs.length come gs=g::iE used (gs.eraseIdx k).length (oh come g) (gs.eraseIdx k):=by
 have hk:=(Sy.1 hg).1
 have e:gs.getD k []=g:=by rw[TM,hg];rfl
 obtain⟨m,hm⟩:∃m,gs.length=m+1:=⟨gs.length-1,by omega⟩
 rw[List.length_eraseIdx_of_lt hk,hm,Nat.add_sub_cancel]
 show (match gs.findIdx? (rdy used come)with
  | none=>[]
  | some k=>gs.getD k []::iE used m (oh come (gs.getD k [])) (gs.eraseIdx k))=_
 rw[h]
 simp only[e]
theorem Iz {used:Int→List Int}{come:Int→Bool}{gs:List (List Int)}(h:gs.findIdx? (rdy used come)=none)(n:Nat):iE used n come gs=[]:=by
 cases n with
 | zero=>rfl
 | succ n=>unfold iE;rw[h]
theorem OrI.start {W w2:World}{base rb ub:Nat}{used:Int→List Int}{gv:Value}{gl:List Value}{gs:List (List Int)}(hus:UsB base ub used W)(hub:ub<base)(hbW:base≤W.heap.size)(hrb:base≤rb)
  (h:RG w2 base rb gv gl gs)(hgo:∀g,gv.ownBlock=some g→g<W.heap.size)(hg:(W.alloc (.cells #[.map (some ub)] 77)).grownBy w2 gv.ownBlock) :
  OrI W base W.heap.size rb ub (w2.heap.size+1) w2.heap.size used ((w2.alloc (.map #[] 0)).alloc (.cells #[.map (some w2.heap.size)] 79)) gv (.slice none 0 0) gl [] gs [] (fun _=>false) 0:=by
 have hz:(W.alloc (.cells #[.map (some ub)] 77)).heap.size=W.heap.size+1:=by simp
 have hz2:=hg.size
 rw[hz]at hz2
 have hb2:Below base W w2:=((TA _ _).alloc hbW _).trans (cu hg (by omega) fun k e=>by have:=(h.blk e).1;omega)
 have hb3:Below w2.heap.size w2 ((w2.alloc (.map #[] 0)).alloc (.cells #[.map (some w2.heap.size)] 79)):=((TA _ _).alloc (SA _) _).alloc (by simp) _
 have hb:Below base W ((w2.alloc (.map #[] 0)).alloc (.cells #[.map (some w2.heap.size)] 79)):=hb2.trans (hb3.mono (by omega))
 refine⟨hb,hus.below hub hb,?_,?_,?_,h.below hb3,⟨TD _ _ _ _,rfl,fun j v l hv=>by simp at hv⟩,hgo,hub,hbW,by omega,rfl,by simp⟩
 ·refine(hb3.block _ (by omega)).trans ((hg.block W.heap.size (by omega) fun e=>by have:=hgo _ e.symm;omega).trans (Sv W _))
 ·have:=Sv (w2.alloc (.map #[] 0)) (.cells #[.map (some w2.heap.size)] 79)
  simpa using this
 ·have:=aQ.made aH w2
  exact(this.keep (Tt _ _ _ (by simp))).eG fun a _=>rfl
theorem Cw {W:World}{base rb ub:Nat}{used:Int→List Int}{gv:Value}{gl:List Value}{grs:List (List Int)}(hus:UsB base ub used W)(hub:ub<base)(hbW:base≤W.heap.size)(hrb:base≤rb)(h:RG W base rb gv gl grs)
  (hlen:grs.length≤1000)(hG:∀g∈grs,g.length≤1000∧∀a∈g,(aH.ok a∧0≤a∧a≤999999999)∧(used a).length≤1000000∧∀u∈used a,aH.ok u)(hd:grs.Pairwise fun a b=>bK a≠bK b) :
  Calls Tryz.prog 44 #[gv,.map (some ub)] W (QK W base (iE used grs.length (fun _=>false) (sortG grs))):=by
 obtain⟨R,HR⟩:∃R,Hid (iE used grs.length (fun _=>false) (sortG grs)=R):=⟨_,Sk rfl⟩
 obtain⟨W1,hW1⟩:∃W1,W.alloc (.cells #[.map (some ub)] 77)=W1:=⟨_,rfl⟩
 have h1:RG W1 base rb gv gl grs:=by subst hW1;exact h.below ((TA _ _).alloc (SA _) _)
 have hgo:∀g,gv.ownBlock=some g→g<W.heap.size:=fun g hg=>(h.blk hg).2.1
 have HS:=Sk (BH h1 (by rw[h1.len];omega) (fun l hl i hi=>((hG l hl).2 i hi).1.2) hd)
 have hsp:=qj grs
 have hGs:∀g∈sortG grs,g.length≤1000∧∀a∈g,(aH.ok a∧0≤a∧a≤999999999)∧(used a).length≤1000000∧∀u∈used a,aH.ok u:=fun g hg=>hG g (hsp.mem_iff.1 hg)
 have HG:=Sk (Sn hGs (Sn hsp.length_eq hlen))
 have HI:=Sk (show ∀w2 gl2,RG w2 base rb gv gl2 (sortG grs)→W1.grownBy w2 gv.ownBlock→OrI W base W.heap.size rb ub (w2.heap.size+1) w2.heap.size used ((w2.alloc (.map #[] 0)).alloc (.cells #[.map (some w2.heap.size)] 79)) gv (.slice none 0 0) gl2 [] (sortG grs) [] (fun _=>false) 0 from fun w2 gl2 hr2 hg2=>by
  subst hW1
  exact OrI.start hus hub hbW hrb hr2 hgo hg2)
 have hmm:=@run_makeMap Tryz.prog
 obtain⟨gA,gc,e⟩:=bR h.row
 subst e
 obtain⟨SG,HSG⟩:∃SG,Hid (sortG grs=SG):=⟨_,Sk rfl⟩
 obtain⟨GN,HGN⟩:∃GN,Hid (grs.length=GN):=⟨_,Sk rfl⟩
 obtain⟨GL,HGL⟩:∃GL,Hid (gl.length=GL):=⟨_,Sk rfl⟩
 rw[HR.out]
 rw[HSG.out]at HS HG HI HR
 rw[HGL.out]at HS HI ⊢
 rw[HGN.out]at HG HR
 have HLL:=Sk (Sn hbW (Sn hrb (show GL=GN by rw[←HGL.out,←HGN.out];exact h.len)))
 clear h h1 hus hub hbW hrb hlen hG hd hgo hsp hGs
 go_enter Tryz.func44,Tryz.ntmps44
 go_wp2_with (go_at_call 76;(with_reducible refine TJ HS.out ?_);rintro e w2 ⟨⟨v0,rfl⟩,⟨gl2,hr2⟩,hg2⟩;have HI2:=Sk (Sn (HI.out w2 gl2 hr2 hg2) hr2.len);clear hr2 hg2)
 go_loopg [0,5] GN (fun g gv lv w=>∃(gl ll:List Value) (gs Ld:List (List Int)) (come:Int→Bool) (K:Nat),g=gs.length∧gl.length=gs.length∧OrI W base W.heap.size rb ub (w2.heap.size+1) w2.heap.size used w gv lv gl ll gs Ld come K∧K≤Ld.length*1000∧Ld.length+gs.length=GN∧R=Ld++iE used gs.length come gs∧∀g∈gs,g∈SG)
 case atStart=>exact⟨gl2,[],SG,[],_,0,by rw[HG.out.2.1],HI2.out.2,HI2.out.1,SA _,by rw[HG.out.2.1];simp,by rw[←HR.out,HG.out.2.1];rfl,fun _ h=>h⟩
 case round =>
  obtain⟨gl,ll,gs,Ld,come,K,hg,hln,hI,hK,hsum,hR,hsub⟩:=hrel
  obtain⟨A,c,rfl⟩:=bR hI.rg.row
  obtain⟨lA,lc,rfl⟩:=bR hI.rl.row
  obtain⟨M,HM⟩:∃M,Hid (gl.length=M):=⟨_,Sk rfl⟩
  obtain⟨L,HL⟩:∃L,Hid (ll.length=L):=⟨_,Sk rfl⟩
  have hMg:M=gs.length:=by rw[←HM.out];exact hln
  have HJ:=Sk (Sn hI (Sn hg (Sn hMg (Sn hK (Sn hsum (Sn hR hsub))))))
  have HC:=Sk (Dh hI.rg hI.orF (fun g hg a ha=>by have:=(HG.out.1 g (hsub g hg)).2 a ha;exact⟨this.1.1,this.2⟩) (by have:=HG.out.2.2;omega) (fun g hg=>by have:=(HG.out.1 g (hsub g hg)).1;omega))
  have hrow:=hI.rg.row
  rw[HM.out]at HC hrow ⊢
  rw[HL.out]
  by_cases h0:M=0
  ·subst h0
   have HV:=Sk (show R=Ld by
    have:gs=[]:=Tq.1 (by omega)
    rw[hR,this]
    simp[iE])
   clear hg hln hI hK hsum hR hsub hMg hrow HC
   go_wp2
   go_ret
   refine⟨_,ll,rfl,HJ.out.1.bl,?_⟩
   rw[HV.out]
   have hrl:=HJ.out.1.rl
   rw[HL.out]at hrl
   exact⟨fQ hrl.row (by have:=HJ.out.1.ord;omega),hrl.len,hrl.gs⟩
  ·obtain⟨b,rfl⟩:∃b,A=some ⟨b,0,none⟩:=by
    rcases hrow.2 with⟨e,e'⟩|⟨g',cap',cur,e,_⟩
    ·exact absurd (HM.out.symm.trans (by rw[HM.out];exact e')) h0
    ·cases e;exact⟨_,rfl⟩
   have i1:decide ((0:Int)<(M:Int))=true:=SI (by omega)
   have i1':0<M:=by omega
   cases hf:gs.findIdx? (rdy used come)with
   | none =>
    rw[hf]at HC
    unfold fIdx at HC
    have HV:=Sk (show R=Ld by rw[hR,Iz hf,TV])
    clear hg hln hI hK hsum hR hsub hMg hrow hf
    go_wp2_with (go_at_call 78;(with_reducible refine TJ HC.out ?_);rintro e w3 ⟨rfl,rfl⟩)
    go_ret
    refine⟨_,ll,rfl,HJ.out.1.bl,?_⟩
    rw[HV.out]
    have hrl:=HJ.out.1.rl
    rw[HL.out]at hrl
    exact⟨fQ hrl.row (by have:=HJ.out.1.ord;omega),hrl.len,hrl.gs⟩
   | some k =>
    rw[hf]at HC
    unfold fIdx at HC
    simp only at HC
    have hkl:k<gs.length:=by
     rw[Ug]at hf
     exact hf.1
    obtain⟨l,hl⟩:∃l,gs[k]?=some l:=⟨_,Sw hkl⟩
    obtain⟨v,hv⟩:∃v,gl[k]?=some v:=⟨_,Sw (by omega)⟩
    have hgv:=hI.rg.gs k v l hv hl
    obtain⟨g,vc,R6,vfz,rfl,hgb,hgk,hgc,Ou,hlc,hvc⟩:=hgv
    have c0:wr.cell? ⟨b,k,none⟩=some (.slice (some ⟨g,0,none⟩) l.length vc):=by
     have:=(hrow.cellAt k (by rw[Nat.mul_one];omega)).trans hv
     exact this
    have lm:=HG.out.1 l (hsub l (SV hl))
    obtain⟨M2,HM2⟩:∃M2,Hid (l.length=M2):=⟨_,Sk rfl⟩
    have hM2:M2≤1000:=by rw[←HM2.out];exact lm.1
    rw[HM2.out]at c0 hlc
    have i2:decide ((k:Int)<0)=false:=SH (by omega)
    have i3:decide ((k:Int)<(M:Int))=true:=SI (by omega)
    have i3':k<M:=by omega
    have hMc:M≤1000:=by have:=HG.out.2.2;omega
    have hst:=Iy hf hl
    unfold maxLen at hvc
    have HV:=Sk (Sn lm (Sn hl (Sn hv (Sn hgk (Sn hgc hst)))))
    have HGB:=Sk (Sn hgb (Sn Ou hlc))
    clear hg hln hI hK hsum hR hsub hMg hrow hf lm hl hv hgk hgc hst hgb Ou hkl
    go_wp2_with (go_at_call 78;(with_reducible refine TJ HC.out ?_);rintro e w3 ⟨rfl,rfl⟩)
    go_loopg [9,27] M2 (fun g _ ct w'=>∃q:Nat,g=M2-q∧q≤M2∧ct=.int .i64 q∧OrI W base W.heap.size rb ub (w2.heap.size+1) w2.heap.size used w' (.slice (some ⟨b,0,none⟩) M c) (.slice lA L lc) gl ll gs Ld (fun x=>come x||decide (x∈l.take q)) (K+q))
    case atStart =>
     refine⟨0,rfl,SC _,rfl,?_⟩
     have:=HJ.out.1
     rw[HM.out,HL.out]at this
     simpa using this
    case round =>
     obtain⟨q,hg,hq,rfl,hI⟩:=hrel
     obtain⟨g0,vc0,Rs,R7,e0,R8,Ov,Kw,_⟩:=hI.rg.gs k _ l HV.out.2.2.1 HV.out.2.1
     have e0':g=g0:=by simp only[Value.slice.injEq,TK,Addr.mk.injEq]at e0;exact e0.1.1
     subst e0'
     clear e0
     by_cases hlt:q<M2
     ·obtain⟨u,hu⟩:∃u,l[q]?=some u:=⟨_,Sw (by rw[HM2.out];exact hlt)⟩
      have eu:=Kw q u hu
      obtain⟨Y,hput,hI2⟩:=hI.put (HV.out.1.2 u (SV hu)).1.1 (by have:=HJ.out.2.2.2.1;have:=HJ.out.2.2.2.2.1;have:=HG.out.2.2;unfold maxLen;omega)
      have hpb:=Sq wr (w2.heap.size+1) 0 _ _ (0,0) hI.bc
      have htk:l.take (q+1)=l.take q++[u]:=by rw[Tn,hu];rfl
      have HI2:=Sk (show OrI W base W.heap.size rb ub (w2.heap.size+1) w2.heap.size used Y (.slice (some ⟨b,0,none⟩) M c) (.slice lA L lc) gl ll gs Ld (fun x=>come x||decide (x∈l.take (q+1))) (K+(q+1)) by
       have e:(fun x=>(come x||decide (x∈l.take q))||decide (x=u))=fun x=>come x||decide (x∈l.take (q+1)):=by
        funext x
        rw[htk,Bool.or_assoc]
        congr 1
        simp only[Td,Te,Bool.decide_or]
       rw[←e]
       exact hI2)
      have HK:=Sk hg
      clear hI Ov Kw hu hI2 htk hg
      go_wp2
      go_roundg (M2-(q+1))
      case measure=>have:=HK.out;omega
      case rel=>exact⟨q+1,rfl,by omega,by go_num,HI2.out⟩
     ·obtain rfl:q=M2:=by omega
      have j1:decide ((q:Int)<(q:Int))=false:=SH (by omega)
      have j2:decide (q<q)=false:=SH (by omega)
      have hI3:OrI W base W.heap.size rb ub (w2.heap.size+1) w2.heap.size used wr (.slice (some ⟨b,0,none⟩) M c) (.slice lA L lc) gl ll gs Ld (oh come l) (K+q):=by
       rw[Tm (by rw[HM2.out];exact SA _)]at hI
       exact hI
      have c1:wr.cell? ⟨b,k,none⟩=some (.slice (some ⟨g,0,none⟩) q vc):=by
       have hr:=hI3.rg.row
       rw[HM.out]at hr
       have:=(hr.cellAt k (by rw[Nat.mul_one];omega)).trans HV.out.2.2.1
       rw[HM2.out]at this
       exact this
      obtain⟨i1',hi',hz0',hz1',hz2'⟩:=info_parts Tryz.oP
      have hrl:(wr.alloc (.cells #[.slice (some ⟨g,0,none⟩) q vc] 39)).ownsRow (w2.heap.size+1+1) 39 1 (.slice lA L lc) L ll:=by
       have:=hI3.rl.row
       rw[HL.out]at this
       exact this.alloc _
      have hLc:L≤1000:=by have h1:=hI3.rl.len;have:=HJ.out.2.2.2.2.1;have:=HG.out.2.2;rw[HL.out]at h1;omega
      have HP:=Sk (show ∀Z6 lv6,Z6.ownsRow (w2.heap.size+1+1) 39 1 lv6 (L+1) (ll++[.slice (some ⟨g,0,none⟩) q vc])→(wr.alloc (.cells #[.slice (some ⟨g,0,none⟩) q vc] 39)).grownBy Z6 (Value.slice lA L lc).ownBlock→OrI W base W.heap.size rb ub (w2.heap.size+1) w2.heap.size used Z6 (.slice (some ⟨b,0,none⟩) M c) lv6 gl (ll++[.slice (some ⟨g,0,none⟩) q vc]) gs (Ld++[l]) (oh come l) (K+q)from fun Z6 lv6 h1 h2=>by
       have hA:=hI3.below ((TA _ _).alloc (SA _) (.cells #[.slice (some ⟨g,0,none⟩) q vc] 39))
       have hgv:=hA.rg.gs k _ l HV.out.2.2.1 HV.out.2.1
       rw[HM2.out]at hgv
       refine hA.push hgv ?_ h2
       rw[HL.out]
       exact h1)
      have HI3:=Sk (Sn hI3 (Sn hrl (show w2.heap.size+1+1≤(wr.alloc (.cells #[.slice (some ⟨g,0,none⟩) q vc] 39)).heap.size by have:=hI3.ord;simp;omega)))
      have HK:=Sk hg
      clear hI hI3 hrl Ov Kw hg
      go_wp2_with (first
       | (at_builtin;refine wpList_append_own_at _ rfl _ _ 28 rfl (w2.heap.size+1+1) 39 i1' _ 1 24 Tryz.mD hi' hz0' hz1' hz2' rfl (by decide) (.slice lA L lc) L ll rfl HI3.out.2.1 ⟨wr.heap.size,0,none⟩ 1 1 [.slice (some ⟨g,0,none⟩) q vc] rfl rfl (ji wr _ _) (by simp[Value.oneCell']) (by unfold maxLen;omega) (by omega) HI3.out.2.2 ?_;intro lv6 Z6 hown6 dh _ FQ;obtain⟨lA6,lc6,rfl⟩:=bR hown6)
       | fail)
      have hX:=HP.out _ _ hown6 dh
      have hrD:=hX.rg.row
      have hD:=Dg (i:=k) (j:=k+1) (w:=Z6) (cap:=c) (gl:=gl) (g:=b) (base:=rb) (by rw[HM.out];rw[HM.out]at hrD;exact hrD) hX.rg.one rfl (by rw[HM.out];omega)
      rw[HM.out]at hD
      simp only[Int.natCast_add,Int.natCast_one]at hD
      have HD:=Sk hD
      have HX:=Sk hX
      clear hX hrD hD hown6 dh FQ
      with_reducible refine TJ HD.out ?_
      rintro e w8 ⟨rfl,Lj,hg8⟩
      have hI8:=HX.out.del HLL.out.2.1 (k:=k) (gv':=.slice (some ⟨b,0,none⟩) (M-1) c) (w':=w8) rfl (by rw[HM.out];exact Lj) (by rw[HM.out];omega) hg8
      have HI8:=Sk hI8
      clear hI8 Lj hg8
      go_wp2
      go_roundg (gs.eraseIdx k).length
      case measure =>
       have:=HJ.out.2.1
       rw[List.length_eraseIdx_of_lt (by have:=HJ.out.2.2.1;omega)]
       have:=HJ.out.2.2.1
       omega
      case rel =>
       have hkg:k<gs.length:=by have:=HJ.out.2.2.1;omega
       refine⟨gl.eraseIdx k,ll++[.slice (some ⟨g,0,none⟩) q vc],gs.eraseIdx k,Ld++[l],_,_,rfl,?_,HI8.out,?_,?_,?_,fun x hx=>HJ.out.2.2.2.2.2.2 x (List.mem_of_mem_eraseIdx hx)⟩
       ·rw[List.length_eraseIdx_of_lt (by rw[HM.out];omega),List.length_eraseIdx_of_lt hkg,HM.out,HJ.out.2.2.1]
       ·have:=HJ.out.2.2.2.1
        rw[SX,SY]
        omega
       ·have:=HJ.out.2.2.2.2.1
        rw[SX,SY,List.length_eraseIdx_of_lt hkg]
        omega
       ·rw[HJ.out.2.2.2.2.2.1,HV.out.2.2.2.2.2,TR]
        rfl
end Go.Proofs.Q
