/- helper lemmas -/
import Derived.Test.YtmmecapgnmlaiaaGreatDoorZyc
import Derived.Test.YtmmecapgnmlaiaaGreatDoorZxl
set_option maxRecDepth 100000
set_option maxHeartbeats 16000000
namespace Go.Proofs.Q
open Go.RowKit Go.Proofs Go.Shelf
theorem SlS.news {W:World}{B:Nat}{A:Option Addr}{c:Nat}{l:List ByteArray}(h:SlS W B A c l) :
  (A=none→l.length=0)∧∀ad,A=some ad→∀j u,(l.map Value.string)[j]?=some u→W.cell? (ad.add j)=some u:=by
 refine⟨fun hA=>?_,fun a' e j u hu=>?_⟩
 ·cases l with
  | nil=>rfl
  | cons x r=>obtain⟨b,o,e,_⟩:=h.2.2 (by simp);rw[hA]at e;cases e
 ·rw[Tk]at hu
  obtain⟨s,hs1,rfl⟩:=Option.map_eq_some_iff.1 hu
  obtain⟨b,o,e',hb,hcell⟩:=h.2.2 (by intro e;subst e;simp at hs1)
  rw[e]at e'
  cases e'
  have:=hcell j s hs1
  cases j <;> simpa [Addr.add]using this
theorem SlS.take {W:World}{B:Nat}{A:Option Addr}{c:Nat}{l:List ByteArray}(h:SlS W B A c l)(k:Nat):SlS W B A c (l.take k):=by
 refine⟨by have:=h.1;simp;omega,h.2.1,fun hne=>?_⟩
 obtain⟨b,o,e,hb,hc⟩:=h.2.2 (by intro e;subst e;simp at hne)
 exact⟨b,o,e,hb,fun j s hj=>hc j s (by
  rw[List.getElem?_take]at hj
  split at hj
  ·exact hj
  ·cases hj)⟩
theorem SlS.drop {W:World}{B:Nat}{g c:Nat}{l:List ByteArray}(h:SlS W B (some ⟨g,0,none⟩) c l)(k:Nat)(hk:k<c):SlS W B (some ⟨g,k,none⟩) (c-k) (l.drop k):=by
 refine⟨by have:=h.1;simp;omega,by have:=h.2.1;omega,fun hne=>?_⟩
 obtain⟨b,o,e,hb,hc⟩:=h.2.2 (by intro e;subst e;simp at hne)
 simp only[TK,Addr.mk.injEq,and_true]at e
 obtain⟨rfl,rfl⟩:=e
 exact⟨g,k,rfl,hb,fun j s hj=>by
  rw[List.getElem?_drop]at hj
  have:=hc (k+j) s hj
  rwa [Nat.zero_add]at this⟩
theorem dO (l:List ByteArray):∀u∈l.map Value.string,u.oneCell'=true:=by
 intro u hu
 obtain⟨s,_,rfl⟩:=TH.1 hu
 rfl
def jJ (W:World)(g c:Nat)(l:List ByteArray):Prop:=dB W (some ⟨g,0,none⟩) c l
def Ms (n:Nat)(w:World)(e:Ending)(w':World):Prop:=∃g c LL,e=.returned (.slice (some ⟨g,0,none⟩) LL.length c)∧jJ w' g c LL∧LL≠[]∧LL.length≤n+1∧Below w.heap.size w w'
theorem jJ.of {W:World}{base:Nat}{v:Value}{l:List ByteArray}(h:W.ownsRow base 9 1 v l.length (l.map .string))(hne:l≠[]):∃g c,v=.slice (some ⟨g,0,none⟩) l.length c∧jJ W g c l:=by
 rcases h.2 with⟨h1,h2⟩|⟨g,cap,cur,h1,h2,h3,h4⟩
 ·exact absurd (Tq.1 h2) hne
 ·exact⟨g,cap,h1,h.1,.inr ⟨g,cap,cur,rfl,SC _,h3,h4⟩⟩
theorem FX (l:List ByteArray)(s:ByteArray)(g c:Nat)(w:World)(hs:jJ w g c l)(hl:l.length≤1000000) :
  Calls Tryz.prog 249 #[.slice (some ⟨g,0,none⟩) l.length c,.string s] w (Ms l.length w):=by
 obtain⟨i0,hi,hz0,hz1,hz2⟩:=info_parts Tryz.iD
 have hsl:=(dB.sls hs).1
 have hc1:=hsl.1
 have hc2:=hsl.2.1
 unfold maxLen at hc2
 have HS:=Sk (Sn hs hsl)
 clear hs
 obtain⟨n,HN⟩:∃n,Hid (l.length=n):=⟨_,Sk rfl⟩
 rw[HN.out]at hc1 hl ⊢
 have HK:Hid (∀X,Below w.heap.size w X→SlS X X.heap.size (some ⟨g,0,none⟩) c l):=fun X hX=>hsl.keep hX.size fun p hp=>hX.cell hp
 have HW:=Sk (World.ownsRow_lit (base:=w.heap.size) (e:=9) (size:=1) w #[] 0 (SA _) (by simp) rfl)
 have HB0:=Sk ((TA w.heap.size w).alloc (SA _) (.cells #[] 9))
 clear hsl
 go_enter Tryz.func249,Tryz.ntmps249
 go_wp2
 go_loop [5] (fun ct=>∃j:Nat,j≤n∧ct=.int .i64 j) (fun ct=>n-(intOf ct).toNat)
 case atStart=>exact⟨0,by omega,rfl⟩
 case round =>
  obtain⟨j,hj,rfl⟩:=hrel
  by_cases hlt:j<n
  ·have hjl:j<l.length:=by rw[HN.out];exact hlt
   obtain⟨b,o,hA,hb,hcell⟩:=HS.out.2.at_ hjl
   simp only[TK,Addr.mk.injEq,and_true]at hA
   obtain⟨rfl,rfl⟩:=hA
   rw[Nat.zero_add]at hcell
   generalize l[j]=v at hcell
   cases hv:Op.bytesLess v.toList s.toList
   ·cases hv2:v.toList==s.toList
    ·have HL1:=Sk (show ((l.take j).map Value.string).length=j*1 by simp;omega)
     have HL3:=Sk (show ((l.drop j).map Value.string).length=(n-j)*1 by simp;have:=HN.out;omega)
     have hjc:j<c:=by omega
     have HT:=Sk (((HK.out _ HB0.out).take j).news)
     clear hjl
     go_wp2_with (first
      | (at_builtin;refine aC _ rfl (.tmp 34) (.tmp 37) 22 rfl w.heap.size 9 i0 _ 1 16 Tryz.underlying22 hi hz0 hz1 hz2 rfl (by decide) _ 0 [] rfl HW.out _ j _ ((l.take j).map Value.string) rfl HL1.out (fun h=>by cases h) HT.out.2 (dO _) (by unfold maxLen;omega) (by omega) (by simp) ?_;intro v1 w1 hown1 hg1;have hb1:=HB0.out.grown hg1 (by simp) (fun q hq=>(HW.out.lt q hq).1);have hz1':=hb1.size)
      | (at_builtin;refine wpList_append_own _ rfl (.tmp 38) (.tmp 40) 22 rfl w.heap.size 9 i0 _ 1 16 Tryz.underlying22 hi hz0 hz1 hz2 rfl (by decide) v1 _ _ rfl (hown1.alloc _) ⟨w1.heap.size,0,none⟩ 1 1 [.string s] rfl rfl (cell_one_new _ _ _) (dO [s]) (by unfold maxLen;omega) (by omega) (by simp;omega) ?_;intro v2 w2 hown2 hg2 _;have hb2:=(hb1.alloc hz1' (.cells #[.string s] 9)).grown hg2 (by simp;omega) (fun q hq=>(hown1.lt q hq).1);have hz2':=hb2.size)
      | (at_builtin;refine aC _ rfl (.tmp 42) (.tmp 45) 22 rfl w.heap.size 9 i0 _ 1 16 Tryz.underlying22 hi hz0 hz1 hz2 rfl (by decide) v2 _ _ rfl hown2 _ (n-j) _ ((l.drop j).map Value.string) rfl HL3.out (fun h=>by cases h) ((HK.out _ hb2).drop j hjc).news.2 (dO _) (by unfold maxLen;omega) (by omega) (by omega) ?_;intro v3 w3 hown3 hg3;have hb3:=hb2.grown hg3 hz2' (fun q hq=>(hown2.lt q hq).1)))
     go_ret
     have hf:w3.ownsRow w.heap.size 9 1 v3 (l.take j++s::l.drop j).length ((l.take j++s::l.drop j).map .string):=by
      have e1:(l.take j++s::l.drop j).length=0+j+1+(n-j):=by have:=HN.out;simp;omega
      rw[e1]
      simpa using hown3
     obtain⟨g',c',rfl,ho⟩:=jJ.of hf (by simp)
     exact⟨g',c',_,rfl,ho,by simp,by have:=HN.out;simp;omega,hb3⟩
    ·have hne:l≠[]:=by intro e;subst e;simp at hjl
     have HF:=Sk (Sn HS.out.1 hne)
     clear hne
     go_wp2
     go_ret
     exact⟨g,c,l,by rw[HN.out];rfl,HF.out.1,HF.out.2,by rw[HN.out];omega,TA _ _⟩
   ·go_wp2
    go_round
    case measure=>simp[intOf];omega
    case rel=>exact⟨j+1,by omega,by go_num⟩
  ·obtain rfl:j=n:=by omega
   have HL1:=Sk (show ((l.take j).map Value.string).length=j*1 by have:=HN.out;simp;omega)
   have HT:=Sk (((HK.out _ HB0.out).take j).news)
   by_cases hcn:c=j
   ·subst hcn
    rcases Nat.eq_zero_or_pos c with h0|h0
    ·subst h0
     go_wp2_with (first
       | (at_builtin;refine aC _ rfl (.tmp 34) (.tmp 37) 22 rfl w.heap.size 9 i0 _ 1 16 Tryz.underlying22 hi hz0 hz1 hz2 rfl (by decide) _ 0 [] rfl HW.out _ 0 _ ((l.take 0).map Value.string) rfl HL1.out (fun h=>by cases h) HT.out.2 (dO _) (by unfold maxLen;omega) (by omega) (by simp) ?_;intro v1 w1 hown1 hg1;have hb1:=HB0.out.grown hg1 (by simp) (fun q hq=>(HW.out.lt q hq).1);have hz1':=hb1.size)
       | (at_builtin;refine wpList_append_own _ rfl (.tmp 38) (.tmp 40) 22 rfl w.heap.size 9 i0 _ 1 16 Tryz.underlying22 hi hz0 hz1 hz2 rfl (by decide) v1 _ _ rfl (hown1.alloc _) ⟨w1.heap.size,0,none⟩ 1 1 [.string s] rfl rfl (cell_one_new _ _ _) (dO [s]) (by unfold maxLen;omega) (by omega) (by simp;omega) ?_;intro v2 w2 hown2 hg2 _;have hb2:=(hb1.alloc hz1' (.cells #[.string s] 9)).grown hg2 (by simp;omega) (fun q hq=>(hown1.lt q hq).1);have hz2':=hb2.size)
       | (at_builtin;refine aC _ rfl (.tmp 42) (.tmp 45) 22 rfl w.heap.size 9 i0 _ 1 16 Tryz.underlying22 hi hz0 hz1 hz2 rfl (by decide) v2 _ _ rfl hown2 _ _ _ [] rfl (by simp) (fun h=>by cases h) (fun _ _ q u hu=>by simp at hu) (fun u hu=>by simp at hu) (by unfold maxLen;omega) (by omega) (by omega) ?_;intro v3 w3 hown3 hg3;have hb3:=hb2.grown hg3 hz2' (fun q hq=>(hown2.lt q hq).1)))
     go_ret
     have hf:w3.ownsRow w.heap.size 9 1 v3 (l++[s]).length ((l++[s]).map .string):=by
      have e1:(l++[s]).length=0+0+1+0:=by have:=HN.out;rw[SX,this];rfl
      have e2:l.take 0=l:=Tm (by have:=HN.out;omega)
      rw[e1]
      rw[e2]at hown3
      simpa using hown3
     obtain⟨g',c',rfl,ho⟩:=jJ.of hf (by simp)
     exact⟨g',c',_,rfl,ho,by simp,by rw[SX,HN.out];exact SA _,hb3⟩
    ·skip
     go_wp2_with (first
       | (at_builtin;refine aC _ rfl (.tmp 34) (.tmp 37) 22 rfl w.heap.size 9 i0 _ 1 16 Tryz.underlying22 hi hz0 hz1 hz2 rfl (by decide) _ 0 [] rfl HW.out _ c _ ((l.take c).map Value.string) rfl HL1.out (fun h=>by cases h) HT.out.2 (dO _) (by unfold maxLen;omega) (by omega) (by simp) ?_;intro v1 w1 hown1 hg1;have hb1:=HB0.out.grown hg1 (by simp) (fun q hq=>(HW.out.lt q hq).1);have hz1':=hb1.size)
       | (at_builtin;refine wpList_append_own _ rfl (.tmp 38) (.tmp 40) 22 rfl w.heap.size 9 i0 _ 1 16 Tryz.underlying22 hi hz0 hz1 hz2 rfl (by decide) v1 _ _ rfl (hown1.alloc _) ⟨w1.heap.size,0,none⟩ 1 1 [.string s] rfl rfl (cell_one_new _ _ _) (dO [s]) (by unfold maxLen;omega) (by omega) (by simp;omega) ?_;intro v2 w2 hown2 hg2 _;have hb2:=(hb1.alloc hz1' (.cells #[.string s] 9)).grown hg2 (by simp;omega) (fun q hq=>(hown1.lt q hq).1);have hz2':=hb2.size)
       | (at_builtin;refine aC _ rfl (.tmp 42) (.tmp 45) 22 rfl w.heap.size 9 i0 _ 1 16 Tryz.underlying22 hi hz0 hz1 hz2 rfl (by decide) v2 _ _ rfl hown2 _ _ _ [] rfl (by simp) (fun h=>by cases h) (fun _ _ q u hu=>by simp at hu) (fun u hu=>by simp at hu) (by unfold maxLen;omega) (by omega) (by omega) ?_;intro v3 w3 hown3 hg3;have hb3:=hb2.grown hg3 hz2' (fun q hq=>(hown2.lt q hq).1)))
     go_ret
     have hf:w3.ownsRow w.heap.size 9 1 v3 (l++[s]).length ((l++[s]).map .string):=by
      have e1:(l++[s]).length=0+c+1+(c-c):=by have:=HN.out;simp;omega
      have e2:l.take c=l:=Tm (by have:=HN.out;omega)
      rw[e1]
      rw[e2]at hown3
      simpa using hown3
     obtain⟨g',c',rfl,ho⟩:=jJ.of hf (by simp)
     exact⟨g',c',_,rfl,ho,by simp,by rw[SX,HN.out];exact SA _,hb3⟩
   ·have hcn':j<c:=by omega
    clear hcn
    go_wp2_with (first
      | (at_builtin;refine aC _ rfl (.tmp 34) (.tmp 37) 22 rfl w.heap.size 9 i0 _ 1 16 Tryz.underlying22 hi hz0 hz1 hz2 rfl (by decide) _ 0 [] rfl HW.out _ j _ ((l.take j).map Value.string) rfl HL1.out (fun h=>by cases h) HT.out.2 (dO _) (by unfold maxLen;omega) (by omega) (by simp) ?_;intro v1 w1 hown1 hg1;have hb1:=HB0.out.grown hg1 (by simp) (fun q hq=>(HW.out.lt q hq).1);have hz1':=hb1.size)
      | (at_builtin;refine wpList_append_own _ rfl (.tmp 38) (.tmp 40) 22 rfl w.heap.size 9 i0 _ 1 16 Tryz.underlying22 hi hz0 hz1 hz2 rfl (by decide) v1 _ _ rfl (hown1.alloc _) ⟨w1.heap.size,0,none⟩ 1 1 [.string s] rfl rfl (cell_one_new _ _ _) (dO [s]) (by unfold maxLen;omega) (by omega) (by simp;omega) ?_;intro v2 w2 hown2 hg2 _;have hb2:=(hb1.alloc hz1' (.cells #[.string s] 9)).grown hg2 (by simp;omega) (fun q hq=>(hown1.lt q hq).1);have hz2':=hb2.size)
      | (at_builtin;refine aC _ rfl (.tmp 42) (.tmp 45) 22 rfl w.heap.size 9 i0 _ 1 16 Tryz.underlying22 hi hz0 hz1 hz2 rfl (by decide) v2 _ _ rfl hown2 _ _ _ [] rfl (by simp) (fun h=>by cases h) (fun _ _ q u hu=>by simp at hu) (fun u hu=>by simp at hu) (by unfold maxLen;omega) (by omega) (by omega) ?_;intro v3 w3 hown3 hg3;have hb3:=hb2.grown hg3 hz2' (fun q hq=>(hown2.lt q hq).1)))
    go_ret
    have hf:w3.ownsRow w.heap.size 9 1 v3 (l++[s]).length ((l++[s]).map .string):=by
     have e1:(l++[s]).length=0+j+1+(j-j):=by have:=HN.out;simp;omega
     have e2:l.take j=l:=Tm (by have:=HN.out;omega)
     rw[e1]
     rw[e2]at hown3
     simpa using hown3
    obtain⟨g',c',rfl,ho⟩:=jJ.of hf (by simp)
    exact⟨g',c',_,rfl,ho,by simp,by rw[SX,HN.out];exact SA _,hb3⟩
section
variable {P:Program}
theorem aP (w:World){ops:Array Oper}{o:Oper}{a:Act}{K:Act→World→Prop}{Q:Exit→Act→World→Prop}{E:Prop}(hgd:o.guard=none)(s x:Operand)(t:TypeId)
  (ho:o.op=.call { callee:=.builtin .append,args:=#[s,x],argTypes:=#[t,t] })
  (base:Nat)(e:TypeId)(i:TypeInfo)(z:Value)(size bytes:Nat)(ht:P.underlying t=some (.slice e))(hi:P.info? e=some i)(hz:i.zero=some z)
  (hsize:i.size=size)(hby:i.bytes=bytes)(hzs:z.cells.size=size)(hsz:0<size)
  (v:Value)(n:Nat)(xs:List Value)(hs:a.eval s=v)(hown:w.ownsRow base e size v n xs)
  (A:Option Addr)(m c:Nat)(news:List Value)(hx:a.eval x=.slice A m c)(hl:news.length=m*size)(hA:A=none→m=0)(hnews:∀ad,A=some ad→∀j u,news[j]?=some u→w.cell? (ad.add j)=some u)(h1:∀u∈news,u.oneCell'=true)
  (h63:n+m≤maxLen)(hbytes:(n+m)*bytes≤140737488355328)(hbase:base≤w.heap.size)
  (h:∀v' w',w'.ownsRow base e size v' (n+m) (xs++news)→w.grownBy w' v.ownBlock→K (a.put o.dst v') w') :
  if Region.wanted o (yielded ops a.tmps)=true then Oper.wp P o a w K Q else E:=by
 have hw:Region.wanted o (yielded ops a.tmps)=true:=by simp[Region.wanted,hgd]
 rw[TY hw]
 cases A with
 | some ad=>exact wp_append_own w s x t ho base e i z size bytes ht hi hz hsize hby hzs hsz v n xs hs hown ad m c news hx hl (hnews ad rfl) h1 h63 hbytes hbase fun v' w' h2 h3 _=>h v' w' h2 h3
 | none =>
  obtain rfl:=hA rfl
  have hrun:=jZ (P:=P) (w:=w) base t o.type e i size ht hi v n c xs hown
  unfold Oper.wp
  simp[execOp,ho,resolve,invoke,builtin,hs,hx,hrun,Result.andThen]
  have hn:news=[]:=Tq.1 (by simpa using hl)
  subst hn
  exact h v w (by simpa using hown) (World.grownBy.refl _ _)
end
end Go.Proofs.Q
namespace Go.Proofs.Q
open Go.RowKit Go.Proofs Go.Shelf
def dD (a b:ByteArray×Int):Bool:=Op.bytesLess a.1.toList b.1.toList||((a.1.toList==b.1.toList)&&decide (a.2<b.2))
theorem Ev (a b:ByteArray)(i j:Int)(w:World):Calls Tryz.prog 253 #[.agg #[.string a,.int .i64 i],.agg #[.string b,.int .i64 j]] w fun e w'=>e=.returned (.bool (dD (a,i) (b,j)))∧Below w.heap.size w w':=by
 have HB:=Sk (show Below w.heap.size w ((w.alloc (.cells #[.string a,.int .i64 i] 102)).alloc (.cells #[.string b,.int .i64 j] 102))from ((TA _ _).alloc (SA _) _).alloc (by simp) _)
 cases h1:Op.bytesLess a.toList b.toList with
 | true =>
  have HR:=Sk (show dD (a,i) (b,j)=true by simp[dD,h1])
  go_enter Tryz.func253,Tryz.ntmps253
  go_wp2
  go_ret
  exact⟨by rw[HR.out];rfl,HB.out⟩
 | false =>
  cases h2:a.toList==b.toList with
  | false =>
   have HR:=Sk (show dD (a,i) (b,j)=false by simp[dD,h1,h2])
   go_enter Tryz.func253,Tryz.ntmps253
   go_wp2
   go_ret
   exact⟨by rw[HR.out];rfl,HB.out⟩
  | true =>
   have HR:=Sk (show dD (a,i) (b,j)=decide (i<j) by simp[dD,h1,h2])
   by_cases h3:i<j
   ·have h3':decide (i<j)=true:=by simpa using h3
    rw[h3']at HR
    clear h3
    go_enter Tryz.func253,Tryz.ntmps253
    go_wp2
    go_ret
    exact⟨by rw[HR.out];rfl,HB.out⟩
   ·have h3':decide (i<j)=false:=by simpa using h3
    rw[h3']at HR
    clear h3
    go_enter Tryz.func253,Tryz.ntmps253
    go_wp2
    go_ret
    exact⟨by rw[HR.out];rfl,HB.out⟩
def fE (W:World)(A:Option Addr)(c:Nat)(l:List (ByteArray×Int)):Prop:=W.ownsRow 0 102 2 (.slice A l.length c) l.length (aL l)
theorem fE.nil (W:World):fE W none 0 []:=TD W 0 102 2
theorem fE.below {W X:World}{B:Nat}{A:Option Addr}{c:Nat}{l:List (ByteArray×Int)}(h:fE W A c l)(hb:Below B W X)(hB:W.heap.size≤B):fE X A c l:=by
 refine⟨h.1,?_⟩
 rcases h.2 with h|⟨g,cap,cur,h1,h2,h3,h4⟩
 ·exact .inl h
 ·have hg:g<W.heap.size:=by
   by_cases hlt:g<W.heap.size
   ·exact hlt
   ·rw[Array.getElem?_eq_none (by omega)]at h3;cases h3
  exact .inr ⟨g,cap,cur,h1,h2,(hb.block g (by omega)).trans h3,h4⟩
theorem fE.of {W:World}{base:Nat}{v:Value}{l:List (ByteArray×Int)}(h:W.ownsRow base 102 2 v l.length (aL l)):∃A c,v=.slice A l.length c∧fE W A c l:=by
 rcases h.2 with⟨h1,h2⟩|⟨g,cap,cur,h1,h2,h3,h4⟩
 ·obtain rfl:l=[]:=Tq.1 h2
  exact⟨none,0,by rw[h1];rfl,fE.nil W⟩
 ·exact⟨some ⟨g,0,none⟩,cap,h1,h.1,.inr ⟨g,cap,cur,rfl,SC _,h3,h4⟩⟩
theorem fE.cells {W:World}{A:Option Addr}{c:Nat}{l:List (ByteArray×Int)}(h:fE W A c l):(l=[]∧A=none∧c=0)∨∃g,A=some ⟨g,0,none⟩∧g<W.heap.size∧l.length≤c∧c≤9223372036854775807∧∀q u,(aL l)[q]?=some u→W.cell? ⟨g,q,none⟩=some u:=by
 rcases h.2 with⟨h1,h2⟩|⟨g,cap,cur,h1,h2,h3,h4,h5,h6⟩
 ·simp only[Value.slice.injEq]at h1
  exact .inl ⟨Tq.1 h2,h1.1,h1.2.2⟩
 ·simp only[Value.slice.injEq,true_and]at h1
  obtain⟨rfl,rfl⟩:=h1
  have hg:g<W.heap.size:=by
   by_cases hlt:g<W.heap.size
   ·exact hlt
   ·rw[Array.getElem?_eq_none (by omega)]at h3;cases h3
  refine .inr ⟨g,rfl,hg,h4,by unfold maxLen at h5;exact h5,fun q u hu=>?_⟩
  have hlt:=(Sy.1 hu).1
  rw[eZ]at hlt
  exact(h.cellAt q hlt).trans hu
end Go.Proofs.Q
