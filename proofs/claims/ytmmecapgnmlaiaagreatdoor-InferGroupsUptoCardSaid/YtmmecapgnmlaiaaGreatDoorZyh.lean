/- helper lemmas -/
import Derived.Test.YtmmecapgnmlaiaaGreatDoorZyd
import Derived.Test.YtmmecapgnmlaiaaGreatDoorZyg
set_option maxRecDepth 100000
set_option maxHeartbeats 16000000
namespace Go.Proofs.Q
open Go.RowKit Go.Proofs Go.Shelf
theorem dB.below {W X:World}{B:Nat}{A:Option Addr}{c:Nat}{l:List ByteArray}(h:dB W A c l)(hb:Below B W X)(hB:W.heap.size≤B):dB X A c l:=
 h.keep fun k cur fz hk=>hb.block k (by
  have:k<W.heap.size:=by
   by_cases hlt:k<W.heap.size
   ·exact hlt
   ·rw[Array.getElem?_eq_none (by omega)]at hk;cases hk
  omega)
def Fo.V3:Fo→Prop
 | .nil=>True
 | .cons k _ _ _ _ _ _ s r=>(k=3→s.len=0)∧s.V3∧r.V3
def FrP (l:List ByteArray)(fb:Bool)(q:Nat)(w:World)(e:Ending)(w':World):Prop:=
 ∃g c LL,e=.returned (.slice (some ⟨g,0,none⟩) LL.length c)∧jJ w' g c LL∧(LL=[]↔l=[]∧fb=false)∧LL.length≤l.length+q∧Below w.heap.size w w'
def Ca (s:Fo):Prop:=∀(k:Int)(n m:ByteArray)(i d:Int)(A:Option Addr)(c:Nat)(bd:List ByteArray)(bA:Option Addr)(bc:Nat)(l:List ByteArray)(g lc:Nat)(w:World),
  s.Sl w w.heap.size A c→(k=3→s.len=0)→s.V3→dB w bA bc bd→jJ w g lc l→bd.length+2*(1+s.count)≤1000000→l.length+(1+s.count)≤1000000 →
  Calls Tryz.prog 210 #[.agg #[.int .i64 k,.string n,.string m,.int .i64 i,.int .i64 d,.slice A s.len c],.slice bA bd.length bc,.slice (some ⟨g,0,none⟩) l.length lc] w (FrP l (aB k n m s bd) (1+s.count) w)
theorem MF (s:Fo)(ih:s.All Ca):Ca s:=by
 intro k n m i d A c bd bA bc l g lc w hs h3 hv3 hbd hl hq1 hq2
 obtain⟨i0,hi,hz0,hz1,hz2⟩:=info_parts Tryz.iD
 have hcap:s.len≤9223372036854775807:=by have:=hs.1;have:=hs.2.1;unfold maxLen at this;omega
 obtain⟨W0,hW0⟩:∃W0,w.alloc (.cells #[.int .i64 k,.string n,.string m,.int .i64 i,.int .i64 d,.slice A s.len c] 44)=W0:=⟨_,rfl⟩
 have hzw:w.heap.size<W0.heap.size:=by subst hW0;simp
 have hB0:Below w.heap.size w W0:=by subst hW0;exact(TA _ _).alloc (SA _) _
 have hx0:W0.heap[w.heap.size]?=some (.cells #[.int .i64 k,.string n,.string m,.int .i64 i,.int .i64 d,.slice A s.len c] 44 (0,0)):=by rw[←hW0];exact Sv w _
 have HC:Hid (∀X,Below W0.heap.size W0 X→Below w.heap.size w X∧X.cell? ⟨w.heap.size,0,none⟩=some (.int .i64 k)∧X.cell? ⟨w.heap.size,1,none⟩=some (.string n)∧X.cell? ⟨w.heap.size,2,none⟩=some (.string m)∧X.cell? ⟨w.heap.size,5,none⟩=some (.slice A s.len c)∧dB X bA bc bd∧SlS X X.heap.size bA bc bd∧jJ X g lc l):=fun X hX=>by
  have h0:=(hX.block w.heap.size hzw).trans hx0
  have hb:=hB0.trans (hX.mono (SF hzw))
  exact⟨hb,Sq X _ 0 _ _ (0,0) h0,Sq X _ 1 _ _ (0,0) h0,Sq X _ 2 _ _ (0,0) h0,Sq X _ 5 _ _ (0,0) h0,hbd.below hb (SA _),(hbd.below hb (SA _)).sls.1,dB.below hl hb (SA _)⟩
 have HS:=Sk (Sn hs hv3)
 obtain⟨FB,HFB⟩:∃FB,Hid (aB k n m s bd=FB):=⟨_,Sk rfl⟩
 rw[HFB.out]
 obtain⟨_,x0,x1,x2,x5,_,hsb,hol⟩:=HC.out W0 (TA _ _)
 clear hB0 hx0 hs hv3 hbd hl
 by_cases hk3:k=3
 ·subst hk3
  have hsn:s.len=0:=h3 rfl
  have HH:=Sk (nJ bd n bA bc W0 hsb)
  cases hh:gU bd n with
  | false =>
   obtain rfl:FB=true:=by rw[←HFB.out];simp[aB,hh]
   rw[hh]at HH
   have HW:=Sk (FX l n g lc W0 hol (by omega))
   clear hh hsb hol HFB h3 hsn
   go_enter Tryz.func210,Tryz.ntmps210
   go_wp2_with fail
   refine HH.out.mono ?_
   rintro e w1 ⟨rfl,rfl⟩
   go_wp2_with fail
   refine HW.out.mono ?_
   rintro e w2 ⟨g2,c2,LL,rfl,ho,hne,hle,hb2⟩
   have HR:=Sk (show FrP l true (1+s.count) w (.returned (.slice (some ⟨g2,0,none⟩) LL.length c2)) w2 from⟨g2,c2,LL,rfl,ho,by simp[hne],by omega,(HC.out w2 hb2).1⟩)
   clear ho hne hle hb2
   go_wp2
   go_ret
   exact HR.out
  | true =>
   obtain rfl:FB=false:=by rw[←HFB.out];simp[aB,hh]
   rw[hh]at HH
   rw[hsn]at x5
   have hsl0:s.len=0:=hsn
   have HR:=Sk (show FrP l false (1+s.count) w (.returned (.slice (some ⟨g,0,none⟩) l.length lc)) W0 from⟨g,lc,l,rfl,hol,by simp,by omega,(HC.out W0 (TA _ _)).1⟩)
   clear hh hsb hol HFB h3
   rw[hsl0]at hW0 ⊢
   clear hsn hsl0 hcap
   go_enter Tryz.func210,Tryz.ntmps210
   go_wp2_with fail
   refine HH.out.mono ?_
   rintro e w1 ⟨rfl,rfl⟩
   go_wp2_with fail
   go_loop [2,7] (fun lv ct=>lv=.slice (some ⟨g,0,none⟩) l.length lc∧ct=.int .i64 0) (fun _ _=>0)
   case atStart=>exact⟨rfl,rfl⟩
   case round =>
    obtain⟨rfl,rfl⟩:=hrel
    go_wp2
    go_ret
    exact HR.out
 ·have Sb:(k==3)=false:=by simpa using hk3
  have IH:=Sk ih
  have HF:=Sk (show s.free (fun q=>bd++dG k n m q) 0=FB by rw[←HFB.out];simp[aB,hk3])
  have HOL:=Sk hol
  clear hsb hol HFB h3 hk3 ih
  go_enter Tryz.func210,Tryz.ntmps210
  go_wp2_with fail
  clear x0 x1 x2 x5 hW0
  go_loopg [2,7,8,33,49] s.len (fun gg lv ct _ _ _ wr=>∃(j:Nat) (r:Fo) (g' c':Nat) (LL:List ByteArray),gg=r.len∧j+r.len=s.len∧ct=.int .i64 j∧lv=.slice (some ⟨g',0,none⟩) LL.length c' ∧
   jJ wr g' c' LL∧((LL=[]∧r.free (fun q=>bd++dG k n m q) j=false)↔(l=[]∧FB=false))∧(LL.length+r.count≤l.length+s.count∧r.count≤s.count)∧r.V3∧r.All Ca ∧
   (r≠.nil→∃b o,A=some ⟨b,o,none⟩∧b<w.heap.size∧r.At wr w.heap.size b (o+j*6))∧Below W0.heap.size W0 wr)
  case atStart =>
   refine⟨0,s,g,lc,l,rfl,by omega,rfl,rfl,HOL.out,by rw[HF.out],⟨SA _,SA _⟩,HS.out.2,IH.out,?_,TA _ _⟩
   intro hne
   obtain⟨b,o,e,hb,h⟩:=HS.out.1.2.2 hne
   exact⟨b,o,e,hb,by rw[Nat.zero_mul,Nat.add_zero];exact h.keep (SA _) (fun p hp=>(HC.out _ (TA _ _)).1.cell hp) hb⟩
  case round =>
   obtain⟨j,r,g',c',LL,HG,hjr,rfl,rfl,hown,hiff,⟨hcnt,F8⟩,hv3,HA,HAt,HB⟩:=hrel
   have HBh:=Sk (Sn HB (Sn hown (Sn hiff (Sn hv3 HA))))
   clear hown hiff hv3 HA HB
   have hzr:=HBh.out.1.size
   obtain⟨hBw,x0,x1,x2,x5,hvb,_,_⟩:=HC.out wr HBh.out.1
   have HBw:=Sk (Sn hBw hvb)
   clear hBw hvb
   cases r with
   | nil =>
    have gJ:s.len≤j:=by simp only[Fo.len]at hjr;omega
    have nT:j≤s.len:=by simp only[Fo.len]at hjr;omega
    have HR:=Sk (show FrP l FB (1+s.count) w (.returned (.slice (some ⟨g',0,none⟩) LL.length c')) wr from⟨g',c',LL,rfl,HBh.out.2.1,by have:=HBh.out.2.2.1;simpa [Fo.free]using this,by simp only[Fo.count]at hcnt;omega,HBw.out.1⟩)
    clear hjr HG hcnt F8
    go_wp2
    go_ret
    exact HR.out
   | cons rk rn rm ri rd A' rc rs rr =>
    have gJ:j<s.len:=by simp only[Fo.len]at hjr;omega
    obtain⟨b,o,rfl,hb,h0,h1,h2,h3,h4,⟨h5,hc',hm',hs'⟩,hr'⟩:=HAt (by simp)
    have HW1:Hid (∀X,Below wr.heap.size wr X→X.cell? ⟨w.heap.size,0,none⟩=some (.int .i64 k)∧X.cell? ⟨w.heap.size,1,none⟩=some (.string n)∧X.cell? ⟨w.heap.size,2,none⟩=some (.string m)∧X.cell? ⟨w.heap.size,5,none⟩=some (.slice (some ⟨b,o,none⟩) s.len c) ∧
      X.cell? ⟨b,o+j*6,none⟩=some (.int .i64 rk)∧X.cell? ⟨b,o+j*6+1,none⟩=some (.string rn)∧X.cell? ⟨b,o+j*6+2,none⟩=some (.string rm)∧X.cell? ⟨b,o+j*6+3,none⟩=some (.int .i64 ri)∧X.cell? ⟨b,o+j*6+4,none⟩=some (.int .i64 rd)∧X.cell? ⟨b,o+j*6+5,none⟩=some (.slice A' rs.len rc)):=fun X hX=>by
     have hbl:b<wr.heap.size:=by omega
     have hwl:w.heap.size<wr.heap.size:=by omega
     exact⟨(hX.cell (p:=⟨w.heap.size,0,none⟩) hwl).trans x0,(hX.cell (p:=⟨w.heap.size,1,none⟩) hwl).trans x1,(hX.cell (p:=⟨w.heap.size,2,none⟩) hwl).trans x2,(hX.cell (p:=⟨w.heap.size,5,none⟩) hwl).trans x5,
      (hX.cell (p:=⟨b,_,none⟩) hbl).trans h0,(hX.cell (p:=⟨b,_,none⟩) hbl).trans h1,(hX.cell (p:=⟨b,_,none⟩) hbl).trans h2,(hX.cell (p:=⟨b,_,none⟩) hbl).trans h3,(hX.cell (p:=⟨b,_,none⟩) hbl).trans h4,(hX.cell (p:=⟨b,_,none⟩) hbl).trans h5⟩
    have HNx:Hid (∀X,Below wr.heap.size wr X→∀(bd':List ByteArray) (A2:Option Addr) (c2:Nat),bd'=bd++dG k n m j→dB X A2 c2 bd' →
      Calls Tryz.prog 210 #[.agg #[.int .i64 rk,.string rn,.string rm,.int .i64 ri,.int .i64 rd,.slice A' rs.len rc],.slice A2 bd'.length c2,.slice (some ⟨g',0,none⟩) LL.length c'] X (FrP LL (aB rk rn rm rs (bd++dG k n m j)) (1+rs.count) X)):=fun X hX bd' A2 c2 e hva=>by
     subst e
     have hbo:(dG k n m j).length≤2:=by unfold dG;split <;> (try split) <;> (try split) <;> simp
     simp only[Fo.count]at hcnt F8
     refine HBh.out.2.2.2.2.1 rk rn rm ri rd A' rc _ A2 c2 LL g' c' X ⟨hc',hm',fun hne=>?_⟩ HBh.out.2.2.2.1.1 HBh.out.2.2.2.1.2.1 hva (dB.below HBh.out.2.1 hX (SA _)) ?_ ?_
     ·obtain⟨b',o',e,hb',h'⟩:=hs' hne
      have:=hX.size
      exact⟨b',o',e,by omega,h'.keep (by omega) (fun p hp=>hX.cell (by omega)) hb'⟩
     ·rw[SX];omega
     ·omega
    have uD:Hid (∀(X:World) (g2 c2:Nat) (L2:List ByteArray),Below wr.heap.size wr X→jJ X g2 c2 L2→(L2=[]↔LL=[]∧aB rk rn rm rs (bd++dG k n m j)=false)→L2.length≤LL.length+(1+rs.count) →
      ∃(j':Nat) (r:Fo) (g' c':Nat) (L3:List ByteArray),rr.len=r.len∧j'+r.len=s.len∧Value.int .i64 ((j:Int)+1)=.int .i64 j'∧Value.slice (some ⟨g2,0,none⟩) L2.length c2=.slice (some ⟨g',0,none⟩) L3.length c' ∧
      jJ X g' c' L3∧((L3=[]∧r.free (fun q=>bd++dG k n m q) j'=false)↔(l=[]∧FB=false))∧(L3.length+r.count≤l.length+s.count∧r.count≤s.count)∧r.V3∧r.All Ca ∧
      (r≠.nil→∃b' o',(some ⟨b,o,none⟩:Option Addr)=some ⟨b',o',none⟩∧b'<w.heap.size∧r.At X w.heap.size b' (o'+j'*6))∧Below W0.heap.size W0 X):=fun X g2 c2 L2 hX ho he hle=>by
     simp only[Fo.len]at hjr
     simp only[Fo.count]at hcnt F8
     refine⟨j+1,rr,g2,c2,L2,rfl,by omega,by go_num,rfl,ho,?_,⟨by omega,by omega⟩,HBh.out.2.2.2.1.2.2,HBh.out.2.2.2.2.2,?_,HBh.out.1.trans (hX.mono hzr)⟩
     ·rw[←HBh.out.2.2.1,he,Fo.kS,Bool.or_eq_false_iff,and_assoc]
     ·intro hne
      refine⟨b,o,rfl,hb,?_⟩
      rw[show o+(j+1)*6=o+j*6+6 by omega]
      exact hr'.keep (SA _) (fun p hp=>hX.cell (by omega)) hb
    have HR1:=Sk (World.ownsRow_lit (base:=wr.heap.size) (e:=9) (size:=1) wr #[] 0 (SA _) (by simp) rfl)
    have HB1:=Sk ((TA wr.heap.size wr).alloc (SA _) (.cells #[] 9))
    have HSB:=Sk ((HBw.out.2.below HB1.out (SA _)).sls.1.news)
    have hbl:bd.length≤1000000:=by omega
    have hlk:(0:Int)≤(j:Int):=by omega
    have Sd:(j:Int)<(s.len:Int):=by omega
    clear h0 h1 h2 h3 h4 h5 hs' hr' HAt hcnt F8 hc' hm' hq1 hq2 HC HS HOL HF IH
    have hsp:k=6∨(k=8∧j=1)∨(k=13∧j=2)∨(k≠6∧¬(k=8∧j=1)∧¬(k=13∧j=2)):=by omega
    rcases hsp with rfl|⟨rfl,hj8⟩|⟨rfl,OB⟩|⟨hk6,hk8,OC⟩
    ·have kf:True:=trivial
     go_wp2_with (first
      | (at_builtin;refine aC _ rfl (.tmp 30) (.tmp 31) 22 rfl wr.heap.size 9 i0 _ 1 16 Tryz.underlying22 hi hz0 hz1 hz2 rfl (by decide) _ 0 [] rfl HR1.out bA bd.length bc (bd.map Value.string) rfl (by simp) HSB.out.1 HSB.out.2 (dO _) (by unfold maxLen;omega) (by omega) (by simp) ?_;intro v1 w1 hown1 hg1;have hb1:=HB1.out.grown hg1 (by simp) (fun q hq=>(HR1.out.lt q hq).1);have hz1':=hb1.size;obtain⟨a0,a1,a2,a5,e0,e1,e2,e3,e4,e5⟩:=HW1.out w1 hb1)
      | (at_builtin;refine wpList_append_own _ rfl (.tmp 44) (.tmp 47) 22 rfl wr.heap.size 9 i0 _ 1 16 Tryz.underlying22 hi hz0 hz1 hz2 rfl (by decide) v1 _ _ rfl (hown1.alloc _) ⟨w1.heap.size,0,none⟩ 1 1 [.string n] rfl rfl (cell_one_new _ _ _) (dO [n]) (by unfold maxLen;omega) (by omega) (by simp;omega) ?_;intro v2 w2 hown2 hg2 _;have hb2:=(hb1.alloc hz1' (.cells #[.string n] 9)).grown hg2 (by simp;omega) (fun q hq=>(hown1.lt q hq).1);have hz2':=hb2.size;obtain⟨f0,f1,f2,f5,q0,q1,q2,q3,q4,q5⟩:=HW1.out w2 hb2))
     have hf:w2.ownsRow wr.heap.size 9 1 v2 (bd++[n]).length ((bd++[n]).map .string):=by
      simpa using hown2
     obtain⟨A2,c2,rfl,hva⟩:=dB.of hf
     have HCL:=Sk (HNx.out w2 hb2 (bd++[n]) A2 c2 (by simp[dG]) hva)
     clear hva hf
     with_reducible refine HCL.out.mono ?_
     rintro e w5 ⟨g2,c3,L2,rfl,ho,he,hle,hb5⟩
     have HE5:=Sk (uD.out w5 g2 c3 L2 (hb2.trans (hb5.mono hb2.size)) ho he hle)
     clear ho he hle hb5
     go_wp2
     go_roundg rr.len
     case measure=>first|(rw[HG];simp[Fo.len];done)|(simp only[Fo.len];omega)
     case rel=>exact HE5.out
    ·have j8:((j:Int)==1)=true:=by simp;omega
     have HJ:=Sk hj8
     clear hj8
     go_wp2_with (first
      | (at_builtin;refine aC _ rfl (.tmp 30) (.tmp 31) 22 rfl wr.heap.size 9 i0 _ 1 16 Tryz.underlying22 hi hz0 hz1 hz2 rfl (by decide) _ 0 [] rfl HR1.out bA bd.length bc (bd.map Value.string) rfl (by simp) HSB.out.1 HSB.out.2 (dO _) (by unfold maxLen;omega) (by omega) (by simp) ?_;intro v1 w1 hown1 hg1;have hb1:=HB1.out.grown hg1 (by simp) (fun q hq=>(HR1.out.lt q hq).1);have hz1':=hb1.size;obtain⟨a0,a1,a2,a5,e0,e1,e2,e3,e4,e5⟩:=HW1.out w1 hb1)
      | (at_builtin;refine wpList_append_own _ rfl (.tmp 44) (.tmp 47) 22 rfl wr.heap.size 9 i0 _ 1 16 Tryz.underlying22 hi hz0 hz1 hz2 rfl (by decide) v1 _ _ rfl (hown1.alloc _) ⟨w1.heap.size,0,none⟩ 1 1 [.string n] rfl rfl (cell_one_new _ _ _) (dO [n]) (by unfold maxLen;omega) (by omega) (by simp;omega) ?_;intro v2 w2 hown2 hg2 _;have hb2:=(hb1.alloc hz1' (.cells #[.string n] 9)).grown hg2 (by simp;omega) (fun q hq=>(hown1.lt q hq).1);have hz2':=hb2.size;obtain⟨f0,f1,f2,f5,q0,q1,q2,q3,q4,q5⟩:=HW1.out w2 hb2))
     have hf:w2.ownsRow wr.heap.size 9 1 v2 (bd++[n]).length ((bd++[n]).map .string):=by
      simpa using hown2
     obtain⟨A2,c2,rfl,hva⟩:=dB.of hf
     have HCL:=Sk (HNx.out w2 hb2 (bd++[n]) A2 c2 (by simp[dG,HJ.out]) hva)
     clear hva hf
     with_reducible refine HCL.out.mono ?_
     rintro e w5 ⟨g2,c3,L2,rfl,ho,he,hle,hb5⟩
     have HE5:=Sk (uD.out w5 g2 c3 L2 (hb2.trans (hb5.mono hb2.size)) ho he hle)
     clear ho he hle hb5
     go_wp2
     go_roundg rr.len
     case measure=>first|(rw[HG];simp[Fo.len];done)|(simp only[Fo.len];omega)
     case rel=>exact HE5.out
    ·have j13:((j:Int)==2)=true:=by simp;omega
     have HJ:=Sk OB
     clear OB
     go_wp2_with (first
      | (at_builtin;refine aC _ rfl (.tmp 30) (.tmp 31) 22 rfl wr.heap.size 9 i0 _ 1 16 Tryz.underlying22 hi hz0 hz1 hz2 rfl (by decide) _ 0 [] rfl HR1.out bA bd.length bc (bd.map Value.string) rfl (by simp) HSB.out.1 HSB.out.2 (dO _) (by unfold maxLen;omega) (by omega) (by simp) ?_;intro v1 w1 hown1 hg1;have hb1:=HB1.out.grown hg1 (by simp) (fun q hq=>(HR1.out.lt q hq).1);have hz1':=hb1.size;obtain⟨a0,a1,a2,a5,e0,e1,e2,e3,e4,e5⟩:=HW1.out w1 hb1)
      | (at_builtin;refine wpList_append_own _ rfl (.tmp 57) (.tmp 62) 22 rfl wr.heap.size 9 i0 _ 1 16 Tryz.underlying22 hi hz0 hz1 hz2 rfl (by decide) v1 _ _ rfl (hown1.alloc _) ⟨w1.heap.size,0,none⟩ 2 2 [.string n,.string m] rfl rfl (qy _ _ _ _) (dO [n,m]) (by unfold maxLen;omega) (by omega) (by simp;omega) ?_;intro v2 w2 hown2 hg2 _;have hb2:=(hb1.alloc hz1' (.cells #[.string n,.string m] 9)).grown hg2 (by simp;omega) (fun q hq=>(hown1.lt q hq).1);have hz2':=hb2.size;obtain⟨f0,f1,f2,f5,q0,q1,q2,q3,q4,q5⟩:=HW1.out w2 hb2))
     have hf:w2.ownsRow wr.heap.size 9 1 v2 (bd++[n,m]).length ((bd++[n,m]).map .string):=by
      simpa using hown2
     obtain⟨A2,c2,rfl,hva⟩:=dB.of hf
     have HCL:=Sk (HNx.out w2 hb2 (bd++[n,m]) A2 c2 (by simp[dG,HJ.out]) hva)
     clear hva hf
     with_reducible refine HCL.out.mono ?_
     rintro e w5 ⟨g2,c3,L2,rfl,ho,he,hle,hb5⟩
     have HE5:=Sk (uD.out w5 g2 c3 L2 (hb2.trans (hb5.mono hb2.size)) ho he hle)
     clear ho he hle hb5
     go_wp2
     go_roundg rr.len
     case measure=>first|(rw[HG];simp[Fo.len];done)|(simp only[Fo.len];omega)
     case rel=>exact HE5.out
    ·have k6:(k==6)=false:=by simpa using hk6
     have k8:(k==8)=false∨((k==8)=true∧((j:Int)==1)=false):=by
      by_cases h:k=8
      ·right;exact⟨by simpa using h,by simp;omega⟩
      ·left;simpa using h
     have k13:(k==13)=false∨((k==13)=true∧((j:Int)==2)=false):=by
      by_cases h:k=13
      ·right;exact⟨by simpa using h,by simp;omega⟩
      ·left;simpa using h
     have HBN:=Sk (show bd=bd++dG k n m j by unfold dG;rw[TW hk6,TW hk8,TW OC];simp)
     clear hk6 hk8 OC
     rcases k8 with k8|⟨k8,j8⟩
     all_goals rcases k13 with k13|⟨k13,j13⟩
     all_goals (
      go_wp2_with (first
       | (at_builtin;refine aC _ rfl (.tmp 30) (.tmp 31) 22 rfl wr.heap.size 9 i0 _ 1 16 Tryz.underlying22 hi hz0 hz1 hz2 rfl (by decide) _ 0 [] rfl HR1.out bA bd.length bc (bd.map Value.string) rfl (by simp) HSB.out.1 HSB.out.2 (dO _) (by unfold maxLen;omega) (by omega) (by simp) ?_;intro v1 w1 hown1 hg1;have hb1:=HB1.out.grown hg1 (by simp) (fun q hq=>(HR1.out.lt q hq).1);have hz1':=hb1.size;obtain⟨a0,a1,a2,a5,e0,e1,e2,e3,e4,e5⟩:=HW1.out w1 hb1))
      have hf:w1.ownsRow wr.heap.size 9 1 v1 bd.length (bd.map .string):=by
       simpa using hown1
      obtain⟨A2,c2,rfl,hva⟩:=dB.of hf
      have HCL:=Sk (HNx.out w1 hb1 bd A2 c2 HBN.out hva)
      clear hva hf
      with_reducible refine HCL.out.mono ?_
      rintro e w5 ⟨g2,c3,L2,rfl,ho,he,hle,hb5⟩
      have HE5:=Sk (uD.out w5 g2 c3 L2 (hb1.trans (hb5.mono hb1.size)) ho he hle)
      clear ho he hle hb5
      go_wp2
      go_roundg rr.len
      case measure=>first|(rw[HG];simp[Fo.len];done)|(simp only[Fo.len];omega)
      case rel=>exact HE5.out)
theorem OD (s:Fo):Ca s:=Fo.eT MF s
def Fo.has (p:Int→ByteArray→Bool):Fo→Bool
 | .nil=>false
 | .cons k n _ _ _ _ _ s r=>(p k n||s.has p)||r.has p
theorem Fo.xC (p:Int→ByteArray→Bool):∀f:Fo,f.vis.any (fun y=>p y.k y.n)=f.has p
 | .nil=>rfl
 | .cons k n m i d A c s r=>by
  have h1:=xC p s
  have h2:=xC p r
  simp only[Fo.vis,Fo.has,List.any_append,List.any_cons,h1,h2]
  rw[Bool.or_comm]
def kdP (K:Int)(k:Int)(_:ByteArray):Bool:=k==K
def F9 (K:Int)(s:Fo):Prop:=∀(k:Int)(n m:ByteArray)(i d:Int)(A:Option Addr)(c:Nat)(w:World),s.Sl w w.heap.size A c →
  Calls Tryz.prog 102 #[.agg #[.int .i64 k,.string n,.string m,.int .i64 i,.int .i64 d,.slice A s.len c],.int .i64 K] w fun e w'=>e=.returned (.bool (kdP K k n||s.has (kdP K)))∧Below w.heap.size w w'
theorem MG (K:Int)(s:Fo)(ih:s.All (F9 K)):F9 K s:=by
 intro k n m i d A c w hs
 have HS:=Sk hs
 have IH:=Sk ih
 have hcap:s.len≤9223372036854775807:=by have:=HS.out.1;have:=HS.out.2.1;unfold maxLen at this;omega
 clear hs ih
 obtain⟨W0,hW0⟩:∃W0,w.alloc (.cells #[.int .i64 k,.string n,.string m,.int .i64 i,.int .i64 d,.slice A s.len c] 44)=W0:=⟨_,rfl⟩
 have hzw:w.heap.size<W0.heap.size:=by subst hW0;simp
 have hB0:Below w.heap.size w W0:=by subst hW0;exact(TA _ _).alloc (SA _) _
 have hx0:W0.heap[w.heap.size]?=some (.cells #[.int .i64 k,.string n,.string m,.int .i64 i,.int .i64 d,.slice A s.len c] 44 (0,0)):=by rw[←hW0];exact Sv w _
 have HC:Hid (∀X,Below W0.heap.size W0 X→Below w.heap.size w X∧X.cell? ⟨w.heap.size,0,none⟩=some (.int .i64 k)∧X.cell? ⟨w.heap.size,1,none⟩=some (.string n)∧X.cell? ⟨w.heap.size,5,none⟩=some (.slice A s.len c)):=fun X hX=>by
  have h0:=(hX.block w.heap.size hzw).trans hx0
  exact⟨hB0.trans (hX.mono (SF hzw)),Sq X _ 0 _ _ (0,0) h0,Sq X _ 1 _ _ (0,0) h0,Sq X _ 5 _ _ (0,0) h0⟩
 obtain⟨R,HR⟩:∃R,Hid ((kdP K k n||s.has (kdP K))=R):=⟨_,Sk rfl⟩
 rw[HR.out]
 obtain⟨_,x0,x1,x5⟩:=HC.out W0 (TA _ _)
 have HB0:=Sk hB0
 clear hB0 hx0
 cases hp:kdP K k n with
 | true =>
  obtain rfl:R=true:=by rw[←HR.out,hp];rfl
  clear HR
  have hk:(k==K)=true:=hp
  clear hp
  go_enter Tryz.func102,Tryz.ntmps102
  go_wp2
  go_ret
  exact⟨rfl,HB0.out⟩
 | false =>
  have HRs:=Sk (show s.has (kdP K)=R by rw[←HR.out,hp];rfl)
  clear HR
  have hk:(k==K)=false:=hp
  clear hp
  all_goals (
   go_enter Tryz.func102,Tryz.ntmps102
   go_wp2_with fail
   clear x0 x1 x5 hW0
   go_loopg [5] s.len (fun g ct wr=>∃(j:Nat) (r:Fo),g=r.len∧j+r.len=s.len∧ct=.int .i64 j∧r.has (kdP K)=R∧r.All (F9 K) ∧
    (r≠.nil→∃b o,A=some ⟨b,o,none⟩∧b<w.heap.size∧r.At wr w.heap.size b (o+j*6))∧Below W0.heap.size W0 wr)
   case atStart =>
    refine⟨0,s,rfl,by omega,rfl,HRs.out,IH.out,?_,TA _ _⟩
    intro hne
    obtain⟨b,o,e,hb,h⟩:=HS.out.2.2 hne
    exact⟨b,o,e,hb,by rw[Nat.zero_mul,Nat.add_zero];exact h.keep (SA _) (fun p hp=>HB0.out.cell hp) hb⟩
   case round =>
    obtain⟨j,r,HG,hjr,rfl,hRr,HA,HAt,HB⟩:=hrel
    have HBh:=Sk (Sn HB (Sn hRr HA))
    clear hRr HA HB
    have hzr:=HBh.out.1.size
    obtain⟨hBw,_,_,x5⟩:=HC.out wr HBh.out.1
    have HBw:=Sk hBw
    clear hBw
    cases r with
    | nil =>
     have gJ:s.len≤j:=by simp only[Fo.len]at hjr;omega
     have nT:j≤s.len:=by simp only[Fo.len]at hjr;omega
     obtain rfl:R=false:=HBh.out.2.1.symm
     clear hjr HG HBh HRs
     go_wp2
     go_ret
     exact⟨rfl,HBw.out⟩
    | cons rk rn rm ri rd A' c' rs rr =>
     have gJ:j<s.len:=by simp only[Fo.len]at hjr;omega
     obtain⟨b,o,rfl,hb,h0,h1,h2,h3,h4,⟨h5,hc',hm',hs'⟩,hr'⟩:=HAt (by simp)
     have hcall:=HBh.out.2.2.1 rk rn rm ri rd A' c' wr ⟨hc',hm',fun hne=>by
      obtain⟨b',o',e,hb',h'⟩:=hs' hne
      exact⟨b',o',e,by omega,h'.keep (by omega) (fun _ _=>rfl) hb'⟩⟩
     have hRk:=HBh.out.2.1
     simp only[Fo.has]at hRk
     obtain⟨E1,HE1⟩:∃E1,Hid ((kdP K rk rn||rs.has (kdP K))=E1):=⟨_,Sk rfl⟩
     rw[HE1.out]at hRk hcall
     have HCL:=Sk hcall
     have HK:=Sk (Sn hr' hRk)
     clear hcall hRk HAt hr' hs' HE1
     cases E1 with
     | true =>
      obtain rfl:R=true:=HK.out.2.symm
      go_wp2_with fail
      refine HCL.out.mono ?_
      rintro e w4 ⟨rfl,hb4⟩
      have HB4:=Sk (HBw.out.trans (hb4.mono HBw.out.size))
      clear hb4
      go_wp2
      go_ret
      exact⟨rfl,HB4.out⟩
     | false =>
      go_wp2_with fail
      refine HCL.out.mono ?_
      rintro e w4 ⟨rfl,hb4⟩
      have HB4:=Sk hb4
      clear hb4
      go_wp2
      go_roundg rr.len
      case measure=>first|(rw[HG];simp[Fo.len];done)|(simp only[Fo.len];omega)
      case rel =>
       refine⟨j+1,rr,rfl,by simp only[Fo.len]at hjr;omega,by go_num,HK.out.2,HBh.out.2.2.2,?_,HBh.out.1.trans (HB4.out.mono hzr)⟩
       intro hne
       refine⟨b,o,rfl,hb,?_⟩
       rw[show o+(j+1)*6=o+j*6+6 by omega]
       exact HK.out.1.keep (SA _) (fun p hp=>HB4.out.cell (by omega)) hb)
theorem OE (K:Int)(s:Fo):F9 K s:=Fo.eT (MG K) s
def rtP (nm:ByteArray)(k:Int)(n:ByteArray):Bool:=(k==5)&&(n.toList==nm.toList)
def Ga (nm:ByteArray)(s:Fo):Prop:=∀(k:Int)(n m:ByteArray)(i d:Int)(A:Option Addr)(c:Nat)(w:World),s.Sl w w.heap.size A c →
  Calls Tryz.prog 150 #[.agg #[.int .i64 k,.string n,.string m,.int .i64 i,.int .i64 d,.slice A s.len c],.string nm] w fun e w'=>e=.returned (.bool (rtP nm k n||s.has (rtP nm)))∧Below w.heap.size w w'
theorem MH (nm:ByteArray)(s:Fo)(ih:s.All (Ga nm)):Ga nm s:=by
 intro k n m i d A c w hs
 have HS:=Sk hs
 have IH:=Sk ih
 have hcap:s.len≤9223372036854775807:=by have:=HS.out.1;have:=HS.out.2.1;unfold maxLen at this;omega
 clear hs ih
 obtain⟨W0,hW0⟩:∃W0,w.alloc (.cells #[.int .i64 k,.string n,.string m,.int .i64 i,.int .i64 d,.slice A s.len c] 44)=W0:=⟨_,rfl⟩
 have hzw:w.heap.size<W0.heap.size:=by subst hW0;simp
 have hB0:Below w.heap.size w W0:=by subst hW0;exact(TA _ _).alloc (SA _) _
 have hx0:W0.heap[w.heap.size]?=some (.cells #[.int .i64 k,.string n,.string m,.int .i64 i,.int .i64 d,.slice A s.len c] 44 (0,0)):=by rw[←hW0];exact Sv w _
 have HC:Hid (∀X,Below W0.heap.size W0 X→Below w.heap.size w X∧X.cell? ⟨w.heap.size,0,none⟩=some (.int .i64 k)∧X.cell? ⟨w.heap.size,1,none⟩=some (.string n)∧X.cell? ⟨w.heap.size,5,none⟩=some (.slice A s.len c)):=fun X hX=>by
  have h0:=(hX.block w.heap.size hzw).trans hx0
  exact⟨hB0.trans (hX.mono (SF hzw)),Sq X _ 0 _ _ (0,0) h0,Sq X _ 1 _ _ (0,0) h0,Sq X _ 5 _ _ (0,0) h0⟩
 obtain⟨R,HR⟩:∃R,Hid ((rtP nm k n||s.has (rtP nm))=R):=⟨_,Sk rfl⟩
 rw[HR.out]
 obtain⟨_,x0,x1,x5⟩:=HC.out W0 (TA _ _)
 have HB0:=Sk hB0
 clear hB0 hx0
 cases hp:rtP nm k n with
 | true =>
  obtain rfl:R=true:=by rw[←HR.out,hp];rfl
  clear HR
  obtain⟨hk,hk2⟩:(k==5)=true∧(n.toList==nm.toList)=true:=by simpa [rtP]using hp
  clear hp
  go_enter Tryz.func150,Tryz.ntmps150
  go_wp2
  go_ret
  exact⟨rfl,HB0.out⟩
 | false =>
  have HRs:=Sk (show s.has (rtP nm)=R by rw[←HR.out,hp];rfl)
  clear HR
  have hk:(k==5)=false∨((k==5)=true∧(n.toList==nm.toList)=false):=by
   cases h:k==5
   ·exact .inl rfl
   ·refine .inr ⟨rfl,?_⟩
    simpa [rtP,h]using hp
  clear hp
  rcases hk with hk|⟨hk,hk2⟩
  all_goals (
   go_enter Tryz.func150,Tryz.ntmps150
   go_wp2_with fail
   clear x0 x1 x5 hW0
   go_loopg [5] s.len (fun g ct wr=>∃(j:Nat) (r:Fo),g=r.len∧j+r.len=s.len∧ct=.int .i64 j∧r.has (rtP nm)=R∧r.All (Ga nm) ∧
    (r≠.nil→∃b o,A=some ⟨b,o,none⟩∧b<w.heap.size∧r.At wr w.heap.size b (o+j*6))∧Below W0.heap.size W0 wr)
   case atStart =>
    refine⟨0,s,rfl,by omega,rfl,HRs.out,IH.out,?_,TA _ _⟩
    intro hne
    obtain⟨b,o,e,hb,h⟩:=HS.out.2.2 hne
    exact⟨b,o,e,hb,by rw[Nat.zero_mul,Nat.add_zero];exact h.keep (SA _) (fun p hp=>HB0.out.cell hp) hb⟩
   case round =>
    obtain⟨j,r,HG,hjr,rfl,hRr,HA,HAt,HB⟩:=hrel
    have HBh:=Sk (Sn HB (Sn hRr HA))
    clear hRr HA HB
    have hzr:=HBh.out.1.size
    obtain⟨hBw,_,_,x5⟩:=HC.out wr HBh.out.1
    have HBw:=Sk hBw
    clear hBw
    cases r with
    | nil =>
     have gJ:s.len≤j:=by simp only[Fo.len]at hjr;omega
     have nT:j≤s.len:=by simp only[Fo.len]at hjr;omega
     obtain rfl:R=false:=HBh.out.2.1.symm
     clear hjr HG HBh HRs
     go_wp2
     go_ret
     exact⟨rfl,HBw.out⟩
    | cons rk rn rm ri rd A' c' rs rr =>
     have gJ:j<s.len:=by simp only[Fo.len]at hjr;omega
     obtain⟨b,o,rfl,hb,h0,h1,h2,h3,h4,⟨h5,hc',hm',hs'⟩,hr'⟩:=HAt (by simp)
     have hcall:=HBh.out.2.2.1 rk rn rm ri rd A' c' wr ⟨hc',hm',fun hne=>by
      obtain⟨b',o',e,hb',h'⟩:=hs' hne
      exact⟨b',o',e,by omega,h'.keep (by omega) (fun _ _=>rfl) hb'⟩⟩
     have hRk:=HBh.out.2.1
     simp only[Fo.has]at hRk
     obtain⟨E1,HE1⟩:∃E1,Hid ((rtP nm rk rn||rs.has (rtP nm))=E1):=⟨_,Sk rfl⟩
     rw[HE1.out]at hRk hcall
     have HCL:=Sk hcall
     have HK:=Sk (Sn hr' hRk)
     clear hcall hRk HAt hr' hs' HE1
     cases E1 with
     | true =>
      obtain rfl:R=true:=HK.out.2.symm
      go_wp2_with fail
      refine HCL.out.mono ?_
      rintro e w4 ⟨rfl,hb4⟩
      have HB4:=Sk (HBw.out.trans (hb4.mono HBw.out.size))
      clear hb4
      go_wp2
      go_ret
      exact⟨rfl,HB4.out⟩
     | false =>
      go_wp2_with fail
      refine HCL.out.mono ?_
      rintro e w4 ⟨rfl,hb4⟩
      have HB4:=Sk hb4
      clear hb4
      go_wp2
      go_roundg rr.len
      case measure=>first|(rw[HG];simp[Fo.len];done)|(simp only[Fo.len];omega)
      case rel =>
       refine⟨j+1,rr,rfl,by simp only[Fo.len]at hjr;omega,by go_num,HK.out.2,HBh.out.2.2.2,?_,HBh.out.1.trans (HB4.out.mono hzr)⟩
       intro hne
       refine⟨b,o,rfl,hb,?_⟩
       rw[show o+(j+1)*6=o+j*6+6 by omega]
       exact HK.out.1.keep (SA _) (fun p hp=>HB4.out.cell (by omega)) hb)
theorem OG (nm:ByteArray)(s:Fo):Ga nm s:=Fo.eT (MH nm) s
theorem vY:∀a b:List Nd,dS (a++b)=if dS a=0 then dS b else dS a
 | [],b=>by simp[dS]
 | x::a,b=>by
  have h:=vY a b
  simp only[TU,dS,h]
  by_cases hx:x.err=0 <;> simp[hx]
theorem Fo.rT:∀(f:Fo)(dp:Nat),dS (f.pre dp)=f.ck
 | .nil,_=>rfl
 | .cons k n m i d A c s r,dp=>by
  have h1:=rT s (dp+1)
  have h2:=rT r dp
  simp only[Fo.pre,dS,vY,h1,h2,Fo.ck,Nd.err]
theorem Fo.xD:∀(f:Fo)(dp:Nat),(f.pre dp).any (fun x=>decide (40<x.dep))=decide (0<f.depth∧40<dp+f.depth-1)
 | .nil,dp=>by simp[Fo.pre,Fo.depth]
 | .cons k n m i d A c s r,dp=>by
  have h1:=xD s (dp+1)
  have h2:=xD r dp
  simp only[Fo.pre,List.any_cons,List.any_append,h1,h2,Fo.depth]
  rw[Bool.eq_iff_iff]
  simp only[Ud,decide_eq_true_eq]
  refine Iff.trans ?_ decide_eq_true_iff.symm
  have hd1:s.depth+1≤max (s.depth+1) r.depth:=Nat.le_max_left _ _
  have hd2:r.depth≤max (s.depth+1) r.depth:=Nat.le_max_right _ _
  have hd3:max (s.depth+1) r.depth=s.depth+1∨max (s.depth+1) r.depth=r.depth:=by omega
  omega
theorem KH (k:Int)(n m:ByteArray)(i d:Int)(A:Option Addr)(c:Nat)(s:Fo) :
  dH (⟨1,k,n,m,i,d,A,s.len,c⟩::s.pre 2)=if 400<1+s.count∨40<s.depth+1 then 4 else ckN k n m i d s:=by
 unfold dH nW
 have h1:=s.jU 2
 have h2:=s.xD 2
 have h3:=s.rT 2
 by_cases h:400<1+s.count∨40<s.depth+1
 ·rw[TY h,TY]
  simp only[List.any_cons,h2,TS,h1,Ud,decide_eq_true_eq]
  omega
 ·rw[TW h,TW]
  ·simp only[dS,h3,ckN,Nd.err]
  ·simp only[List.any_cons,h2,TS,h1,Ud,decide_eq_true_eq]
   omega
theorem nL (k:Int)(n m:ByteArray)(i d:Int)(A:Option Addr)(c:Nat)(s:Fo)(w:World)(hs:s.Sl w w.heap.size A c)(hn:n.size≤1000)(hm:m.size≤1000)(hst:s.Short)(hcnt:s.count≤1000000) :
  Calls Tryz.prog 209 #[.agg #[.int .i64 k,.string n,.string m,.int .i64 i,.int .i64 d,.slice A s.len c]] w fun e w'=>e=.returned (.int .i64 (dH (⟨1,k,n,m,i,d,A,s.len,c⟩::s.pre 2)))∧Below w.heap.size w w':=by
 obtain⟨R,HR⟩:∃R,Hid (dH (⟨1,k,n,m,i,d,A,s.len,c⟩::s.pre 2)=R):=⟨_,Sk rfl⟩
 have HRc:=Sk (show R=if 400<1+s.count∨40<s.depth+1 then 4 else ckN k n m i d s by rw[←HR.out,KH])
 rw[HR.out]
 clear HR
 obtain⟨W0,hW0⟩:∃W0,w.alloc (.cells #[.int .i64 k,.string n,.string m,.int .i64 i,.int .i64 d,.slice A s.len c] 44)=W0:=⟨_,rfl⟩
 have hzw:w.heap.size<W0.heap.size:=by subst hW0;simp
 have hB0:Below w.heap.size w W0:=by subst hW0;exact(TA _ _).alloc (SA _) _
 have hx0:W0.heap[w.heap.size]?=some (.cells #[.int .i64 k,.string n,.string m,.int .i64 i,.int .i64 d,.slice A s.len c] 44 (0,0)):=by rw[←hW0];exact Sv w _
 have HC:Hid (∀X,Below W0.heap.size W0 X→Below w.heap.size w X∧s.Sl X X.heap.size A c∧X.cell? ⟨w.heap.size,0,none⟩=some (.int .i64 k)∧X.cell? ⟨w.heap.size,1,none⟩=some (.string n)∧X.cell? ⟨w.heap.size,2,none⟩=some (.string m)∧X.cell? ⟨w.heap.size,3,none⟩=some (.int .i64 i)∧X.cell? ⟨w.heap.size,4,none⟩=some (.int .i64 d)∧X.cell? ⟨w.heap.size,5,none⟩=some (.slice A s.len c)):=fun X hX=>by
  have h0:=(hX.block w.heap.size hzw).trans hx0
  have hb:=hB0.trans (hX.mono (SF hzw))
  exact⟨hb,hs.keep hb.size fun p hp=>hb.cell hp,Sq X _ 0 _ _ (0,0) h0,Sq X _ 1 _ _ (0,0) h0,Sq X _ 2 _ _ (0,0) h0,Sq X _ 3 _ _ (0,0) h0,Sq X _ 4 _ _ (0,0) h0,Sq X _ 5 _ _ (0,0) h0⟩
 obtain⟨_,hs0,x0,x1,x2,x3,x4,x5⟩:=HC.out W0 (TA _ _)
 have hno:=xK s k n m i d A c W0 hs0
 rw[gP (by omega) (by omega)]at hno
 have HNO:=Sk hno
 have hdl:=s.pq
 have HP:=Sk (Sn hst (Sn hn hm))
 obtain⟨C,HCn⟩:∃C,Hid (s.count=C):=⟨_,Sk rfl⟩
 obtain⟨D,HD⟩:∃D,Hid (s.depth=D):=⟨_,Sk rfl⟩
 rw[HCn.out]at HNO hcnt hdl HRc
 rw[HD.out]at hdl HRc
 clear hs hs0 hB0 hx0 hst hno
 by_cases hC:400<1+C
 ·have t1:decide (400<1+(C:Int))=true:=by simp;omega
  obtain rfl:R=4:=by rw[HRc.out,TY (.inl hC)]
  go_enter Tryz.func209,Tryz.ntmps209
  go_wp2_with fail
  refine HNO.out.mono ?_
  rintro e w1 ⟨rfl,hb1⟩
  have HB:=Sk (HC.out w1 hb1).1
  clear hb1
  go_wp2
  go_ret
  exact⟨rfl,HB.out⟩
 ·have t1:decide (400<1+(C:Int))=false:=by simp;omega
  go_enter Tryz.func209,Tryz.ntmps209
  go_wp2_with fail
  refine HNO.out.mono ?_
  rintro e w1 ⟨rfl,hb1⟩
  have HB1:=Sk hb1
  clear hb1 x0 x1 x2 x3 x4 x5 hW0 HNO
  obtain⟨_,hs1,x0,x1,x2,x3,x4,x5⟩:=HC.out w1 HB1.out
  have hde:=GX s k n m i d A c w1 (by rw[HCn.out];exact hcnt) hs1
  rw[HD.out]at hde
  have HDE:=Sk hde
  clear hde hs1
  have hw1:((D+1:Nat):Int)=(D:Int)+1:=by omega
  rw[hw1]at HDE
  clear hw1
  by_cases hD:40<D+1
  ·have t2:decide (40<(D:Int)+1)=true:=by simp;omega
   obtain rfl:R=4:=by rw[HRc.out,TY (.inr hD)]
   go_wp2_with fail
   refine HDE.out.mono ?_
   rintro e w2 ⟨rfl,hb2⟩
   have HB:=Sk (HC.out w2 (HB1.out.trans (hb2.mono HB1.out.size))).1
   clear hb2
   go_wp2
   go_ret
   exact⟨rfl,HB.out⟩
  ·have t2:decide (40<(D:Int)+1)=false:=by simp;omega
   have HRk:=Sk (show ckN k n m i d s=R by rw[HRc.out,TW (by omega)])
   go_wp2_with fail
   refine HDE.out.mono ?_
   rintro e w2 ⟨rfl,hb2⟩
   have HB2:=Sk (HB1.out.trans (hb2.mono HB1.out.size))
   clear hb2 x0 x1 x2 x3 x4 x5 HDE
   obtain⟨_,hs2,x0,x1,x2,x3,x4,x5⟩:=HC.out w2 HB2.out
   have hck:=OA s k n m i d A c w2 HP.out.2.1 HP.out.2.2 HP.out.1 hs2
   rw[HRk.out]at hck
   have HCK:=Sk hck
   clear hck hs2
   go_wp2_with fail
   refine HCK.out.mono ?_
   rintro e w3 ⟨rfl,hb3⟩
   have HB:=Sk (HC.out w3 (HB2.out.trans (hb3.mono HB2.out.size))).1
   clear hb3
   go_wp2
   go_ret
   exact⟨rfl,HB.out⟩
theorem yL {n m:ByteArray}{i d:Int}{len:Nat}(h:aj 3 n m i d len=0):len=0:=by
 have:aj 3 n m i d len=if ak 1 0 0 n m i d len then 1 else if ah 3 n m 1=0 then bU 3 i d else ah 3 n m 1:=rfl
 rw[this]at h
 cases ha:ak 1 0 0 n m i d len
 ·unfold ak at ha;simp at ha;omega
 ·rw[ha]at h;simp at h
theorem Fo.qp:∀(f:Fo)(dp:Nat),(∀x∈f.pre dp,x.err=0)→f.V3
 | .nil,_,_=>trivial
 | .cons k n m i d A c s r,dp,h=>by
  simp only[Fo.pre,TI,Td]at h
  have h0:=h ⟨dp,k,n,m,i,d,A,s.len,c⟩ (.inl rfl)
  exact⟨fun e=>by subst e;exact yL h0,s.qp (dp+1) (fun x hx=>h x (.inr (.inl hx))),r.qp dp (fun x hx=>h x (.inr (.inr hx)))⟩
theorem KI (W:World):jJ (W.alloc (.cells #[] 9)) W.heap.size 0 []:=by
 have h:=World.ownsRow_lit (base:=0) (e:=9) (size:=1) W #[] 0 (SC _) (by simp) rfl
 exact h
theorem Gb (k:Int)(n m:ByteArray)(i d:Int)(A:Option Addr)(c:Nat)(s:Fo)(w:World)(hs:s.Sl w w.heap.size A c)(hn:n.size≤1000)(hm:m.size≤1000)(hst:s.Short)(he:dH (⟨1,k,n,m,i,d,A,s.len,c⟩::s.pre 2)=0) :
  Calls Tryz.prog 149 #[.agg #[.int .i64 k,.string n,.string m,.int .i64 i,.int .i64 d,.slice A s.len c]] w (EG (aB k n m s []) w):=by
 obtain⟨hc1,_,KJ⟩:=pE he
 rw[TS,s.jU]at hc1
 have hk3:k=3→s.len=0:=fun e=>by subst e;exact yL (KJ _ (Ta ..))
 have hv3:=s.qp 2 fun y hy=>KJ y (Tc _ hy)
 obtain⟨W0,hW0⟩:∃W0,w.alloc (.cells #[.int .i64 k,.string n,.string m,.int .i64 i,.int .i64 d,.slice A s.len c] 44)=W0:=⟨_,rfl⟩
 have hzw:w.heap.size<W0.heap.size:=by subst hW0;simp
 have hB0:Below w.heap.size w W0:=by subst hW0;exact(TA _ _).alloc (SA _) _
 have hx0:W0.heap[w.heap.size]?=some (.cells #[.int .i64 k,.string n,.string m,.int .i64 i,.int .i64 d,.slice A s.len c] 44 (0,0)):=by rw[←hW0];exact Sv w _
 have HC:Hid (∀X,Below W0.heap.size W0 X→Below w.heap.size w X∧s.Sl X X.heap.size A c∧X.cell? ⟨w.heap.size,0,none⟩=some (.int .i64 k)∧X.cell? ⟨w.heap.size,1,none⟩=some (.string n)∧X.cell? ⟨w.heap.size,2,none⟩=some (.string m)∧X.cell? ⟨w.heap.size,3,none⟩=some (.int .i64 i)∧X.cell? ⟨w.heap.size,4,none⟩=some (.int .i64 d)∧X.cell? ⟨w.heap.size,5,none⟩=some (.slice A s.len c)):=fun X hX=>by
  have h0:=(hX.block w.heap.size hzw).trans hx0
  have hb:=hB0.trans (hX.mono (SF hzw))
  exact⟨hb,hs.keep hb.size fun p hp=>hb.cell hp,Sq X _ 0 _ _ (0,0) h0,Sq X _ 1 _ _ (0,0) h0,Sq X _ 2 _ _ (0,0) h0,Sq X _ 3 _ _ (0,0) h0,Sq X _ 4 _ _ (0,0) h0,Sq X _ 5 _ _ (0,0) h0⟩
 obtain⟨_,hs0,x0,x1,x2,x3,x4,x5⟩:=HC.out W0 (TA _ _)
 have hce:=nL k n m i d A c s W0 hs0 hn hm hst (by omega)
 rw[he]at hce
 have HCE:=Sk hce
 obtain⟨FB,HFB⟩:∃FB,Hid (aB k n m s []=FB):=⟨_,Sk rfl⟩
 rw[HFB.out]
 have HV:=Sk (Sn hk3 (Sn hv3 hc1))
 clear hs hs0 hB0 hx0 hst hce he KJ hk3 hv3 hc1
 go_enter Tryz.func149,Tryz.ntmps149
 go_wp2_with fail
 refine HCE.out.mono ?_
 rintro e w1 ⟨rfl,hb1⟩
 have HB1:=Sk hb1
 clear hb1 x0 x1 x2 x3 x4 x5 hW0 HCE
 have hz1:w.heap.size<w1.heap.size:=SB hzw HB1.out.size
 obtain⟨W2,hW2⟩:∃W2,w1.alloc (.cells #[] 9)=W2:=⟨_,rfl⟩
 have hb2:Below W0.heap.size W0 W2:=by rw[←hW2];exact HB1.out.alloc HB1.out.size _
 obtain⟨_,hs2,y0,y1,y2,y3,y4,y5⟩:=HC.out W2 hb2
 obtain⟨_,_,x0,x1,x2,x3,x4,x5⟩:=HC.out w1 HB1.out
 have hfr:=OD s k n m i d A c [] none 0 [] w1.heap.size 0 W2 hs2 HV.out.1 HV.out.2.1 (dB.nil _) (by rw[←hW2];exact KI w1) (by have:=HV.out.2.2;simp;omega) (by have:=HV.out.2.2;simp;omega)
 rw[HFB.out]at hfr
 have HFR:=Sk hfr
 have HB2:=Sk hb2
 clear hfr hs2 hb2
 go_wp2_with fail
 refine HFR.out.mono ?_
 rintro e w3 ⟨g,c3,LL,rfl,ho,hiff,hle,hb3⟩
 have HR:=Sk (show EG FB w (.returned (.slice (some ⟨g,0,none⟩) LL.length c3)) w3 from⟨_,_,_,rfl,by rw[Tq,hiff];simp,by have:=HV.out.2.2;simp only[List.length_nil]at hle;omega,(HC.out w3 (HB2.out.trans (hb3.mono HB2.out.size))).1⟩)
 clear ho hiff hle hb3
 go_wp2
 go_ret
 exact HR.out
def Dc.Sht (x:Dc):Prop:=(x.n.size≤1000∧x.m.size≤1000)∧x.s.Short∧x.s.count≤1000000∧∀s∈x.names,s.size≤1000
def cdE (x:Dc):Int:=if x.id<0∨999999<x.id then 2 else if x.kind<1∨3<x.kind then 9 else if dnE x.names≠0 then dnE x.names else dH x.pre
theorem vZ (x:Dc)(w:World)(hx:x.Ok w w.heap.size)(hsh:x.Sht) :
    Calls Tryz.prog 148 #[.agg x.cells] w fun e w'=>e=.returned (.int .i64 (cdE x))∧Below w.heap.size w w':=by
  obtain⟨E,HE⟩:∃E,Hid (cdE x=E):=⟨_,Sk rfl⟩
  rw[HE.out]
  obtain⟨id,kind,pub,nA,nc,names,doubt,k,n,m,i,d,A,c,s⟩:=x
  simp only[Dc.cells]
  obtain⟨W0,hW0⟩:∃W0,w.alloc (.cells #[.int .i64 id,.int .i64 kind,.bool pub,.slice nA names.length nc,.bool doubt,.int .i64 k,.string n,.string m,.int .i64 i,.int .i64 d,.slice A s.len c] 46)=W0:=⟨_,rfl⟩
  have hzw:w.heap.size<W0.heap.size:=by subst hW0;simp
  have hB0:Below w.heap.size w W0:=by subst hW0;exact(TA _ _).alloc (SA _) _
  have hx0:W0.heap[w.heap.size]?=some (.cells #[.int .i64 id,.int .i64 kind,.bool pub,.slice nA names.length nc,.bool doubt,.int .i64 k,.string n,.string m,.int .i64 i,.int .i64 d,.slice A s.len c] 46 (0,0)):=by rw[←hW0];exact Sv w _
  obtain⟨NN,HNN⟩:∃NN,Hid (names.length=NN):=⟨_,Sk rfl⟩
  have HC:Hid (∀X,Below W0.heap.size W0 X→Below w.heap.size w X∧s.Sl X X.heap.size A c∧SlS X X.heap.size nA nc names∧X.cell? ⟨w.heap.size,0,none⟩=some (.int .i64 id)∧X.cell? ⟨w.heap.size,1,none⟩=some (.int .i64 kind)∧X.cell? ⟨w.heap.size,3,none⟩=some (.slice nA NN nc)∧X.cell? ⟨w.heap.size,5,none⟩=some (.int .i64 k)∧X.cell? ⟨w.heap.size,6,none⟩=some (.string n)∧X.cell? ⟨w.heap.size,7,none⟩=some (.string m)∧X.cell? ⟨w.heap.size,8,none⟩=some (.int .i64 i)∧X.cell? ⟨w.heap.size,9,none⟩=some (.int .i64 d)∧X.cell? ⟨w.heap.size,10,none⟩=some (.slice A s.len c)):=fun X hX=>by
    have h0:=(hX.block w.heap.size hzw).trans hx0
    rw[HNN.out]at h0
    have hb:=hB0.trans (hX.mono (SF hzw))
    exact⟨hb,hx.2.keep hb.size fun p hp=>hb.cell hp,hx.1.keep hb.size fun p hp=>hb.cell hp,Sq X _ 0 _ _ (0,0) h0,Sq X _ 1 _ _ (0,0) h0,Sq X _ 3 _ _ (0,0) h0,Sq X _ 5 _ _ (0,0) h0,Sq X _ 6 _ _ (0,0) h0,Sq X _ 7 _ _ (0,0) h0,Sq X _ 8 _ _ (0,0) h0,Sq X _ 9 _ _ (0,0) h0,Sq X _ 10 _ _ (0,0) h0⟩
  have hnl:=hx.1.1
  have QS:=hx.1.2.1
  unfold maxLen at QS
  simp only at hnl
  rw[HNN.out]at hnl hW0 ⊢
  have HD:Hid (E=if id<0∨999999<id then 2 else if kind<1∨3<kind then 9 else if dnE names≠0 then dnE names else dH (⟨1,k,n,m,i,d,A,s.len,c⟩::s.pre 2)):=HE.out.symm
  obtain⟨_,_,_,x0,x1,x3,_⟩:=HC.out W0 (TA _ _)
  have HB0:=Sk hB0
  have HSh:=Sk hsh
  clear HE hB0 hx0 hx hsh
  by_cases c1:id<0
  · obtain rfl:E=2:=HD.out.trans (TY (.inl c1))
    go_enter Tryz.func148,Tryz.ntmps148
    go_wp2
    go_ret
    exact⟨rfl,HB0.out⟩
  have c1':decide (id<0)=false:=by simpa using c1
  by_cases c2:999999<id
  · obtain rfl:E=2:=HD.out.trans (TY (.inr c2))
    clear c1
    go_enter Tryz.func148,Tryz.ntmps148
    go_wp2
    go_ret
    exact⟨rfl,HB0.out⟩
  have c2':decide (999999<id)=false:=by simpa using c2
  have HD2:=Sk (HD.out.trans (TW (by omega)))
  clear HD c1 c2
  by_cases k1:kind<1
  · obtain rfl:E=9:=HD2.out.trans (TY (.inl k1))
    go_enter Tryz.func148,Tryz.ntmps148
    go_wp2
    go_ret
    exact⟨rfl,HB0.out⟩
  have k1':decide (kind<1)=false:=by simpa using k1
  by_cases k2:3<kind
  · obtain rfl:E=9:=HD2.out.trans (TY (.inr k2))
    clear k1
    go_enter Tryz.func148,Tryz.ntmps148
    go_wp2
    go_ret
    exact⟨rfl,HB0.out⟩
  have k2':decide (3<kind)=false:=by simpa using k2
  have HD3:=Sk (HD2.out.trans (TW (by omega)))
  clear HD2 k1 k2
  by_cases h13:NN=1∨NN=3
  rotate_left
  · obtain rfl:E=1:=by
      have e1:dnE names=1:=by unfold dnE;rw[HNN.out,TY (by omega)]
      rw[HD3.out,e1];rfl
    have n1:((NN:Int) != 1)=true:=by simp;omega
    have n3:((NN:Int) != 3)=true:=by simp;omega
    clear h13
    go_enter Tryz.func148,Tryz.ntmps148
    go_wp2
    go_ret
    exact⟨rfl,HB0.out⟩
  have HDN:=Sk (show dnE names=if names.all (dnB NN)=true then 0 else 6 by unfold dnE;rw[HNN.out,TW (by omega)])
  have hN3:NN≤3:=by omega
  obtain⟨bq,Hbq⟩:∃bq,Hid ((NN==1)=bq):=⟨_,Sk rfl⟩
  have q1:((NN:Int)==1)=bq:=by rw[←Hbq.out];rcases h13 with h|h <;> subst h <;> rfl
  have q2:((NN:Int) != 1)=!bq:=by rw[←Hbq.out];rcases h13 with h|h <;> subst h <;> rfl
  have q3:((NN:Int) != 3)=bq:=by rw[←Hbq.out];rcases h13 with h|h <;> subst h <;> rfl
  clear h13
  cases bq
  all_goals (
    go_enter Tryz.func148,Tryz.ntmps148
    go_wp2_with fail
    clear x0 x1 hW0
    go_loopg [3] NN (fun g ct wr=>∃j:Nat,g=NN-j∧j≤NN∧ct=.int .i64 j∧(names.take j).all (dnB NN)=true∧Below W0.heap.size W0 wr)
    case atStart=>exact⟨0,rfl,by omega,rfl,by simp,TA _ _⟩
    case round =>
      obtain⟨j,HG,hj,rfl,HA,HB⟩:=hrel
      have HG':=Sk (Sn HG (Sn HA HB))
      clear HG HA HB
      obtain⟨hBw,hsl,hsn,_,_,y3,y5,y6,y7,y8,y9,y10⟩:=HC.out wr HG'.out.2.2
      have HBw:=Sk (Sn hBw hsl)
      clear hBw hsl x3
      by_cases hlt:j<NN
      · have hjl:j<names.length:=by rw[HNN.out];exact hlt
        obtain⟨b,o,rfl,hb,hcell⟩:=hsn.at_ hjl
        have hj2:=Sk (Sn (Sw hjl) (Ul hjl))
        have hstep:(names.take (j+1)).all (dnB NN)=dnB NN names[j]:=by
          rw[TT hjl,List.all_append,HG'.out.2.1]
          simp
        have hno:dnB NN names[j]=false→names.all (dnB NN)=false:=by
          intro h
          rw[List.all_eq_false]
          exact⟨names[j],Ul hjl,by rw[h];simp⟩
        have hsz:=HSh.out.2.2.2 _ (Ul hjl)
        have HS:=Sk (Sn hstep hno)
        clear hstep hno hj2 hsn
        generalize names[j]=v at hcell HS hsz
        clear hjl
        have HNm:=Sk (jq v wr (by omega))
        have HDv:=Sk (show dnB NN v=(aT v||(!(NN==1)&&v.toList.isEmpty))from rfl)
        rw[Hbq.out]at HDv
        cases hv:aT v <;> cases hem:v.toList.isEmpty
        all_goals (
          rw[hv,hem]at HDv
          rw[hv]at HNm
          have QT:(v.toList==[])=v.toList.isEmpty:=by cases v.toList <;> rfl
          rw[hem]at QT
          go_wp2_with fail
          refine HNm.out.mono ?_
          rintro e w3 ⟨rfl,hb3⟩
          have HB3:=Sk (HG'.out.2.2.trans (hb3.mono HG'.out.2.2.size))
          have z3:=(hb3.cell (p:=⟨w.heap.size,3,none⟩) (SB hzw HG'.out.2.2.size)).trans y3
          have zc:=(hb3.cell (p:=⟨b,o+j,none⟩) hb).trans hcell
          clear hb3
          go_wp2
          first
            | (go_roundg (NN-(j+1))
               case measure=>rw[HG'.out.1];omega
               case rel=>exact⟨j+1,rfl,by omega,by go_num,by rw[HS.out.1,HDv.out];rfl,HB3.out⟩)
            | (go_ret
               exact⟨by rw[HD3.out,HDN.out,HS.out.2 (by rw[HDv.out];rfl)];rfl,(HC.out _ HB3.out).1⟩))
      · obtain rfl:j=NN:=by omega
        have HE2:=Sk (show E=dH (⟨1,k,n,m,i,d,A,s.len,c⟩::s.pre 2) by
          have h1:=HG'.out.2.1
          rw[Tm (by rw[HNN.out];omega)]at h1
          rw[HD3.out,HDN.out,h1];rfl)
        have hce:=nL k n m i d A c s wr HBw.out.2 HSh.out.1.1 HSh.out.1.2 HSh.out.2.1 HSh.out.2.2.1
        rw[←HE2.out]at hce
        have HCE:=Sk hce
        clear hce hsn
        go_wp2_with fail
        refine HCE.out.mono ?_
        rintro e w3 ⟨rfl,hb3⟩
        have HB3:=Sk (HC.out w3 (HG'.out.2.2.trans (hb3.mono HG'.out.2.2.size))).1
        clear hb3
        go_wp2
        go_ret
        exact⟨rfl,HB3.out⟩)
theorem Cb (p:Int→ByteArray→Bool)(x:Dc):x.body.vis.any (fun y=>p y.k y.n)=(p x.k x.n||x.s.has p):=by
 rw[Fo.xC]
 simp[Dc.body,Fo.has]
theorem Gc (label:ByteArray)(x:Dc)(w:World)(hx:x.Ok w w.heap.size)(hsh:x.Sht) :
  Calls Tryz.prog 89 #[.string label,.agg x.cells] w fun e w'=>e=.returned (.int .i64 (fG label x))∧Below w.heap.size w w':=by
 obtain⟨E,HE⟩:∃E,Hid (fG label x=E):=⟨_,Sk rfl⟩
 rw[HE.out]
 have HD:Hid (E=if x.id<1∨999999<x.id then 2 else if x.kind≠1∧x.kind≠2∧x.kind≠3 then 9 else if dnE x.names≠0 then dnE x.names else if dH x.pre≠0 then dH x.pre else
   if (kdP 4 x.k x.n||x.s.has (kdP 4))=true then 9 else if aB x.k x.n x.m x.s []=true then 21 else if (rtP label x.k x.n||x.s.has (rtP label))=true then 1 else 0):=by
  have h4:=Cb (kdP 4) x
  have h5:=Cb (rtP label) x
  show E=_
  rw[←HE.out,fG]
  unfold jN
  rw[←h4,←h5]
  rfl
 have HCD:=Sk (show 1≤x.id→(cdE x≠0→E=cdE x)∧(cdE x=0→dH x.pre=0∧E=if (kdP 4 x.k x.n||x.s.has (kdP 4))=true then 9 else if aB x.k x.n x.m x.s []=true then 21 else if (rtP label x.k x.n||x.s.has (rtP label))=true then 1 else 0) by
  intro hid
  have hD:=HD.out
  unfold cdE
  by_cases c2:999999<x.id
  ·rw[TY (.inr c2)]at hD
   rw[TY (.inr c2)]
   exact⟨fun _=>hD,fun h=>by omega⟩
  rw[TW (by omega)]at hD
  rw[TW (by omega)]
  by_cases k1:x.kind<1∨3<x.kind
  ·rw[TY (by omega)]at hD
   rw[TY k1]
   exact⟨fun _=>hD,fun h=>by omega⟩
  rw[TW (by omega)]at hD
  rw[TW k1]
  by_cases d1:dnE x.names=0
  ·rw[TW (by omega)]at hD
   rw[TW (by omega)]
   by_cases e1:dH x.pre=0
   ·rw[TW (by omega)]at hD
    exact⟨fun h=>absurd e1 h,fun _=>⟨e1,hD⟩⟩
   ·rw[TY e1]at hD
    exact⟨fun _=>hD,fun h=>absurd h e1⟩
  ·rw[TY d1]at hD
   rw[TY d1]
   exact⟨fun _=>hD,fun h=>absurd h d1⟩)
 have HID:=Sk (show x.id<1→E=2 from fun h=>HD.out.trans (TY (.inl h)))
 clear HD HE
 have HCk:=Sk (fun X h=>vZ x X h hsh)
 have HX:=Sk (Sn hx hsh)
 clear hx hsh
 obtain⟨id,kind,pub,nA,nc,names,doubt,k,n,m,i,d,A,c,s⟩:=x
 simp only[Dc.cells]at HCk ⊢
 simp only at HCD HID
 obtain⟨W0,hW0⟩:∃W0,w.alloc (.cells #[.int .i64 id,.int .i64 kind,.bool pub,.slice nA names.length nc,.bool doubt,.int .i64 k,.string n,.string m,.int .i64 i,.int .i64 d,.slice A s.len c] 46)=W0:=⟨_,rfl⟩
 have hzw:w.heap.size<W0.heap.size:=by subst hW0;simp
 have hB0:Below w.heap.size w W0:=by subst hW0;exact(TA _ _).alloc (SA _) _
 have hx0:W0.heap[w.heap.size]?=some (.cells #[.int .i64 id,.int .i64 kind,.bool pub,.slice nA names.length nc,.bool doubt,.int .i64 k,.string n,.string m,.int .i64 i,.int .i64 d,.slice A s.len c] 46 (0,0)):=by rw[←hW0];exact Sv w _
 have HC:Hid (∀X,Below W0.heap.size W0 X→Below w.heap.size w X∧s.Sl X X.heap.size A c∧X.cell? ⟨w.heap.size,5,none⟩=some (.int .i64 k)∧X.cell? ⟨w.heap.size,6,none⟩=some (.string n)∧X.cell? ⟨w.heap.size,7,none⟩=some (.string m)∧X.cell? ⟨w.heap.size,8,none⟩=some (.int .i64 i)∧X.cell? ⟨w.heap.size,9,none⟩=some (.int .i64 d)∧X.cell? ⟨w.heap.size,10,none⟩=some (.slice A s.len c)):=fun X hX=>by
  have h0:=(hX.block w.heap.size hzw).trans hx0
  have hb:=hB0.trans (hX.mono (SF hzw))
  exact⟨hb,HX.out.1.2.keep hb.size fun p hp=>hb.cell hp,Sq X _ 5 _ _ (0,0) h0,Sq X _ 6 _ _ (0,0) h0,Sq X _ 7 _ _ (0,0) h0,Sq X _ 8 _ _ (0,0) h0,Sq X _ 9 _ _ (0,0) h0,Sq X _ 10 _ _ (0,0) h0⟩
 have x0:=Sq W0 w.heap.size 0 _ _ (0,0) hx0
 have x1:=Sq W0 w.heap.size 1 _ _ (0,0) hx0
 have x2:=Sq W0 w.heap.size 2 _ _ (0,0) hx0
 have x3:=Sq W0 w.heap.size 3 _ _ (0,0) hx0
 have x4:=Sq W0 w.heap.size 4 _ _ (0,0) hx0
 simp at x0 x1 x2 x3 x4
 obtain⟨_,_,x5,x6,x7,x8,x9,x10⟩:=HC.out W0 (TA _ _)
 have HB0:=Sk hB0
 have KL:=Sk (HCk.out W0 ⟨HX.out.1.1.keep (SF hzw) fun p hp=>hB0.cell hp,HX.out.1.2.keep (SF hzw) fun p hp=>hB0.cell hp⟩)
 clear hx0 hB0 HCk
 by_cases c1:id<1
 ·obtain rfl:E=2:=HID.out c1
  go_enter Tryz.func89,Tryz.ntmps89
  go_wp2
  go_ret
  exact⟨rfl,HB0.out⟩
 have c1':decide (id<1)=false:=by simpa using c1
 have Gd:=Sk (HCD.out (by omega))
 clear HCD HID c1
 obtain⟨E1,HE1⟩:∃E1,Hid (cdE ⟨id,kind,pub,nA,nc,names,doubt,k,n,m,i,d,A,c,s⟩=E1):=⟨_,Sk rfl⟩
 rw[HE1.out]at KL Gd
 clear HE1
 go_enter Tryz.func89,Tryz.ntmps89
 go_wp2_with fail
 refine KL.out.mono ?_
 rintro e w1 ⟨rfl,hb1⟩
 have HB1:=Sk hb1
 clear hb1 x0 x1 x2 x3 x4 x5 x6 x7 x8 x9 x10 hW0 KL
 obtain⟨hBw1,hs1,x5,x6,x7,x8,x9,x10⟩:=HC.out w1 HB1.out
 have KM:=Sk hBw1
 clear hBw1
 by_cases e1:E1=0
 rotate_left
 ·have e1':(E1 != 0)=true:=by simpa using e1
  have HR:=Sk (Gd.out.1 e1)
  clear e1 hs1
  go_wp2
  go_ret
  exact⟨by rw[HR.out];rfl,KM.out⟩
 subst e1
 have HV:=Sk (Gd.out.2 rfl)
 clear Gd
 obtain⟨b4,Hb4⟩:∃q,Hid ((kdP 4 k n||s.has (kdP 4))=q):=⟨_,Sk rfl⟩
 obtain⟨fb,Hfb⟩:∃q,Hid (aB k n m s []=q):=⟨_,Sk rfl⟩
 obtain⟨br,Hbr⟩:∃q,Hid ((rtP label k n||s.has (rtP label))=q):=⟨_,Sk rfl⟩
 have HV2:=Sk HV.out.2
 rw[Hb4.out,Hfb.out,Hbr.out]at HV2
 have HK:=Sk (OE 4 s k n m i d A c w1 hs1)
 rw[Hb4.out]at HK
 clear hs1
 go_wp2_with fail
 refine HK.out.mono ?_
 rintro e w2 ⟨rfl,hb2⟩
 have HB2:=Sk (HB1.out.trans (hb2.mono HB1.out.size))
 clear hb2 x5 x6 x7 x8 x9 x10 HK
 obtain⟨hBw2,hs2,x5,x6,x7,x8,x9,x10⟩:=HC.out w2 HB2.out
 have Gf:=Sk hBw2
 clear hBw2
 cases b4 with
 | true =>
  obtain rfl:E=9:=HV2.out
  clear hs2
  go_wp2
  go_ret
  exact⟨rfl,Gf.out⟩
 | false =>
 have HV3:=Sk (show E=if fb=true then 21 else if br=true then 1 else 0 from HV2.out)
 have HF:=Sk (Gb k n m i d A c s w2 hs2 HX.out.2.1.1 HX.out.2.1.2 HX.out.2.2.1 HV.out.1)
 rw[Hfb.out]at HF
 clear hs2 HV2
 go_wp2_with fail
 refine HF.out.mono ?_
 rintro e w3 ⟨fA,fn,fc,rfl,hfn,hfl,hb3⟩
 have HB3:=Sk (HB2.out.trans (hb3.mono HB2.out.size))
 clear hb3 x5 x6 x7 x8 x9 x10 HF
 obtain⟨hBw3,hs3,x5,x6,x7,x8,x9,x10⟩:=HC.out w3 HB3.out
 have wH:=Sk hBw3
 clear hBw3
 cases fb with
 | true =>
  obtain rfl:E=21:=HV3.out
  have hfp:0<fn:=by
   rcases Nat.eq_zero_or_pos fn with h|h
   ·exact absurd (hfn.1 h) (by simp)
   ·exact h
  have Sg:decide (0<(fn:Int))=true:=by simp;omega
  clear hs3 hfn
  go_wp2
  go_ret
  exact⟨rfl,wH.out⟩
 | false =>
 obtain rfl:fn=0:=hfn.2 rfl
 have HV4:=Sk (show E=if br=true then 1 else 0 from HV3.out)
 have HR:=Sk (OG label s k n m i d A c w3 hs3)
 rw[Hbr.out]at HR
 clear hs3 HV3 hfn hfl
 go_wp2_with fail
 refine HR.out.mono ?_
 rintro e w4 ⟨rfl,hb4⟩
 have OH:=Sk (HC.out w4 (HB3.out.trans (hb4.mono HB3.out.size))).1
 clear hb4
 cases br with
 | true =>
  obtain rfl:E=1:=HV4.out
  go_wp2
  go_ret
  exact⟨rfl,OH.out⟩
 | false =>
  obtain rfl:E=0:=HV4.out
  go_wp2
  go_ret
  exact⟨rfl,OH.out⟩
end Go.Proofs.Q
