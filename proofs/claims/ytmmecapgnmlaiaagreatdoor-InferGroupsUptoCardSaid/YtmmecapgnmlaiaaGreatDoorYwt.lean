/- helper lemmas -/
import Derived.Test.YtmmecapgnmlaiaaGreatDoorZyd
set_option maxRecDepth 100000
set_option maxHeartbeats 16000000
namespace Go.Proofs.Q
open Go.RowKit Go.Proofs Go.Shelf
theorem iL {B:Nat}{w w':World}(h:Below B w w'):Below B w w'.drew:=⟨h.os,h.tape,h.output,h.size,h.block⟩
def eP (l:List (ByteArray×Int))(x:ByteArray×Int):List (ByteArray×Int):=
 match l.dropWhile (fun y=>dD y x)with
 | []=>l.takeWhile (fun y=>dD y x)++[x]
 | y::t=>if eqN y x=true then l else l.takeWhile (fun y=>dD y x)++x::y::t
theorem GK {l:List (ByteArray×Int)}{x:ByteArray×Int}(h:∀y∈l,dD y x=true):eP l x=l++[x]:=by
 have h1:l.dropWhile (fun y=>dD y x)=[]:=by
  induction l with
  | nil=>rfl
  | cons a r ih=>simp only[List.dropWhile_cons,h a (Ta ..),if_true];exact ih (fun y hy=>h y (Tc _ hy))
 have h2:l.takeWhile (fun y=>dD y x)=l:=by
  have:=List.takeWhile_append_dropWhile (p:=fun y=>dD y x) (l:=l)
  rw[h1,TV]at this
  exact this
 unfold eP
 rw[h1,h2]
theorem GQ {l:List (ByteArray×Int)}{x y:ByteArray×Int}{j:Nat}(h:∀z∈l.take j,dD z x=true)(hy:l[j]?=some y)(hl:dD y x=false) :
  eP l x=if eqN y x=true then l else l.take j++x::l.drop j:=by
 obtain⟨hlt,he⟩:=Sy.1 hy
 have hd:l.drop j=y::l.drop (j+1):=by rw[TQ hlt,he]
 have hsp:l=l.take j++y::l.drop (j+1):=by rw[←hd,List.take_append_drop]
 have h1:l.dropWhile (fun y=>dD y x)=y::l.drop (j+1):=by
  conv=>lhs;rw[hsp]
  rw[List.dropWhile_append_of_pos h,List.dropWhile_cons_of_neg (by rw[hl];simp)]
 have h2:l.takeWhile (fun y=>dD y x)=l.take j:=by
  conv=>lhs;rw[hsp]
  rw[List.takeWhile_append_of_pos h,List.takeWhile_cons_of_neg (by rw[hl];simp),TV]
 unfold eP
 rw[h1,h2,hd]
theorem bF:∀(l:List (ByteArray×Int)),∀u∈aL l,u.oneCell'=true
 | [],u,h=>by simp[aL]at h
 | x::r,u,h=>by
  rw[aL,Td]at h
  rcases h with h|h
  ·simp[dY]at h
   rcases h with rfl|rfl <;> rfl
  ·exact bF r u h
theorem fE.news {W:World}{A:Option Addr}{c:Nat}{l:List (ByteArray×Int)}(h:fE W A c l)(j:Nat) :
  (A=none→min j l.length=0)∧∀ad,A=some ad→∀q u,(aL (l.take j))[q]?=some u→W.cell? (ad.add q)=some u:=by
 rcases h.cells with⟨rfl,rfl,rfl⟩|⟨g,rfl,hg,hc1,hc2,hcell⟩
 ·exact⟨(fun _=>by simp),(fun ad e=>by cases e)⟩
 ·refine⟨(fun e=>by cases e),fun ad e q u hu=>?_⟩
  cases e
  rw[←nR,List.getElem?_take]at hu
  split at hu
  ·have:=hcell q u hu
   cases q <;> simpa [Addr.add]using this
  ·cases hu
theorem sP:∀(l:List (ByteArray×Int))(m:Nat),(aL l).drop (m*2)=aL (l.drop m)
 | [],m=>by simp[aL]
 | x::r,0=>by simp
 | x::r,m+1=>by
  have h:=sP r m
  rw[show (m+1)*2=m*2+2 by omega]
  simp only[List.drop_succ_cons,aL,dY,TU,List.nil_append]
  exact h
theorem fE.OX {W:World}{g c:Nat}{l:List (ByteArray×Int)}(h:fE W (some ⟨g,0,none⟩) c l)(j:Nat) :
  ∀ad,(some ⟨g,j*2,none⟩:Option Addr)=some ad→∀q u,(aL (l.drop j))[q]?=some u→W.cell? (ad.add q)=some u:=by
 rcases h.cells with⟨_,h,_⟩|⟨g',hg',hg,hc1,hc2,hcell⟩
 ·cases h
 ·cases hg'
  intro ad e q u hu
  cases e
  rw[←sP,List.getElem?_drop]at hu
  have:=hcell _ u hu
  cases q <;> simpa [Addr.add]using this
theorem jk {W:World}{k:Nat}{xa:ByteArray}{xi:Int}(h:W.heap[k]?=some (.cells #[.string xa,.int .i64 xi] 102 (0,0))) :
  ∀ad,(some ⟨k,0,none⟩:Option Addr)=some ad→∀q u,([.string xa,.int .i64 xi]:List Value)[q]?=some u→W.cell? (ad.add q)=some u:=by
 intro ad e q u hu
 cases e
 exact World.news_of_block (cs:=#[.string xa,.int .i64 xi]) (t:=102) (fr:=(0,0)) h q u hu
theorem ny (W:World)(xa:ByteArray)(xi:Int) :
  ∀ad,(some ⟨W.heap.size,0,none⟩:Option Addr)=some ad→∀q u,([.string xa,.int .i64 xi]:List Value)[q]?=some u→(W.alloc (.cells #[.string xa,.int .i64 xi] 102)).cell? (ad.add q)=some u:=jk (Sv W _)
def ku (R:List (ByteArray×Int))(w:World)(e:Ending)(w':World):Prop:=∃A c,e=.returned (.slice A R.length c)∧fE w' A c R∧Below w.heap.size w w'
theorem Cx (l:List (ByteArray×Int))(xa:ByteArray)(xi:Int)(g c:Nat)(w:World)(hs:fE w (some ⟨g,0,none⟩) c l)(hl:l.length≤1000000) :
  Calls Tryz.prog 216 #[.slice (some ⟨g,0,none⟩) l.length c,.agg #[.string xa,.int .i64 xi]] w (ku (eP l (xa,xi)) w):=by
 obtain⟨i0,hi,hz0,hz1,hz2⟩:=info_parts Tryz.tZ
 obtain⟨n,HN⟩:∃q,Hid (l.length=q):=⟨_,Sk rfl⟩
 obtain⟨R,HR⟩:∃q,Hid (eP l (xa,xi)=q):=⟨_,Sk rfl⟩
 rw[HR.out]
 rw[HN.out]at hl ⊢
 have hcs:=hs.cells
 have hcn:n≤c∧c≤9223372036854775807:=by
  rcases hcs with⟨_,h,_⟩|⟨g',_,_,h1,h2,_⟩
  ·cases h
  ·rw[HN.out]at h1;exact⟨h1,h2⟩
 obtain⟨hc1,hc2⟩:=hcn
 obtain⟨W0,hW0⟩:∃W0,w.alloc (.cells #[.string xa,.int .i64 xi] 102)=W0:=⟨_,rfl⟩
 have hzw:w.heap.size<W0.heap.size:=by subst hW0;simp
 have hB0:Below w.heap.size w W0:=by subst hW0;exact(TA _ _).alloc (SA _) _
 have hx0:W0.heap[w.heap.size]?=some (.cells #[.string xa,.int .i64 xi] 102 (0,0)):=by rw[←hW0];exact Sv w _
 have HC:Hid (∀X,Below W0.heap.size W0 X→Below w.heap.size w X∧fE X (some ⟨g,0,none⟩) c l∧X.cell? ⟨w.heap.size,0,none⟩=some (.string xa)∧X.cell? ⟨w.heap.size,1,none⟩=some (.int .i64 xi)):=fun X hX=>by
  have h0:=(hX.block w.heap.size hzw).trans hx0
  have hb:=hB0.trans (hX.mono (SF hzw))
  exact⟨hb,hs.below hb (SA _),Sq X _ 0 _ _ (0,0) h0,Sq X _ 1 _ _ (0,0) h0⟩
 clear hs hB0 hx0 hcs
 go_enter Tryz.func216,Tryz.ntmps216
 go_wp2_with fail
 clear hW0
 go_loopg [5] n (fun g ct wr=>∃j:Nat,g=n-j∧j≤n∧ct=.int .i64 j∧(∀y∈l.take j,dD y (xa,xi)=true)∧Below W0.heap.size W0 wr)
 case atStart=>exact⟨0,rfl,by omega,rfl,by simp,TA _ _⟩
 case round =>
  obtain⟨j,HG,hj,rfl,HA,HB⟩:=hrel
  have HG':=Sk (Sn HG (Sn HA HB))
  clear HG HA HB
  have hzr:=HG'.out.2.2.size
  obtain⟨hBw,hon,x0,x1⟩:=HC.out wr HG'.out.2.2
  have HBw:=Sk (Sn hBw hon)
  clear hBw hon
  by_cases hlt:j<n
  ·have hjl:j<l.length:=by rw[HN.out];exact hlt
   have hj3:l[j]?=some l[j]:=Sw hjl
   have hcell:∀X,Below W0.heap.size W0 X→X.cell? ⟨g,j*2,none⟩=some (.string l[j].1)∧X.cell? ⟨g,j*2+1,none⟩=some (.int .i64 l[j].2):=fun X hX=>by
    rcases (HC.out X hX).2.1.cells with⟨h1,_⟩|⟨g',hg',_,_,_,hc⟩
    ·subst h1;simp at hjl
    ·cases hg'
     obtain⟨n1,n2⟩:=fC _ l j hj3
     exact⟨hc _ _ n1,hc _ _ n2⟩
   have yY:=Sk hcell
   have HJ:=Sk hj3
   clear hcell hj3
   generalize l[j]=y at yY HJ
   clear hjl
   obtain⟨ya,yi⟩:=y
   simp only at yY
   have HSX:Hid (∀X,Below wr.heap.size wr X→X.cell? ⟨g,j*2,none⟩=some (.string ya)∧X.cell? ⟨g,j*2+1,none⟩=some (.int .i64 yi)∧X.cell? ⟨w.heap.size,0,none⟩=some (.string xa)∧X.cell? ⟨w.heap.size,1,none⟩=some (.int .i64 xi)):=fun X hX=>by
    have hX0:=HG'.out.2.2.trans (hX.mono hzr)
    obtain⟨h1,h2⟩:=yY.out X hX0
    obtain⟨_,_,h3,h4⟩:=HC.out X hX0
    exact⟨h1,h2,h3,h4⟩
   have HLs:=Sk (fun X=>Ev ya xa yi xi X)
   have i0':(0:Int)≤(j:Int):=by omega
   have i1':(j:Int)<(n:Int):=by omega
   have i2':decide ((j:Int)<(n:Int))=true:=by simpa using hlt
   obtain⟨ls,Hls⟩:∃q,Hid (dD (ya,yi) (xa,xi)=q):=⟨_,Sk rfl⟩
   rw[Hls.out]at HLs
   clear x0 x1
   go_wp2_with fail
   go_region_held3 (fun X=>X.cell? ⟨g,j*2,none⟩=some (.string ya)∧X.cell? ⟨g,j*2+1,none⟩=some (.int .i64 yi)∧X.cell? ⟨w.heap.size,0,none⟩=some (.string xa)∧X.cell? ⟨w.heap.size,1,none⟩=some (.int .i64 xi))
    (first|exact HSX.out _ (iL (TA _ _))|exact HSX.out _ hbb)
    (first|(go_at_call 253;refine(HLs.out _).mono ?_;rintro e w3 ⟨rfl,hb3⟩;have hbb:Below wr.heap.size wr w3:=(iL (TA _ wr)).trans (hb3.mono (SA _))))
   all_goals (
    have HB3:=Sk (HG'.out.2.2.trans (hbb.mono hzr))
    clear hb3 hbb
    cases ls with
    | true =>
     have HNx:Hid (∀y∈l.take (j+1),dD y (xa,xi)=true):=fun y hy=>by
      obtain⟨q,hq⟩:=List.mem_iff_getElem?.1 hy
      rw[List.getElem?_take]at hq
      split at hq
      ·by_cases hqj:q=j
       ·subst hqj
        rw[HJ.out]at hq
        cases hq
        exact Hls.out
       ·exact HG'.out.2.1 y (List.mem_iff_getElem?.2 ⟨q,by rw[List.getElem?_take,TY (by omega)];exact hq⟩)
      ·cases hq
     go_wp2
     go_roundg (n-(j+1))
     case measure=>rw[HG'.out.1];omega
     case rel=>exact⟨j+1,rfl,by omega,by go_num,HNx.out,HB3.out⟩
    | false =>
     have HRm:=Sk (show R=if eqN (ya,yi) (xa,xi)=true then l else l.take j++(xa,xi)::l.drop j by rw[←HR.out];exact GQ HG'.out.2.1 HJ.out Hls.out)
     have hE:=zS ya xa yi xi
     obtain⟨y0,y1⟩:=yY.out w3 HB3.out
     obtain⟨hBw3,_,x0,x1⟩:=HC.out w3 HB3.out
     have wH:=Sk hBw3
     clear hBw3
     cases he:eqN (ya,yi) (xa,xi)with
     | true =>
      have HRe:=Sk (show R=l by rw[HRm.out,TY he])
      unfold eqN at he
      simp only at he
      have HF:=Sk (HC.out w3 HB3.out).2.1
      go_wp2_with fail
      go_quiet (fail)
      go_wp2
      go_ret
      exact⟨_,_,by rw[HRe.out,HN.out];rfl,by rw[HRe.out];exact HF.out.below (below_drewN (TA _ _) _) (SA _),below_drewN wH.out _⟩
     | false =>
      have HRe:=Sk (show R=l.take j++(xa,xi)::l.drop j by rw[HRm.out,TW (by rw[he];simp)])
      unfold eqN at he
      simp only at he
      go_wp2_with fail
      go_quiet (fail)
      have hBX:=below_drewN HB3.out nq
      generalize w3.drewN nq=X at hBX ⊢
      clear hE he
      go_wp2_with fail
      have hb0:Below X.heap.size X X.drew:=iL (TA _ _)
      have HKc:Hid (∀Y,Below X.heap.size X Y→Y.cell? ⟨w.heap.size,0,none⟩=some (.string xa)∧Y.cell? ⟨w.heap.size,1,none⟩=some (.int .i64 xi)):=fun Y hY=>by
       obtain⟨_,_,h3,h4⟩:=HC.out Y (hBX.trans (hY.mono hBX.size))
       exact⟨h3,h4⟩
      have HNw:=Sk (fun Y (hY:Below X.heap.size X Y)=>((HC.out Y (hBX.trans (hY.mono hBX.size))).2.1.news j).2)
      have HL1:=Sk (show (aL (l.take j)).length=j*2 by rw[eZ,Um,HN.out];omega)
      have HO1:=Sk (World.ownsRow_lit (base:=X.heap.size) (e:=102) (size:=2) X.drew #[] 0 (SA _) (by simp) rfl)
      have HO2:=Sk (HO1.out.alloc (.cells #[.string xa,.int .i64 xi] 102))
      have ho3:=World.ownsRow_lit (base:=X.heap.size) (e:=102) (size:=2) (X.drew.alloc (.cells #[.string xa,.int .i64 xi] 102)) #[] 0 (by simp) (by simp) rfl
      rw[show (X.drew.alloc (.cells #[.string xa,.int .i64 xi] 102)).heap.size=X.heap.size+1 by simp]at ho3
      have HO3:=Sk ho3
      clear ho3
      have hba:Below X.heap.size X (X.drew.alloc (.cells #[] 102)):=hb0.alloc (SA _) _
      have hbb:Below X.heap.size X ((X.drew.alloc (.cells #[] 102)).alloc (.cells #[.string xa,.int .i64 xi] 102)):=hba.alloc hba.size _
      have hbn:Below X.heap.size X (X.drew.alloc (.cells #[.string xa,.int .i64 xi] 102)):=hb0.alloc (SA _) _
      have hbc:Below X.heap.size X ((X.drew.alloc (.cells #[.string xa,.int .i64 xi] 102)).alloc (.cells #[] 102)):=hbn.alloc hbn.size _
      have HNa:=Sk (HNw.out _ hba)
      have HNb:=Sk (HNw.out _ hbb)
      have HNc:=Sk (HNw.out _ hbc)
      have HGa:=Sk (fun w1 (hg:(X.drew.alloc (.cells #[] 102)).grownBy w1 (Value.slice (some ⟨X.drew.heap.size,0,none⟩) 0 0).ownBlock)=>hba.grown hg hba.size (fun q hq=>(HO1.out.lt q hq).1))
      have HGb:=Sk (fun w1 (hg:((X.drew.alloc (.cells #[] 102)).alloc (.cells #[.string xa,.int .i64 xi] 102)).grownBy w1 (Value.slice (some ⟨X.drew.heap.size,0,none⟩) 0 0).ownBlock)=>Sn (hbb.grown hg hbb.size (fun q hq=>(HO1.out.lt q hq).1)) (show w1.heap[X.heap.size+1]?=some (.cells #[.string xa,.int .i64 xi] 102 (0,0))from (hg.block (X.heap.size+1) (by simp) (fun h=>by have:=TL h;change X.heap.size+1=X.heap.size at this;omega)).trans (by have:=Sv (X.drew.alloc (.cells #[] 102)) (.cells #[.string xa,.int .i64 xi] 102);rwa [show (X.drew.alloc (.cells #[] 102)).heap.size=X.heap.size+1 by simp]at this)))
      have HGc:=Sk (fun w1 (hg:((X.drew.alloc (.cells #[.string xa,.int .i64 xi] 102)).alloc (.cells #[] 102)).grownBy w1 (Value.slice (some ⟨X.heap.size+1,0,none⟩) 0 0).ownBlock)=>Sn (hbc.grown hg hbc.size (fun q hq=>(HO3.out.lt q hq).1)) (show w1.heap[X.heap.size]?=some (.cells #[.string xa,.int .i64 xi] 102 (0,0))from (hg.block X.heap.size (by simp;omega) (fun h=>by have:=TL h;change X.heap.size=X.heap.size+1 at this;omega)).trans (by rw[Tt _ _ _ (by simp)];exact Sv X.drew _)))
      have m1:0+j≤maxLen:=by unfold maxLen;omega
      have m2:(0+j)*24≤140737488355328:=by omega
      have m3:0+j+1≤maxLen:=by unfold maxLen;omega
      have m4:(0+j+1)*24≤140737488355328:=by omega
      have HM:=Sk (Sn m1 (Sn m2 (Sn m3 m4)))
      have i3':(j:Int)≤(c:Int):=by omega
      have i4':j≤c:=by omega
      have HBB:=Sk (Sn hba (Sn hbb hbc))
      have mI:=Sk (Sn hb0 hbn)
      clear m1 m2 m3 m4 hba hbb hbc hb0 hbn
      have HL3:=Sk (show (aL (l.drop j)).length=(n-j)*2 by rw[eZ,List.length_drop,HN.out])
      have HNd:=Sk (fun Y (hY:Below X.heap.size X Y)=>((HC.out Y (hBX.trans (hY.mono hBX.size))).2.1.OX j))
      have i5':j<c:=by omega
      have i6':(j:Int)<(c:Int):=by omega
      have m5:0+j+1+(n-j)≤maxLen:=by unfold maxLen;omega
      have m6:(0+j+1+(n-j))*24≤140737488355328:=by omega
      have HM2:=Sk (Sn m5 m6)
      clear m5 m6
      go_region_held3 (fun Y=>Y.cell? ⟨w.heap.size,0,none⟩=some (.string xa)∧Y.cell? ⟨w.heap.size,1,none⟩=some (.int .i64 xi))
       (first|exact HKc.out _ hb2|exact HKc.out _ hb1|exact HKc.out _ (hb1.alloc hb1.size _)|exact HKc.out _ mI.out.1|exact HKc.out _ mI.out.2|exact HKc.out _ HBB.out.1|exact HKc.out _ HBB.out.2.1|exact HKc.out _ HBB.out.2.2)
       (first
        | (refine aP _ rfl (.tmp 34) (.tmp 37) 99 rfl X.heap.size 102 i0 _ 2 24 Tryz.underlying99 hi hz0 hz1 hz2 rfl (Nat.succ_pos 1) _ 0 [] rfl HO1.out (some ⟨g,0,none⟩) j c (aL (l.take j)) rfl HL1.out (fun h=>nomatch h) HNa.out (bF _) HM.out.1 HM.out.2.1 HBB.out.1.size ?_;intro v1 w1 hown1 hg1;have hb1:=HGa.out w1 hg1;have iw:True:=trivial)
        | (refine aP _ rfl (.tmp 34) (.tmp 37) 99 rfl X.heap.size 102 i0 _ 2 24 Tryz.underlying99 hi hz0 hz1 hz2 rfl (Nat.succ_pos 1) _ 0 [] rfl HO2.out (some ⟨g,0,none⟩) j c (aL (l.take j)) rfl HL1.out (fun h=>nomatch h) HNb.out (bF _) HM.out.1 HM.out.2.1 HBB.out.2.1.size ?_;intro v1 w1 hown1 hg1;obtain⟨hb1,hD⟩:=HGb.out w1 hg1;have o8:True:=trivial)
        | (refine aP _ rfl (.tmp 34) (.tmp 37) 99 rfl X.heap.size 102 i0 _ 2 24 Tryz.underlying99 hi hz0 hz1 hz2 rfl (Nat.succ_pos 1) _ 0 [] rfl HO3.out (some ⟨g,0,none⟩) j c (aL (l.take j)) rfl HL1.out (fun h=>nomatch h) HNc.out (bF _) HM.out.1 HM.out.2.1 HBB.out.2.2.size ?_;intro v1 w1 hown1 hg1;obtain⟨hb1,hD⟩:=HGc.out w1 hg1;have uf:True:=trivial)
        | (have _t:=iw;refine aP _ rfl (.tmp 38) (.tmp 40) 99 rfl X.heap.size 102 i0 _ 2 24 Tryz.underlying99 hi hz0 hz1 hz2 rfl (Nat.succ_pos 1) v1 _ _ rfl (hown1.alloc _) (some ⟨w1.heap.size,0,none⟩) 1 1 [.string xa,.int .i64 xi] rfl rfl (fun h=>nomatch h) (ny _ _ _) (bF [(xa,xi)]) HM.out.2.2.1 HM.out.2.2.2 (hb1.alloc hb1.size _).size ?_;intro v2 w2 hown2 hg2;have hb2:=(hb1.alloc hb1.size (.cells #[.string xa,.int .i64 xi] 102)).grown hg2 (hb1.alloc hb1.size _).size (fun q hq=>(hown1.lt q hq).1))
        | (have _t:=o8;refine aP _ rfl (.tmp 38) (.tmp 40) 99 rfl X.heap.size 102 i0 _ 2 24 Tryz.underlying99 hi hz0 hz1 hz2 rfl (Nat.succ_pos 1) v1 _ _ rfl hown1 (some ⟨X.heap.size+1,0,none⟩) 1 1 [.string xa,.int .i64 xi] rfl rfl (fun h=>nomatch h) (jk hD) (bF [(xa,xi)]) HM.out.2.2.1 HM.out.2.2.2 hb1.size ?_;intro v2 w2 hown2 hg2;have hb2:=hb1.grown hg2 hb1.size (fun q hq=>(hown1.lt q hq).1))
        | (have _t:=uf;refine aP _ rfl (.tmp 38) (.tmp 40) 99 rfl X.heap.size 102 i0 _ 2 24 Tryz.underlying99 hi hz0 hz1 hz2 rfl (Nat.succ_pos 1) v1 _ _ rfl hown1 (some ⟨X.heap.size,0,none⟩) 1 1 [.string xa,.int .i64 xi] rfl rfl (fun h=>nomatch h) (jk hD) (bF [(xa,xi)]) HM.out.2.2.1 HM.out.2.2.2 hb1.size ?_;intro v2 w2 hown2 hg2;have hb2:=hb1.grown hg2 hb1.size (fun q hq=>(hown1.lt q hq).1)))
      all_goals (
       go_wp2_with (at_builtin;refine aC _ rfl (.tmp 42) (.tmp 45) 99 rfl X.heap.size 102 i0 _ 2 24 Tryz.underlying99 hi hz0 hz1 hz2 rfl (Nat.succ_pos 1) v2 _ _ rfl hown2 (some ⟨g,j*2,none⟩) (n-j) (c-j) (aL (l.drop j)) rfl HL3.out (fun h=>nomatch h) (HNd.out _ hb2) (bF _) HM2.out.1 HM2.out.2 hb2.size ?_;intro v3 w5 hown3 hg3)
       go_ret
       have hb5:=hb2.grown hg3 hb2.size (fun q hq=>(hown2.lt q hq).1)
       have hf:w5.ownsRow X.heap.size 102 2 v3 R.length (aL R):=by
        have e1:R.length=0+j+1+(n-j):=by have:=HN.out;rw[HRe.out];simp;omega
        rw[e1,HRe.out,lD]
        simpa [aL,dY]using hown3
       obtain⟨A',c',rfl,ho⟩:=fE.of hf
       exact⟨A',c',rfl,ho,(HC.out _ (hBX.trans (hb5.mono hBX.size))).1⟩))
  ·obtain rfl:j=n:=by omega
   have HTk:=Sk (show l.take j=l from Tm (by rw[HN.out];exact SA _))
   have HRe:=Sk (show R=l++[(xa,xi)] by rw[←HR.out];exact GK (by have:=HG'.out.2.1;rw[HTk.out]at this;exact this))
   have i2':decide ((j:Int)<(j:Int))=false:=by simp
   go_wp2_with fail
   go_quiet (fail)
   have ug:=below_drewN HG'.out.2.2 nq
   generalize wr.drewN nq=X0 at ug ⊢
   go_wp2_with fail
   go_quiet (fail)
   have hBX:=below_drewN ug nq
   generalize X0.drewN nq=X at hBX ⊢
   clear x0 x1 ug
   go_wp2_with fail
   rcases Nat.lt_or_ge j c with hjc|hjc
   ·have i5':j<c:=hjc
    have i6':(j:Int)<(c:Int):=by omega
    have hb0:Below X.heap.size X X.drew:=iL (TA _ _)
    have HKc:Hid (∀Y,Below X.heap.size X Y→Y.cell? ⟨w.heap.size,0,none⟩=some (.string xa)∧Y.cell? ⟨w.heap.size,1,none⟩=some (.int .i64 xi)):=fun Y hY=>by
     obtain⟨_,_,h3,h4⟩:=HC.out Y (hBX.trans (hY.mono hBX.size))
     exact⟨h3,h4⟩
    have HNw:=Sk (fun Y (hY:Below X.heap.size X Y)=>((HC.out Y (hBX.trans (hY.mono hBX.size))).2.1.news j).2)
    have HL1:=Sk (show (aL (l.take j)).length=j*2 by rw[eZ,Um,HN.out];omega)
    have HO1:=Sk (World.ownsRow_lit (base:=X.heap.size) (e:=102) (size:=2) X.drew #[] 0 (SA _) (by simp) rfl)
    have HO2:=Sk (HO1.out.alloc (.cells #[.string xa,.int .i64 xi] 102))
    have ho3:=World.ownsRow_lit (base:=X.heap.size) (e:=102) (size:=2) (X.drew.alloc (.cells #[.string xa,.int .i64 xi] 102)) #[] 0 (by simp) (by simp) rfl
    rw[show (X.drew.alloc (.cells #[.string xa,.int .i64 xi] 102)).heap.size=X.heap.size+1 by simp]at ho3
    have HO3:=Sk ho3
    clear ho3
    have hba:Below X.heap.size X (X.drew.alloc (.cells #[] 102)):=hb0.alloc (SA _) _
    have hbb:Below X.heap.size X ((X.drew.alloc (.cells #[] 102)).alloc (.cells #[.string xa,.int .i64 xi] 102)):=hba.alloc hba.size _
    have hbn:Below X.heap.size X (X.drew.alloc (.cells #[.string xa,.int .i64 xi] 102)):=hb0.alloc (SA _) _
    have hbc:Below X.heap.size X ((X.drew.alloc (.cells #[.string xa,.int .i64 xi] 102)).alloc (.cells #[] 102)):=hbn.alloc hbn.size _
    have HNa:=Sk (HNw.out _ hba)
    have HNb:=Sk (HNw.out _ hbb)
    have HNc:=Sk (HNw.out _ hbc)
    have HGa:=Sk (fun w1 (hg:(X.drew.alloc (.cells #[] 102)).grownBy w1 (Value.slice (some ⟨X.drew.heap.size,0,none⟩) 0 0).ownBlock)=>hba.grown hg hba.size (fun q hq=>(HO1.out.lt q hq).1))
    have HGb:=Sk (fun w1 (hg:((X.drew.alloc (.cells #[] 102)).alloc (.cells #[.string xa,.int .i64 xi] 102)).grownBy w1 (Value.slice (some ⟨X.drew.heap.size,0,none⟩) 0 0).ownBlock)=>Sn (hbb.grown hg hbb.size (fun q hq=>(HO1.out.lt q hq).1)) (show w1.heap[X.heap.size+1]?=some (.cells #[.string xa,.int .i64 xi] 102 (0,0))from (hg.block (X.heap.size+1) (by simp) (fun h=>by have:=TL h;change X.heap.size+1=X.heap.size at this;omega)).trans (by have:=Sv (X.drew.alloc (.cells #[] 102)) (.cells #[.string xa,.int .i64 xi] 102);rwa [show (X.drew.alloc (.cells #[] 102)).heap.size=X.heap.size+1 by simp]at this)))
    have HGc:=Sk (fun w1 (hg:((X.drew.alloc (.cells #[.string xa,.int .i64 xi] 102)).alloc (.cells #[] 102)).grownBy w1 (Value.slice (some ⟨X.heap.size+1,0,none⟩) 0 0).ownBlock)=>Sn (hbc.grown hg hbc.size (fun q hq=>(HO3.out.lt q hq).1)) (show w1.heap[X.heap.size]?=some (.cells #[.string xa,.int .i64 xi] 102 (0,0))from (hg.block X.heap.size (by simp;omega) (fun h=>by have:=TL h;change X.heap.size=X.heap.size+1 at this;omega)).trans (by rw[Tt _ _ _ (by simp)];exact Sv X.drew _)))
    have m1:0+j≤maxLen:=by unfold maxLen;omega
    have m2:(0+j)*24≤140737488355328:=by omega
    have m3:0+j+1≤maxLen:=by unfold maxLen;omega
    have m4:(0+j+1)*24≤140737488355328:=by omega
    have HM:=Sk (Sn m1 (Sn m2 (Sn m3 m4)))
    have i3':(j:Int)≤(c:Int):=by omega
    have i4':j≤c:=by omega
    have HBB:=Sk (Sn hba (Sn hbb hbc))
    have mI:=Sk (Sn hb0 hbn)
    clear m1 m2 m3 m4 hba hbb hbc hb0 hbn
    have m5:0+j+1≤maxLen:=by unfold maxLen;omega
    have m6:(0+j+1)*24≤140737488355328:=by omega
    have HM2:=Sk (Sn m5 m6)
    clear m5 m6
    go_region_held3 (fun Y=>Y.cell? ⟨w.heap.size,0,none⟩=some (.string xa)∧Y.cell? ⟨w.heap.size,1,none⟩=some (.int .i64 xi))
     (first|exact HKc.out _ hb2|exact HKc.out _ hb1|exact HKc.out _ (hb1.alloc hb1.size _)|exact HKc.out _ mI.out.1|exact HKc.out _ mI.out.2|exact HKc.out _ HBB.out.1|exact HKc.out _ HBB.out.2.1|exact HKc.out _ HBB.out.2.2)
     (first
      | (refine aP _ rfl (.tmp 34) (.tmp 37) 99 rfl X.heap.size 102 i0 _ 2 24 Tryz.underlying99 hi hz0 hz1 hz2 rfl (Nat.succ_pos 1) _ 0 [] rfl HO1.out (some ⟨g,0,none⟩) j c (aL (l.take j)) rfl HL1.out (fun h=>nomatch h) HNa.out (bF _) HM.out.1 HM.out.2.1 HBB.out.1.size ?_;intro v1 w1 hown1 hg1;have hb1:=HGa.out w1 hg1;have iw:True:=trivial)
      | (refine aP _ rfl (.tmp 34) (.tmp 37) 99 rfl X.heap.size 102 i0 _ 2 24 Tryz.underlying99 hi hz0 hz1 hz2 rfl (Nat.succ_pos 1) _ 0 [] rfl HO2.out (some ⟨g,0,none⟩) j c (aL (l.take j)) rfl HL1.out (fun h=>nomatch h) HNb.out (bF _) HM.out.1 HM.out.2.1 HBB.out.2.1.size ?_;intro v1 w1 hown1 hg1;obtain⟨hb1,hD⟩:=HGb.out w1 hg1;have o8:True:=trivial)
      | (refine aP _ rfl (.tmp 34) (.tmp 37) 99 rfl X.heap.size 102 i0 _ 2 24 Tryz.underlying99 hi hz0 hz1 hz2 rfl (Nat.succ_pos 1) _ 0 [] rfl HO3.out (some ⟨g,0,none⟩) j c (aL (l.take j)) rfl HL1.out (fun h=>nomatch h) HNc.out (bF _) HM.out.1 HM.out.2.1 HBB.out.2.2.size ?_;intro v1 w1 hown1 hg1;obtain⟨hb1,hD⟩:=HGc.out w1 hg1;have uf:True:=trivial)
      | (have _t:=iw;refine aP _ rfl (.tmp 38) (.tmp 40) 99 rfl X.heap.size 102 i0 _ 2 24 Tryz.underlying99 hi hz0 hz1 hz2 rfl (Nat.succ_pos 1) v1 _ _ rfl (hown1.alloc _) (some ⟨w1.heap.size,0,none⟩) 1 1 [.string xa,.int .i64 xi] rfl rfl (fun h=>nomatch h) (ny _ _ _) (bF [(xa,xi)]) HM.out.2.2.1 HM.out.2.2.2 (hb1.alloc hb1.size _).size ?_;intro v2 w2 hown2 hg2;have hb2:=(hb1.alloc hb1.size (.cells #[.string xa,.int .i64 xi] 102)).grown hg2 (hb1.alloc hb1.size _).size (fun q hq=>(hown1.lt q hq).1))
      | (have _t:=o8;refine aP _ rfl (.tmp 38) (.tmp 40) 99 rfl X.heap.size 102 i0 _ 2 24 Tryz.underlying99 hi hz0 hz1 hz2 rfl (Nat.succ_pos 1) v1 _ _ rfl hown1 (some ⟨X.heap.size+1,0,none⟩) 1 1 [.string xa,.int .i64 xi] rfl rfl (fun h=>nomatch h) (jk hD) (bF [(xa,xi)]) HM.out.2.2.1 HM.out.2.2.2 hb1.size ?_;intro v2 w2 hown2 hg2;have hb2:=hb1.grown hg2 hb1.size (fun q hq=>(hown1.lt q hq).1))
      | (have _t:=uf;refine aP _ rfl (.tmp 38) (.tmp 40) 99 rfl X.heap.size 102 i0 _ 2 24 Tryz.underlying99 hi hz0 hz1 hz2 rfl (Nat.succ_pos 1) v1 _ _ rfl hown1 (some ⟨X.heap.size,0,none⟩) 1 1 [.string xa,.int .i64 xi] rfl rfl (fun h=>nomatch h) (jk hD) (bF [(xa,xi)]) HM.out.2.2.1 HM.out.2.2.2 hb1.size ?_;intro v2 w2 hown2 hg2;have hb2:=hb1.grown hg2 hb1.size (fun q hq=>(hown1.lt q hq).1)))
    all_goals (
     go_wp2_with (at_builtin;refine aC _ rfl (.tmp 42) (.tmp 45) 99 rfl X.heap.size 102 i0 _ 2 24 Tryz.underlying99 hi hz0 hz1 hz2 rfl (Nat.succ_pos 1) v2 _ _ rfl hown2 _ _ _ [] rfl (by simp) (fun h=>nomatch h) (fun _ _ q u hu=>by simp at hu) (fun u hu=>by simp at hu) (by have:=HM2.out.1;simpa using this) (by have:=HM2.out.2;simpa using this) hb2.size ?_;intro v3 w5 hown3 hg3)
     go_ret
     have hb5:=hb2.grown hg3 hb2.size (fun q hq=>(hown2.lt q hq).1)
     have hf:w5.ownsRow X.heap.size 102 2 v3 R.length (aL R):=by
      have e1:R.length=0+j+1:=by have:=HN.out;rw[HRe.out];simp;omega
      rw[e1,HRe.out,lD,←HTk.out]
      simpa [aL,dY]using hown3
     obtain⟨A',c',rfl,ho⟩:=fE.of hf
     exact⟨A',c',rfl,ho,(HC.out _ (hBX.trans (hb5.mono hBX.size))).1⟩)
   ·obtain rfl:c=j:=by omega
    have hb0:Below X.heap.size X X.drew:=iL (TA _ _)
    have HKc:Hid (∀Y,Below X.heap.size X Y→Y.cell? ⟨w.heap.size,0,none⟩=some (.string xa)∧Y.cell? ⟨w.heap.size,1,none⟩=some (.int .i64 xi)):=fun Y hY=>by
     obtain⟨_,_,h3,h4⟩:=HC.out Y (hBX.trans (hY.mono hBX.size))
     exact⟨h3,h4⟩
    have HNw:=Sk (fun Y (hY:Below X.heap.size X Y)=>((HC.out Y (hBX.trans (hY.mono hBX.size))).2.1.news c).2)
    have HL1:=Sk (show (aL (l.take c)).length=c*2 by rw[eZ,Um,HN.out];omega)
    have HO1:=Sk (World.ownsRow_lit (base:=X.heap.size) (e:=102) (size:=2) X.drew #[] 0 (SA _) (by simp) rfl)
    have HO2:=Sk (HO1.out.alloc (.cells #[.string xa,.int .i64 xi] 102))
    have ho3:=World.ownsRow_lit (base:=X.heap.size) (e:=102) (size:=2) (X.drew.alloc (.cells #[.string xa,.int .i64 xi] 102)) #[] 0 (by simp) (by simp) rfl
    rw[show (X.drew.alloc (.cells #[.string xa,.int .i64 xi] 102)).heap.size=X.heap.size+1 by simp]at ho3
    have HO3:=Sk ho3
    clear ho3
    have hba:Below X.heap.size X (X.drew.alloc (.cells #[] 102)):=hb0.alloc (SA _) _
    have hbb:Below X.heap.size X ((X.drew.alloc (.cells #[] 102)).alloc (.cells #[.string xa,.int .i64 xi] 102)):=hba.alloc hba.size _
    have hbn:Below X.heap.size X (X.drew.alloc (.cells #[.string xa,.int .i64 xi] 102)):=hb0.alloc (SA _) _
    have hbc:Below X.heap.size X ((X.drew.alloc (.cells #[.string xa,.int .i64 xi] 102)).alloc (.cells #[] 102)):=hbn.alloc hbn.size _
    have HNa:=Sk (HNw.out _ hba)
    have HNb:=Sk (HNw.out _ hbb)
    have HNc:=Sk (HNw.out _ hbc)
    have HGa:=Sk (fun w1 (hg:(X.drew.alloc (.cells #[] 102)).grownBy w1 (Value.slice (some ⟨X.drew.heap.size,0,none⟩) 0 0).ownBlock)=>hba.grown hg hba.size (fun q hq=>(HO1.out.lt q hq).1))
    have HGb:=Sk (fun w1 (hg:((X.drew.alloc (.cells #[] 102)).alloc (.cells #[.string xa,.int .i64 xi] 102)).grownBy w1 (Value.slice (some ⟨X.drew.heap.size,0,none⟩) 0 0).ownBlock)=>Sn (hbb.grown hg hbb.size (fun q hq=>(HO1.out.lt q hq).1)) (show w1.heap[X.heap.size+1]?=some (.cells #[.string xa,.int .i64 xi] 102 (0,0))from (hg.block (X.heap.size+1) (by simp) (fun h=>by have:=TL h;change X.heap.size+1=X.heap.size at this;omega)).trans (by have:=Sv (X.drew.alloc (.cells #[] 102)) (.cells #[.string xa,.int .i64 xi] 102);rwa [show (X.drew.alloc (.cells #[] 102)).heap.size=X.heap.size+1 by simp]at this)))
    have HGc:=Sk (fun w1 (hg:((X.drew.alloc (.cells #[.string xa,.int .i64 xi] 102)).alloc (.cells #[] 102)).grownBy w1 (Value.slice (some ⟨X.heap.size+1,0,none⟩) 0 0).ownBlock)=>Sn (hbc.grown hg hbc.size (fun q hq=>(HO3.out.lt q hq).1)) (show w1.heap[X.heap.size]?=some (.cells #[.string xa,.int .i64 xi] 102 (0,0))from (hg.block X.heap.size (by simp;omega) (fun h=>by have:=TL h;change X.heap.size=X.heap.size+1 at this;omega)).trans (by rw[Tt _ _ _ (by simp)];exact Sv X.drew _)))
    have m1:0+c≤maxLen:=by unfold maxLen;omega
    have m2:(0+c)*24≤140737488355328:=by omega
    have m3:0+c+1≤maxLen:=by unfold maxLen;omega
    have m4:(0+c+1)*24≤140737488355328:=by omega
    have HM:=Sk (Sn m1 (Sn m2 (Sn m3 m4)))
    have i3':(c:Int)≤(c:Int):=by omega
    have i4':c≤c:=by omega
    have HBB:=Sk (Sn hba (Sn hbb hbc))
    have mI:=Sk (Sn hb0 hbn)
    clear m1 m2 m3 m4 hba hbb hbc hb0 hbn
    have m5:0+c+1≤maxLen:=by unfold maxLen;omega
    have m6:(0+c+1)*24≤140737488355328:=by omega
    have HM2:=Sk (Sn m5 m6)
    clear m5 m6
    go_region_held3 (fun Y=>Y.cell? ⟨w.heap.size,0,none⟩=some (.string xa)∧Y.cell? ⟨w.heap.size,1,none⟩=some (.int .i64 xi))
     (first|exact HKc.out _ hb2|exact HKc.out _ hb1|exact HKc.out _ (hb1.alloc hb1.size _)|exact HKc.out _ mI.out.1|exact HKc.out _ mI.out.2|exact HKc.out _ HBB.out.1|exact HKc.out _ HBB.out.2.1|exact HKc.out _ HBB.out.2.2)
     (first
      | (refine aP _ rfl (.tmp 34) (.tmp 37) 99 rfl X.heap.size 102 i0 _ 2 24 Tryz.underlying99 hi hz0 hz1 hz2 rfl (Nat.succ_pos 1) _ 0 [] rfl HO1.out (some ⟨g,0,none⟩) c c (aL (l.take c)) rfl HL1.out (fun h=>nomatch h) HNa.out (bF _) HM.out.1 HM.out.2.1 HBB.out.1.size ?_;intro v1 w1 hown1 hg1;have hb1:=HGa.out w1 hg1;have iw:True:=trivial)
      | (refine aP _ rfl (.tmp 34) (.tmp 37) 99 rfl X.heap.size 102 i0 _ 2 24 Tryz.underlying99 hi hz0 hz1 hz2 rfl (Nat.succ_pos 1) _ 0 [] rfl HO2.out (some ⟨g,0,none⟩) c c (aL (l.take c)) rfl HL1.out (fun h=>nomatch h) HNb.out (bF _) HM.out.1 HM.out.2.1 HBB.out.2.1.size ?_;intro v1 w1 hown1 hg1;obtain⟨hb1,hD⟩:=HGb.out w1 hg1;have o8:True:=trivial)
      | (refine aP _ rfl (.tmp 34) (.tmp 37) 99 rfl X.heap.size 102 i0 _ 2 24 Tryz.underlying99 hi hz0 hz1 hz2 rfl (Nat.succ_pos 1) _ 0 [] rfl HO3.out (some ⟨g,0,none⟩) c c (aL (l.take c)) rfl HL1.out (fun h=>nomatch h) HNc.out (bF _) HM.out.1 HM.out.2.1 HBB.out.2.2.size ?_;intro v1 w1 hown1 hg1;obtain⟨hb1,hD⟩:=HGc.out w1 hg1;have uf:True:=trivial)
      | (have _t:=iw;refine aP _ rfl (.tmp 38) (.tmp 40) 99 rfl X.heap.size 102 i0 _ 2 24 Tryz.underlying99 hi hz0 hz1 hz2 rfl (Nat.succ_pos 1) v1 _ _ rfl (hown1.alloc _) (some ⟨w1.heap.size,0,none⟩) 1 1 [.string xa,.int .i64 xi] rfl rfl (fun h=>nomatch h) (ny _ _ _) (bF [(xa,xi)]) HM.out.2.2.1 HM.out.2.2.2 (hb1.alloc hb1.size _).size ?_;intro v2 w2 hown2 hg2;have hb2:=(hb1.alloc hb1.size (.cells #[.string xa,.int .i64 xi] 102)).grown hg2 (hb1.alloc hb1.size _).size (fun q hq=>(hown1.lt q hq).1))
      | (have _t:=o8;refine aP _ rfl (.tmp 38) (.tmp 40) 99 rfl X.heap.size 102 i0 _ 2 24 Tryz.underlying99 hi hz0 hz1 hz2 rfl (Nat.succ_pos 1) v1 _ _ rfl hown1 (some ⟨X.heap.size+1,0,none⟩) 1 1 [.string xa,.int .i64 xi] rfl rfl (fun h=>nomatch h) (jk hD) (bF [(xa,xi)]) HM.out.2.2.1 HM.out.2.2.2 hb1.size ?_;intro v2 w2 hown2 hg2;have hb2:=hb1.grown hg2 hb1.size (fun q hq=>(hown1.lt q hq).1))
      | (have _t:=uf;refine aP _ rfl (.tmp 38) (.tmp 40) 99 rfl X.heap.size 102 i0 _ 2 24 Tryz.underlying99 hi hz0 hz1 hz2 rfl (Nat.succ_pos 1) v1 _ _ rfl hown1 (some ⟨X.heap.size,0,none⟩) 1 1 [.string xa,.int .i64 xi] rfl rfl (fun h=>nomatch h) (jk hD) (bF [(xa,xi)]) HM.out.2.2.1 HM.out.2.2.2 hb1.size ?_;intro v2 w2 hown2 hg2;have hb2:=hb1.grown hg2 hb1.size (fun q hq=>(hown1.lt q hq).1)))
    all_goals (
     go_wp2_with (at_builtin;refine aC _ rfl (.tmp 42) (.tmp 45) 99 rfl X.heap.size 102 i0 _ 2 24 Tryz.underlying99 hi hz0 hz1 hz2 rfl (Nat.succ_pos 1) v2 _ _ rfl hown2 _ _ _ [] rfl (by simp) (fun h=>nomatch h) (fun _ _ q u hu=>by simp at hu) (fun u hu=>by simp at hu) (by have:=HM2.out.1;simpa using this) (by have:=HM2.out.2;simpa using this) hb2.size ?_;intro v3 w5 hown3 hg3)
     go_ret
     have hb5:=hb2.grown hg3 hb2.size (fun q hq=>(hown2.lt q hq).1)
     have hf:w5.ownsRow X.heap.size 102 2 v3 R.length (aL R):=by
      have e1:R.length=0+c+1:=by have:=HN.out;rw[HRe.out];simp;omega
      rw[e1,HRe.out,lD,←HTk.out]
      simpa [aL,dY]using hown3
     obtain⟨A',c',rfl,ho⟩:=fE.of hf
     exact⟨A',c',rfl,ho,(HC.out _ (hBX.trans (hb5.mono hBX.size))).1⟩)
end Go.Proofs.Q
