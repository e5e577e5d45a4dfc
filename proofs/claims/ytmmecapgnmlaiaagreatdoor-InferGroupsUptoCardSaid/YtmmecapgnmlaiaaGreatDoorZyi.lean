/- helper lemmas -/
import Derived.Test.YtmmecapgnmlaiaaGreatDoorZyh
set_option maxRecDepth 100000
set_option maxHeartbeats 16000000
namespace Go.Proofs.Q
open Go.RowKit Go.Proofs Go.Shelf
theorem below_drewN' {B:Nat}{w w':World}(h:Below B w w')(n:Nat):Below B w (w'.drewN n):=⟨h.os,h.tape,h.output,h.size,h.block⟩
theorem wh (l:List ByteArray)(A:Option Addr)(c:Nat)(w:World)(hs:SlS w w.heap.size A c l)(hz:∀s∈l,s.size≤1000) :
  Calls Tryz.prog 87 #[.slice A l.length c] w fun e w'=>e=.returned (.int .i64 (jc l))∧Below w.heap.size w w':=by
 have hc1:=hs.1
 have hc2:=hs.2.1
 unfold maxLen at hc2
 have HS:=Sk (Sn hs hz)
 clear hs hz
 obtain⟨E,HE⟩:∃E,Hid (E=jc l):=⟨_,Sk rfl⟩
 rw[←HE.out]
 obtain⟨n,HN⟩:∃n,Hid (l.length=n):=⟨_,Sk rfl⟩
 rw[HN.out]at hc1 ⊢
 by_cases h1:20<n
 ·have HR:=Sk (HE.out.trans (show jc l=4 by unfold jc;rw[HN.out,TY h1]))
  have h1':decide (20<(n:Int))=true:=by simp;omega
  go_enter Tryz.func87,Tryz.ntmps87
  go_wp2
  go_ret
  exact⟨by rw[HR.out];rfl,TA _ _⟩
 ·have HE1:=Sk (HE.out.trans (show jc l=dN none l by unfold jc;rw[HN.out,TW h1]))
  have h1':decide (20<(n:Int))=false:=by simp;omega
  clear HE
  go_enter Tryz.func87,Tryz.ntmps87
  go_wp2_with fail
  go_loopg [3] n (fun g ct wr=>∃j:Nat,g=n-j∧j≤n∧ct=.int .i64 j∧E=dN (gM l j) (l.drop j)∧Below w.heap.size w wr)
  case atStart=>exact⟨0,rfl,by omega,rfl,by rw[HE1.out];rfl,TA _ _⟩
  case round =>
   obtain⟨j,HG,hj,rfl,HA,HB⟩:=hrel
   have HG':=Sk (Sn HG HB)
   have HA':=Sk HA
   clear HG HA HB
   by_cases hlt:j<n
   ·have hjl:j<l.length:=by rw[HN.out];exact hlt
    obtain⟨b,o,rfl,hb,hcell⟩:=HS.out.1.2.2 (by intro e;subst e;simp at hjl)
    have hj2:l[j]?=some l[j]:=Sw hjl
    have hcj:wr.cell? ⟨b,o+j,none⟩=some (.string l[j]):=(HG'.out.2.cell (p:=⟨b,o+j,none⟩) hb).trans (hcell j _ hj2)
    have hdrop:l.drop j=l[j]::l.drop (j+1):=TQ hjl
    have vg:gM l (j+1)=some l[j]:=hj2
    rw[hdrop]at HA'
    have HP:=Sk vg
    have HC:=Sk hcell
    have hsz:=HS.out.2 _ (Ul hjl)
    clear vg hdrop hj2 hcell
    generalize l[j]=u at hcj HP HA' hsz
    clear hjl
    have HL:=Sk (jB u wr (by omega))
    cases hu:bN u with
    | false =>
     have HR:=Sk (show E=6 by rw[HA'.out];cases gM l j <;> simp[dN,hu])
     rw[hu]at HL
     go_wp2_with fail
     refine HL.out.mono ?_
     rintro e w3 ⟨rfl,rfl⟩
     go_wp2
     go_ret
     exact⟨by rw[HR.out];rfl,HG'.out.2⟩
    | true =>
     rw[hu]at HL
     cases j with
     | zero =>
      rw[Nat.add_zero]at hcj
      have HR:=Sk (HA'.out.trans (show dN (gM l 0) (u::l.drop (0+1))=dN (some u) (l.drop (0+1)) by simp[gM,dN,hu]))
      have i0:(0:Int)<(n:Int):=by omega
      go_wp2_with fail
      refine HL.out.mono ?_
      rintro e w3 ⟨rfl,rfl⟩
      go_wp2_with fail
      go_quiet (fail)
      go_wp2
      go_roundg (n-(0+1))
      case measure=>rw[HG'.out.1];omega
      case rel=>exact⟨0+1,rfl,by omega,by go_num,by rw[HR.out,HP.out],below_drewN' HG'.out.2 _⟩
     | succ j =>
      have hkl:j<l.length:=by rw[HN.out];omega
      have hk2:l[j]?=some l[j]:=Sw hkl
      have hck:wr.cell? ⟨b,o+j,none⟩=some (.string l[j]):=(HG'.out.2.cell (p:=⟨b,o+j,none⟩) hb).trans (HC.out j _ hk2)
      have HQ:=Sk (show gM l (j+1)=some l[j]from hk2)
      have hp1:(0:Int)<(j:Int)+1:=by omega
      have hw1:IntKind.i64.wrap ((j:Int)+1-1)=j:=by rw[show ((j:Int)+1-1)=j by omega];exact IntWalk.i64_in _ (by omega)
      have hj0:(0:Int)≤(j:Int):=by omega
      have hj1:(j:Int)<(n:Int):=by omega
      have hj2:(0:Int)≤(j:Int)+1:=by omega
      have hj3:(j:Int)+1<(n:Int):=by omega
      clear hk2
      generalize l[j]=q at hck HQ
      clear hkl
      rw[HQ.out]at HA'
      cases hq:Op.bytesLess q.toList u.toList
      ·have HR:=Sk (HA'.out.trans (show dN (some q) (u::l.drop (j+1+1))=10 by simp[dN,hu,hq]))
       go_wp2_with fail
       refine HL.out.mono ?_
       rintro e w3 ⟨rfl,rfl⟩
       go_wp2_with fail
       go_quiet (fail)
       go_wp2
       go_ret
       exact⟨by rw[HR.out];rfl,below_drewN' HG'.out.2 _⟩
      ·have HR:=Sk (HA'.out.trans (show dN (some q) (u::l.drop (j+1+1))=dN (some u) (l.drop (j+1+1)) by simp[dN,hu,hq]))
       go_wp2_with fail
       refine HL.out.mono ?_
       rintro e w3 ⟨rfl,rfl⟩
       go_wp2_with fail
       go_quiet (fail)
       go_wp2
       go_roundg (n-(j+1+1))
       case measure=>rw[HG'.out.1];omega
       case rel=>exact⟨j+1+1,rfl,by omega,by go_num,by rw[HR.out,HP.out],below_drewN' HG'.out.2 _⟩
   ·have HR:=Sk (HA'.out.trans (show dN (gM l j) (l.drop j)=0 by rw[List.drop_of_length_le (by rw[HN.out];omega)];cases gM l j <;> rfl))
    have hjn:n≤j:=by omega
    go_wp2
    go_ret
    exact⟨by rw[HR.out];rfl,HG'.out.2⟩
theorem tL (s:ByteArray)(w:World)(hs:s.size≤9223372036854775807):Calls Tryz.prog 147 #[.string s] w fun e w'=>e=.returned (.string (aU s))∧w=w':=by
 have HL:=Sk (jB s w hs)
 cases hl:bN s with
 | false =>
  have H:=Sk (show aU s=⟨#[]⟩ by simp[aU,hl])
  rw[hl]at HL
  go_enter Tryz.func147,Tryz.ntmps147
  go_wp2_with fail
  refine HL.out.mono ?_
  rintro e w1 ⟨rfl,rfl⟩
  go_wp2
  go_ret
  exact⟨by rw[H.out];rfl,rfl⟩
 | true =>
  have hs9:s.size≤90:=by
   simp only[bN,Ue,decide_eq_true_eq]at hl
   exact hl.1
  have H:=Sk (show aU s=s.extract (dR s.data.toList 47 s.size+1).toNat s.size by simp[aU,hl])
  rw[hl]at HL
  clear hl hs
  go_enter Tryz.func147,Tryz.ntmps147
  go_wp2_with fail
  refine HL.out.mono ?_
  rintro e w1 ⟨rfl,rfl⟩
  go_wp2_with fail
  go_loop [3] (fun i=>∃k:Nat,k≤s.size∧i=.int .i64 k∧dR s.data.toList 47 s.size=dR s.data.toList 47 k) (fun i=>(intOf i).toNat)
  case atStart=>exact⟨s.size,SA _,rfl,rfl⟩
  case round =>
   obtain⟨k,hk,rfl,hL⟩:=hrel
   have HLa:=Sk hL
   clear hL
   cases k with
   | zero =>
    have HR:=Sk (show aU s=s by rw[H.out,HLa.out];simp[dR])
    go_wp2
    go_ret
    exact⟨by rw[HR.out];rfl,rfl⟩
   | succ k =>
    have hlt:k<s.size:=by omega
    have HN:=Sk (gQ s k hlt)
    have hp1:(0:Int)<(k:Int)+1:=by omega
    by_cases hc:s[k]=47
    ·have HR:=Sk (show aU s=s.extract (k+1) s.size by
      rw[H.out,HLa.out,dR,TY (by rw[HN.out,hc])]
      rw[show ((k:Int)+1).toNat=k+1 by omega])
     have c1:((s[k].toNat:Int) != 47)=false:=by rw[hc];rfl
     have c3:s[k].toNat=47:=by rw[hc];rfl
     clear hc
     go_wp2
     go_ret
     exact⟨by rw[HR.out];rfl,rfl⟩
    ·have hne:s[k].toNat≠47:=fun h=>hc (UInt8.toNat_inj.1 h)
     have c1:((s[k].toNat:Int) != 47)=true:=by simp;omega
     have HR:=Sk (show dR s.data.toList 47 s.size=dR s.data.toList 47 k by
      rw[HLa.out,dR,TW (by rw[HN.out];simpa using hc)])
     clear hc
     go_wp2
     go_round
     case rel=>exact⟨k,by omega,by go_num,HR.out⟩
     case measure=>simp[intOf]
theorem Dr (s:ByteArray):(aU s).size≤s.size:=by
 unfold aU
 split
 ·simp
 ·show 0≤s.size
  omega
theorem yM (s:ByteArray)(w:World)(n:Nat)(hs:s.size≤9223372036854775807):Calls Tryz.prog 147 #[.string s] (w.drewN n) fun e w'=>e=.returned (.string (aU s))∧w'=w.drewN n:=
 (tL s _ hs).mono fun _ _ ⟨h1,h2⟩=>⟨h1,h2.symm⟩
theorem Gg (label:ByteArray)(l:List ByteArray)(A:Option Addr)(c:Nat)(w:World)(hs:SlS w w.heap.size A c l)(hz:∀s∈l,s.size≤1000) :
  Calls Tryz.prog 88 #[.string label,.slice A l.length c] w fun e w'=>e=.returned (.int .i64 (fM label l l.length 0))∧Below w.heap.size w w':=by
 have hc1:=hs.1
 have hc2:=hs.2.1
 unfold maxLen at hc2
 have HS:=Sk (Sn hs hz)
 clear hs hz
 obtain⟨n,HN⟩:∃n,Hid (l.length=n):=⟨_,Sk rfl⟩
 rw[HN.out]at hc1 ⊢
 obtain⟨E,HE⟩:∃E,Hid (fM label l n 0=E):=⟨_,Sk rfl⟩
 rw[HE.out]
 go_enter Tryz.func88,Tryz.ntmps88
 go_wp2_with fail
 go_loopg [5,6] n (fun g ct _ wr=>∃j:Nat,g=n-j∧j≤n∧ct=.int .i64 j∧fM label l (n-j) j=E∧Below w.heap.size w wr)
 case atStart=>exact⟨0,rfl,by omega,rfl,HE.out,TA _ _⟩
 case round =>
  obtain⟨j,HG,hj,rfl,HA,HB⟩:=hrel
  have HG':=Sk (Sn HG (Sn HA HB))
  clear HG HA HB
  by_cases hlt:j<n
  ·have hjl:j<l.length:=by rw[HN.out];exact hlt
   obtain⟨b,o,rfl,hb,hcell⟩:=HS.out.1.2.2 (by intro e;subst e;simp at hjl)
   have hj2:l[j]?=some l[j]:=Sw hjl
   have hcj:wr.cell? ⟨b,o+j,none⟩=some (.string l[j]):=(HG'.out.2.2.cell (p:=⟨b,o+j,none⟩) hb).trans (hcell j _ hj2)
   have hd:l.getD j ⟨#[]⟩=l[j]:=by simp[List.getD,hj2]
   have HU:=Sk (show jF label l j=if aT (aU l[j])=false then 6 else if ((l.take j).any fun v=>(aU v).toList==(aU l[j]).toList)=true then 7 else if (l[j].toList==label.toList)=true then 23 else 0 by
    unfold jF
    rw[hd])
   have HE2:=Sk (show (if jF label l j=0 then fM label l (n-(j+1)) (j+1)else jF label l j)=E by
    rw[←HG'.out.2.1,show n-j=(n-(j+1))+1 by omega,fM])
   have HC:=Sk hcell
   have hsz:=HS.out.2 _ (Ul hjl)
   have HJ2:=Sk hj2
   clear hd hj2 hcell
   generalize l[j]=u at hcj HU hsz HJ2
   clear hjl
   have HAl:=Sk (tL u wr (by omega))
   have has:=Dr u
   have HNm:=Sk (jq (aU u) wr (by omega))
   clear has
   cases hn:aT (aU u)with
   | false =>
    have HR:=Sk (show E=6 by rw[←HE2.out,HU.out,TY hn];rfl)
    rw[hn]at HNm
    go_wp2_with fail
    refine HAl.out.mono ?_
    rintro e w1 ⟨rfl,rfl⟩
    go_wp2_with fail
    refine HNm.out.mono ?_
    rintro e w2 ⟨rfl,hb2⟩
    have HB2:=Sk (HG'.out.2.2.trans (hb2.mono HG'.out.2.2.size))
    clear hb2
    go_wp2
    go_ret
    exact⟨by rw[HR.out];rfl,HB2.out⟩
   | true =>
    have HU2:=Sk (show jF label l j=if ((l.take j).any fun v=>(aU v).toList==(aU u).toList)=true then 7 else if (u.toList==label.toList)=true then 23 else 0 by rw[HU.out,TW (by simp[hn])])
    rw[hn]at HNm
    clear HU hn
    go_wp2_with fail
    refine HAl.out.mono ?_
    rintro e w1 ⟨rfl,rfl⟩
    go_wp2_with fail
    refine HNm.out.mono ?_
    rintro e w2 ⟨rfl,hb2⟩
    have HB2:=Sk (HG'.out.2.2.trans (hb2.mono HG'.out.2.2.size))
    clear hb2 hcj
    go_wp2_with fail
    go_loopg [6] j (fun g ct wq=>∃i:Nat,g=j-i∧i≤j∧ct=.int .i64 i∧((l.take i).any fun v=>(aU v).toList==(aU u).toList)=false∧Below w.heap.size w wq)
    case atStart=>exact⟨0,rfl,by omega,rfl,by simp,HB2.out⟩
    case round =>
     obtain⟨i,HGi,hij,rfl,HAi,HBi⟩:=hrel
     have oq:=Sk (Sn HGi (Sn HAi HBi))
     clear HGi HAi HBi
     have hju:=(oq.out.2.2.cell (p:=⟨b,o+j,none⟩) hb).trans (HC.out j u HJ2.out)
     by_cases hilt:i<j
     ·have hil:i<l.length:=by rw[HN.out];omega
      have hi2:l[i]?=some l[i]:=Sw hil
      have hci:=(oq.out.2.2.cell (p:=⟨b,o+i,none⟩) hb).trans (HC.out i _ hi2)
      have HT:=Sk (show ((l.take (i+1)).any fun v=>(aU v).toList==(aU u).toList)=((aU l[i]).toList==(aU u).toList) by
       rw[TT hil,List.any_append,oq.out.2.1]
       simp)
      have HY:=Sk (show ((aU l[i]).toList==(aU u).toList)=true→((l.take j).any fun v=>(aU v).toList==(aU u).toList)=true from fun h=>TF.2 ⟨l[i],List.mem_take_iff_getElem.2 ⟨i,by omega,rfl⟩,h⟩)
      have hsv:=HS.out.2 _ (Ul hil)
      clear hi2
      generalize l[i]=v at hci HT HY hsv
      clear hil
      have HAv:=Sk (fun W q=>yM v W q (by omega))
      have HAu:=Sk (fun W q=>yM u W q (by omega))
      have i0:(0:Int)≤(i:Int):=by omega
      have i1:(i:Int)<(n:Int):=by omega
      have j0:(0:Int)≤(j:Int):=by omega
      have j1:(j:Int)<(n:Int):=by omega
      have ij:(i:Int)<(j:Int):=by omega
      obtain⟨av,Hav⟩:∃q,Hid (aU v=q):=⟨_,Sk rfl⟩
      obtain⟨au,Hau⟩:∃q,Hid (aU u=q):=⟨_,Sk rfl⟩
      rw[Hav.out,Hau.out]at HT HY
      rw[Hav.out]at HAv
      rw[Hau.out]at HAu
      cases heq:av.toList==au.toList with
      | true =>
       have HR:=Sk (show E=7 by rw[←HE2.out,HU2.out,Hau.out,TY (HY.out heq)];rfl)
       go_wp2_with fail
       go_quiet ((first|(go_at_call 147;with_reducible exact Calls.quiet_of_same (HAv.out _ _))|(go_at_call 147;with_reducible exact Calls.quiet_of_same (HAu.out _ _))))
       go_wp2
       go_ret
       exact⟨by rw[HR.out];rfl,below_drewN' oq.out.2.2 _⟩
      | false =>
       go_wp2_with fail
       go_quiet ((first|(go_at_call 147;with_reducible exact Calls.quiet_of_same (HAv.out _ _))|(go_at_call 147;with_reducible exact Calls.quiet_of_same (HAu.out _ _))))
       go_wp2
       go_roundg (j-(i+1))
       case measure=>rw[oq.out.1];omega
       case rel=>exact⟨i+1,rfl,by omega,by go_num,by rw[Hau.out,HT.out,heq],below_drewN' oq.out.2.2 _⟩
     ·obtain rfl:i=j:=by omega
      cases hlb:u.toList==label.toList with
      | true =>
       have HR:=Sk (show E=23 by rw[←HE2.out,HU2.out,oq.out.2.1,hlb];rfl)
       go_wp2
       go_ret
       exact⟨by rw[HR.out];rfl,oq.out.2.2⟩
      | false =>
       have HR:=Sk (show fM label l (n-(i+1)) (i+1)=E by rw[←HE2.out,HU2.out,oq.out.2.1,hlb];rfl)
       go_wp2
       go_roundg (n-(i+1))
       case measure=>rw[HG'.out.1];omega
       case rel=>exact⟨i+1,rfl,by omega,by go_num,HR.out,oq.out.2.2⟩
  ·have HR:=Sk (show E=0 by rw[←HG'.out.2.1,show n-j=0 by omega];rfl)
   have hjn:n≤j:=by omega
   go_wp2
   go_ret
   exact⟨by rw[HR.out];rfl,HG'.out.2.2⟩
theorem ou (w:World):Below w.heap.size w w.drew:=⟨rfl,rfl,rfl,SA _,fun _ _=>rfl⟩
def KN (label:ByteArray)(uses:List ByteArray)(decls:List Dc):Prop:=label.size≤1000∧(∀s∈uses,s.size≤1000)∧∀x∈decls,x.Sht
theorem Dt (label:ByteArray)(uses:List ByteArray)(uA:Option Addr)(uc:Nat)(decls:List Dc)(dA:Option Addr)(dc:Nat)(w:World)(hu:SlS w w.heap.size uA uc uses)(hd:SlD w w.heap.size dA dc decls)(hms:KN label uses decls) :
  Calls Tryz.prog 46 #[.agg #[.string label,.slice uA uses.length uc,.slice dA decls.length dc]] w fun e w'=>e=.returned (.int .i64 (bY label uses decls))∧Below w.heap.size w w':=by
 obtain⟨E,HE⟩:∃E,Hid (bY label uses decls=E):=⟨_,Sk rfl⟩
 rw[HE.out]
 obtain⟨N,HN⟩:∃Q,Hid (decls.length=Q):=⟨_,Sk rfl⟩
 obtain⟨NU,HNU⟩:∃Q,Hid (uses.length=Q):=⟨_,Sk rfl⟩
 obtain⟨W0,hW0⟩:∃W0,w.alloc (.cells #[.string label,.slice uA NU uc,.slice dA N dc] 25)=W0:=⟨_,rfl⟩
 have hzw:w.heap.size<W0.heap.size:=by subst hW0;simp
 have hB0:Below w.heap.size w W0:=by subst hW0;exact(TA _ _).alloc (SA _) _
 have hx0:W0.heap[w.heap.size]?=some (.cells #[.string label,.slice uA NU uc,.slice dA N dc] 25 (0,0)):=by rw[←hW0];exact Sv w _
 have HC:Hid (∀X,Below W0.heap.size W0 X→Below w.heap.size w X∧w.heap.size<X.heap.size∧SlS X X.heap.size uA uc uses∧SlD X w.heap.size dA dc decls∧X.cell? ⟨w.heap.size,0,none⟩=some (.string label)∧X.cell? ⟨w.heap.size,1,none⟩=some (.slice uA NU uc)∧X.cell? ⟨w.heap.size,2,none⟩=some (.slice dA N dc)):=fun X hX=>by
  have h0:=(hX.block w.heap.size hzw).trans hx0
  have hb:=hB0.trans (hX.mono (SF hzw))
  exact⟨hb,SB hzw hX.size,hu.keep hb.size (fun p hp=>hb.cell hp),hd.keep (SA _) (fun p hp=>hb.cell hp),Sq X _ 0 _ _ (0,0) h0,Sq X _ 1 _ _ (0,0) h0,Sq X _ 2 _ _ (0,0) h0⟩
 have hul:=hu.1
 have JF:=hu.2.1
 have hdl:=hd.1
 have JG:=hd.2.1
 unfold maxLen at JF JG
 rw[HNU.out]at hul ⊢
 rw[HN.out]at hdl ⊢
 have HMS:=Sk hms
 obtain⟨E1,HE1⟩:∃E1,Hid (jc uses=E1):=⟨_,Sk rfl⟩
 obtain⟨E2,HE2⟩:∃E2,Hid (fM label uses NU 0=E2):=⟨_,Sk rfl⟩
 obtain⟨bl,Hbl⟩:∃bl,Hid (bN label=bl):=⟨_,Sk rfl⟩
 have HD:Hid (E=if bl=false then 6 else if E1≠0 then E1 else if E2≠0 then E2 else if 100<N then 4 else cO label none decls):=by
  show E=_
  rw[←HE.out,bY,Hbl.out,HE1.out,HNU.out,HE2.out,HN.out]
 have HL:=Sk (jB label W0 (by have:=hms.1;omega))
 rw[Hbl.out]at HL
 obtain⟨_,_,_,_,x0,x1,x2⟩:=HC.out W0 (TA _ _)
 have HB0:=Sk hB0
 clear HE hu hd hB0 hx0 hms
 cases bl with
 | false =>
  obtain rfl:E=6:=HD.out
  go_enter Tryz.func46,Tryz.ntmps46
  go_wp2_with fail
  refine HL.out.mono ?_
  rintro e w1 ⟨rfl,rfl⟩
  go_wp2
  go_ret
  exact⟨rfl,HB0.out⟩
 | true =>
 have HD2:=Sk (show E=if E1≠0 then E1 else if E2≠0 then E2 else if 100<N then 4 else cO label none decls from HD.out)
 have hcu:=wh uses uA uc W0 (HC.out W0 (TA _ _)).2.2.1 HMS.out.2.1
 rw[HNU.out,HE1.out]at hcu
 have HCU:=Sk hcu
 clear hcu HD
 go_enter Tryz.func46,Tryz.ntmps46
 go_wp2_with fail
 refine HL.out.mono ?_
 rintro e w1 ⟨rfl,rfl⟩
 go_wp2_with fail
 refine HCU.out.mono ?_
 rintro e w1 ⟨rfl,hb1⟩
 have HB1:=Sk hb1
 clear hb1 x0 x1 x2 hW0 HCU HL
 obtain⟨hBw1,_,hs1,_,x0,x1,x2⟩:=HC.out w1 HB1.out
 have KM:=Sk hBw1
 clear hBw1
 by_cases e1:E1=0
 rotate_left
 ·have e1':(E1 != 0)=true:=by simpa using e1
  have HR:=Sk (HD2.out.trans (TY e1))
  clear e1 hs1
  go_wp2
  go_ret
  exact⟨by rw[HR.out];rfl,KM.out⟩
 subst e1
 have HD3:=Sk (HD2.out.trans (TW (by simp)))
 have hus:=Gg label uses uA uc w1 hs1 HMS.out.2.1
 rw[HNU.out,HE2.out]at hus
 have HUS:=Sk hus
 clear hus hs1 HD2
 go_wp2_with fail
 refine HUS.out.mono ?_
 rintro e w2 ⟨rfl,hb2⟩
 have HB2:=Sk (HB1.out.trans (hb2.mono HB1.out.size))
 clear hb2 x0 x1 x2 HUS
 obtain⟨hBw2,_,_,_,x0,x1,x2⟩:=HC.out w2 HB2.out
 have Gf:=Sk hBw2
 clear hBw2
 by_cases e2:E2=0
 rotate_left
 ·have e2':(E2 != 0)=true:=by simpa using e2
  have HR:=Sk (HD3.out.trans (TY e2))
  clear e2
  go_wp2
  go_ret
  exact⟨by rw[HR.out];rfl,Gf.out⟩
 subst e2
 have HD4:=Sk (HD3.out.trans (TW (by simp)))
 clear HD3
 by_cases hlong:100<N
 ·have HR:=Sk (HD4.out.trans (TY hlong))
  have hl':decide (100<(N:Int))=true:=by simp;omega
  go_wp2
  go_ret
  exact⟨by rw[HR.out];rfl,Gf.out⟩
 have HD5:=Sk (HD4.out.trans (TW hlong))
 have hl':decide (100<(N:Int))=false:=by simp;omega
 clear HD4
 go_wp2_with fail
 clear x0 x1 x2
 go_loopg [5,6] N (fun g ct _ wr=>∃j:Nat,g=N-j∧j≤N∧ct=.int .i64 j∧E=cO label (fZ decls j) (decls.drop j)∧Below W0.heap.size W0 wr)
 case atStart=>exact⟨0,rfl,by omega,rfl,HD5.out,HB2.out⟩
 case round =>
  obtain⟨j,HG,hj,rfl,HA,HB⟩:=hrel
  have HG':=Sk (Sn HG (Sn HA HB))
  clear HG HA HB
  obtain⟨hBw,hzr,_,hdr,z0,_,z2⟩:=HC.out wr HG'.out.2.2
  have HBw:=Sk hBw
  clear hBw
  by_cases hlt:j<N
  ·have hjl:j<decls.length:=by rw[HN.out];exact hlt
   have hj3:decls[j]?=some decls[j]:=Sw hjl
   obtain⟨b,o,rfl,hb,hall⟩:=hdr.2.2 (by intro e;subst e;simp at hjl)
   obtain⟨hcs,hok⟩:=hall j _ hj3
   have HDR:=Sk (show decls.drop j=decls[j]::decls.drop (j+1)from TQ hjl)
   have HPV:=Sk (show fZ decls (j+1)=some decls[j].id by simp[fZ,hj3])
   have JJ:=Sk hall
   have hsh:=HMS.out.2.2 _ (Ul hjl)
   clear hall hj3 hdr
   generalize decls[j]=x at hcs hok HDR HPV hsh
   clear hjl
   have HX:=Sk (Sn hcs (Sn hok hsh))
   obtain⟨Ed,HEd⟩:∃Ed,Hid (fG label x=Ed):=⟨_,Sk rfl⟩
   have HDC:Hid (∀X,Below wr.heap.size wr X→Calls Tryz.prog 89 #[.string label,.agg x.cells] X fun e w'=>e=.returned (.int .i64 Ed)∧Below X.heap.size X w'):=fun X hX=>by
    have h:=Gc label x X ⟨HX.out.2.1.1.keep (by have:=hX.size;omega) (fun p hp=>hX.cell (by omega)),HX.out.2.1.2.keep (by have:=hX.size;omega) (fun p hp=>hX.cell (by omega))⟩ HX.out.2.2
    rwa [HEd.out]at h
   clear hcs hok hsh
   obtain⟨xid,bD,bS,xnA,xnc,aK,aY,xk,xn,xm,xi,xd,xA,xc,xs⟩:=x
   simp only[Dc.cells]at HDC
   have HSX:Hid (∀X,Below wr.heap.size wr X→X.cell? ⟨w.heap.size,0,none⟩=some (.string label)∧X.cell? ⟨w.heap.size,2,none⟩=some (.slice (some ⟨b,o,none⟩) N dc) ∧
     X.cell? ⟨b,o+j*11,none⟩=some (.int .i64 xid)∧X.cell? ⟨b,o+j*11+1,none⟩=some (.int .i64 bD)∧X.cell? ⟨b,o+j*11+2,none⟩=some (.bool bS)∧X.cell? ⟨b,o+j*11+3,none⟩=some (.slice xnA aK.length xnc)∧X.cell? ⟨b,o+j*11+4,none⟩=some (.bool aY)∧X.cell? ⟨b,o+j*11+5,none⟩=some (.int .i64 xk)∧X.cell? ⟨b,o+j*11+6,none⟩=some (.string xn)∧X.cell? ⟨b,o+j*11+7,none⟩=some (.string xm)∧X.cell? ⟨b,o+j*11+8,none⟩=some (.int .i64 xi)∧X.cell? ⟨b,o+j*11+9,none⟩=some (.int .i64 xd)∧X.cell? ⟨b,o+j*11+10,none⟩=some (.slice xA xs.len xc)):=fun X hX=>by
    have q:∀(t:Nat) (v:Value),wr.cell? ⟨b,t,none⟩=some v→X.cell? ⟨b,t,none⟩=some v:=fun t v h=>(hX.cell (p:=⟨b,t,none⟩) (by simp;omega)).trans h
    exact⟨(hX.cell (p:=⟨w.heap.size,0,none⟩) hzr).trans z0,(hX.cell (p:=⟨w.heap.size,2,none⟩) hzr).trans z2,q _ _ (HX.out.1 0 _ rfl),q _ _ (HX.out.1 1 _ rfl),q _ _ (HX.out.1 2 _ rfl),q _ _ (HX.out.1 3 _ rfl),q _ _ (HX.out.1 4 _ rfl),q _ _ (HX.out.1 5 _ rfl),q _ _ (HX.out.1 6 _ rfl),q _ _ (HX.out.1 7 _ rfl),q _ _ (HX.out.1 8 _ rfl),q _ _ (HX.out.1 9 _ rfl),q _ _ (HX.out.1 10 _ rfl)⟩
   have hl0:(0:Int)≤(j:Int):=by omega
   have hl1:(j:Int)<(N:Int):=by omega
   go_wp2_with fail
   go_region_held3 (fun X=>X.cell? ⟨w.heap.size,0,none⟩=some (.string label)∧X.cell? ⟨w.heap.size,2,none⟩=some (.slice (some ⟨b,o,none⟩) N dc) ∧
     X.cell? ⟨b,o+j*11,none⟩=some (.int .i64 xid)∧X.cell? ⟨b,o+j*11+1,none⟩=some (.int .i64 bD)∧X.cell? ⟨b,o+j*11+2,none⟩=some (.bool bS)∧X.cell? ⟨b,o+j*11+3,none⟩=some (.slice xnA aK.length xnc)∧X.cell? ⟨b,o+j*11+4,none⟩=some (.bool aY)∧X.cell? ⟨b,o+j*11+5,none⟩=some (.int .i64 xk)∧X.cell? ⟨b,o+j*11+6,none⟩=some (.string xn)∧X.cell? ⟨b,o+j*11+7,none⟩=some (.string xm)∧X.cell? ⟨b,o+j*11+8,none⟩=some (.int .i64 xi)∧X.cell? ⟨b,o+j*11+9,none⟩=some (.int .i64 xd)∧X.cell? ⟨b,o+j*11+10,none⟩=some (.slice xA xs.len xc))
    (first|exact HSX.out _ (ou _)|exact HSX.out _ hbb)
    (first|(go_at_call 89;refine(HDC.out _ (ou _)).mono ?_;rintro e w3 ⟨rfl,hb3⟩;have hbb:Below wr.heap.size wr w3:=(ou wr).trans (hb3.mono (SA _))))
   all_goals (
    have HB3:=Sk (Sn (HG'.out.2.2.trans (hbb.mono HG'.out.2.2.size)) hbb)
    clear hb3 hbb z0 z2
    obtain⟨z0,z2,d0,_⟩:=HSX.out _ HB3.out.2
    have wH:=Sk (HC.out _ HB3.out.1).1
    have HAE:=Sk HG'.out.2.1
    rw[HDR.out]at HAE
    by_cases ed:Ed=0
    rotate_left
    ·have ed':(Ed != 0)=true:=by simpa using ed
     have HR:=Sk (show E=Ed by rw[HAE.out];cases fZ decls j <;> simp[cO,HEd.out,ed])
     clear ed
     go_wp2
     go_ret
     exact⟨by rw[HR.out];rfl,wH.out⟩
    subst ed
    cases j with
    | zero =>
     have HR:=Sk (show E=cO label (some xid) (decls.drop (0+1)) by rw[HAE.out];simp[fZ,cO,HEd.out])
     go_wp2_with fail
     go_quiet (fail)
     go_wp2
     go_roundg (N-(0+1))
     case measure=>rw[HG'.out.1];omega
     case rel=>exact⟨0+1,rfl,by omega,by go_num,by rw[HR.out,HPV.out],below_drewN HB3.out.1 _⟩
    | succ j =>
     have hkl:j<decls.length:=by rw[HN.out];omega
     have hk2:decls[j]?=some decls[j]:=Sw hkl
     have p0:=(HB3.out.2.cell (p:=⟨b,o+j*11,none⟩) (by simp;omega)).trans ((JJ.out j _ hk2).1 0 (.int .i64 decls[j].id) rfl)
     have HQ:=Sk (show fZ decls (j+1)=some decls[j].id by simp[fZ,hk2])
     rw[HQ.out]at HAE
     clear hk2
     generalize decls[j]=y at p0 HQ HAE
     clear hkl
     have hp1:(0:Int)<(j:Int)+1:=by omega
     have hw1:IntKind.i64.wrap ((j:Int)+1-1)=j:=by rw[show ((j:Int)+1-1)=j by omega];exact IntWalk.i64_in _ (by omega)
     have hw2:IntKind.i64.wrap (j:Int)=j:=IntWalk.i64_in _ (by omega)
     have hj0:(0:Int)≤(j:Int):=by omega
     have hj1:(j:Int)<(N:Int):=by omega
     have hj2:(0:Int)≤(j:Int)+1:=by omega
     have hj3:(j:Int)+1<(N:Int):=by omega
     by_cases hle:xid≤y.id
     ·have hle':decide (xid≤y.id)=true:=by simpa using hle
      have HR:=Sk (show E=10 by rw[HAE.out];simp[cO,HEd.out,hle])
      clear hle
      go_wp2_with fail
      go_quiet (fail)
      go_wp2
      go_ret
      exact⟨by rw[HR.out];rfl,below_drewN wH.out _⟩
     ·have hle':decide (xid≤y.id)=false:=by simpa using hle
      have HR:=Sk (show E=cO label (some xid) (decls.drop (j+1+1)) by rw[HAE.out];simp[cO,HEd.out,hle])
      clear hle
      go_wp2_with fail
      go_quiet (fail)
      go_wp2
      go_roundg (N-(j+1+1))
      case measure=>rw[HG'.out.1];omega
      case rel=>exact⟨j+1+1,rfl,by omega,by go_num,by rw[HR.out,HPV.out],below_drewN HB3.out.1 _⟩)
  ·have HR:=Sk (show E=0 by rw[HG'.out.2.1,List.drop_of_length_le (by rw[HN.out];omega)];cases fZ decls j <;> rfl)
   have hjn:N≤j:=by omega
   clear hdr
   go_wp2
   go_ret
   exact⟨by rw[HR.out];rfl,HBw.out⟩
end Go.Proofs.Q
