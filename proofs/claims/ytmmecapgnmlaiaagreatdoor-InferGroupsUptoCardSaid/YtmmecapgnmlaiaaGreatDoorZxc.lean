/- syntax.addFree: a variable; a node that binds nothing -/
import Derived.Test.YtmmecapgnmlaiaaGreatDoorZxd
import Derived.Test.YtmmecapgnmlaiaaGreatDoorZxg
import Derived.Test.YtmmecapgnmlaiaaGreatDoorLay
import Derived.Sort.OwnSorted
import Derived.Sort.KeysCollected
import Derived.Test.YtmmecapgnmlaiaaGreatDoorZxh
set_option maxRecDepth 100000
set_option maxHeartbeats 16000000
namespace Go.Proofs.Q
open Go.RowKit Go.Proofs Go.Shelf
theorem Nl (s:Fo)(n m:ByteArray)(i d:Int)(A:Option Addr)(c:Nat)(bd:List ByteArray)(B:Option Addr)(cB b q:Nat)(fb:Bool)(w:World)
  (hn:n.size≤maxLen)(hB:SlS w w.heap.size B cB bd)(hF:aW w b q fb)(hq:q+1+s.count≤1000000) :
  Calls Tryz.prog 175 #[.agg #[.int .i64 3,.string n,.string m,.int .i64 i,.int .i64 d,.slice A s.len c],.slice B bd.length cB,.map (some b)] w fun e w' =>
   (∃v,e=.returned v)∧aW w' b (q+1+s.count) (fb||aB 3 n m s bd)∧Keeps (fun k=>k≠b) w w':=by
 have hnf:aB 3 n m s bd=!gU bd n:=rfl
 rw[hnf]
 clear hnf
 have hlt:=hF.lt
 obtain⟨W0,hW0⟩:∃W0,w.alloc (.cells #[.int .i64 3,.string n,.string m,.int .i64 i,.int .i64 d,.slice A s.len c] 44)=W0:=⟨_,rfl⟩
 have hz0:W0.heap.size=w.heap.size+1:=by subst hW0;simp
 have hx0:W0.cell? ⟨w.heap.size,0,none⟩=some (.int .i64 3):=by subst hW0;go_simp
 have hx1:W0.cell? ⟨w.heap.size,1,none⟩=some (.string n):=by subst hW0;go_simp
 have hk0:Keeps (fun _=>True) w W0:=by subst hW0;exact(Keeps.refl _ w).alloc _
 have hS0:=Sk (hB.keep (w':=W0) (B':=W0.heap.size) (by omega) fun p hp=>SN (hk0.block p.block hp trivial))
 have HF0:=Sk (hF.keep (hk0.block b hlt trivial))
 have HK0:=Sk (hk0.mono (T:=fun k=>k≠b) fun _ _=>trivial)
 clear hk0 hF hB
 cases hh:gU bd n
 ·obtain⟨nn,D,hown,hnn,hIs,hsz⟩:=HF0.out
  have HO:=Sk (Sn hown hIs)
  clear hown hsz hIs
  go_enter Tryz.func175,Tryz.ntmps175
  go_wp2_with (first|(go_at_call 152;refine(nE bd n B cB _ hS0.out).mono ?_;rintro e w' ⟨rfl,rfl⟩;rw[hh])|(at_mapUpdate;go_loud (refine wpList_mapUpdate_own _ rfl _ _ _ 140 rfl 9 4 uo Tryz.underlying140 _ b nn _ rfl HO.out.1 (by unfold maxLen;omega) _ _ _ rfl rfl (WideMaps.keyOf_string_mk Tryz.underlying9 hn) _ [] (plainElem_bool Tryz.underlying4 _) ?_;intro w1 hown1 hgrow1)))
  refine Ua (results_none rfl _ _ _) rfl ?_
  refine⟨⟨_,rfl⟩,⟨nn+1,_,hown1,by omega,?_,?_⟩,HK0.out.grown hgrow1 (by rintro k hk;cases hk;simp)⟩
  ·obtain⟨es,rfl⟩:=HO.out.2;exact⟨_,rfl⟩
  ·obtain⟨es,rfl⟩:=HO.out.2
   exact⟨fun h=>absurd h (EF _ _),fun h=>by simp at h⟩
 ·go_enter Tryz.func175,Tryz.ntmps175
  go_wp2_with (first|(go_at_call 152;refine(nE bd n B cB _ hS0.out).mono ?_;rintro e w' ⟨rfl,rfl⟩;rw[hh]))
  refine Ua (results_none rfl _ _ _) rfl ?_
  refine⟨⟨_,rfl⟩,?_,HK0.out⟩
  simpa using HF0.out.mono (by omega)
theorem Nn (xk:Int)(xn xm:ByteArray)(xi xd:Int)(xA:Option Addr)(xc:Nat)(xs:Fo)(ihx:mM xs)(yk:Int)(yn ym:ByteArray)(yi yd:Int)(yA:Option Addr)(yc:Nat)(ys:Fo)(ihy:mM ys)(n m:ByteArray)(i d:Int)(A:Option Addr)(c:Nat)(bd:List ByteArray)(B:Option Addr)(cB b q:Nat)(fb:Bool)(w:World)
  (hs:(Fo.cons xk xn xm xi xd xA xc xs (.cons yk yn ym yi yd yA yc ys .nil)).Sl w w.heap.size A c)(hv:(Fo.cons xk xn xm xi xd xA xc xs (.cons yk yn ym yi yd yA yc ys .nil)).Vld)(hB:SlS w w.heap.size B cB bd)(hBn:B=none→cB=0)(hF:aW w b q fb)(hq:q+1+(Fo.cons xk xn xm xi xd xA xc xs (.cons yk yn ym yi yd yA yc ys .nil)).count≤1000000)(hbd:bd.length+2*(1+(Fo.cons xk xn xm xi xd xA xc xs (.cons yk yn ym yi yd yA yc ys .nil)).count)≤1000000) :
  Calls Tryz.prog 175 #[.agg #[.int .i64 8,.string n,.string m,.int .i64 i,.int .i64 d,.slice A 2 c],.slice B bd.length cB,.map (some b)] w fun e w' =>
   (∃v,e=.returned v)∧aW w' b (q+1+(Fo.cons xk xn xm xi xd xA xc xs (.cons yk yn ym yi yd yA yc ys .nil)).count) (fb||aB 8 n m (Fo.cons xk xn xm xi xd xA xc xs (.cons yk yn ym yi yd yA yc ys .nil)) bd)∧Keeps (fun k=>k≠b) w w':=by
 obtain⟨i0,hi,hz0,hz1,hz2⟩:=info_parts Tryz.iD
 obtain⟨E,HE⟩:∃E,Hid (E=(fb||aB 8 n m (Fo.cons xk xn xm xi xd xA xc xs (.cons yk yn ym yi yd yA yc ys .nil)) bd)):=⟨_,rfl⟩
 rw[←HE.out]
 have HE1:=Sk (HE.out.trans (show (fb||aB 8 n m (Fo.cons xk xn xm xi xd xA xc xs (.cons yk yn ym yi yd yA yc ys .nil)) bd)=((fb||aB xk xn xm xs bd)||aB yk yn ym ys (bd++[n])) by
  rw[aB,TW (by decide)];simp only[Fo.kS];simp[Fo.free,dG,Bool.or_assoc]))
 clear HE
 have hcnt:(Fo.cons xk xn xm xi xd xA xc xs (.cons yk yn ym yi yd yA yc ys .nil)).count=(xs.count+1)+(ys.count+1):=by simp only[Fo.count] <;> omega
 rw[hcnt]at hq hbd ⊢
 clear hcnt
 have hlt:=hF.lt
 obtain⟨W0,hW0⟩:∃W0,w.alloc (.cells #[.int .i64 8,.string n,.string m,.int .i64 i,.int .i64 d,.slice A 2 c] 44)=W0:=⟨_,rfl⟩
 have hzw:w.heap.size<W0.heap.size:=by subst hW0;simp
 have hx0:W0.cell? ⟨w.heap.size,0,none⟩=some (.int .i64 8):=by subst hW0;go_simp
 have hx1:W0.cell? ⟨w.heap.size,1,none⟩=some (.string n):=by subst hW0;go_simp
 have hx2:W0.cell? ⟨w.heap.size,2,none⟩=some (.string m):=by subst hW0;go_simp
 have hx5:W0.cell? ⟨w.heap.size,5,none⟩=some (.slice A 2 c):=by subst hW0;go_simp
 have hk0:Keeps (fun _=>True) w W0:=by subst hW0;exact(Keeps.refl _ w).alloc _
 have hcell0:∀p:Addr,p.block<w.heap.size→W0.cell? p=w.cell? p:=fun p hp=>SN (hk0.block p.block hp trivial)
 have hS0:=Sk (hB.keep (w':=W0) (B':=w.heap.size) (SA _) hcell0)
 have hs0:=hs.keep (w':=W0) (B':=w.heap.size) (SA _) hcell0
 obtain⟨b',o',rfl,hb',xh0,xh1,xh2,xh3,xh4,⟨xh5,xhc,xhm,xhs⟩,yh0,yh1,yh2,yh3,yh4,⟨yh5,yhc,yhm,yhs⟩,_⟩:=hs0.2.2 (by simp)
 have xsl:=Sk (show xs.Sl W0 w.heap.size xA xc from⟨xhc,xhm,xhs⟩)
 have ysl:=Sk (show ys.Sl W0 w.heap.size yA yc from⟨yhc,yhm,yhs⟩)
 have hF0:=hF.keep (hk0.block b hlt trivial)
 have HF0:=Sk hF0
 have HK0:=Sk (hk0.mono (T:=fun k=>k≠b) fun _ _=>trivial)
 have hcells:∀W,FrW W0 b W→(W.cell? ⟨w.heap.size,1,none⟩=some (.string n)∧W.cell? ⟨w.heap.size,5,none⟩=some (.slice (some ⟨b',o',none⟩) 2 c)∧W.cell? ⟨b',o'+6,none⟩=some (.int .i64 yk)∧W.cell? ⟨b',o'+7,none⟩=some (.string yn)∧W.cell? ⟨b',o'+8,none⟩=some (.string ym)∧W.cell? ⟨b',o'+9,none⟩=some (.int .i64 yi)∧W.cell? ⟨b',o'+10,none⟩=some (.int .i64 yd)∧W.cell? ⟨b',o'+11,none⟩=some (.slice yA ys.len yc))∧FrW W0 b W:=fun W hW =>
  ⟨⟨(hW.cell hF0 ⟨w.heap.size,1,none⟩ (by simp;omega)).trans hx1,(hW.cell hF0 ⟨w.heap.size,5,none⟩ (by simp;omega)).trans hx5,(hW.cell hF0 ⟨b',o'+6,none⟩ (by simp;omega)).trans yh0,(hW.cell hF0 ⟨b',o'+7,none⟩ (by simp;omega)).trans yh1,(hW.cell hF0 ⟨b',o'+8,none⟩ (by simp;omega)).trans yh2,(hW.cell hF0 ⟨b',o'+9,none⟩ (by simp;omega)).trans yh3,(hW.cell hF0 ⟨b',o'+10,none⟩ (by simp;omega)).trans yh4,(hW.cell hF0 ⟨b',o'+11,none⟩ (by simp;omega)).trans yh5⟩,hW⟩
 have HC:=Sk hcells
 have uT:Hid (∀W,FrW W0 b W→W.cell? ⟨w.heap.size,5,none⟩=some (.slice (some ⟨b',o',none⟩) 2 c)∧W.cell? ⟨b',o',none⟩=some (.int .i64 xk)∧W.cell? ⟨b',o'+1,none⟩=some (.string xn)∧W.cell? ⟨b',o'+2,none⟩=some (.string xm)∧W.cell? ⟨b',o'+3,none⟩=some (.int .i64 xi)∧W.cell? ⟨b',o'+4,none⟩=some (.int .i64 xd)∧W.cell? ⟨b',o'+5,none⟩=some (.slice xA xs.len xc)):=fun W hW =>
  ⟨(hW.cell hF0 ⟨w.heap.size,5,none⟩ (by simp;omega)).trans hx5,(hW.cell hF0 ⟨b',o',none⟩ (by simp;omega)).trans xh0,(hW.cell hF0 ⟨b',o'+1,none⟩ (by simp;omega)).trans xh1,(hW.cell hF0 ⟨b',o'+2,none⟩ (by simp;omega)).trans xh2,(hW.cell hF0 ⟨b',o'+3,none⟩ (by simp;omega)).trans xh3,(hW.cell hF0 ⟨b',o'+4,none⟩ (by simp;omega)).trans xh4,(hW.cell hF0 ⟨b',o'+5,none⟩ (by simp;omega)).trans xh5⟩
 have xR:Hid (∀X,aW X b (q) fb→Keeps (fun k=>k≠b) W0 X→Calls Tryz.prog 175 #[.agg #[.int .i64 xk,.string xn,.string xm,.int .i64 xi,.int .i64 xd,.slice xA xs.len xc],.slice B bd.length cB,.map (some b)] X fun e w'=>(∃v,e=.returned v)∧aW w' b (q+1+xs.count) (fb||aB xk xn xm xs bd)∧Keeps (fun k=>k≠b) X w'):=by
  intro X hFX hKX
  exact ihx _ _ _ _ _ _ _ bd B cB b _ _ X (FrW.sl hF0 (FrW.start hFX hKX) xsl.out (by omega)) hv.1 hv.2.1 (FrW.sls hF0 (FrW.start hFX hKX) hS0.out (by omega)) hBn hFX (by omega) (by omega)
 have HR:Hid (∀(gg cap base:Nat) (X:World),aW X b (q+1+xs.count) (fb||aB xk xn xm xs bd)→Keeps (fun k=>k≠b) W0 X→X.ownsRow base 9 1 (.slice (some ⟨gg,0,none⟩) (bd.length+1) cap) (bd.length+1) (bd.map .string++[.string n]) →
   Calls Tryz.prog 175 #[.agg #[.int .i64 yk,.string yn,.string ym,.int .i64 yi,.int .i64 yd,.slice yA ys.len yc],.slice (some ⟨gg,0,none⟩) (bd.length+1) cap,.map (some b)] X fun e w' =>
   (∃v,e=.returned v)∧aW w' b (q+1+xs.count+1+ys.count) ((fb||aB xk xn xm xs bd)||aB yk yn ym ys (bd++[n]))∧Keeps (fun k=>k≠b) X w'):=by
  intro gg cap base X hFX hKX hoX
  have h:=ihy yk yn ym yi yd yA yc (bd++[n]) (some ⟨gg,0,none⟩) cap b _ _ X (FrW.sl hF0 (FrW.start hFX hKX) ysl.out (by omega)) hv.2.2.1 hv.2.2.2.1 (wJ (by simpa using hoX) (by simp)) (by simp) hFX (by omega) (by simp;omega)
  rw[show (bd++[n]).length=bd.length+1 by simp]at h
  exact h
 clear hk0 hF hB hcell0 hs hs0 hF0 hcells hv xh0 xh1 xh2 xh3 xh4 xh5 xhc xhm xhs ihx yh0 yh1 yh2 yh3 yh4 yh5 yhc yhm yhs ihy
 have Js:=Sk (FrW.start HF0.out (Keeps.refl (fun k=>k≠b) W0))
 obtain⟨xc5,xc0,xc1,xc2,xc3,xc4,xc6⟩:=uT.out _ (Js.out)
 go_enter Tryz.func175,Tryz.ntmps175
 go_wp2_with fail
 refine(xR.out _ HF0.out (Keeps.refl _ W0)).mono ?_
 rintro e Xx ⟨⟨v,rfl⟩,Fx,Kx'⟩
 have Kx:Keeps (fun k=>k≠b) W0 Xx:=Keeps.trans (Keeps.refl _ W0) Kx'
 clear xc5 xc0 xc1 xc2 xc3 xc4 xc6 hW0 hx0 hx1 hx2 hx5
 have HXx:=Sk (Sn Fx (Sn Kx (FrW.start Fx Kx)))
 have hzx:=Kx.size
 clear Fx Kx Kx'
 have gV:=Sk (FrW.start (aW.drew HXx.out.1) (Keeps.drew HXx.out.2.1))
 obtain⟨zc5,zc0,zc1,zc2,zc3,zc4,zc6⟩:=uT.out _ HXx.out.2.2
 go_wp2_with fail
 clear zc5 zc0 zc1 zc2 zc3 zc4 zc6
 have zZ:=Sk (show (Xx.alloc (.cells #[.string n] 9)).heap[Xx.heap.size]?=some (.cells #[.string n] 9 (0,0))from Sv Xx _)
 go_region_held3 (fun W=>(W.cell? ⟨w.heap.size,1,none⟩=some (.string n)∧W.cell? ⟨w.heap.size,5,none⟩=some (.slice (some ⟨b',o',none⟩) 2 c)∧W.cell? ⟨b',o'+6,none⟩=some (.int .i64 yk)∧W.cell? ⟨b',o'+7,none⟩=some (.string yn)∧W.cell? ⟨b',o'+8,none⟩=some (.string ym)∧W.cell? ⟨b',o'+9,none⟩=some (.int .i64 yi)∧W.cell? ⟨b',o'+10,none⟩=some (.int .i64 yd)∧W.cell? ⟨b',o'+11,none⟩=some (.slice yA ys.len yc))∧FrW W0 b W)
  (first|exact HC.out _ gV.out|exact HC.out _ (FrW.start hF3 hK3)|exact HC.out _ (FrW.start hF2 hK2)|exact HC.out _ (FrW.start (aW.alloc hF1 _) (Keeps.alloc hK1 _))|exact HC.out _ (FrW.start hF1 hK1)|exact HC.out _ (FrW.alloc gV.out _))
  (first
   | (go_at_call 236;refine(mK bd B cB _ (FrW.sls HF0.out (by first|exact gV.out|exact FrW.alloc gV.out _) hS0.out (by omega)) hBn (by omega)).mono ?_;rintro e w1 ⟨v1,rfl,hown1,gF⟩;have hF1:aW w1 b (q+1+xs.count) (fb||aB xk xn xm xs bd):=aW.below (by first|exact aW.drew HXx.out.1|exact aW.alloc (aW.drew HXx.out.1) _) gF;have hK1:Keeps (fun k=>k≠b) W0 w1:=Keeps.uq (by first|exact gV.out.1|exact gV.out.1.alloc _) gF)
   | (go_at_call 175;refine(HR.out gg cap _ _ hF2 hK2 hown2).mono ?_;rintro e w3 ⟨⟨v3,rfl⟩,hF3,Aa⟩;have hK3:=hK2.trans Aa)
   | (refine step_append_lies _ rfl (.tmp 48) (.tmp 51) 22 rfl _ 9 i0 _ 1 16 Tryz.underlying22 hi hz0 hz1 hz2 rfl (by omega) v1 bd.length (bd.map .string) rfl (hown1.alloc _) ⟨w1.heap.size,0,none⟩ 1 1 [.string n] rfl rfl (World.news_of_block (cs:=#[.string n]) (t:=9) (fr:=(0,0)) (Sv w1 _)) (by simp[Value.oneCell']) (by omega) (by unfold maxLen;omega) (by omega) (by have:=gF.size;simp at this ⊢;omega) _ rfl ?_;intro gg cap w2 hown2 hgrow2 kD hlt2;obtain⟨hK2,hF2⟩:=jM (hK1.alloc _) (hF1.alloc _) (hown1.alloc _) (by omega) (by simp;omega) hgrow2)
   | (refine step_append_lies _ rfl (.tmp 48) (.tmp 51) 22 rfl _ 9 i0 _ 1 16 Tryz.underlying22 hi hz0 hz1 hz2 rfl (by omega) v1 bd.length (bd.map .string) rfl hown1 ⟨Xx.heap.size,0,none⟩ 1 1 [.string n] rfl rfl (World.news_of_block (cs:=#[.string n]) (t:=9) (fr:=(0,0)) ((gF.block Xx.heap.size (by simp)).trans zZ.out)) (by simp[Value.oneCell']) (by omega) (by unfold maxLen;omega) (by omega) (by have:=gF.size;simp at this ⊢;omega) _ rfl ?_;intro gg cap w2 hown2 hgrow2 kD hlt2;obtain⟨hK2,hF2⟩:=jM hK1 hF1 hown1 (by omega) (by simp;omega) hgrow2))
 all_goals (
  go_wp2
  refine Ua (results_none rfl _ _ _) rfl ?_
  refine⟨⟨_,rfl⟩,?_,HK0.out.trans hK3⟩
  rw[HE1.out]
  exact hF3.mono (by omega))
theorem Ab (s:Fo)(ih:s.All mM):mM s:=by
 intro k n m i d A c bd B cB b q fb w hs hk hv hB hBn hF hq hbd
 by_cases h3:k=3
 ·subst h3
  exact Nl s n m i d A c bd B cB b q fb w (hk.2.2.2 rfl) hB hF hq
 by_cases h6:k=6
 ·subst h6
  have hl:=hk.1 rfl
  match s,hl,ih,hs,hv,hq,hbd with
  | .cons tk tn tm ti td tA tc ts .nil,_,ih,hs,hv,hq,hbd =>
   have hc:(Fo.cons tk tn tm ti td tA tc ts .nil).count=ts.count+1:=by simp[Fo.count]
   rw[hc]at hq hbd ⊢
   exact Np tk tn tm ti td tA tc ts ih.1 n m i d A c bd B cB b q fb w hs hv hB hBn hF hq hbd
 by_cases h8:k=8
 ·subst h8
  have hl:=hk.2.1 rfl
  match s,hl,ih,hs,hv,hq,hbd with
  | .cons xk xn xm xi xd xA xc xs (.cons yk yn ym yi yd yA yc ys .nil),_,ih,hs,hv,hq,hbd =>
   exact Nn xk xn xm xi xd xA xc xs ih.1 yk yn ym yi yd yA yc ys ih.2.1 n m i d A c bd B cB b q fb w hs hv hB hBn hF hq hbd
 by_cases h13:k=13
 ·subst h13
  have hl:=hk.2.2.1 rfl
  match s,hl,ih,hs,hv,hq,hbd with
  | .cons xk xn xm xi xd xA xc xs (.cons yk yn ym yi yd yA yc ys (.cons zk zn zm zi zd zA zc zs .nil)),_,ih,hs,hv,hq,hbd =>
   exact LK xk xn xm xi xd xA xc xs ih.1 yk yn ym yi yd yA yc ys ih.2.1 zk zn zm zi zd zA zc zs ih.2.2.1 n m i d A c bd B cB b q fb w hs hv hB hBn hF hq hbd
 exact LM s ih k n m i d A c bd B cB b q fb w (by simpa using h3) (by simpa using h6) (by simpa using h8) (by simpa using h13) hs hv hB hBn hF hq hbd
theorem CG (s:Fo):mM s:=Fo.eT Ab s
open Go.Sort
def EG (fb:Bool)(w:World)(e:Ending)(w':World):Prop:=
 ∃A n c,e=.returned (.slice A n c)∧(n=0↔fb=false)∧n≤1000000∧Below w.heap.size w w'
def P7 (D:DataW Unit)(w:World)(bs mb r n:Nat)(g:Nat)(v:Value)(wr:World):Prop:=
 ∃(left:Lit→Bool) (cnt:Nat) (ss:List (List UInt8)),g=cnt∧wr.ranges Tryz.prog 9 (plainElem Tryz.prog 4) mb r n D left cnt∧ss.length+cnt≤Maps.size D∧(ss=[]→cnt=Maps.size D) ∧
   wr.ownsRow bs 9 1 v ss.length (ss.map encStr)∧v≠.slice none 0 0∧bs≤wr.heap.size∧Below w.heap.size w wr
theorem Jt (k:Int)(n m:ByteArray)(i d:Int)(A:Option Addr)(c:Nat)(s:Fo)(w:World)(hs:s.Sl w w.heap.size A c)
  (he:dH (⟨1,k,n,m,i,d,A,s.len,c⟩::s.pre 2)=0)(hk:okN k n s.len)(hv:s.Vld)(hc:s.count≤100000) :
  Calls Tryz.prog 127 #[.agg #[.int .i64 k,.string n,.string m,.int .i64 i,.int .i64 d,.slice A s.len c]] w (EG (aB k n m s []) w):=by
 obtain⟨i0,hi,hz0,hz1,hz2⟩:=info_parts Tryz.iD
 have hmm:=@run_makeMap Tryz.prog
 obtain⟨FB,HFB⟩:∃FB,Hid (FB=aB k n m s []):=⟨_,rfl⟩
 rw[←HFB.out]
 obtain⟨W0,hW0⟩:∃W0,w.alloc (.cells #[.int .i64 k,.string n,.string m,.int .i64 i,.int .i64 d,.slice A s.len c] 44)=W0:=⟨_,rfl⟩
 have hzw:w.heap.size<W0.heap.size:=by subst hW0;simp
 have hB0:Below w.heap.size w W0:=by subst hW0;exact(TA _ _).alloc (SA _) _
 have hx0:W0.cell? ⟨w.heap.size,0,none⟩=some (.int .i64 k):=by subst hW0;go_simp
 have hx1:W0.cell? ⟨w.heap.size,1,none⟩=some (.string n):=by subst hW0;go_simp
 have hx2:W0.cell? ⟨w.heap.size,2,none⟩=some (.string m):=by subst hW0;go_simp
 have hx3:W0.cell? ⟨w.heap.size,3,none⟩=some (.int .i64 i):=by subst hW0;go_simp
 have hx4:W0.cell? ⟨w.heap.size,4,none⟩=some (.int .i64 d):=by subst hW0;go_simp
 have hx5:W0.cell? ⟨w.heap.size,5,none⟩=some (.slice A s.len c):=by subst hW0;go_simp
 have hs0:=hs.keep (w':=W0) (B':=W0.heap.size) (SF hzw) fun p hp=>hB0.cell hp
 have HC:=Sk (jD k n m i d A c s W0 hs0)
 have HH:=Sk (Sn hs0 (Sn hB0 (Sn he (Sn hk hv))))
 clear hs hs0 hB0 he hk hv
 go_enter Tryz.func127,Tryz.ntmps127
 go_wp2_with fail
 refine HC.out.mono ?_
 rintro e w1 ⟨rfl,hb1⟩
 rw[HH.out.2.2.1]
 have hz1':=hb1.size
 obtain⟨W1,hW1⟩:∃W1,w1.alloc (.map #[] 0)=W1:=⟨_,rfl⟩
 have hb2:Below W0.heap.size W0 W1:=by subst hW1;exact hb1.alloc hz1' _
 have y0:=(hb2.cell (p:=⟨w.heap.size,0,none⟩) hzw).trans hx0
 have y1:=(hb2.cell (p:=⟨w.heap.size,1,none⟩) hzw).trans hx1
 have y2:=(hb2.cell (p:=⟨w.heap.size,2,none⟩) hzw).trans hx2
 have y3:=(hb2.cell (p:=⟨w.heap.size,3,none⟩) hzw).trans hx3
 have y4:=(hb2.cell (p:=⟨w.heap.size,4,none⟩) hzw).trans hx4
 have y5:=(hb2.cell (p:=⟨w.heap.size,5,none⟩) hzw).trans hx5
 have hz2':=hb2.size
 have HC2:=Sk (CG s k n m i d A c [] none 0 w1.heap.size 0 false W1 (HH.out.1.keep hz2' fun p hp=>hb2.cell hp) HH.out.2.2.2.1 HH.out.2.2.2.2 (SlS.nil _ _ _ _ (by simp[maxLen])) (fun _=>rfl) (by subst hW1;exact aW.made w1) (by omega) (by simp;omega))
 have HB2:=Sk (Sn (HH.out.2.1.trans (hb2.mono (by omega))) hb2)
 clear hx0 hx1 hx2 hx3 hx4 hx5 hb1 hb2 hW0
 go_wp2_with fail
 refine HC2.out.mono ?_
 rintro e w2 ⟨⟨v,rfl⟩,hF2,hK2⟩
 obtain⟨nn,D,hown,hnn,_,hiff⟩:=hF2
 have hbl:=hown.lt
 have hwz:w.heap.size≤w1.heap.size:=by omega
 have hzb:w2.heap.size≥W1.heap.size:=hK2.size
 have hB2:Below w.heap.size w w2:=HB2.out.1.trans (hK2.dX (by omega) fun k hk=>by omega)
 have hDn:=hown.size_le
 have HI:=Sk (show Maps.size D=0↔FB=false by rw[HFB.out];simpa using hiff)
 clear hiff hK2 y0 y1 y2 y3 y4 y5 hW1 HC2 HB2 HC HH
 have hBz:=hB2.size
 go_wp2_with (first
  | (at_len;refine wpList_len_own _ rfl _ 140 rfl 9 4 Tryz.underlying140 _ w1.heap.size nn _ rfl hown ?_)
  | (at_make;refine wpList_make_own _ rfl _ _ 22 rfl w2.heap.size 9 i0 (.string ⟨#[]⟩) 1 Tryz.underlying22 hi hz0 hz1 _ _ _ (Maps.size D) rfl rfl rfl (by rw[hz2];omega) (by unfold maxLen;omega) (SA _) ?_;intro w3 hrow3 hg3)
  | (at_range;refine wpList_range_own _ rfl _ 140 rfl 9 4 uo Tryz.underlying140 _ w1.heap.size nn _ rfl (hown.kept hg3 (by simp)) ?_;intro w4 P8 hg4 hs4))
 go_frame
 go_loopg [4,5] (Maps.size D) (fun g v _ wr=>P7 D w w2.heap.size w1.heap.size w3.heap.size nn g v wr)
 case atStart =>
  exact⟨_,_,[],rfl,P8,by simp,fun _=>rfl,hrow3.kept hg4 (Or.inr (by simp[Value.ownBlock])),by simp,SE hg3.size hg4.size,
   (hB2.grown hg3 hBz (fun j hj=>by cases hj)).grown hg4 (SE hBz hg3.size) (fun j hj=>by cases hj)⟩
 case round =>
  obtain⟨left,cnt,ss,hg,hrg,hcs,hcn,hrow,P9,hwr,hnx⟩:=hrel
  have HG:=Sk (Sn hg hcn)
  clear hg hcn
  go_wp2_with (first
   | (at_next;go_loud (refine wpList_next_ranges _ rfl _ rfl 9 uo (plainElem Tryz.prog 4) encStr (fun v:Value=>v) (fun key kl hk=>by obtain⟨x,hx,_⟩:=Maps.keyOf_str Tryz.underlying9 hk;exact⟨x,hx⟩) (fun v _ _=>⟨v,rfl⟩) w1.heap.size w3.heap.size nn _ _ _ rfl hrg ?_ ?_)))
  ·intro hc0 hl0
   rcases hrow.2 with⟨hnil,_⟩|⟨g,cap,cur,rfl,hbase,hb,h1,h2,h3,h4⟩
   ·exact absurd hnil P9
   have hH:Holds encStr wr g 0 ss.toArray:=holds_of_block hb (by simpa using h4)
   have hgl:g<wr.heap.size:=(Sz.1 hb).1
   have hc:=Any.slices_Sort_string Tryz.laysSort g 0 cap ss wr hH hgl (by omega)
   have HS:=Sk hc
   clear hc hH hb h4 h3
   go_wp2_with (go_at_call 176;refine HS.out.mono ?_;rintro e w' ⟨rfl,nn2,os,rfl⟩)
   go_ret
   refine⟨_,_,_,rfl,?_,by omega,hnx.grown (grownBy_sorted _) hnx.size (fun j hj=>by cases hj;exact SE hBz hbase)⟩
   rw[←HI.out]
   have:=HG.out.2
   constructor
   ·intro h0
    have:=HG.out.2 (Tq.1 h0)
    omega
   ·intro h0
    omega
  ·intro x c kl yd yp w5 cnt2 hkey hlk hv hat hrg2 hlt hg2 hs2 hen
   have hrow2:=hrow.kept hg2 (Or.inr (row_ne_iter hrow hrg).symm)
   clear hs2 hat hv hlk hkey
   have HE:=Sk (Sn hrg (Sn hrg2 (Sn hrow2 hlt)))
   clear hrg hrg2 hlt hrow
   go_wp2_with (at_builtin;refine wpList_append_own _ rfl _ _ 22 rfl w2.heap.size 9 i0 (.string ⟨#[]⟩) 1 16 Tryz.underlying22 hi hz0 hz1 hz2 rfl (by decide) _ _ _ rfl (hrow2.alloc _) ⟨w5.heap.size,0,none⟩ 1 1 [encStr x] rfl rfl (cell_one_new _ _ _) (by simp[Value.oneCell',encStr]) (by unfold maxLen;omega) (by omega) (by have:=hg2.size;simp;omega) ?_;intro v' w6 hown' hg6 OZ;go_frame)
   have hrg3:=(HE.out.2.1.alloc _).kept hg6 (row_ne_low hrow2 hbl) (row_ne_iter hrow2 HE.out.2.1)
   go_roundg cnt2
   case measure=>rw[HG.out.1];exact HE.out.2.2.2
   case rel =>
    refine⟨_,cnt2,ss++[x],rfl,hrg3,by have:=HE.out.2.2.2;simp;omega,by simp,by simpa using hown',fun hv'=>by have:=(OZ.1 hv').2;omega,by have:=hg2.size;have:=hg6.size;simp at this;omega,?_⟩
    exact((hnx.grown hg2 hnx.size (fun j hj=>by cases hj;exact SE hBz hg3.size)).alloc (by have:=hnx.size;have:=hg2.size;omega) _).grown hg6 (by have:=hnx.size;have:=hg2.size;simp;omega) (fun j hj=>SE hBz (hrow2.lt j hj).1)
end Go.Proofs.Q
namespace Go.Proofs.Q
open Go.RowKit Go.Proofs Go.Shelf
structure Dc where
 id:Int
 kind:Int
 pub:Bool
 nA:Option Addr
 nc:Nat
 names:List ByteArray
 doubt:Bool
 k:Int
 n:ByteArray
 m:ByteArray
 i:Int
 d:Int
 A:Option Addr
 c:Nat
 s:Fo
def Dc.cells (x:Dc):Array Value:=#[.int .i64 x.id,.int .i64 x.kind,.bool x.pub,.slice x.nA x.names.length x.nc,.bool x.doubt,.int .i64 x.k,.string x.n,.string x.m,.int .i64 x.i,.int .i64 x.d,.slice x.A x.s.len x.c]
theorem dcs {w:World}{b p:Nat}{id kind:Int}{pub:Bool}{nA:Option Addr}{nc:Nat}{names:List ByteArray}{doubt:Bool}{k:Int}{n m:ByteArray}{i d:Int}{A:Option Addr}{c:Nat}{s:Fo}(h:∀(q:Nat)(u:Value),(Dc.mk id kind pub nA nc names doubt k n m i d A c s).cells[q]?=some u→w.cell? ⟨b,p+q,none⟩=some u) :
  w.cell? ⟨b,p,none⟩=some (.int .i64 id)∧w.cell? ⟨b,p+1,none⟩=some (.int .i64 kind)∧w.cell? ⟨b,p+2,none⟩=some (.bool pub)∧w.cell? ⟨b,p+3,none⟩=some (.slice nA names.length nc)∧w.cell? ⟨b,p+4,none⟩=some (.bool doubt)∧w.cell? ⟨b,p+5,none⟩=some (.int .i64 k)∧w.cell? ⟨b,p+6,none⟩=some (.string n)∧w.cell? ⟨b,p+7,none⟩=some (.string m)∧w.cell? ⟨b,p+8,none⟩=some (.int .i64 i)∧w.cell? ⟨b,p+9,none⟩=some (.int .i64 d)∧w.cell? ⟨b,p+10,none⟩=some (.slice A s.len c):=
 ⟨h 0 _ rfl,h 1 _ rfl,h 2 _ rfl,h 3 _ rfl,h 4 _ rfl,h 5 _ rfl,h 6 _ rfl,h 7 _ rfl,h 8 _ rfl,h 9 _ rfl,h 10 _ rfl⟩
def Dc.Ok (x:Dc)(w:World)(B:Nat):Prop:=SlS w B x.nA x.nc x.names∧x.s.Sl w B x.A x.c
def Dc.body (x:Dc):Fo:=.cons x.k x.n x.m x.i x.d x.A x.c x.s .nil
def Dc.pre (x:Dc):List Nd:=⟨1,x.k,x.n,x.m,x.i,x.d,x.A,x.s.len,x.c⟩::x.s.pre 2
def jN (label:ByteArray)(x:Nd):Bool:=(x.k==5)&&(x.n.toList==label.toList)
def fG (label:ByteArray)(x:Dc):Int:=
 if x.id<1∨999999<x.id then 2 else
 if x.kind≠1∧x.kind≠2∧x.kind≠3 then 9 else
 if dnE x.names≠0 then dnE x.names else
 if dH x.pre≠0 then dH x.pre else
 if x.body.vis.any (fun y=>y.k==4)=true then 9 else
 if aB x.k x.n x.m x.s []=true then 21 else
 if x.body.vis.any (jN label)=true then 1 else 0
theorem sS:∀l:List Nd,dS l=0→∀x∈l,x.err=0
 | [],_,x,hx=>by simp at hx
 | y::r,h,x,hx=>by
  unfold dS at h
  by_cases hy:y.err=0
  ·rw[TY hy]at h
   rcases TI.1 hx with rfl|hx
   ·exact hy
   ·exact sS r h x hx
  ·rw[TW hy]at h;exact absurd h hy
theorem pE {l:List Nd}(h:dH l=0):l.length≤400∧(∀x∈l,x.dep≤40)∧∀x∈l,x.err=0:=by
 unfold dH at h
 cases hl:nW l
 ·rw[hl]at h
  unfold nW at hl
  simp at hl
  exact⟨hl.1,hl.2,sS l h⟩
 ·rw[hl]at h;simp at h
theorem uU {s:ByteArray}(h:aT s=true):s.size≤24:=by
 unfold aT iB at h
 simp at h
 exact h.2.1
theorem uV {k:Int}{n m:ByteArray}{i d:Int}{len:Nat}(h:aj k n m i d len=0):okN k n len:=by
 refine⟨?_,?_,?_,?_⟩
 ·rintro rfl
  have:aj 6 n m i d len=if ak 1 0 1 n m i d len then 1 else if ah 6 n m 1=0 then bU 6 i d else ah 6 n m 1:=rfl
  rw[this]at h
  cases ha:ak 1 0 1 n m i d len
  ·unfold ak at ha;simp at ha;omega
  ·rw[ha]at h;simp at h
 ·rintro rfl
  have:aj 8 n m i d len=if ak 1 0 2 n m i d len then 1 else if ah 8 n m 1=0 then bU 8 i d else ah 8 n m 1:=rfl
  rw[this]at h
  cases ha:ak 1 0 2 n m i d len
  ·unfold ak at ha;simp at ha;omega
  ·rw[ha]at h;simp at h
 ·rintro rfl
  have:aj 13 n m i d len=if ak 2 0 3 n m i d len then 1 else if ah 13 n m 2=0 then bU 13 i d else ah 13 n m 2:=rfl
  rw[this]at h
  cases ha:ak 2 0 3 n m i d len
  ·unfold ak at ha;simp at ha;omega
  ·rw[ha]at h;simp at h
 ·rintro rfl
  have:aj 3 n m i d len=if ak 1 0 0 n m i d len then 1 else if ah 3 n m 1=0 then bU 3 i d else ah 3 n m 1:=rfl
  rw[this]at h
  cases ha:ak 1 0 0 n m i d len
  ·rw[ha]at h
   cases hn:aT n
   ·simp[ah,nmB,hn]at h
   ·have:=uU hn;unfold maxLen;omega
  ·rw[ha]at h;simp at h
theorem Fo.jU:∀(f:Fo)(dp:Nat),(f.pre dp).length=f.count
 | .nil,_=>rfl
 | .cons _ _ _ _ _ _ _ s r,dp=>by simp[Fo.pre,Fo.count,s.jU,r.jU];omega
theorem Fo.pF:∀(f:Fo)(dp:Nat),(∀x∈f.pre dp,x.err=0)→f.Vld
 | .nil,_,_=>trivial
 | .cons k n m i d A c s r,dp,h=>by
  simp only[Fo.pre,TI,Td]at h
  exact⟨uV (h ⟨dp,k,n,m,i,d,A,s.len,c⟩ (.inl rfl)),s.pF (dp+1) (fun x hx=>h x (.inr (.inl hx))),r.pF dp (fun x hx=>h x (.inr (.inr hx)))⟩
theorem Dc.valid {x:Dc}(h:dH x.pre=0):okN x.k x.n x.s.len∧x.s.Vld∧x.s.count≤399:=by
 obtain⟨h1,_,h3⟩:=pE h
 unfold Dc.pre at h1 h3
 refine⟨uV (h3 _ (Ta ..)),x.s.pF 2 fun y hy=>h3 y (Tc _ hy),?_⟩
 rw[TS,x.s.jU]at h1
 omega
theorem uW (x:Nd)(Z:World):Calls Tryz.prog 126 (#[x.enc] ++ #[]) Z fun e Y=>e=.returned (.bool (x.k==4))∧Below Z.heap.size Z Y:=by
 obtain⟨dp,k,n,m,i,d,A,len,c⟩:=x
 have HB:=Sk (fun o=>(TA Z.heap.size Z).alloc (SA _) o)
 simp only[Nd.enc,Array.append_empty]
 cases hk:k==4
 all_goals
  go_enter Tryz.func126,Tryz.ntmps126
  go_wp2
  go_ret
  exact⟨rfl,HB.out _⟩
theorem uX (label:ByteArray)(lb:Nat)(x:Nd)(Z:World)(hl:Z.cell? ⟨lb,0,none⟩=some (.string label)):Calls Tryz.prog 128 (#[x.enc] ++ #[.pointer (some ⟨lb,0,none⟩)]) Z fun e Y=>e=.returned (.bool (jN label x))∧Below Z.heap.size Z Y:=by
 obtain⟨dp,k,n,m,i,d,A,len,c⟩:=x
 have HB:=Sk (fun o=>(TA Z.heap.size Z).alloc (SA _) o)
 have hlt:=SS Z _ hl
 have hl2:=(SQ Z (.cells #[.int .i64 k,.string n,.string m,.int .i64 i,.int .i64 d,.slice A len c] 44) ⟨lb,0,none⟩ hlt).trans hl
 have e:jN label ⟨dp,k,n,m,i,d,A,len,c⟩=((k==5)&&(n.toList==label.toList)):=rfl
 rw[e]
 clear e hl hlt
 simp only[Nd.enc,List.append_toArray,TU,List.nil_append]
 cases hk:k==5 <;> cases hn:n.toList==label.toList
 all_goals
  go_enter Tryz.func128,Tryz.ntmps128
  go_wp2
  go_ret
  exact⟨rfl,HB.out _⟩
theorem wK (label:ByteArray)(x:Dc)(w:World)(hx:x.Ok w w.heap.size) :
  Calls Tryz.prog 58 #[.string label,.agg x.cells] w fun e w'=>e=.returned (.int .i64 (fG label x))∧Below w.heap.size w w':=by
 obtain⟨E,HE⟩:∃E,Hid (E=fG label x):=⟨_,rfl⟩
 rw[←HE.out]
 have HV:=Sk (fun h=>x.valid h)
 obtain⟨id,kind,pub,nA,nc,names,doubt,k,n,m,i,d,A,c,s⟩:=x
 simp only[Dc.cells]
 obtain⟨W1,hW1⟩:∃W1,(w.alloc (.cells #[.string label] 9)).alloc (.cells #[.int .i64 id,.int .i64 kind,.bool pub,.slice nA names.length nc,.bool doubt,.int .i64 k,.string n,.string m,.int .i64 i,.int .i64 d,.slice A s.len c] 46)=W1:=⟨_,rfl⟩
 have hzw:w.heap.size+1<W1.heap.size:=by subst hW1;simp
 have hB1:Below w.heap.size w W1:=by subst hW1;exact((TA _ _).alloc (SA _) _).alloc (by simp) _
 have hl:W1.cell? ⟨w.heap.size,0,none⟩=some (.string label):=by subst hW1;go_simp
 have h0:W1.cell? ⟨w.heap.size+1,0,none⟩=some (.int .i64 id):=by subst hW1;go_simp
 have h1:W1.cell? ⟨w.heap.size+1,1,none⟩=some (.int .i64 kind):=by subst hW1;go_simp
 have h3:W1.cell? ⟨w.heap.size+1,3,none⟩=some (.slice nA names.length nc):=by subst hW1;go_simp
 have h5:W1.cell? ⟨w.heap.size+1,5,none⟩=some (.int .i64 k):=by subst hW1;go_simp
 have h6:W1.cell? ⟨w.heap.size+1,6,none⟩=some (.string n):=by subst hW1;go_simp
 have h7:W1.cell? ⟨w.heap.size+1,7,none⟩=some (.string m):=by subst hW1;go_simp
 have h8:W1.cell? ⟨w.heap.size+1,8,none⟩=some (.int .i64 i):=by subst hW1;go_simp
 have h9:W1.cell? ⟨w.heap.size+1,9,none⟩=some (.int .i64 d):=by subst hW1;go_simp
 have h10:W1.cell? ⟨w.heap.size+1,10,none⟩=some (.slice A s.len c):=by subst hW1;go_simp
 have hN:=hx.1.keep (w':=W1) (B':=W1.heap.size) (by omega) fun p hp=>hB1.cell hp
 have hS:=hx.2.keep (w':=W1) (B':=W1.heap.size) (by omega) fun p hp=>hB1.cell hp
 have HC:Hid (∀X,Below W1.heap.size W1 X→Below w.heap.size w X∧w.heap.size+1<X.heap.size∧s.Sl X X.heap.size A c∧X.cell? ⟨w.heap.size,0,none⟩=some (.string label)∧X.cell? ⟨w.heap.size+1,5,none⟩=some (.int .i64 k)∧X.cell? ⟨w.heap.size+1,6,none⟩=some (.string n)∧X.cell? ⟨w.heap.size+1,7,none⟩=some (.string m) ∧
   X.cell? ⟨w.heap.size+1,8,none⟩=some (.int .i64 i)∧X.cell? ⟨w.heap.size+1,9,none⟩=some (.int .i64 d)∧X.cell? ⟨w.heap.size+1,10,none⟩=some (.slice A s.len c)):=fun X hX =>
  ⟨hB1.trans (hX.mono (by omega)),SB hzw hX.size,hS.keep hX.size (fun p hp=>hX.cell hp),(hX.cell (p:=⟨w.heap.size,0,none⟩) (by simp;omega)).trans hl,(hX.cell (p:=⟨w.heap.size+1,5,none⟩) hzw).trans h5,(hX.cell (p:=⟨w.heap.size+1,6,none⟩) hzw).trans h6,(hX.cell (p:=⟨w.heap.size+1,7,none⟩) hzw).trans h7,
   (hX.cell (p:=⟨w.heap.size+1,8,none⟩) hzw).trans h8,(hX.cell (p:=⟨w.heap.size+1,9,none⟩) hzw).trans h9,(hX.cell (p:=⟨w.heap.size+1,10,none⟩) hzw).trans h10⟩
 have HN:=Sk (uY names nA nc W1 hN)
 have HB1:=Sk hB1
 clear hl h5 h6 h7 h8 h9 h10 hN hS hB1 hx
 obtain⟨E1,HE1⟩:∃E1,Hid (dnE names=E1):=⟨_,rfl⟩
 obtain⟨E2,HE2⟩:∃E2,Hid (dH (Dc.pre ⟨id,kind,pub,nA,nc,names,doubt,k,n,m,i,d,A,c,s⟩)=E2):=⟨_,rfl⟩
 obtain⟨b4,Hb4⟩:∃b4,Hid ((Fo.cons k n m i d A c s .nil).vis.any (fun y=>y.k==4)=b4):=⟨_,rfl⟩
 obtain⟨fb,Hfb⟩:∃fb,Hid (aB k n m s []=fb):=⟨_,rfl⟩
 obtain⟨br,Hbr⟩:∃br,Hid ((Fo.cons k n m i d A c s .nil).vis.any (jN label)=br):=⟨_,rfl⟩
 have HD:Hid (E=if id<1∨999999<id then 2 else if kind≠1∧kind≠2∧kind≠3 then 9 else if E1≠0 then E1 else if E2≠0 then E2 else if b4=true then 9 else if fb=true then 21 else if br=true then 1 else 0):=by
  show E=_
  rw[HE.out,fG,HE2.out]
  simp only[Dc.body,HE1.out,Hb4.out,Hfb.out,Hbr.out]
 clear HE
 by_cases c1:id<1
 ·have HR:=Sk (HD.out.trans (TY (.inl c1)))
  go_enter Tryz.func58,Tryz.ntmps58
  go_wp2
  go_ret
  exact⟨by rw[HR.out];rfl,HB1.out⟩
 have c1':decide (id<1)=false:=by simpa using c1
 by_cases c2:999999<id
 ·have HR:=Sk (HD.out.trans (TY (.inr c2)))
  clear c1
  go_enter Tryz.func58,Tryz.ntmps58
  go_wp2
  go_ret
  exact⟨by rw[HR.out];rfl,HB1.out⟩
 have HD2:=Sk (HD.out.trans (TW (by omega)))
 have c2':decide (999999<id)=false:=by simpa using c2
 clear HD c1 c2
 by_cases c3:kind≠1∧kind≠2∧kind≠3
 ·have HR:=Sk (HD2.out.trans (TY c3))
  have k1:(kind != 1)=true:=by simpa using c3.1
  have k2:(kind != 2)=true:=by simpa using c3.2.1
  have k3:(kind != 3)=true:=by simpa using c3.2.2
  clear c3
  go_enter Tryz.func58,Tryz.ntmps58
  go_wp2
  go_ret
  exact⟨by rw[HR.out];rfl,HB1.out⟩
 have HD3:=Sk (HD2.out.trans (TW c3))
 clear HD2
 have hkk:kind=1∨kind=2∨kind=3:=by omega
 clear c3
 have EH:=jO (fid:=126) rfl rfl rfl
 have Nq:=jO (fid:=128) rfl rfl rfl
 have H1:=Sk EH
 have H2:=Sk Nq
 clear EH Nq
 rcases hkk with rfl|rfl|rfl
 all_goals
  go_enter Tryz.func58,Tryz.ntmps58
  go_wp2_with fail
  refine HN.out.mono ?_
  rintro e w2 ⟨rfl,hb2⟩
  rw[HE1.out]
  obtain⟨hB2,hz2,hs2,hl2,y5,y6,y7,y8,y9,y10⟩:=HC.out w2 hb2
  have HB2:=Sk (Sn hb2 hB2)
  clear hb2 hB2 hW1 h0 h1 h3
  by_cases e1:E1=0
  rotate_left
  ·have HR:=Sk (HD3.out.trans (TY e1))
   have e1':(E1 != 0)=true:=by simpa using e1
   go_wp2
   go_ret
   exact⟨by rw[HR.out];rfl,HB2.out.2⟩
  subst e1
  have HD4:=Sk (HD3.out.trans (TW (by simp)))
  have HC2:=Sk (jD k n m i d A c s w2 hs2)
  go_wp2_with fail
  refine HC2.out.mono ?_
  rintro e w3 ⟨rfl,hb3⟩
  have Ac:=HE2.out
  simp only[Dc.pre]at Ac
  rw[Ac]
  have Ju:=HB2.out.1.trans (hb3.mono HB2.out.1.size)
  obtain⟨hB3,hz3,hs3,hl3,z5,z6,z7,z8,z9,z10⟩:=HC.out w3 Ju
  have HB3:=Sk (Sn Ju hB3)
  clear hb3 Ju hB3 y5 y6 y7 y8 y9 y10 hl2 hs2 HC2
  by_cases e2:E2=0
  rotate_left
  ·have HR:=Sk (HD4.out.trans (TY e2))
   have e2':(E2 != 0)=true:=by simpa using e2
   clear Ac
   go_wp2
   go_ret
   exact⟨by rw[HR.out];rfl,HB3.out.2⟩
  subst e2
  have HD5:=Sk (HD4.out.trans (TW (by simp)))
  obtain⟨v1,v2,v3⟩:=HV.out HE2.out
  have HVV:=Sk (Sn Ac (Sn v1 (Sn v2 v3)))
  have HC3:=Sk (qL 126 H1.out #[] (fun y=>y.k==4) k n m i d A c s w3 hs3 (by omega) (fun x Z _=>uW x Z))
  clear Ac v1 v2 v3
  go_wp2_with fail
  refine HC3.out.mono ?_
  rintro e w4 ⟨rfl,hb4⟩
  rw[Hb4.out]
  have Jv:=HB3.out.1.trans (hb4.mono HB3.out.1.size)
  obtain⟨hB4,hz4,hs4,hl4,y5,y6,y7,y8,y9,y10⟩:=HC.out w4 Jv
  have HB4:=Sk (Sn Jv hB4)
  clear hb4 Jv hB4 z5 z6 z7 z8 z9 z10 hl3 hs3 HC3
  cases b4
  rotate_left
  ·have HR:=Sk (HD5.out.trans (TY rfl))
   go_wp2
   go_ret
   exact⟨by rw[HR.out];rfl,HB4.out.2⟩
  have HD6:=Sk (HD5.out.trans (TW (by simp)))
  have HC4:=Sk (Jt k n m i d A c s w4 hs4 HVV.out.1 HVV.out.2.1 HVV.out.2.2.1 (by have:=HVV.out.2.2.2;omega))
  go_wp2_with fail
  refine HC4.out.mono ?_
  rintro e w5 ⟨fA,fn,fc,rfl,hff,hfn,hb5⟩
  rw[Hfb.out]at hff
  have Jw:=HB4.out.1.trans (hb5.mono HB4.out.1.size)
  obtain⟨hB5,hz5,hs5,hl5,z5,z6,z7,z8,z9,z10⟩:=HC.out w5 Jw
  have HB5:=Sk (Sn Jw hB5)
  clear hb5 Jw hB5 y5 y6 y7 y8 y9 y10 hl4 hs4 HC4
  cases fb
  rotate_left
  ·have HR:=Sk (HD6.out.trans (TY rfl))
   have hpos:0<fn:=by
    rcases Nat.eq_zero_or_pos fn with h|h
    ·exact absurd (hff.1 h) (by simp)
    ·exact h
   clear hff
   go_wp2
   go_ret
   exact⟨by rw[HR.out];rfl,HB5.out.2⟩
  obtain rfl:=hff.2 rfl
  have HD7:=Sk (HD6.out.trans (TW (by simp)))
  have HC5:=Sk (qL 128 H2.out #[.pointer (some ⟨w.heap.size,0,none⟩)] (jN label) k n m i d A c s w5 hs5 (by have:=HVV.out.2.2.2;omega) (fun x Z hZ=>uX label w.heap.size x Z ((hZ.cell (p:=⟨w.heap.size,0,none⟩) (by simp;omega)).trans hl5)))
  clear hff
  go_wp2_with fail
  refine HC5.out.mono ?_
  rintro e w6 ⟨rfl,hb6⟩
  rw[Hbr.out]
  have hB6:=Sk (HB5.out.2.trans (hb6.mono HB5.out.2.size))
  clear hb6 z5 z6 z7 z8 z9 z10 hl5 hs5 HC5
  cases br
  ·have HR:=Sk (HD7.out.trans (TW (by simp)))
   go_wp2
   go_ret
   exact⟨by rw[HR.out];rfl,hB6.out⟩
  ·have HR:=Sk (HD7.out.trans (TY rfl))
   go_wp2
   go_ret
   exact⟨by rw[HR.out];rfl,hB6.out⟩
end Go.Proofs.Q
