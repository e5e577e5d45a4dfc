/- helper lemmas -/
import Derived.Test.YtmmecapgnmlaiaaGreatDoorYwt
set_option maxRecDepth 100000
set_option maxHeartbeats 16000000
namespace Go.Proofs.Q
open Go.RowKit Go.Proofs Go.Shelf
theorem oN {x y:ByteArray×Int}:eqN x y=true↔x=y:=by
 obtain⟨a,i⟩:=x
 obtain⟨b,j⟩:=y
 simp only[eqN,Ue,beq_iff_eq,Prod.mk.injEq]
 refine and_congr_left fun _=>⟨fun h=>?_,fun h=>by rw[h]⟩
 rw[ByteArray.toList_eq,ByteArray.toList_eq]at h
 exact ByteArray.ext (Array.ext' h)
theorem II (l:List (ByteArray×Int))(x y:ByteArray×Int):y∈eP l x↔y∈l∨y=x:=by
 have h:=List.takeWhile_append_dropWhile (p:=fun y=>dD y x) (l:=l)
 unfold eP
 split
 ·rename_i hd
  rw[hd,TV]at h
  rw[h]
  simp
 ·rename_i z t hd
  split
  ·rename_i he
   have:=oN.1 he
   subst this
   constructor
   ·exact .inl
   ·rintro (h'|rfl)
    ·exact h'
    ·rw[←h,hd];simp
  ·rw[Td]
   conv=>rhs;rw[←h,hd]
   simp only[Td,TI]
   constructor
   ·rintro (h'|h'|h'|h')
    ·exact .inl (.inl h')
    ·exact .inr h'
    ·exact .inl (.inr (.inl h'))
    ·exact .inl (.inr (.inr h'))
   ·rintro ((h'|h'|h')|h')
    ·exact .inl h'
    ·exact .inr (.inr (.inl h'))
    ·exact .inr (.inr (.inr h'))
    ·exact .inr (.inl h')
theorem BK:∀(l:List (ByteArray×Int))(p y:ByteArray×Int),y∈l→y=p∨y∈dd p l
 | [],_,_,h=>by simp at h
 | x::r,p,y,h=>by
  by_cases he:eqN x p=true
  ·rw[zf he]
   have hx:=oN.1 he
   subst hx
   rcases TI.1 h with rfl|h
   ·exact .inl rfl
   ·exact BK r x y h
  ·rw[yZ (by simpa using he)]
   rcases TI.1 h with rfl|h
   ·exact .inr (Ta ..)
   ·rcases BK r x y h with rfl|h
    ·exact .inr (Ta ..)
    ·exact .inr (Tc _ h)
theorem BL (l:List (ByteArray×Int))(y:ByteArray×Int):y∈cZ l↔y∈l:=by
 refine⟨qR l y,fun h=>?_⟩
 cases l with
 | nil=>simp at h
 | cons x r =>
  simp only[cZ]
  rcases TI.1 h with rfl|h
  ·exact Ta ..
  ·rcases BK r x y h with rfl|h
   ·exact Ta ..
   ·exact Tc _ h
theorem jr (x:ByteArray×Int):¬ltN x x:=by simp[ltN,List.lt_irrefl]
theorem jh {x y z:ByteArray×Int}(h1:ltN x y)(h2:ltN y z):ltN x z:=by
 unfold ltN at *
 rcases h1 with h1|⟨h1,h1'⟩ <;> rcases h2 with h2|⟨h2,h2'⟩
 ·exact .inl (List.lt_trans h1 h2)
 ·exact .inl (h2▸h1)
 ·exact .inl (h1▸h2)
 ·exact .inr ⟨h1.trans h2,by omega⟩
theorem oO (x y:ByteArray×Int):ltN x y∨x=y∨ltN y x:=by
 unfold ltN
 rcases vw x.1.data.toList y.1.data.toList with h|h|h
 ·exact .inl (.inl h)
 ·rcases Int.lt_trichotomy x.2 y.2 with h2|h2|h2
  ·exact .inl (.inr ⟨h,h2⟩)
  ·exact .inr (.inl (Prod.ext (WideShapes.bytes_inj h) h2))
  ·exact .inr (.inr (.inr ⟨h.symm,h2⟩))
 ·exact .inr (.inr (.inl h))
theorem yJ (x y:ByteArray×Int):dD x y=true↔ltN x y:=by
 unfold dD ltN
 rw[bytesLess_eq,ByteArray.toList_eq,ByteArray.toList_eq]
 simp[←Array.toList_inj]
theorem yK {l:List (ByteArray×Int)}(h:l.Pairwise ltN):l.Nodup:=by
 refine List.nodup_iff_pairwise_ne.2 (h.imp ?_)
 intro a b hab e
 subst e
 exact jr a hab
theorem Mt {l m:List (ByteArray×Int)}(hl:l.Pairwise ltN)(hm:m.Pairwise ltN)(h:∀x,x∈l↔x∈m):l=m:=by
 refine List.Perm.eq_of_pairwise (le:=ltN) (fun a b _ _ h1 h2=>absurd (jh h1 h2) (jr a)) hl hm ((List.perm_ext_iff_of_nodup (yK hl) (yK hm)).2 h)
theorem BM {l:List (ByteArray×Int)}(h:l.Pairwise ltN)(x:ByteArray×Int):(eP l x).Pairwise ltN:=by
 have h0:=List.takeWhile_append_dropWhile (p:=fun y=>dD y x) (l:=l)
 have ht:∀y∈l.takeWhile (fun y=>dD y x),ltN y x:=fun y hy=>(yJ _ _).1 (by have:=List.all_takeWhile (p:=fun y=>dD y x) (l:=l);rw[List.all_eq_true]at this;exact this y hy)
 unfold eP
 split
 ·rename_i hd
  rw[hd,TV]at h0
  rw[h0]at ht ⊢
  exact List.pairwise_append.2 ⟨h,List.pairwise_singleton _ _,fun a ha b hb=>by rw[Te.1 hb];exact ht a ha⟩
 ·rename_i y t hd
  split
  ·exact h
  ·rename_i hne
   have hy:¬ltN y x:=by
    have:=List.head?_dropWhile_not (fun y=>dD y x) l
    rw[hd]at this
    simp only[List.head?_cons]at this
    intro hc
    rw[(yJ _ _).2 hc]at this
    simp at this
   have hxy:ltN x y:=by
    rcases oO x y with h|h|h
    ·exact h
    ·exact absurd (oN.2 h.symm) hne
    ·exact absurd h hy
   rw[←h0,hd]at h
   obtain⟨h1,h2,h3⟩:=List.pairwise_append.1 h
   obtain⟨h4,h5⟩:=Ub.1 h2
   refine List.pairwise_append.2 ⟨h1,Ub.2 ⟨fun z hz=>?_,h2⟩,fun a ha b hb=>?_⟩
   ·rcases TI.1 hz with rfl|hz
    ·exact hxy
    ·exact jh hxy (h4 z hz)
   ·rcases TI.1 hb with rfl|hb
    ·exact ht a ha
    ·exact h3 a ha b hb
theorem BN (l:List (ByteArray×Int)):(cK l).Pairwise fun a b=>¬ltN b a:=by
 have h:=List.pairwise_mergeSort (le:=fun x y=>!(decide (ltN y x))) (fun a b c h1 h2=>?_) (fun a b=>?_) l
 ·exact h.imp fun {a b} hab=>by simpa using hab
 ·simp only[Bool.not_eq_true',decide_eq_false_iff_not]at *
  intro h
  rcases oO b a with h3|h3|h3
  ·exact h1 h3
  ·subst h3;exact h2 h
  ·rcases oO c b with h4|h4|h4
   ·exact h2 h4
   ·subst h4;exact h1 h
   ·exact jr _ (jh (jh h3 h4) h)
 ·rcases oO a b with h3|h3|h3
  ·have:¬ltN b a:=fun h=>jr _ (jh h h3)
   simp[this]
  ·subst h3;simp[jr]
  ·have:¬ltN a b:=fun h=>jr _ (jh h h3)
   simp[this]
theorem rM:∀(l:List (ByteArray×Int))(p:ByteArray×Int),(p::l).Pairwise (fun a b=>¬ltN b a)→(p::dd p l).Pairwise ltN
 | [],p,_=>List.pairwise_singleton _ _
 | y::r,p,h=>by
  obtain⟨h1,h2⟩:=Ub.1 h
  by_cases he:eqN y p=true
  ·rw[zf he]
   obtain rfl:=oN.1 he
   exact rM r y h2
  ·rw[yZ (by simpa using he)]
   have ih:=rM r y h2
   have hpy:ltN p y:=by
    rcases oO p y with h3|h3|h3
    ·exact h3
    ·exact absurd (oN.2 h3.symm) he
    ·exact absurd h3 (h1 y (Ta ..))
   refine Ub.2 ⟨fun z hz=>?_,ih⟩
   rcases TI.1 hz with rfl|hz
   ·exact hpy
   ·exact jh hpy ((Ub.1 ih).1 z hz)
theorem vW {l:List (ByteArray×Int)}(h:l.Pairwise fun a b=>¬ltN b a):(cZ l).Pairwise ltN:=by
 cases l with
 | nil=>exact List.Pairwise.nil
 | cons x r=>exact rM r x h
def BO (l:List (ByteArray×Int)):List (ByteArray×Int):=cZ (cK l)
theorem Dk (l:List (ByteArray×Int)):(BO l).Pairwise ltN:=vW (BN l)
theorem KA (l:List (ByteArray×Int))(x:ByteArray×Int):x∈BO l↔x∈l:=by
 unfold BO
 rw[BL]
 exact List.mem_mergeSort
theorem Mv {l m:List (ByteArray×Int)}(hm:m.Pairwise ltN)(h:∀x,x∈m↔x∈l):BO l=m:=Mt (Dk l) hm fun x=>by rw[KA,h]
theorem FY (xa:ByteArray)(xi:Int)(w:World) :
  Calls Tryz.prog 216 #[.slice none 0 0,.agg #[.string xa,.int .i64 xi]] w (ku [(xa,xi)] w):=by
 obtain⟨i0,hi,hz0,hz1,hz2⟩:=info_parts Tryz.tZ
 obtain⟨W0,hW0⟩:∃W0,w.alloc (.cells #[.string xa,.int .i64 xi] 102)=W0:=⟨_,rfl⟩
 have hzw:w.heap.size<W0.heap.size:=by subst hW0;simp
 have hB0:Below w.heap.size w W0:=by subst hW0;exact(TA _ _).alloc (SA _) _
 have hx0:W0.heap[w.heap.size]?=some (.cells #[.string xa,.int .i64 xi] 102 (0,0)):=by rw[←hW0];exact Sv w _
 have HC:Hid (∀X,Below W0.heap.size W0 X→Below w.heap.size w X∧X.cell? ⟨w.heap.size,0,none⟩=some (.string xa)∧X.cell? ⟨w.heap.size,1,none⟩=some (.int .i64 xi)):=fun X hX=>by
  have h0:=(hX.block w.heap.size hzw).trans hx0
  exact⟨hB0.trans (hX.mono (SF hzw)),Sq X _ 0 _ _ (0,0) h0,Sq X _ 1 _ _ (0,0) h0⟩
 clear hB0 hx0
 go_enter Tryz.func216,Tryz.ntmps216
 go_wp2_with fail
 clear hW0
 go_loopg [5] 0 (fun _ ct wr=>ct=.int .i64 0∧Below W0.heap.size W0 wr)
 case atStart=>exact⟨rfl,TA _ _⟩
 case round =>
  obtain⟨rfl,HB⟩:=hrel
  have HG':=Sk HB
  clear HB
  go_wp2_with fail
  go_quiet (fail)
  have ug:=below_drewN HG'.out nq
  generalize wr.drewN nq=X0 at ug ⊢
  go_wp2_with fail
  go_quiet (fail)
  have hBX:=below_drewN ug nq
  generalize X0.drewN nq=X at hBX ⊢
  clear ug
  go_wp2_with fail
  have hb0:Below X.heap.size X X.drew:=iL (TA _ _)
  have HKc:Hid (∀Y,Below X.heap.size X Y→Y.cell? ⟨w.heap.size,0,none⟩=some (.string xa)∧Y.cell? ⟨w.heap.size,1,none⟩=some (.int .i64 xi)):=fun Y hY=>(HC.out Y (hBX.trans (hY.mono hBX.size))).2
  have HO1:=Sk (World.ownsRow_lit (base:=X.heap.size) (e:=102) (size:=2) X.drew #[] 0 (SA _) (by simp) rfl)
  have HO2:=Sk (HO1.out.alloc (.cells #[.string xa,.int .i64 xi] 102))
  have ho3:=World.ownsRow_lit (base:=X.heap.size) (e:=102) (size:=2) (X.drew.alloc (.cells #[.string xa,.int .i64 xi] 102)) #[] 0 (by simp) (by simp) rfl
  rw[show (X.drew.alloc (.cells #[.string xa,.int .i64 xi] 102)).heap.size=X.heap.size+1 by simp]at ho3
  have HO3:=Sk ho3
  clear ho3
  have hba:Below X.heap.size X (X.drew.alloc (.cells #[] 102)):=hb0.alloc (SA _) _
  have hbb:Below X.heap.size X ((X.drew.alloc (.cells #[] 102)).alloc (.cells #[.string xa,.int .i64 xi] 102)):=hba.alloc hba.size _
  have hbn:Below X.heap.size X (X.drew.alloc (.cells #[.string xa,.int .i64 xi] 102)):=hb0.alloc (SA _) _
  have hbc:Below X.heap.size X ((X.drew.alloc (.cells #[.string xa,.int .i64 xi] 102)).alloc (.cells #[] 102)):=hbn.alloc hbn.size _
  have HGa:=Sk (fun w1 (hg:(X.drew.alloc (.cells #[] 102)).grownBy w1 (Value.slice (some ⟨X.drew.heap.size,0,none⟩) 0 0).ownBlock)=>hba.grown hg hba.size (fun q hq=>(HO1.out.lt q hq).1))
  have HGb:=Sk (fun w1 (hg:((X.drew.alloc (.cells #[] 102)).alloc (.cells #[.string xa,.int .i64 xi] 102)).grownBy w1 (Value.slice (some ⟨X.drew.heap.size,0,none⟩) 0 0).ownBlock)=>Sn (hbb.grown hg hbb.size (fun q hq=>(HO1.out.lt q hq).1)) (show w1.heap[X.heap.size+1]?=some (.cells #[.string xa,.int .i64 xi] 102 (0,0))from (hg.block (X.heap.size+1) (by simp) (fun h=>by have:=TL h;change X.heap.size+1=X.heap.size at this;omega)).trans (by have:=Sv (X.drew.alloc (.cells #[] 102)) (.cells #[.string xa,.int .i64 xi] 102);rwa [show (X.drew.alloc (.cells #[] 102)).heap.size=X.heap.size+1 by simp]at this)))
  have HGc:=Sk (fun w1 (hg:((X.drew.alloc (.cells #[.string xa,.int .i64 xi] 102)).alloc (.cells #[] 102)).grownBy w1 (Value.slice (some ⟨X.heap.size+1,0,none⟩) 0 0).ownBlock)=>Sn (hbc.grown hg hbc.size (fun q hq=>(HO3.out.lt q hq).1)) (show w1.heap[X.heap.size]?=some (.cells #[.string xa,.int .i64 xi] 102 (0,0))from (hg.block X.heap.size (by simp;omega) (fun h=>by have:=TL h;change X.heap.size=X.heap.size+1 at this;omega)).trans (by rw[Tt _ _ _ (by simp)];exact Sv X.drew _)))
  have HM:Hid (0+0≤maxLen∧(0+0)*24≤140737488355328∧0+0+1≤maxLen∧(0+0+1)*24≤140737488355328):=by
   refine⟨?_,?_,?_,?_⟩ <;> decide
  have HBB:=Sk (Sn hba (Sn hbb hbc))
  have mI:=Sk (Sn hb0 hbn)
  clear hba hbb hbc hb0 hbn
  go_region_held3 (fun Y=>Y.cell? ⟨w.heap.size,0,none⟩=some (.string xa)∧Y.cell? ⟨w.heap.size,1,none⟩=some (.int .i64 xi))
   (first|exact HKc.out _ hb2|exact HKc.out _ hb1|exact HKc.out _ (hb1.alloc hb1.size _)|exact HKc.out _ mI.out.1|exact HKc.out _ mI.out.2|exact HKc.out _ HBB.out.1|exact HKc.out _ HBB.out.2.1|exact HKc.out _ HBB.out.2.2)
   (first
    | (refine aP _ rfl (.tmp 34) (.tmp 37) 99 rfl X.heap.size 102 i0 _ 2 24 Tryz.underlying99 hi hz0 hz1 hz2 rfl (Nat.succ_pos 1) _ 0 [] rfl HO1.out none 0 0 [] rfl rfl (fun _=>rfl) (fun _ h=>nomatch h) (fun u hu=>nomatch hu) HM.out.1 HM.out.2.1 HBB.out.1.size ?_;intro v1 w1 hown1 hg1;have hb1:=HGa.out w1 hg1;have iw:True:=trivial)
    | (refine aP _ rfl (.tmp 34) (.tmp 37) 99 rfl X.heap.size 102 i0 _ 2 24 Tryz.underlying99 hi hz0 hz1 hz2 rfl (Nat.succ_pos 1) _ 0 [] rfl HO2.out none 0 0 [] rfl rfl (fun _=>rfl) (fun _ h=>nomatch h) (fun u hu=>nomatch hu) HM.out.1 HM.out.2.1 HBB.out.2.1.size ?_;intro v1 w1 hown1 hg1;obtain⟨hb1,hD⟩:=HGb.out w1 hg1;have o8:True:=trivial)
    | (refine aP _ rfl (.tmp 34) (.tmp 37) 99 rfl X.heap.size 102 i0 _ 2 24 Tryz.underlying99 hi hz0 hz1 hz2 rfl (Nat.succ_pos 1) _ 0 [] rfl HO3.out none 0 0 [] rfl rfl (fun _=>rfl) (fun _ h=>nomatch h) (fun u hu=>nomatch hu) HM.out.1 HM.out.2.1 HBB.out.2.2.size ?_;intro v1 w1 hown1 hg1;obtain⟨hb1,hD⟩:=HGc.out w1 hg1;have uf:True:=trivial)
    | (have _t:=iw;refine aP _ rfl (.tmp 38) (.tmp 40) 99 rfl X.heap.size 102 i0 _ 2 24 Tryz.underlying99 hi hz0 hz1 hz2 rfl (Nat.succ_pos 1) v1 _ _ rfl (hown1.alloc _) (some ⟨w1.heap.size,0,none⟩) 1 1 [.string xa,.int .i64 xi] rfl rfl (fun h=>nomatch h) (ny _ _ _) (bF [(xa,xi)]) HM.out.2.2.1 HM.out.2.2.2 (hb1.alloc hb1.size _).size ?_;intro v2 w2 hown2 hg2;have hb2:=(hb1.alloc hb1.size (.cells #[.string xa,.int .i64 xi] 102)).grown hg2 (hb1.alloc hb1.size _).size (fun q hq=>(hown1.lt q hq).1))
    | (have _t:=o8;refine aP _ rfl (.tmp 38) (.tmp 40) 99 rfl X.heap.size 102 i0 _ 2 24 Tryz.underlying99 hi hz0 hz1 hz2 rfl (Nat.succ_pos 1) v1 _ _ rfl hown1 (some ⟨X.heap.size+1,0,none⟩) 1 1 [.string xa,.int .i64 xi] rfl rfl (fun h=>nomatch h) (jk hD) (bF [(xa,xi)]) HM.out.2.2.1 HM.out.2.2.2 hb1.size ?_;intro v2 w2 hown2 hg2;have hb2:=hb1.grown hg2 hb1.size (fun q hq=>(hown1.lt q hq).1))
    | (have _t:=uf;refine aP _ rfl (.tmp 38) (.tmp 40) 99 rfl X.heap.size 102 i0 _ 2 24 Tryz.underlying99 hi hz0 hz1 hz2 rfl (Nat.succ_pos 1) v1 _ _ rfl hown1 (some ⟨X.heap.size,0,none⟩) 1 1 [.string xa,.int .i64 xi] rfl rfl (fun h=>nomatch h) (jk hD) (bF [(xa,xi)]) HM.out.2.2.1 HM.out.2.2.2 hb1.size ?_;intro v2 w2 hown2 hg2;have hb2:=hb1.grown hg2 hb1.size (fun q hq=>(hown1.lt q hq).1)))
  all_goals (
   go_wp2_with (at_builtin;refine aC _ rfl (.tmp 42) (.tmp 45) 99 rfl X.heap.size 102 i0 _ 2 24 Tryz.underlying99 hi hz0 hz1 hz2 rfl (Nat.succ_pos 1) v2 _ _ rfl hown2 none 0 0 [] rfl rfl (fun _=>rfl) (fun _ h=>nomatch h) (fun u hu=>nomatch hu) HM.out.2.2.1 HM.out.2.2.2 hb2.size ?_;intro v3 w5 hown3 hg3)
   go_ret
   have hb5:=hb2.grown hg3 hb2.size (fun q hq=>(hown2.lt q hq).1)
   have hf:w5.ownsRow X.heap.size 102 2 v3 [(xa,xi)].length (aL [(xa,xi)]):=by
    simpa [aL,dY]using hown3
   obtain⟨A',c',rfl,ho⟩:=fE.of hf
   exact⟨A',c',rfl,ho,(HC.out _ (hBX.trans (hb5.mono hBX.size))).1⟩)
theorem FZ (l:List (ByteArray×Int))(xa:ByteArray)(xi:Int)(A:Option Addr)(c:Nat)(w:World)(hs:fE w A c l)(hl:l.length≤1000000) :
  Calls Tryz.prog 216 #[.slice A l.length c,.agg #[.string xa,.int .i64 xi]] w (ku (eP l (xa,xi)) w):=by
 rcases hs.cells with⟨rfl,rfl,rfl⟩|⟨g,rfl,_⟩
 ·exact FY xa xi w
 ·exact Cx l xa xi g c w hs hl
def Fo.wr:Fo→List (ByteArray×Int)→List (ByteArray×Int)
 | .nil,l=>l
 | .cons k n _ i _ _ _ s r,l=>r.wr (s.wr (if k=5 then eP l (n,i)else l))
def fO (k:Int)(n:ByteArray)(i:Int)(s:Fo)(l:List (ByteArray×Int)):List (ByteArray×Int):=s.wr (if k=5 then eP l (n,i)else l)
theorem rO (l:List (ByteArray×Int))(x:ByteArray×Int):(eP l x).length≤l.length+1:=by
 have h:=List.takeWhile_append_dropWhile (p:=fun y=>dD y x) (l:=l)
 have hl:=congrArg List.length h
 rw[SX]at hl
 unfold eP
 split
 ·rename_i hd;rw[hd]at hl;simp at hl ⊢;omega
 ·rename_i hd
  split
  ·omega
  ·rw[hd]at hl;simp at hl ⊢;omega
theorem Fo.BP:∀(s:Fo)(l:List (ByteArray×Int)),(s.wr l).length≤l.length+s.count
 | .nil,l=>by simp[Fo.wr,Fo.count]
 | .cons k n m i d A c s r,l=>by
  simp only[Fo.wr,Fo.count]
  have h1:=BP r (s.wr (if k=5 then eP l (n,i)else l))
  have h2:=BP s (if k=5 then eP l (n,i)else l)
  have h3:(if k=5 then eP l (n,i)else l).length≤l.length+1:=by
   split
   ·exact rO _ _
   ·omega
  omega
theorem tK (k:Int)(n:ByteArray)(i:Int)(s:Fo)(l:List (ByteArray×Int)):(fO k n i s l).length≤l.length+(1+s.count):=by
 unfold fO
 have h2:=s.BP (if k=5 then eP l (n,i)else l)
 have h3:(if k=5 then eP l (n,i)else l).length≤l.length+1:=by
  split
  ·exact rO _ _
  ·omega
 omega
def BQ (s:Fo):Prop:=∀(k:Int)(n m:ByteArray)(i d:Int)(A:Option Addr)(c:Nat)(l:List (ByteArray×Int))(lA:Option Addr)(lc:Nat)(w:World),s.Sl w w.heap.size A c→fE w lA lc l→l.length+(1+s.count)≤1000000 →
  Calls Tryz.prog 158 #[.slice lA l.length lc,.agg #[.int .i64 k,.string n,.string m,.int .i64 i,.int .i64 d,.slice A s.len c]] w (ku (fO k n i s l) w)
theorem Mw (s:Fo)(ih:s.All BQ):BQ s:=by
 intro k n m i d A c l lA lc w hs hl hcnt
 have hcap:s.len≤9223372036854775807:=by have:=hs.1;have:=hs.2.1;unfold maxLen at this;omega
 obtain⟨W0,hW0⟩:∃W0,w.alloc (.cells #[.int .i64 k,.string n,.string m,.int .i64 i,.int .i64 d,.slice A s.len c] 44)=W0:=⟨_,rfl⟩
 have hzw:w.heap.size<W0.heap.size:=by subst hW0;simp
 have hB0:Below w.heap.size w W0:=by subst hW0;exact(TA _ _).alloc (SA _) _
 have hx0:W0.heap[w.heap.size]?=some (.cells #[.int .i64 k,.string n,.string m,.int .i64 i,.int .i64 d,.slice A s.len c] 44 (0,0)):=by rw[←hW0];exact Sv w _
 have HC:Hid (∀X,Below W0.heap.size W0 X→Below w.heap.size w X∧X.cell? ⟨w.heap.size,0,none⟩=some (.int .i64 k)∧X.cell? ⟨w.heap.size,1,none⟩=some (.string n)∧X.cell? ⟨w.heap.size,3,none⟩=some (.int .i64 i)∧X.cell? ⟨w.heap.size,5,none⟩=some (.slice A s.len c)):=fun X hX=>by
  have h0:=(hX.block w.heap.size hzw).trans hx0
  exact⟨hB0.trans (hX.mono (SF hzw)),Sq X _ 0 _ _ (0,0) h0,Sq X _ 1 _ _ (0,0) h0,Sq X _ 3 _ _ (0,0) h0,Sq X _ 5 _ _ (0,0) h0⟩
 have HS:=Sk (Sn hs ih)
 obtain⟨R,HR⟩:∃q,Hid (fO k n i s l=q):=⟨_,Sk rfl⟩
 rw[HR.out]
 have hl0:=hl.below hB0 (SA _)
 obtain⟨_,x0,x1,x3,x5⟩:=HC.out W0 (TA _ _)
 clear hs ih hl hB0 hx0
 by_cases hk:k=5
 ·subst hk
  have HRs:=Sk (show s.wr (eP l (n,i))=R by rw[←HR.out];rfl)
  have hwl:=rO l (n,i)
  have HW:=Sk (FZ l n i lA lc W0 hl0 (by omega))
  clear HR hl0
  obtain⟨L0,HL0⟩:∃q,Hid (eP l (n,i)=q):=⟨_,Sk rfl⟩
  rw[HL0.out]at HRs hwl HW
  go_enter Tryz.func158,Tryz.ntmps158
  go_wp2_with fail
  refine HW.out.mono ?_
  rintro e w1 ⟨A1,c1,rfl,ho1,hb1⟩
  have HO1:=Sk (Sn ho1 hb1)
  clear ho1 hb1 x0 x1 x3 x5 hW0 HW HL0
  go_wp2_with fail
  go_loopg [0,5] s.len (fun gg lv ct wr=>∃(j:Nat) (r:Fo) (A2:Option Addr) (c2:Nat) (L:List (ByteArray×Int)),gg=r.len∧j+r.len=s.len∧ct=.int .i64 j∧lv=.slice A2 L.length c2 ∧
   fE wr A2 c2 L∧r.wr L=R∧(L.length+r.count≤l.length+1+s.count∧r.count≤s.count)∧r.All BQ ∧
   (r≠.nil→∃b o,A=some ⟨b,o,none⟩∧b<w.heap.size∧r.At wr w.heap.size b (o+j*6))∧Below W0.heap.size W0 wr)
  case atStart =>
   refine⟨0,s,A1,c1,L0,rfl,by omega,rfl,rfl,HO1.out.1,HRs.out,⟨by omega,SA _⟩,HS.out.2,?_,HO1.out.2⟩
   intro hne
   obtain⟨b,o,e,hb,h⟩:=HS.out.1.2.2 hne
   exact⟨b,o,e,hb,by rw[Nat.zero_mul,Nat.add_zero];exact h.keep (SA _) (fun p hp=>(HC.out _ HO1.out.2).1.cell hp) hb⟩
  case round =>
   obtain⟨j,r,A2,c2,L,HG,hjr,rfl,rfl,hown,hR,⟨hct,hcn⟩,HA,HAt,HB⟩:=hrel
   have HBh:=Sk (Sn HB (Sn hown (Sn hR HA)))
   clear hown hR HA HB
   have hzr:=HBh.out.1.size
   obtain⟨hBw,_,_,_,x5⟩:=HC.out wr HBh.out.1
   have HBw:=Sk hBw
   clear hBw
   cases r with
   | nil =>
    have gJ:s.len≤j:=by simp only[Fo.len]at hjr;omega
    have nT:j≤s.len:=by simp only[Fo.len]at hjr;omega
    have HF:=Sk (show ku R w (.returned (.slice A2 L.length c2)) wr from⟨A2,c2,by rw[←HBh.out.2.2.1];rfl,by rw[←HBh.out.2.2.1];exact HBh.out.2.1,HBw.out⟩)
    clear hjr HG hct hcn
    go_wp2
    go_ret
    exact HF.out
   | cons rk rn rm ri rd A' rc rs rr =>
    have gJ:j<s.len:=by simp only[Fo.len]at hjr;omega
    obtain⟨b,o,rfl,hb,h0,h1,h2,h3,h4,⟨h5,hc',hm',hs'⟩,hr'⟩:=HAt (by simp)
    simp only[Fo.count]at hct hcn
    have HCL:=Sk (HBh.out.2.2.2.1 rk rn rm ri rd A' rc L A2 c2 wr ⟨hc',hm',fun hne=>by
     obtain⟨b',o',e,hb',h'⟩:=hs' hne
     exact⟨b',o',e,by omega,h'.keep (by omega) (fun _ _=>rfl) hb'⟩⟩ HBh.out.2.1 (by omega))
    have hnl:=tK rk rn ri rs L
    have HRk:=Sk (show rr.wr (fO rk rn ri rs L)=R from HBh.out.2.2.1)
    have HK:=Sk hr'
    obtain⟨L3,HL3⟩:∃q,Hid (fO rk rn ri rs L=q):=⟨_,Sk rfl⟩
    rw[HL3.out]at HCL hnl HRk
    clear HAt hr' hs' HL3
    go_wp2_with fail
    refine HCL.out.mono ?_
    rintro e w4 ⟨A4,c4,rfl,ho4,hb4⟩
    have HB4:=Sk (Sn ho4 hb4)
    clear ho4 hb4
    go_wp2
    go_roundg rr.len
    case measure=>first|(rw[HG];simp[Fo.len];done)|(simp only[Fo.len];omega)
    case rel =>
     refine⟨j+1,rr,A4,c4,L3,rfl,by simp only[Fo.len]at hjr;omega,by go_num,rfl,HB4.out.1,HRk.out,⟨by omega,by omega⟩,HBh.out.2.2.2.2,?_,HBh.out.1.trans (HB4.out.2.mono hzr)⟩
     intro hne
     refine⟨b,o,rfl,hb,?_⟩
     rw[show o+(j+1)*6=o+j*6+6 by omega]
     exact HK.out.keep (SA _) (fun p hp=>HB4.out.2.cell (by omega)) hb
 ·have hk':(k==5)=false:=by simpa using hk
  have HRs:=Sk (show s.wr l=R by rw[←HR.out,fO,TW hk])
  have HO1:=Sk (Sn hl0 (TA W0.heap.size W0))
  have hwl:l.length≤l.length+1:=by omega
  clear HR hl0 hk
  go_enter Tryz.func158,Tryz.ntmps158
  go_wp2_with fail
  clear x0 x1 x3 x5 hW0
  go_loopg [0,5] s.len (fun gg lv ct wr=>∃(j:Nat) (r:Fo) (A2:Option Addr) (c2:Nat) (L:List (ByteArray×Int)),gg=r.len∧j+r.len=s.len∧ct=.int .i64 j∧lv=.slice A2 L.length c2 ∧
   fE wr A2 c2 L∧r.wr L=R∧(L.length+r.count≤l.length+1+s.count∧r.count≤s.count)∧r.All BQ ∧
   (r≠.nil→∃b o,A=some ⟨b,o,none⟩∧b<w.heap.size∧r.At wr w.heap.size b (o+j*6))∧Below W0.heap.size W0 wr)
  case atStart =>
   refine⟨0,s,lA,lc,l,rfl,by omega,rfl,rfl,HO1.out.1,HRs.out,⟨by omega,SA _⟩,HS.out.2,?_,HO1.out.2⟩
   intro hne
   obtain⟨b,o,e,hb,h⟩:=HS.out.1.2.2 hne
   exact⟨b,o,e,hb,by rw[Nat.zero_mul,Nat.add_zero];exact h.keep (SA _) (fun p hp=>(HC.out _ HO1.out.2).1.cell hp) hb⟩
  case round =>
   obtain⟨j,r,A2,c2,L,HG,hjr,rfl,rfl,hown,hR,⟨hct,hcn⟩,HA,HAt,HB⟩:=hrel
   have HBh:=Sk (Sn HB (Sn hown (Sn hR HA)))
   clear hown hR HA HB
   have hzr:=HBh.out.1.size
   obtain⟨hBw,_,_,_,x5⟩:=HC.out wr HBh.out.1
   have HBw:=Sk hBw
   clear hBw
   cases r with
   | nil =>
    have gJ:s.len≤j:=by simp only[Fo.len]at hjr;omega
    have nT:j≤s.len:=by simp only[Fo.len]at hjr;omega
    have HF:=Sk (show ku R w (.returned (.slice A2 L.length c2)) wr from⟨A2,c2,by rw[←HBh.out.2.2.1];rfl,by rw[←HBh.out.2.2.1];exact HBh.out.2.1,HBw.out⟩)
    clear hjr HG hct hcn
    go_wp2
    go_ret
    exact HF.out
   | cons rk rn rm ri rd A' rc rs rr =>
    have gJ:j<s.len:=by simp only[Fo.len]at hjr;omega
    obtain⟨b,o,rfl,hb,h0,h1,h2,h3,h4,⟨h5,hc',hm',hs'⟩,hr'⟩:=HAt (by simp)
    simp only[Fo.count]at hct hcn
    have HCL:=Sk (HBh.out.2.2.2.1 rk rn rm ri rd A' rc L A2 c2 wr ⟨hc',hm',fun hne=>by
     obtain⟨b',o',e,hb',h'⟩:=hs' hne
     exact⟨b',o',e,by omega,h'.keep (by omega) (fun _ _=>rfl) hb'⟩⟩ HBh.out.2.1 (by omega))
    have hnl:=tK rk rn ri rs L
    have HRk:=Sk (show rr.wr (fO rk rn ri rs L)=R from HBh.out.2.2.1)
    have HK:=Sk hr'
    obtain⟨L3,HL3⟩:∃q,Hid (fO rk rn ri rs L=q):=⟨_,Sk rfl⟩
    rw[HL3.out]at HCL hnl HRk
    clear HAt hr' hs' HL3
    go_wp2_with fail
    refine HCL.out.mono ?_
    rintro e w4 ⟨A4,c4,rfl,ho4,hb4⟩
    have HB4:=Sk (Sn ho4 hb4)
    clear ho4 hb4
    go_wp2
    go_roundg rr.len
    case measure=>first|(rw[HG];simp[Fo.len];done)|(simp only[Fo.len];omega)
    case rel =>
     refine⟨j+1,rr,A4,c4,L3,rfl,by simp only[Fo.len]at hjr;omega,by go_num,rfl,HB4.out.1,HRk.out,⟨by omega,by omega⟩,HBh.out.2.2.2.2,?_,HBh.out.1.trans (HB4.out.2.mono hzr)⟩
     intro hne
     refine⟨b,o,rfl,hb,?_⟩
     rw[show o+(j+1)*6=o+j*6+6 by omega]
     exact HK.out.keep (SA _) (fun p hp=>HB4.out.2.cell (by omega)) hb
theorem Ow (s:Fo):BQ s:=Fo.eT Mw s
theorem F3 (k:Int)(n m:ByteArray)(i d:Int)(A:Option Addr)(c:Nat)(s:Fo)(w:World)(hs:s.Sl w w.heap.size A c)(hcnt:s.count≤100000) :
  Calls Tryz.prog 103 #[.agg #[.int .i64 k,.string n,.string m,.int .i64 i,.int .i64 d,.slice A s.len c]] w (ku (fO k n i s []) w):=by
 obtain⟨W0,hW0⟩:∃W0,w.alloc (.cells #[.int .i64 k,.string n,.string m,.int .i64 i,.int .i64 d,.slice A s.len c] 44)=W0:=⟨_,rfl⟩
 have hB0:Below w.heap.size w W0:=by subst hW0;exact(TA _ _).alloc (SA _) _
 have x0:W0.cell? ⟨w.heap.size,0,none⟩=some (.int .i64 k):=by subst hW0;go_simp
 have x1:W0.cell? ⟨w.heap.size,1,none⟩=some (.string n):=by subst hW0;go_simp
 have x2:W0.cell? ⟨w.heap.size,2,none⟩=some (.string m):=by subst hW0;go_simp
 have x3:W0.cell? ⟨w.heap.size,3,none⟩=some (.int .i64 i):=by subst hW0;go_simp
 have x4:W0.cell? ⟨w.heap.size,4,none⟩=some (.int .i64 d):=by subst hW0;go_simp
 have x5:W0.cell? ⟨w.heap.size,5,none⟩=some (.slice A s.len c):=by subst hW0;go_simp
 have HRF:=Sk (Ow s k n m i d A c [] none 0 W0 (hs.keep hB0.size fun p hp=>hB0.cell hp) (fE.nil _) (by simp;omega))
 have HB:=Sk hB0
 clear hs hB0
 go_enter Tryz.func103,Tryz.ntmps103
 go_wp2_with fail
 refine HRF.out.mono ?_
 rintro e w1 ⟨A1,c1,rfl,ho1,hb1⟩
 have HO:=Sk (Sn ho1 (HB.out.trans (hb1.mono HB.out.size)))
 clear ho1 hb1
 go_wp2
 go_ret
 exact⟨A1,c1,rfl,HO.out.1,HO.out.2⟩
theorem Fo.xB:∀(s:Fo)(l:List (ByteArray×Int))(y:ByteArray×Int),y∈s.wr l↔y∈l∨y∈gK s.vis
 | .nil,l,y=>by simp[Fo.wr,Fo.vis,gK]
 | .cons k n m i d A c s r,l,y=>by
  simp only[Fo.wr]
  rw[Fo.xB r,Fo.xB s]
  have h1:y∈(if k=5 then eP l (n,i)else l)↔y∈l∨(k=5∧y=(n,i)):=by
   split
   ·rename_i h;rw[II];simp[h]
   ·rename_i h;simp[h]
  have h2:y∈gK (Fo.cons k n m i d A c s r).vis↔y∈gK r.vis∨(k=5∧y=(n,i))∨y∈gK s.vis:=by
   unfold gK
   simp only[Fo.vis,List.filterMap_append,Td,List.filterMap_cons]
   by_cases hk:k=5
   ·simp[hk]
   ·simp[hk]
  rw[h1,h2]
  constructor
  ·rintro (((h|h)|h)|h)
   ·exact .inl h
   ·exact .inr (.inr (.inl h))
   ·exact .inr (.inr (.inr h))
   ·exact .inr (.inl h)
  ·rintro (h|h|h|h)
   ·exact .inl (.inl (.inl h))
   ·exact .inr h
   ·exact .inl (.inl (.inr h))
   ·exact .inl (.inr h)
theorem Fo.rP:∀(s:Fo)(l:List (ByteArray×Int)),l.Pairwise ltN→(s.wr l).Pairwise ltN
 | .nil,_,h=>h
 | .cons k n m i d A c s r,l,h=>by
  simp only[Fo.wr]
  refine Fo.rP r _ (Fo.rP s _ ?_)
  split
  ·exact BM h _
  ·exact h
theorem F4 (k:Int)(n m:ByteArray)(i d:Int)(A:Option Addr)(c:Nat)(s:Fo):fO k n i s []=refsOf (Fo.cons k n m i d A c s .nil).vis:=by
 have e:refsOf (Fo.cons k n m i d A c s .nil).vis=BO (gK (Fo.cons k n m i d A c s .nil).vis):=rfl
 rw[e]
 refine(Mv (Fo.rP (Fo.cons k n m i d A c s .nil) [] List.Pairwise.nil) fun x=>?_).symm
 have h:=Fo.xB (Fo.cons k n m i d A c s .nil) [] x
 simp only[List.not_mem_nil,false_or]at h
 exact h
end Go.Proofs.Q
