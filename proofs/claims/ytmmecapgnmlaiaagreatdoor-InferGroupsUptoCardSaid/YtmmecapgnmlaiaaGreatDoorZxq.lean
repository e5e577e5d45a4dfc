/- helper lemmas -/
import Derived.Test.YtmmecapgnmlaiaaGreatDoorZxr
import Derived.Test.YtmmecapgnmlaiaaGreatDoorZxw
set_option maxRecDepth 100000
set_option maxHeartbeats 16000000
namespace Go.Proofs.Q
open Go Go.RowKit Go.Proofs
open Go.Maps (Keyed IsMap)
variable {α:Type}
def iP (K:fq α)(w:World)(b z:Nat)(g:α→Option Value):Prop:=
 ∃D,w.ownsMap (H:=Value) Tryz.prog K.ty raw b z D∧Maps.size D=z∧IsMap D∧∀a,K.ok a→D.atKey (K.key a) .nil=uj (g a)
theorem iP.a {K:fq α}{w:World}{b z:Nat}{g:α→Option Value}(h:iP K w b z g):aQ K w b z g:=by
 obtain⟨D,h1,_,h3,h4⟩:=h
 exact⟨z,D,h1,SA _,h3,h4⟩
theorem iP.keep {K:fq α}{w w':World}{b z:Nat}{g:α→Option Value}(h:iP K w b z g)(e:w'.heap[b]?=w.heap[b]?):iP K w' b z g:=by
 obtain⟨D,⟨es,cl,h,r⟩,h2⟩:=h
 exact⟨D,⟨es,cl,e.trans h,r⟩,h2⟩
theorem iP.eG {K:fq α}{w:World}{b z:Nat}{g g':α→Option Value}(h:iP K w b z g)(e:∀a,K.ok a→g a=g' a):iP K w b z g':=by
 obtain⟨D,h1,h2,h3,h4⟩:=h
 exact⟨D,h1,h2,h3,fun a ha=>by rw[←e a ha];exact h4 a ha⟩
theorem iP.len {K:fq α}{w:World}{b z:Nat}{g:α→Option Value}(h:iP K w b z g){t e:TypeId}(ht:Tryz.prog.underlying t=some (.map K.ty e))(ty:TypeId):(Builtin.len_ #[t] ty #[.map (some b)]).run Tryz.prog w=.ok (.int .i64 z) w:=by
 obtain⟨D,h1,h2,_⟩:=h
 rw[h1.len ht ty,h2]
theorem iP.put [DecidableEq α]{K:fq α}{w:World}{b z:Nat}{g:α→Option Value}(h:iP K w b z g){t e:TypeId}(ht:Tryz.prog.underlying t=some (.map K.ty e)){zv:Value}(hz:(zeroValue e).run Tryz.prog w=.ok zv w)(hN:z<maxLen){a:α}(ha:K.ok a)(v:Value) :
  ∃w',(Instr.mapUpdate t (.map (some b)) (K.val a) v).run Tryz.prog w=.ok () w'∧iP K w' b (if (g a).isSome then z else z+1) (fun x=>if x=a then some v else g x)∧w.grownBy w' (some b):=by
 obtain⟨D,ho,hs,hm,hat⟩:=h
 have hh:Maps.has D (K.key a)=(g a).isSome:=by
  have hg:=hat a ha
  obtain⟨es,clock,hb,F,_,rfl⟩:=ho
  rcases Maps.fit_look false K.law ht hz hb F (K.tot a ha)with⟨_,_,h2⟩|⟨e0,y,_,_,_,hR,h2,_⟩
  ·rw[Maps.has_false_of_atKey h2]
   rw[h2]at hg
   have:g a=none:=o9 (b:=none) (by rw[←hg];rfl)
   rw[this];rfl
  ·rw[Maps.has_true_of_atKey h2]
   rw[h2]at hg
   simp only[raw,TK]at hR
   have:g a=some e0.val:=o9 (b:=some e0.val) (by rw[←hg,←hR];rfl)
   rw[this];rfl
 obtain⟨w',hrun,ho',hg⟩:=ho.update (d:=.held v) (ps:=[]) K.law ht (by omega) (K.tot a ha) rfl
 have hsz:Maps.size (D.put (K.key a) (.held v))=if (g a).isSome then z else z+1:=by
  rw[Maps.size_put (ho.tidy K.law),hh,hs]
 refine⟨w',hrun,⟨_,?_,hsz,hm.put _ _,fun x hx=>?_⟩,hg⟩
 ·obtain⟨es,clock,hb,F,hn,hD⟩:=ho'
  refine⟨es,clock,hb,F,?_,hD⟩
  rw[←hsz,hD]
  simp[Maps.size,DataW.length_sorted]
 ·have hk:=K.law.key (K.tot x hx)
  by_cases e:x=a
  ·subst e
   rw[Maps.atKey_put_same hm hk];simp[uj]
  ·rw[Maps.atKey_put_other (fun h=>e (K.key_inj hx ha h)),hat x hx];simp[e]
end Go.Proofs.Q
namespace Go.Proofs.Q
open Go Go.RowKit Go.Proofs Go.Proofs.Scc
def cP (b:Nat):Value:=.pointer (some ⟨b,0,none⟩)
def caps (n:Nat):Array Value:=#[cP (n+5),cP (n+6),cP (n+9),cP (n+1),cP (n+10),cP (n+8),cP (n+2)]
theorem Tryz.kG:Tryz.prog.underlying 129=some (.map 3 3):=by kernel_rfl
theorem Tryz.pX:Tryz.prog.underlying 77=some (.map 3 39):=by kernel_rfl
theorem Tryz.iW:Tryz.prog.underlying 79=some (.map 3 4):=by kernel_rfl
theorem Tryz.mD:Tryz.prog.underlying 28=some (.slice 39):=by kernel_rfl
theorem Tryz.lX:Tryz.prog.underlying 39=some (.slice 3):=by kernel_rfl
theorem Tryz.oz:(Tryz.prog.info? 3).map (fun i=>(i.zero,i.size,i.bytes))=some (some (.int .i64 0),1,8):=by kernel_rfl
theorem Tryz.oP:(Tryz.prog.info? 39).map (fun i=>(i.zero,i.size,i.bytes))=some (some (.slice none 0 0),1,24):=by kernel_rfl
theorem kQ (w:World):(zeroValue 4).run Tryz.prog w=.ok (.bool false) w:=by kernel_rfl
theorem pY (w:World):(zeroValue 39).run Tryz.prog w=.ok (.slice none 0 0) w:=by kernel_rfl
theorem bQ {w w':World}{base:Nat}{e:TypeId}{size:Nat}{v:Value}{n:Nat}{xs:List Value}(h:w.ownsRow base e size v n xs)(hk:∀g,v.ownBlock=some g→w'.heap[g]?=w.heap[g]?):w'.ownsRow base e size v n xs:=by
 refine⟨h.1,?_⟩
 rcases h.2 with h'|⟨g,cap,cur,rfl,e2,e3,e4⟩
 ·exact .inl h'
 ·exact .inr ⟨g,cap,cur,rfl,e2,(hk g rfl).trans e3,e4⟩
theorem JZ {w:World}{base:Nat}{e:TypeId}{g n c:Nat}{xs:List Value}(h:w.ownsRow base e 1 (.slice (some ⟨g,0,none⟩) n c) n xs){m:Nat}(hm:m≤n):w.ownsRow base e 1 (.slice (some ⟨g,0,none⟩) m c) m (xs.take m):=by
 have hl:=h.1
 rcases h.2 with⟨e1,_⟩|⟨g',cap,cur,e1,e2,e3,e4,e5,e6,e7⟩
 ·cases e1
 ·cases e1
  refine⟨by rw[Um];omega,.inr ⟨g,c,cur,rfl,e2,e3,by omega,e5,e6,?_⟩⟩
  rw[←e7,List.take_take]
  congr 1
  omega
def mU (X:World)(n:Nat)(ov v:Value)(l:List Int):Prop:=∃g c cur fz,v=.slice (some ⟨g,0,none⟩) l.length c∧n+11≤g∧ov.ownBlock≠some g∧X.heap[g]?=some (.cells cur 3 fz)∧(∀(j:Nat)(i:Int),l[j]?=some i→X.cell? ⟨g,j,none⟩=some (.int .i64 i))∧l≠[]∧l.length≤c∧c≤maxLen
def zM (n ub:Nat)(used:Int→List Int)(W:World):Prop:=∃N g,aQ aH W ub N g∧∀a,∃A c,(g a).getD (.slice none 0 0)=.slice A (used a).length c∧dF W n A c (used a)
structure TjF (n ub:Nat)(used:Int→List Int)(W X:World):Prop where
 z:n+11≤X.heap.size
 b5:X.heap[n+5]?=some (.cells #[.map (some (n+3))] 129 (0,0))
 b6:X.heap[n+6]?=some (.cells #[.map (some (n+4))] 129 (0,0))
 b8:X.heap[n+8]?=some (.cells #[.map (some (n+7))] 79 (0,0))
 b1:X.heap[n+1]?=some (.cells #[.map (some ub)] 77 (0,0))
 b10:X.heap[n+10]?=some (.cells #[.func (.func 82) #[] (caps n)] 130 (0,0))
 us:zM n ub used W
 ubl:ub<n
 old:∀k,k<n→X.heap[k]?=W.heap[k]?
 os:X.os=W.os
 tape:X.tape=W.tape
 output:X.output=W.output
structure TjI (n ub:Nat)(used:Int→List Int)(W X:World)(ov gv:Value)(gl:List Value)(σ:Tj):Prop where
 f:TjF n ub used W X
 b9:X.heap[n+9]?=some (.cells #[ov] 39 (0,0))
 b2:X.heap[n+2]?=some (.cells #[gv] 28 (0,0))
 m3:iP aH X (n+3) σ.cnt (fun a=>if σ.num a=0 then none else some (.int .i64 (σ.num a)))
 m4:iP aH X (n+4) σ.cnt (fun a=>if σ.num a=0 then none else some (.int .i64 (σ.low a)))
 m7:∃N,N+σ.opn.length≤σ.cnt∧aQ aH X (n+7) N (fun a=>if σ.dn a=true then some (.bool true)else none)
 ro:X.ownsRow (n+11) 3 1 ov σ.opn.length (σ.opn.map (.int .i64))
 rg:X.ownsRow (n+11) 39 1 gv gl.length gl
 gn:gl.length=σ.grs.length
 gs:∀(j:Nat) (v:Value) (l:List Int),gl[j]?=some v→σ.grs[j]?=some l→mU X n ov v l
section
variable {n ub:Nat} {used:Int→List Int} {W X Y:World} {ov gv:Value} {gl:List Value} {σ:Tj}
theorem TjF.keep (h:TjF n ub used W X)(hz:X.heap.size≤Y.heap.size)(hs:∀k,k<n+11→k≠n+2→k≠n+3→k≠n+4→k≠n+7→k≠n+9→Y.heap[k]?=X.heap[k]?)(h1:Y.os=X.os)(h2:Y.tape=X.tape)(h3:Y.output=X.output):TjF n ub used W Y:=
 ⟨SE h.z hz,(hs _ (by omega) (by omega) (by omega) (by omega) (by omega) (by omega)).trans h.b5,(hs _ (by omega) (by omega) (by omega) (by omega) (by omega) (by omega)).trans h.b6,(hs _ (by omega) (by omega) (by omega) (by omega) (by omega) (by omega)).trans h.b8,(hs _ (by omega) (by omega) (by omega) (by omega) (by omega) (by omega)).trans h.b1,(hs _ (by omega) (by omega) (by omega) (by omega) (by omega) (by omega)).trans h.b10,h.us,h.ubl,fun k hk=>(hs k (by omega) (by omega) (by omega) (by omega) (by omega) (by omega)).trans (h.old k hk),h1.trans h.os,h2.trans h.tape,h3.trans h.output⟩
theorem mU.keep {v:Value}{l:List Int}(h:mU X n ov v l){ov':Value}(hs:∀g,n+11≤g→(∃cur fz,X.heap[g]?=some (.cells cur 3 fz))→ov.ownBlock≠some g→Y.heap[g]?=X.heap[g]?)(ho:∀g,g<X.heap.size→ov'.ownBlock=some g→ov.ownBlock=some g):mU Y n ov' v l:=by
 obtain⟨g,c,cur,fz,e1,e2,e3,e4,e5,e6,e7⟩:=h
 have e:=hs g e2 ⟨_,_,e4⟩ e3
 exact⟨g,c,cur,fz,e1,e2,fun h'=>e3 (ho g (lt_of_block e4) h'),e.trans e4,fun j i hj=>(SN e).trans (e5 j i hj),e6,e7⟩
theorem TjI.ovB (h:TjI n ub used W X ov gv gl σ){g:Nat}(hg:ov.ownBlock=some g):n+11≤g∧g<X.heap.size∧∃c fz,X.heap[g]?=some (.cells c 3 fz):=
 ⟨(h.ro.lt g hg).1,(h.ro.lt g hg).2,Lib.ownsRow_kind h.ro g hg⟩
theorem TjI.gvB (h:TjI n ub used W X ov gv gl σ){g:Nat}(hg:gv.ownBlock=some g):n+11≤g∧g<X.heap.size∧∃c fz,X.heap[g]?=some (.cells c 39 fz):=
 ⟨(h.rg.lt g hg).1,(h.rg.lt g hg).2,Lib.ownsRow_kind h.rg g hg⟩
theorem TjI.turn (h:TjI n ub used W X ov gv gl σ){b:Nat}(hb:b=n+3∨b=n+4∨b=n+7)(hg:X.grownBy Y (some b)){τ:Tj}(ho:τ.opn=σ.opn)(hgr:τ.grs=σ.grs)
  (m3:iP aH Y (n+3) τ.cnt (fun a=>if τ.num a=0 then none else some (.int .i64 (τ.num a))))
  (m4:iP aH Y (n+4) τ.cnt (fun a=>if τ.num a=0 then none else some (.int .i64 (τ.low a))))
  (m7:∃N,N+τ.opn.length≤τ.cnt∧aQ aH Y (n+7) N (fun a=>if τ.dn a=true then some (.bool true)else none)):TjI n ub used W Y ov gv gl τ:=by
 have hz:=h.f.z
 have hs:∀k,k<X.heap.size→k≠b→Y.heap[k]?=X.heap[k]?:=fun k hk hne=>hg.block k hk (fun e=>hne (TL e))
 refine⟨h.f.keep hg.size (fun k hk _ _ _ _ _=>hs k (by omega) (by omega)) hg.os hg.tape hg.output,(hs _ (by omega) (by omega)).trans h.b9,(hs _ (by omega) (by omega)).trans h.b2,m3,m4,m7,?_,bQ h.rg fun g hgg=>?_,by rw[hgr];exact h.gn,fun j v l hv hl=>?_⟩
 ·rw[ho];exact bQ h.ro fun g hgg=>by have:=h.ovB hgg;exact hs g this.2.1 (by omega)
 ·have:=h.gvB hgg;exact hs g this.2.1 (by omega)
 ·rw[hgr]at hl
  exact(h.gs j v l hv hl).keep (fun g hg1 ⟨_,_,hg2⟩ _=>hs g (lt_of_block hg2) (by omega)) fun g _ hg'=>hg'
theorem TjI.enter (h:TjI n ub used W X ov gv gl σ){id:Int}(hi:aH.ok id)(h0:σ.num id=0)(hc:σ.cnt<100000) :
  ∃Y,(Instr.mapUpdate 129 (.map (some (n+3))) (.int .i64 id) (.int .i64 (σ.cnt+1))).run Tryz.prog X=.ok () Y ∧
   (Instr.lookup 129 (.map (some (n+3))) (.int .i64 id) false).run Tryz.prog Y=.ok (.int .i64 (σ.cnt+1)) Y∧Y.heap[n+5]?=X.heap[n+5]?∧Y.heap[n+6]?=X.heap[n+6]? ∧
   ∃Z,(Instr.mapUpdate 129 (.map (some (n+4))) (.int .i64 id) (.int .i64 (σ.cnt+1))).run Tryz.prog Y=.ok () Z ∧
    TjI n ub used W Z ov gv gl { σ with num:=upd σ.num id (σ.cnt+1),cnt:=σ.cnt+1,low:=upd σ.low id (σ.cnt+1) } ∧
    ∃N,N+(σ.opn.length+1)≤σ.cnt+1∧aQ aH Z (n+7) N (fun a=>if σ.dn a=true then some (.bool true)else none):=by
 have hz:=h.f.z
 obtain⟨Y,r1,k3,g1⟩:=h.m3.put Tryz.kG (l5 X) (by unfold maxLen;omega) hi (.int .i64 (σ.cnt+1))
 simp only[h0,if_true,Option.isSome_none,TN,if_false]at k3
 have hs1:∀k,k<X.heap.size→k≠n+3→Y.heap[k]?=X.heap[k]?:=fun k hk hne=>g1.block k hk (fun e=>hne (TL e))
 have k4:=h.m4.keep (hs1 (n+4) (by omega) (by omega))
 obtain⟨Z,r2,j4,g2⟩:=k4.put Tryz.kG (l5 Y) (by unfold maxLen;omega) hi (.int .i64 (σ.cnt+1))
 simp only[h0,if_true,Option.isSome_none,TN,if_false]at j4
 have hs2:∀k,k<Y.heap.size→k≠n+4→Z.heap[k]?=Y.heap[k]?:=fun k hk hne=>g2.block k hk (fun e=>hne (TL e))
 have hzY:=g1.size
 have hlk:=k3.a.look false (t:=129) Tryz.kG (l5 Y) hi
 simp only[TN,if_false,if_true,Option.getD_some,aH]at hlk
 refine⟨Y,r1,hlk,hs1 _ (by omega) (by omega),hs1 _ (by omega) (by omega),Z,r2,?_⟩
 have hs:∀k,k<X.heap.size→k≠n+3→k≠n+4→Z.heap[k]?=X.heap[k]?:=fun k hk h1 h2=>(hs2 k (by omega) h2).trans (hs1 k hk h1)
 have e:∀(f:Int→Int) (a:Int),(if a=id then some (Value.int .i64 (σ.cnt+1))else if σ.num a=0 then none else some (.int .i64 (f a)))=if upd σ.num id (σ.cnt+1) a=0 then none else some (.int .i64 (upd f id (σ.cnt+1) a)):=fun f a=>by
  by_cases ea:a=id
  ·subst ea
   rw[upd_same,upd_same,TY rfl,TW (by omega)]
  ·rw[upd_ne _ _ ea,upd_ne _ _ ea,TW ea]
 obtain⟨N,hN,hm⟩:=h.m7
 refine⟨⟨h.f.keep (SE g1.size g2.size) (fun k hk _ _ _ _ _=>hs k (by omega) (by omega) (by omega)) (g2.os.trans g1.os) (g2.tape.trans g1.tape) (g2.output.trans g1.output),(hs _ (by omega) (by omega) (by omega)).trans h.b9,(hs _ (by omega) (by omega) (by omega)).trans h.b2,?_,?_,?_,bQ h.ro fun g hgg=>?_,bQ h.rg fun g hgg=>?_,h.gn,fun j v l hv hl=>?_⟩,N,by omega,hm.keep (hs _ (by omega) (by omega) (by omega))⟩
 ·exact(k3.eG fun a _=>e σ.num a).keep (hs2 _ (by omega) (by omega))
 ·exact j4.eG fun a _=>e σ.low a
 ·exact⟨N,by show N+σ.opn.length≤σ.cnt+1;omega,hm.keep (hs _ (by omega) (by omega) (by omega))⟩
 ·have:=h.ovB hgg;exact hs g this.2.1 (by omega) (by omega)
 ·have:=h.gvB hgg;exact hs g this.2.1 (by omega) (by omega)
 ·exact(h.gs j v l hv hl).keep (fun g hg1 ⟨_,_,hg2⟩ _=>hs g (lt_of_block hg2) (by omega) (by omega)) fun g _ hg'=>hg'
theorem TjI.NR (h:TjI n ub used W X ov gv gl σ){id:Int}(hi:aH.ok id)(h0:σ.num id≠0)(hc:σ.cnt<100000)(z:Int) :
  ∃Y,(Instr.mapUpdate 129 (.map (some (n+4))) (.int .i64 id) (.int .i64 (min (σ.low id) z))).run Tryz.prog X=.ok () Y∧TjI n ub used W Y ov gv gl (jY id z σ):=by
 have hz:=h.f.z
 obtain⟨Y,r1,k4,g1⟩:=h.m4.put Tryz.kG (l5 X) (by unfold maxLen;omega) hi (.int .i64 (min (σ.low id) z))
 simp only[h0,if_false,Option.isSome_some,if_true]at k4
 have hs1:∀k,k<X.heap.size→k≠n+4→Y.heap[k]?=X.heap[k]?:=fun k hk hne=>g1.block k hk (fun e=>hne (TL e))
 refine⟨Y,r1,h.turn (.inr (.inl rfl)) g1 rfl rfl (h.m3.keep (hs1 _ (by omega) (by omega))) (k4.eG fun a _=>?_) ?_⟩
 ·show _=if σ.num a=0 then none else some (Value.int .i64 (upd σ.low id (min (σ.low id) z) a))
  by_cases ea:a=id
  ·subst ea
   rw[upd_same,TY rfl,TW h0]
  ·rw[upd_ne _ _ ea,TW ea]
 ·obtain⟨N,hN,hm⟩:=h.m7
  exact⟨N,hN,hm.keep (hs1 _ (by omega) (by omega))⟩
theorem TjI.open_ (h:TjI n ub used W X ov gv gl σ){Z:World}{ov':Value}{wV:List Int}{B0:Nat}(hB0:X.heap.size≤B0)(hs:∀k,k<X.heap.size→ov.ownBlock≠some k→Z.heap[k]?=X.heap[k]?)(hz:X.heap.size≤Z.heap.size)(ho1:Z.os=X.os)(ho2:Z.tape=X.tape)(ho3:Z.output=X.output)
  (hr:Z.ownsRow (n+11) 3 1 ov' wV.length (wV.map (.int .i64)))(hat:ov'.ownBlock=ov.ownBlock∨ov'.ownBlock=none∨ov'.ownBlock=some B0){N:Nat}(hN:N+wV.length≤σ.cnt)(hm7:aQ aH X (n+7) N (fun a=>if σ.dn a=true then some (.bool true)else none)) :
  TjI n ub used W (Z.setCell ⟨n+9,0,none⟩ ov') ov' gv gl { σ with opn:=wV }:=by
 have hzX:=h.f.z
 have own:∀g,ov.ownBlock=some g→n+11≤g:=fun g hg=>(h.ovB hg).1
 have own':∀g,ov'.ownBlock=some g→n+11≤g∧∃c fz,Z.heap[g]?=some (.cells c 3 fz):=fun g hg=>⟨(hr.lt g hg).1,Lib.ownsRow_kind hr g hg⟩
 have hs2:∀k,k≠n+9→(Z.setCell ⟨n+9,0,none⟩ ov').heap[k]?=Z.heap[k]?:=fun k hk=>Tx _ _ _ _ hk
 have hs3:∀k,k<X.heap.size→k≠n+9→ov.ownBlock≠some k→(Z.setCell ⟨n+9,0,none⟩ ov').heap[k]?=X.heap[k]?:=fun k h1 h2 h3=>(hs2 k h2).trans (hs k h1 h3)
 have no:∀k,k<n+11→ov.ownBlock≠some k:=fun k hk e=>by have:=own k e;omega
 have hb9:(Z.setCell ⟨n+9,0,none⟩ ov').heap[n+9]?=some (.cells #[ov'] 39 (0,0)):=heap_set ((hs _ (by omega) (no _ (by omega))).trans h.b9) ov'
 refine⟨h.f.keep (by simpa [World.setCell]using hz) (fun k hk _ _ _ _ h9=>hs3 k (by omega) h9 (no k hk)) ho1 ho2 ho3,hb9,(hs3 _ (by omega) (by omega) (no _ (by omega))).trans h.b2,h.m3.keep (hs3 _ (by omega) (by omega) (no _ (by omega))),h.m4.keep (hs3 _ (by omega) (by omega) (no _ (by omega))),⟨N,hN,hm7.keep (hs3 _ (by omega) (by omega) (no _ (by omega)))⟩,bQ hr fun g hg=>hs2 g (by have:=(own' g hg).1;omega),bQ h.rg fun g hg=>?_,h.gn,fun j v l hv hl=>?_⟩
 ·obtain⟨k1,k2,c,fz,k3⟩:=h.gvB hg
  refine hs3 g k2 (by omega) fun e=>?_
  obtain⟨_,_,c',fz',k4⟩:=h.ovB e
  rw[k3]at k4
  simp only[TK,Obj.cells.injEq]at k4
  exact absurd k4.2.1 (by decide)
 ·refine(h.gs j v l hv hl).keep (fun g hg1 ⟨_,_,hg2⟩ hne=>hs3 g (lt_of_block hg2) (by omega) hne) fun g hg1 hg'=>?_
  rcases hat with e|e|e
  ·rw[←e];exact hg'
  ·rw[e]at hg';cases hg'
  ·rw[e]at hg'
   have:=TL hg'
   omega
theorem ji (X:World)(u:Value)(t:TypeId):∀(j:Nat)(x:Value),[u][j]?=some x→(X.alloc (.cells #[u] t)).cell? ((⟨X.heap.size,0,none⟩:Addr).add j)=some x:=fun j x hu=>by
 match j,hu with
 | 0,hu =>
  simp at hu
  subst hu
  exact Sq _ X.heap.size 0 _ _ (0,0) (Sv X _)
 | j+1,hu=>simp at hu
theorem TjI.pushed (h:TjI n ub used W X ov gv gl σ){id:Int}{ov':Value}{Z:World}(hN:∃N,N+(σ.opn.length+1)≤σ.cnt∧aQ aH X (n+7) N (fun a=>if σ.dn a=true then some (.bool true)else none))
  (hown:Z.ownsRow (n+11) 3 1 ov' (σ.opn.length+1) (σ.opn.map (.int .i64)++[.int .i64 id]))(hg:(X.alloc (.cells #[.int .i64 id] 3)).grownBy Z ov.ownBlock)(hat:ov'.ownBlock=ov.ownBlock∨ov'.ownBlock=some (X.alloc (.cells #[.int .i64 id] 3)).heap.size) :
  Z.cell? ⟨n+9,0,none⟩=some ov∧Z.frozen? ⟨n+9,0,none⟩=false∧TjI n ub used W (Z.setCell ⟨n+9,0,none⟩ ov') ov' gv gl { σ with opn:=σ.opn++[id] }:=by
 have hzX:=h.f.z
 obtain⟨N,hN1,hN2⟩:=hN
 have hsA:(X.alloc (.cells #[.int .i64 id] 3)).heap.size=X.heap.size+1:=by simp
 have hs:∀k,k<X.heap.size→ov.ownBlock≠some k→Z.heap[k]?=X.heap[k]?:=fun k hk hne=>(hg.block k (by omega) (fun e=>hne e.symm)).trans (Tt _ _ _ hk)
 have hz9:=(hs _ (by omega) fun e=>by have:=(h.ovB e).1;omega).trans h.b9
 refine⟨Sq Z _ 0 _ _ (0,0) hz9,Sr Z _ 0 _ _ hz9,?_⟩
 refine h.open_ (B0:=X.heap.size+1) (wV:=σ.opn++[id]) (by omega) hs (by have:=hg.size;omega) (hg.os.trans rfl) (hg.tape.trans rfl) (hg.output.trans rfl) ?_ ?_ (N:=N) (by rw[SX,SY];omega) hN2
 ·rw[SX,SY,Tp]
  exact hown
 ·rcases hat with e|e
  ·exact .inl e
  ·exact .inr (.inr (by rw[e,hsA]))
theorem TjI.cut (h:TjI n ub used W X ov gv gl σ){at_:Nat}(ha:at_<σ.opn.length):∃g c,ov=.slice (some ⟨g,0,none⟩) σ.opn.length c∧σ.opn.length≤c∧c≤maxLen∧(∀(j:Nat)(i:Int),σ.opn[j]?=some i→X.cell? ⟨g,j,none⟩=some (.int .i64 i))∧g<X.heap.size ∧
  ∃N,N+σ.opn.length≤σ.cnt∧aQ aH (X.setCell ⟨n+9,0,none⟩ (.slice (some ⟨g,0,none⟩) at_ c)) (n+7) N (fun a=>if σ.dn a=true then some (.bool true)else none)∧TjI n ub used W (X.setCell ⟨n+9,0,none⟩ (.slice (some ⟨g,0,none⟩) at_ c)) (.slice (some ⟨g,0,none⟩) at_ c) gv gl { σ with opn:=σ.opn.take at_ }:=by
 have hro:=h.ro
 rcases h.ro.2 with⟨_,e0⟩|⟨g,cap,cur,e1,e2,e3,e4,e5,e6,e7⟩
 ·omega
 subst e1
 obtain⟨N,hN,hm⟩:=h.m7
 refine⟨g,cap,rfl,e4,e5,fun j i hj=>?_,lt_of_block e3,N,hN,hm.keep (Tx _ _ _ _ (by show n+7≠n+9;omega)),?_⟩
 ·have:=hro.cellAt j (by have:=(Sy.1 hj).1;omega)
  rw[Tk,hj]at this
  exact this
 ·refine h.open_ (Z:=X) (ov':=.slice (some ⟨g,0,none⟩) at_ cap) (wV:=σ.opn.take at_) (B0:=X.heap.size) (SA _) (fun _ _ _=>rfl) (SA _) rfl rfl rfl ?_ (.inl rfl) (N:=N) (by rw[Um,Nat.min_eq_left (by omega)];omega) hm
  have:=JZ hro (m:=at_) (by omega)
  rw[Um,Nat.min_eq_left (by omega),List.map_take]
  exact this
theorem TjI.O9 (h:TjI n ub used W X ov gv gl σ){id:Int}(hi:aH.ok id){N:Nat}(hN:N+1+σ.opn.length≤σ.cnt)(hc:σ.cnt<100000)(hm:aQ aH X (n+7) N (fun a=>if σ.dn a=true then some (.bool true)else none)) :
  ∃Y,(Instr.mapUpdate 79 (.map (some (n+7))) (.int .i64 id) (.bool true)).run Tryz.prog X=.ok () Y∧TjI n ub used W Y ov gv gl { σ with dn:=fun x=>σ.dn x||decide (x=id) }∧X.grownBy Y (some (n+7)) ∧
   aQ aH Y (n+7) (N+1) (fun a=>if (σ.dn a||decide (a=id))=true then some (.bool true)else none):=by
 have hz:=h.f.z
 obtain⟨Y,r1,k7,g1⟩:=hm.put (t:=79) Tryz.iW (by unfold maxLen;omega) hi (.bool true)
 have hs1:∀k,k<X.heap.size→k≠n+7→Y.heap[k]?=X.heap[k]?:=fun k hk hne=>g1.block k hk (fun e=>hne (TL e))
 have k7':aQ aH Y (n+7) (N+1) (fun a=>if (σ.dn a||decide (a=id))=true then some (.bool true)else none):=k7.eG fun a _=>by
  by_cases ea:a=id
  ·simp[ea]
  ·simp[ea]
 exact⟨Y,r1,h.turn (.inr (.inr rfl)) g1 rfl rfl (h.m3.keep (hs1 _ (by omega) (by omega))) (h.m4.keep (hs1 _ (by omega) (by omega))) ⟨N+1,by show N+1+σ.opn.length≤σ.cnt;omega,k7'⟩,g1,k7'⟩
theorem TjI.below (h:TjI n ub used W X ov gv gl σ)(hb:Below X.heap.size X Y):TjI n ub used W Y ov gv gl σ:=by
 have hz:=h.f.z
 have hs:∀k,k<X.heap.size→Y.heap[k]?=X.heap[k]?:=hb.block
 obtain⟨N,hN,hm⟩:=h.m7
 refine⟨h.f.keep hb.size (fun k hk _ _ _ _ _=>hs k (by omega)) hb.os hb.tape hb.output,(hs _ (by omega)).trans h.b9,(hs _ (by omega)).trans h.b2,h.m3.keep (hs _ (by omega)),h.m4.keep (hs _ (by omega)),⟨N,hN,hm.keep (hs _ (by omega))⟩,bQ h.ro fun g hg=>hs g (h.ovB hg).2.1,bQ h.rg fun g hg=>hs g (h.gvB hg).2.1,h.gn,fun j v l hv hl=>?_⟩
 exact(h.gs j v l hv hl).keep (fun g _ ⟨_,_,hg2⟩ _=>hs g (lt_of_block hg2)) fun g _ hg'=>hg'
theorem TjI.grouped (h:TjI n ub used W X ov gv gl σ){v:Value}{l:List Int}(hv:mU X n ov v l){gv':Value}{Z:World}
  (hown:Z.ownsRow (n+11) 39 1 gv' (gl.length+1) (gl++[v]))(hg:(X.alloc (.cells #[v] 39)).grownBy Z gv.ownBlock)(_hat:gv'.ownBlock=gv.ownBlock∨gv'.ownBlock=some (X.alloc (.cells #[v] 39)).heap.size) :
  Z.cell? ⟨n+2,0,none⟩=some gv∧Z.frozen? ⟨n+2,0,none⟩=false∧TjI n ub used W (Z.setCell ⟨n+2,0,none⟩ gv') ov gv' (gl++[v]) { σ with grs:=σ.grs++[l] }:=by
 have hzX:=h.f.z
 have hgn:=h.gn
 have hv0:=hv
 have hsA:(X.alloc (.cells #[v] 39)).heap.size=X.heap.size+1:=by simp
 have hs0:∀k,k<X.heap.size→gv.ownBlock≠some k→Z.heap[k]?=X.heap[k]?:=fun k hk hne=>(hg.block k (by omega) (fun e=>hne e.symm)).trans (Tt _ _ _ hk)
 have no:∀k,k<n+11→gv.ownBlock≠some k:=fun k hk e=>by have:=(h.gvB e).1;omega
 have hs:∀k,k<X.heap.size→k≠n+2→gv.ownBlock≠some k→(Z.setCell ⟨n+2,0,none⟩ gv').heap[k]?=X.heap[k]?:=fun k h1 h2 h3=>(Tx _ _ _ _ h2).trans (hs0 k h1 h3)
 have nt:∀g,(∃cur fz,X.heap[g]?=some (.cells cur 3 fz))→gv.ownBlock≠some g:=fun g ⟨_,_,k3⟩ e=>by
  obtain⟨_,_,c',fz',k4⟩:=h.gvB e
  rw[k3]at k4
  simp only[TK,Obj.cells.injEq]at k4
  exact absurd k4.2.1 (by decide)
 have hb2:Z.heap[n+2]?=some (.cells #[gv] 28 (0,0)):=(hs0 _ (by omega) (no _ (by omega))).trans h.b2
 obtain⟨N,hN,hm⟩:=h.m7
 have hown':Z.ownsRow (n+11) 39 1 gv' (gl++[v]).length (gl++[v]):=by rw[SX];exact hown
 refine⟨Sq Z _ 0 _ _ (0,0) hb2,Sr Z _ 0 _ _ hb2,h.f.keep (by have:=hg.size;simp[World.setCell];omega) (fun k hk h2 _ _ _ _=>hs k (by omega) h2 (no k hk)) (hg.os.trans rfl) (hg.tape.trans rfl) (hg.output.trans rfl),(hs _ (by omega) (by omega) (no _ (by omega))).trans h.b9,heap_set hb2 gv',h.m3.keep (hs _ (by omega) (by omega) (no _ (by omega))),h.m4.keep (hs _ (by omega) (by omega) (no _ (by omega))),⟨N,hN,hm.keep (hs _ (by omega) (by omega) (no _ (by omega)))⟩,bQ h.ro fun g hg'=>?_,bQ hown' fun g hg'=>?_,by simp[hgn],fun j u k hu hk=>?_⟩
 ·obtain⟨k1,k2,k3⟩:=h.ovB hg'
  exact hs g k2 (by omega) (nt g k3)
 ·exact Tx _ _ _ _ (by have:=(hown.lt g hg').1;show g≠n+2;omega)
 ·have kp:∀{u:Value} {k:List Int},mU X n ov u k→mU (Z.setCell ⟨n+2,0,none⟩ gv') n ov u k:=fun h'=>h'.keep (fun g hg1 hg2 _=>hs g (by obtain⟨_,_,k3⟩:=hg2;exact lt_of_block k3) (by omega) (nt g hg2)) fun g _ hg'=>hg'
  by_cases e:j<gl.length
  ·rw[Tg e]at hu
   rw[Tg (by omega)]at hk
   exact kp (h.gs j u k hu hk)
  ·have h1:=(Sy.1 hu).1
   rw[SX,SY]at h1
   obtain rfl:j=gl.length:=by omega
   have e1:(gl++[v])[gl.length]?=some v:=by simp
   have e2:(σ.grs++[l])[gl.length]?=some l:=by rw[hgn];simp
   rw[e1]at hu
   rw[e2]at hk
   cases hu
   cases hk
   exact kp hv0
theorem TjI.cells (h:TjI n ub used W X ov gv gl σ):X.cell? ⟨n+5,0,none⟩=some (.map (some (n+3)))∧X.cell? ⟨n+6,0,none⟩=some (.map (some (n+4)))∧X.cell? ⟨n+8,0,none⟩=some (.map (some (n+7)))∧X.cell? ⟨n+1,0,none⟩=some (.map (some ub)) ∧
  X.cell? ⟨n+10,0,none⟩=some (.func (.func 82) #[] (caps n))∧X.cell? ⟨n+9,0,none⟩=some ov∧X.cell? ⟨n+2,0,none⟩=some gv∧X.frozen? ⟨n+9,0,none⟩=false∧X.frozen? ⟨n+2,0,none⟩=false:=
 ⟨Sq X _ 0 _ _ (0,0) h.f.b5,Sq X _ 0 _ _ (0,0) h.f.b6,Sq X _ 0 _ _ (0,0) h.f.b8,Sq X _ 0 _ _ (0,0) h.f.b1,Sq X _ 0 _ _ (0,0) h.f.b10,Sq X _ 0 _ _ (0,0) h.b9,Sq X _ 0 _ _ (0,0) h.b2,Sr X _ 0 _ _ h.b9,Sr X _ 0 _ _ h.b2⟩
theorem TjI.other (h:TjI n ub used W X ov gv gl σ){gc:Nat}(hgc:n+11≤gc)(ho:ov.ownBlock≠some gc)(hgv:gv.ownBlock≠some gc)(hgl:∀v∈gl,v.ownBlock≠some gc)(hg:X.grownBy Y (some gc)):TjI n ub used W Y ov gv gl σ:=by
 have hz:=h.f.z
 have hs:∀k,k<X.heap.size→k≠gc→Y.heap[k]?=X.heap[k]?:=fun k hk hne=>hg.block k hk (fun e=>hne (TL e))
 obtain⟨N,hN,hm⟩:=h.m7
 refine⟨h.f.keep hg.size (fun k hk _ _ _ _ _=>hs k (by omega) (by omega)) hg.os hg.tape hg.output,(hs _ (by omega) (by omega)).trans h.b9,(hs _ (by omega) (by omega)).trans h.b2,h.m3.keep (hs _ (by omega) (by omega)),h.m4.keep (hs _ (by omega) (by omega)),⟨N,hN,hm.keep (hs _ (by omega) (by omega))⟩,bQ h.ro fun g hg'=>hs g (h.ovB hg').2.1 (fun e=>ho (e▸hg')),bQ h.rg fun g hg'=>hs g (h.gvB hg').2.1 (fun e=>hgv (e▸hg')),h.gn,fun j v l hv hl=>?_⟩
 have hne:=hgl v (SV hv)
 obtain⟨g,c,cur,fz,e1,e2,e3,e4,e5,e6⟩:=h.gs j v l hv hl
 have e:=hs g (lt_of_block e4) fun e=>hne (by rw[e1,←e];rfl)
 exact⟨g,c,cur,fz,e1,e2,e3,e.trans e4,fun j i hj=>(SN e).trans (e5 j i hj),e6⟩
theorem TjI.glB (h:TjI n ub used W X ov gv gl σ):∀v∈gl,∀g,v.ownBlock=some g→g<X.heap.size:=fun v hv g hg=>by
 obtain⟨j,hj,e⟩:=List.getElem_of_mem hv
 obtain⟨l,hl⟩:∃l,σ.grs[j]?=some l:=⟨_,Sw (by rw[←h.gn];exact hj)⟩
 obtain⟨g',c,cur,fz,e1,e2,e3,e4,_⟩:=h.gs j v l (by rw[Sw hj,e]) hl
 rw[e1]at hg
 have:g'=g:=by simpa [Value.ownBlock]using hg
 rw[←this]
 exact lt_of_block e4
theorem TjI.looks (h:TjI n ub used W X ov gv gl σ){a:Int}(ha:aH.ok a) :
  (Instr.lookup 129 (.map (some (n+3))) (.int .i64 a) false).run Tryz.prog X=.ok (.int .i64 (σ.num a)) X ∧
  (σ.num a≠0→(Instr.lookup 129 (.map (some (n+4))) (.int .i64 a) false).run Tryz.prog X=.ok (.int .i64 (σ.low a)) X) ∧
  (Instr.lookup 79 (.map (some (n+7))) (.int .i64 a) false).run Tryz.prog X=.ok (.bool (σ.dn a)) X ∧
  ∃A c,(Instr.lookup 77 (.map (some ub)) (.int .i64 a) false).run Tryz.prog X=.ok (.slice A (used a).length c) X∧dF X n A c (used a):=by
 have hz:=h.f.z
 refine⟨?_,fun h0=>?_,?_,?_⟩
 ·have:=h.m3.a.look false (t:=129) Tryz.kG (l5 X) ha
  simp only[TN,if_false,aH]at this
  have e:(if σ.num a=0 then none else some (Value.int .i64 (σ.num a))).getD (.int .i64 0)=.int .i64 (σ.num a):=by
   split
   ·rename_i e;rw[e];rfl
   ·rfl
  rw[e]at this
  exact this
 ·have:=h.m4.a.look false (t:=129) Tryz.kG (l5 X) ha
  simp only[TN,if_false,aH,TW h0,Option.getD_some]at this
  exact this
 ·obtain⟨N,_,hm⟩:=h.m7
  have:=hm.look false (t:=79) Tryz.iW (kQ X) ha
  simp only[TN,if_false,aH]at this
  have e:(if σ.dn a=true then some (Value.bool true)else none).getD (.bool false)=.bool (σ.dn a):=by cases σ.dn a <;> rfl
  rw[e]at this
  exact this
 ·obtain⟨N,g,hm,hg⟩:=h.f.us
  have hu:=h.f.ubl
  have:=(hm.keep (h.f.old ub hu)).look false (t:=77) Tryz.pX (pY X) ha
  simp only[TN,if_false,aH]at this
  obtain⟨A,c,e,hi⟩:=hg a
  rw[e]at this
  refine⟨A,c,this,hi.1,hi.2.1,fun hne=>?_⟩
  obtain⟨g',o,e1,e2,e3⟩:=hi.2.2 hne
  exact⟨g',o,e1,e2,fun j i hj=>(SN (h.f.old g' e2)).trans (e3 j i hj)⟩
end
end Go.Proofs.Q
