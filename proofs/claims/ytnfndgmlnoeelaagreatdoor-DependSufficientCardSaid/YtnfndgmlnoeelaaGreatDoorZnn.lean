/- law40.awake: its modules, plainly -/
import Derived.Test.YtnfndgmlnoeelaaGreatDoorZnm
import Derived.Test.YtnfndgmlnoeelaaGreatDoorZlz
import Derived.Deep.RegionHeld3
namespace Go.Proofs.YtnfndgmlnoeelaaGreatDoor
open Go.RowKit Go.Proofs Go.Shelf
def axF : ByteArray × Int:=(⟨#[109]⟩,1)
def axG : ByteArray × Int:=(⟨#[109]⟩,2)
def axD1 (nb : Nat) : Dc:=⟨1,1,false,some ⟨nb,0,none⟩,1,[⟨#[102]⟩],false,5,⟨#[]⟩,⟨#[]⟩,2,0,none,0,.nil⟩
def axD2 (nb : Nat) (k : Int) : Dc:=⟨2,1,false,some ⟨nb,0,none⟩,1,[⟨#[103]⟩],false,k,⟨#[]⟩,⟨#[]⟩,0,0,none,0,.nil⟩
def axMo (n1 n2 db : Nat) (k : Int) : Mo:=⟨⟨#[109]⟩,none,0,[],some ⟨db,0,none⟩,2,[axD1 n1,axD2 n2 k]⟩
theorem ax_chk11 (n1 n2 db : Nat) : chkL [axMo n1 n2 db 11] = 0:=by kernel_rfl
theorem ax_chk1 (n1 n2 db : Nat) : chkL [axMo n1 n2 db 1] = 0:=by kernel_rfl
theorem ax_uses1 (nb : Nat) : usesOf ⟨#[109]⟩ (axD1 nb).body = [axG]:=by
 have h : refL (axD1 nb).body.vis = [(⟨#[]⟩,2)]:=by kernel_rfl
 have h2 : fullN ⟨#[109]⟩ (⟨#[]⟩,2) = axG:=by kernel_rfl
 unfold usesOf ordN refsOf
 rw [h]
 simp [sortNames,compactL,dd,h2]
theorem ax_uses2 (nb : Nat) (k : Int) (hk : k ≠ 5) : usesOf ⟨#[109]⟩ (axD2 nb k).body = []:=by
 have h : refL (axD2 nb k).body.vis = []:=by simp [refL,Dc.body,axD2,Fo.vis,hk]
 unfold usesOf ordN refsOf
 rw [h]
 simp [sortNames,compactL]
theorem ax_body (n1 n2 db : Nat) (k : Int) (n : ByteArray × Int) : bodyOf [axMo n1 n2 db k] n = if n = axF then some (axD1 n1) else if n = axG then some (axD2 n2 k) else none:=by
 obtain ⟨a,i⟩:=n
 unfold bodyOf bodyOf declAt axMo axF axG
 simp only
 by_cases ha : (⟨#[109]⟩ : ByteArray) = a
 ·subst ha
  rw [if_pos rfl]
  by_cases h1 : i = 1
  ·subst h1;simp [axD1]
  ·by_cases h2 : i = 2
   ·subst h2;simp [axD1,axD2]
   ·have e1 : ¬ (1 : Int) = i:=fun e => h1 e.symm
    have e2 : ¬ (2 : Int) = i:=fun e => h2 e.symm
    simp [axD1,axD2,h1,h2,e1,e2]
 ·have ha' : ¬ a = ⟨#[109]⟩:=fun e => ha e.symm
  rw [if_neg ha]
  simp [ha']
theorem ax_ne : axG ≠ axF:=by
 unfold axG axF
 intro h
 have:=congrArg Prod.snd h
 simp at this
theorem ax_grf (n1 n2 db : Nat) (k : Int) (hk : k ≠ 5) (n : ByteArray × Int) : grf [axMo n1 n2 db k] n = if n = axF then some [axG] else if n = axG then some [] else none:=by
 unfold grf
 rw [ax_body]
 by_cases h1 : n = axF
 ·rw [if_pos h1,if_pos h1,h1]
  exact congrArg some (ax_uses1 n1)
 ·rw [if_neg h1,if_neg h1]
  by_cases h2 : n = axG
  ·rw [if_pos h2,if_pos h2,h2]
   exact congrArg some (ax_uses2 n2 k hk)
  ·rw [if_neg h2,if_neg h2];rfl
theorem ax_lt : ltN axF axG:=by unfold ltN axF axG;exact .inr ⟨rfl,by decide⟩
theorem ax_okF : NOk axF:=by unfold NOk axF;exact ⟨by simp [maxLen,ByteArray.size],by decide⟩
theorem ax_okG : NOk axG:=by unfold NOk axG;exact ⟨by simp [maxLen,ByteArray.size],by decide⟩
theorem ax_reachF (n1 n2 db : Nat) (k : Int) (hk : k ≠ 5) {x : ByteArray × Int} (h : Reach (grf [axMo n1 n2 db k]) axF x) : x = axF ∨ x = axG:=
 Reach.inside (p:=fun x => x = axF ∨ x = axG) (.inl rfl) (fun z us hz hus u hu => by
  rw [ax_grf n1 n2 db k hk] at hus
  rcases hz with rfl | rfl
  ·rw [if_pos rfl] at hus;cases hus;exact .inr (List.mem_singleton.1 hu)
  ·rw [if_neg ax_ne,if_pos rfl] at hus;cases hus;simp at hu) h
theorem ax_cloF (n1 n2 db : Nat) (k : Int) (hk : k ≠ 5) : Clo (grf [axMo n1 n2 db k]) axF (some [axF,axG]):=by
 refine ⟨List.pairwise_cons.2 ⟨fun x hx => by rw [List.mem_singleton.1 hx];exact ax_lt,List.pairwise_singleton _ _⟩,fun x => ⟨fun hx => ?_,fun hx => ?_⟩,fun x hx => ?_⟩
 ·rcases List.mem_cons.1 hx with rfl | hx
  ·exact .refl
  ·rw [List.mem_singleton.1 hx]
   exact Reach.refl.step (by rw [ax_grf n1 n2 db k hk,if_pos rfl]) (List.mem_singleton.2 rfl)
 ·rcases ax_reachF n1 n2 db k hk hx with rfl | rfl <;> simp
 ·rw [ax_grf n1 n2 db k hk]
  rcases ax_reachF n1 n2 db k hk hx with rfl | rfl
  ·simp
  ·rw [if_neg ax_ne];simp
theorem ax_cloG (n1 n2 db : Nat) (k : Int) (hk : k ≠ 5) : Clo (grf [axMo n1 n2 db k]) axG (some [axG]):=by
 have hr : ∀ x,Reach (grf [axMo n1 n2 db k]) axG x → x = axG:=fun x h => Reach.inside (p:=fun x => x = axG) rfl (fun z us hz hus u hu => by
  rw [hz,ax_grf n1 n2 db k hk,if_neg ax_ne,if_pos rfl] at hus;cases hus;simp at hu) h
 refine ⟨List.pairwise_singleton _ _,fun x => ⟨fun hx => by rw [List.mem_singleton.1 hx];exact .refl,fun hx => by rw [hr x hx];simp⟩,fun x hx => ?_⟩
 rw [hr x hx,ax_grf n1 n2 db k hk,if_neg ax_ne];simp
theorem ax_load (n1 n2 db : Nat) {n : ByteArray × Int} (hn : n = axF ∨ n = axG) : loadE [axMo n1 n2 db 11] n = 0:=by
 unfold loadE
 rw [ax_chk11,ax_body]
 rcases hn with rfl | rfl
 ·simp
 ·rw [if_neg ax_ne];simp
theorem ax_U (n1 n2 db : Nat) (k : Int) (hk : k ≠ 5) : ∀ x us,grf [axMo n1 n2 db k] x = some us → ∀ u ∈ us,u ∈ [axF,axG] ∧ NOk u:=fun x us h u hu => by
 rw [ax_grf n1 n2 db k hk] at h
 by_cases h1 : x = axF
 ·rw [if_pos h1] at h;cases h;rw [List.mem_singleton.1 hu];exact ⟨by simp,ax_okG⟩
 ·rw [if_neg h1] at h
  by_cases h2 : x = axG
  ·rw [if_pos h2] at h;cases h;simp at hu
  ·rw [if_neg h2] at h;cases h
theorem ax_cnt (n1 n2 db : Nat) (k : Int) : ∀ x y,bodyOf [axMo n1 n2 db k] x = some y → y.s.count ≤ 100000:=fun x y h => by
 rw [ax_body] at h
 by_cases h1 : x = axF
 ·rw [if_pos h1] at h;cases h;simp [axD1,Fo.count]
 ·rw [if_neg h1] at h
  by_cases h2 : x = axG
  ·rw [if_pos h2] at h;cases h;simp [axD2,Fo.count]
  ·rw [if_neg h2] at h;cases h
theorem ax_UOk (n1 n2 db : Nat) {n : ByteArray × Int} (hn : n = axF ∨ n = axG) : UOk [axMo n1 n2 db 11] n [axF,axG]:=
 ⟨by rcases hn with rfl | rfl <;> simp,by simp,ax_U n1 n2 db 11 (by decide),ax_cnt n1 n2 db 11⟩
theorem ax_W (n1 n2 db : Nat) (k : Int) : MoW [axMo n1 n2 db k]:=by
 intro m hm
 rw [List.mem_singleton.1 hm]
 refine ⟨by simp [axMo,maxLen,ByteArray.size],fun d hd => ?_⟩
 simp only [axMo,List.mem_cons,List.not_mem_nil,or_false] at hd
 rcases hd with rfl | rfl <;> rfl
theorem ax_tot (n1 n2 db : Nat) (k : Int) : totD [axMo n1 n2 db k] = 2:=by simp [totD,axMo]
theorem ax_changed (n1 n2 db n3 n4 db' : Nat) (n : ByteArray × Int) : (exB [axMo n1 n2 db 11] [axMo n3 n4 db' 1] n = true ∧ Clo (gC [axMo n1 n2 db 11] [axMo n3 n4 db' 1]) n none) ↔ n = axF ∨ n = axG:=by
 have hG : gC [axMo n1 n2 db 11] [axMo n3 n4 db' 1] axG = none:=by
  have h : sameB [axMo n1 n2 db 11] [axMo n3 n4 db' 1] axG = false:=by
   unfold sameB
   rw [ax_body,ax_body,if_neg ax_ne,if_neg ax_ne,if_pos rfl,if_pos rfl]
   rfl
  unfold gC;rw [h];rfl
 have hF : gC [axMo n1 n2 db 11] [axMo n3 n4 db' 1] axF = some [axG]:=by
  have h : sameB [axMo n1 n2 db 11] [axMo n3 n4 db' 1] axF = true:=by
   unfold sameB
   rw [ax_body,ax_body,if_pos rfl,if_pos rfl]
   simp [eqD,eqNd,axD1,Fo.eqF]
  unfold gC;rw [if_pos h,ax_grf n1 n2 db 11 (by decide),if_pos rfl]
 constructor
 ·rintro ⟨h,_⟩
  unfold exB at h
  rw [ax_body,ax_body] at h
  by_cases h1 : n = axF
  ·exact .inl h1
  ·by_cases h2 : n = axG
   ·exact .inr h2
   ·simp [h1,h2] at h
 ·rintro (rfl | rfl)
  ·refine ⟨by unfold exB;rw [ax_body];simp,axG,Reach.refl.step hF (by simp),hG⟩
  ·refine ⟨by unfold exB;rw [ax_body,if_neg ax_ne];simp,axG,.refl,hG⟩
end Go.Proofs.YtnfndgmlnoeelaaGreatDoor
/- law40.awake is true -/
namespace Go.Proofs.YtnfndgmlnoeelaaGreatDoor
open Go.RowKit Go.Proofs Go.Shelf
def DeclP (id : Int) (name : ByteArray) (k i : Int) (w : World) (e : Ending) (w' : World) : Prop:=
 ∃ nb,e = .returned (.agg #[.int .i64 id,.int .i64 1,.bool false,.slice (some ⟨nb,0,none⟩) 1 1,.bool false,.int .i64 k,.string ⟨#[]⟩,.string ⟨#[]⟩,.int .i64 i,.int .i64 0,.slice none 0 0]) ∧ w'.heap[nb]? = some (.cells #[.string name] 9 (0,0)) ∧ w.heap.size ≤ nb ∧ Below w.heap.size w w'
set_option maxRecDepth 100000 in
set_option maxHeartbeats 1000000 in
theorem decl40_any (id : Int) (name : ByteArray) (k i : Int) (w : World) :
  Calls Tryz.prog 17 #[.int .i64 id,.string name,.agg #[.int .i64 k,.string ⟨#[]⟩,.string ⟨#[]⟩,.int .i64 i,.int .i64 0,.slice none 0 0]] w (DeclP id name k i w):=by
 go_enter Tryz.func17,Tryz.ntmps17
 go_wp2
 refine bodyPost_ret (v:=.agg #[.int .i64 id,.int .i64 1,.bool false,.slice (some ⟨w.heap.size + 2,0,none⟩) 1 1,.bool false,.int .i64 k,.string ⟨#[]⟩,.string ⟨#[]⟩,.int .i64 i,.int .i64 0,.slice none 0 0]) (by simp [results,Tryz.results17,go_sem]) rfl ?_
 refine ⟨w.heap.size + 2,rfl,?_,by omega,?_⟩
 ·have:=World.alloc_heap_new ((w.alloc (.cells #[.int .i64 k,.string ⟨#[]⟩,.string ⟨#[]⟩,.int .i64 i,.int .i64 0,.slice none 0 0] 60)).alloc (.cells #[.int .i64 id,.int .i64 1,.bool false,.slice (some ⟨w.heap.size + 1 + 1,0,none⟩) 1 1,.bool false,.int .i64 k,.string ⟨#[]⟩,.string ⟨#[]⟩,.int .i64 i,.int .i64 0,.slice none 0 0] 62)) (.cells #[.string name] 9)
  simpa using this
 ·exact (((Below.refl _ _).alloc (Nat.le_refl _) _).alloc (by simp) _).alloc (by simp;omega) _
theorem ax_sl {X : World} {n1 n2 db mb : Nat} {k : Int} (h1 : X.heap[n1]? = some (.cells #[.string ⟨#[102]⟩] 9 (0,0))) (h2 : X.heap[n2]? = some (.cells #[.string ⟨#[103]⟩] 9 (0,0)))
  (h3 : X.heap[db]? = some (.cells #[.int .i64 1,.int .i64 1,.bool false,.slice (some ⟨n1,0,none⟩) 1 1,.bool false,.int .i64 5,.string ⟨#[]⟩,.string ⟨#[]⟩,.int .i64 2,.int .i64 0,.slice none 0 0,.int .i64 2,.int .i64 1,.bool false,.slice (some ⟨n2,0,none⟩) 1 1,.bool false,.int .i64 k,.string ⟨#[]⟩,.string ⟨#[]⟩,.int .i64 0,.int .i64 0,.slice none 0 0] 62 (0,0)))
  (h4 : X.heap[mb]? = some (.cells #[.string ⟨#[109]⟩,.slice none 0 0,.slice (some ⟨db,0,none⟩) 2 2] 58 (0,0))) : SlM X X.heap.size (some ⟨mb,0,none⟩) 1 [axMo n1 n2 db k]:=by
 have l1:=(Array.getElem?_eq_some_iff.1 h1).1
 have l2:=(Array.getElem?_eq_some_iff.1 h2).1
 have l3:=(Array.getElem?_eq_some_iff.1 h3).1
 have l4:=(Array.getElem?_eq_some_iff.1 h4).1
 have r3:=fun q => cell_of_row X db q _ _ (0,0) h3
 have hs : ∀ (nb : Nat) (nm : ByteArray),X.heap[nb]? = some (.cells #[.string nm] 9 (0,0)) → SlS X X.heap.size (some ⟨nb,0,none⟩) 1 [nm]:=fun nb nm h => by
  refine ⟨by simp,by simp [maxLen],fun _ => ⟨_,_,rfl,(Array.getElem?_eq_some_iff.1 h).1,fun j s hj => ?_⟩⟩
  cases j with
  | succ j => simp at hj
  | zero => simp at hj;subst hj;exact cell_of_row X nb 0 _ _ (0,0) h
 refine ⟨by simp,by simp [maxLen],fun _ => ⟨_,_,rfl,l4,fun j x hx => ?_⟩⟩
 cases j with
 | succ j => simp at hx
 | zero =>
  simp only [List.getElem?_cons_zero,Option.some.injEq] at hx
  subst hx
  refine ⟨fun q v hq => ?_,SlS.nil _ _ _ _ (by simp [axMo,maxLen]),by simp [axMo],by simp [axMo,maxLen],fun _ => ⟨_,_,rfl,l3,fun j x hx => ?_⟩⟩
  ·have:=cell_of_row X mb q _ _ (0,0) h4
   rw [Nat.zero_mul,Nat.zero_add,this]
   exact hq
  ·cases j with
   | zero =>
    simp only [axMo,List.getElem?_cons_zero,Option.some.injEq] at hx
    subst hx
    refine ⟨fun q v hq => ?_,hs n1 _ h1,Fo.Sl.nil _ _ _ _ (by simp [axD1,maxLen])⟩
    have hq' : q < 11:=(Array.getElem?_eq_some_iff.1 hq).1
    rw [Nat.zero_mul,Nat.zero_add,r3 q,← hq]
    match q,hq' with
    | 0,_ => rfl
    | 1,_ => rfl
    | 2,_ => rfl
    | 3,_ => rfl
    | 4,_ => rfl
    | 5,_ => rfl
    | 6,_ => rfl
    | 7,_ => rfl
    | 8,_ => rfl
    | 9,_ => rfl
    | 10,_ => rfl
   | succ j =>
    cases j with
    | succ j => simp [axMo] at hx
    | zero =>
     simp only [axMo,List.getElem?_cons_succ,List.getElem?_cons_zero,Option.some.injEq] at hx
     subst hx
     refine ⟨fun q v hq => ?_,hs n2 _ h2,Fo.Sl.nil _ _ _ _ (by simp [axD2,maxLen])⟩
     have hq' : q < 11:=(Array.getElem?_eq_some_iff.1 hq).1
     rw [show 0 + (0 + 1) * 11 + q = 11 + q by omega,r3 (11 + q),← hq]
     match q,hq' with
     | 0,_ => rfl
     | 1,_ => rfl
     | 2,_ => rfl
     | 3,_ => rfl
     | 4,_ => rfl
     | 5,_ => rfl
     | 6,_ => rfl
     | 7,_ => rfl
     | 8,_ => rfl
     | 9,_ => rfl
     | 10,_ => rfl
theorem ax_clos {X : World} {n1 n2 db mb : Nat} (h : SlM X X.heap.size (some ⟨mb,0,none⟩) 1 [axMo n1 n2 db 11]) {n : ByteArray × Int} (hn : n = axF ∨ n = axG) {L : List (ByteArray × Int)} (hL : Clo (grf [axMo n1 n2 db 11]) n (some L)) :
  Calls Tryz.prog 18 #[.slice (some ⟨mb,0,none⟩) 1 1,.agg #[.string n.1,.int .i64 n.2]] X fun e Y => ∃ A c,e = .returned (.tuple #[.slice A L.length c,.int .i64 0]) ∧ Y.ownsRow X.heap.size 24 2 (.slice A L.length c) L.length (namesC L) ∧ Below X.heap.size X Y:=by
 have hok : NOk n:=by rcases hn with rfl | rfl;exact ax_okF;exact ax_okG
 refine (dClosureF_any [axMo n1 n2 db 11] n _ 1 X h hok (ax_W n1 n2 db 11) (by rw [ax_tot];omega) (by simp) (fun _ => ⟨_,ax_UOk n1 n2 db hn⟩)).mono ?_
 rintro e Y ⟨hb,⟨hE,_⟩ | ⟨_,hc,_⟩ | ⟨_,L',v,hc,rfl,hown,_⟩⟩
 ·exact absurd (ax_load n1 n2 db hn) hE
 ·have:=hc.unique hL;cases this
 ·have:=hc.unique hL
  simp only [Option.some.injEq] at this
  subst this
  obtain ⟨A,c,rfl⟩:=own_formN hown
  exact ⟨A,c,rfl,hown,hb⟩
theorem ax_chg {X : World} {n1 n2 db mb n3 n4 db' mb' : Nat} (h : SlM X X.heap.size (some ⟨mb,0,none⟩) 1 [axMo n1 n2 db 11]) (h' : SlM X X.heap.size (some ⟨mb',0,none⟩) 1 [axMo n3 n4 db' 1]) :
  Calls Tryz.prog 20 #[.slice (some ⟨mb,0,none⟩) 1 1,.slice (some ⟨mb',0,none⟩) 1 1] X fun e Y => ∃ A c,e = .returned (.slice A 2 c) ∧ Y.ownsRow X.heap.size 24 2 (.slice A 2 c) 2 (namesC [axF,axG]) ∧ Below X.heap.size X Y:=by
 refine (dChanged_any [axMo n1 n2 db 11] [axMo n3 n4 db' 1] _ 1 _ 1 X h h' (ax_W n1 n2 db 11) (ax_W n3 n4 db' 1) (by rw [ax_tot];omega) (by rw [ax_tot];omega) (by simp) (by simp) (fun L hL _ _ _ => ⟨[axF,axG],?_⟩)).mono ?_
 ·refine ⟨fun n hn => ?_,by simp,ax_U n1 n2 db 11 (by decide),ax_cnt n1 n2 db 11⟩
  have hx:=(hL n hn).2
  unfold exB at hx
  rw [ax_body,ax_body] at hx
  by_cases h1 : n = axF
  ·rw [h1];simp
  ·by_cases h2 : n = axG
   ·rw [h2];simp
   ·simp [h1,h2] at hx
 ·rintro e Y ⟨v,R,rfl,hown,hb,hpw,hok,_,hR⟩
  have hRR : R = [axF,axG]:=by
   refine ltN_ext hpw (List.pairwise_cons.2 ⟨fun x hx => by rw [List.mem_singleton.1 hx];exact ax_lt,List.pairwise_singleton _ _⟩) fun x => ?_
   have key : NOk x → (x ∈ R ↔ x = axF ∨ x = axG):=fun hx => by
    rw [hR x hx,← ax_changed n1 n2 db n3 n4 db' x]
    exact ⟨fun h => ⟨h.1,h.2 (ax_chk11 n1 n2 db) (ax_chk1 n3 n4 db')⟩,fun h => ⟨h.1,fun _ _ => h.2⟩⟩
   constructor
   ·intro hx
    rcases (key (hok x hx)).1 hx with rfl | rfl <;> simp
   ·intro hx
    have hx' : x = axF ∨ x = axG:=by
     rcases List.mem_cons.1 hx with h | h
     ·exact .inl h
     ·exact .inr (List.mem_singleton.1 h)
    have hxok : NOk x:=by rcases hx' with rfl | rfl;exact ax_okF;exact ax_okG
    exact (key hxok).2 hx'
  subst hRR
  obtain ⟨A,c,rfl⟩:=own_formN hown
  exact ⟨A,c,rfl,hown,hb⟩
end Go.Proofs.YtnfndgmlnoeelaaGreatDoor
/- law40.awake is true: the walk -/
namespace Go.Proofs.YtnfndgmlnoeelaaGreatDoor
open Go.RowKit Go.Proofs Go.Shelf
def axDb (n1 n2 : Nat) (k : Int) : Obj:=.cells #[.int .i64 1,.int .i64 1,.bool false,.slice (some ⟨n1,0,none⟩) 1 1,.bool false,.int .i64 5,.string ⟨#[]⟩,.string ⟨#[]⟩,.int .i64 2,.int .i64 0,.slice none 0 0,.int .i64 2,.int .i64 1,.bool false,.slice (some ⟨n2,0,none⟩) 1 1,.bool false,.int .i64 k,.string ⟨#[]⟩,.string ⟨#[]⟩,.int .i64 0,.int .i64 0,.slice none 0 0] 62
def axMb (db : Nat) : Obj:=.cells #[.string ⟨#[109]⟩,.slice none 0 0,.slice (some ⟨db,0,none⟩) 2 2] 58
theorem ax_closF {X : World} {n1 n2 db mb : Nat} (h : SlM X X.heap.size (some ⟨mb,0,none⟩) 1 [axMo n1 n2 db 11]) :
  Calls Tryz.prog 18 #[.slice (some ⟨mb,0,none⟩) 1 1,.agg #[.string ⟨#[109]⟩,.int .i64 1]] X fun e Y => ∃ A c,e = .returned (.tuple #[.slice A 2 c,.int .i64 0]) ∧ Y.ownsRow X.heap.size 24 2 (.slice A 2 c) 2 (namesC [axF,axG]) ∧ Below X.heap.size X Y:=
 ax_clos h (.inl rfl) (ax_cloF n1 n2 db 11 (by decide))
theorem ax_closG {X : World} {n1 n2 db mb : Nat} (h : SlM X X.heap.size (some ⟨mb,0,none⟩) 1 [axMo n1 n2 db 11]) :
  Calls Tryz.prog 18 #[.slice (some ⟨mb,0,none⟩) 1 1,.agg #[.string ⟨#[109]⟩,.int .i64 2]] X fun e Y => ∃ A c,e = .returned (.tuple #[.slice A 1 c,.int .i64 0]) ∧ Y.ownsRow X.heap.size 24 2 (.slice A 1 c) 1 (namesC [axG]) ∧ Below X.heap.size X Y:=
 ax_clos h (.inr rfl) (ax_cloG n1 n2 db 11 (by decide))
theorem ax_eq2 {W : World} {base p c : Nat} {A : Option Addr} (h : W.ownsRow base 24 2 (.slice A 2 c) 2 (namesC [axF,axG])) (hp : W.heap[p]? = some (.cells #[.string ⟨#[109]⟩,.int .i64 1,.string ⟨#[109]⟩,.int .i64 2] 24 (0,0))) :
  Calls Tryz.prog 19 #[.slice A 2 c,.slice (some ⟨p,0,none⟩) 2 2] W fun e W' => e = .returned (.bool true) ∧ Below W.heap.size W W':=by
 refine (slcEqualN_same [axF,axG] A c base _ 2 0 W h (own_litN (n:=2) hp (by simp [maxLen]) rfl rfl) (by simp)).mono ?_
 rintro e W' ⟨rfl,q,rfl⟩
 exact ⟨rfl,below_drewN (Below.refl _ _) _⟩
theorem ax_eq1 {W : World} {base p c : Nat} {A : Option Addr} (h : W.ownsRow base 24 2 (.slice A 1 c) 1 (namesC [axG])) (hp : W.heap[p]? = some (.cells #[.string ⟨#[109]⟩,.int .i64 2] 24 (0,0))) :
  Calls Tryz.prog 19 #[.slice A 1 c,.slice (some ⟨p,0,none⟩) 1 1] W fun e W' => e = .returned (.bool true) ∧ Below W.heap.size W W':=by
 refine (slcEqualN_same [axG] A c base _ 1 0 W h (own_litN (n:=1) hp (by simp [maxLen]) rfl rfl) (by simp)).mono ?_
 rintro e W' ⟨rfl,q,rfl⟩
 exact ⟨rfl,below_drewN (Below.refl _ _) _⟩
theorem ax_eq3 {Z V W3 : World} {A : Option Addr} {c : Nat} (h : W3.ownsRow V.heap.size 24 2 (.slice A 2 c) 2 (namesC [axF,axG])) (hz : Below Z.heap.size Z W3) :
  ∀ (W : World) (p : Nat),Below W3.heap.size W3 W → W.heap[p]? = some (.cells #[.string ⟨#[109]⟩,.int .i64 1,.string ⟨#[109]⟩,.int .i64 2] 24 (0,0)) → Calls Tryz.prog 19 #[.slice A 2 c,.slice (some ⟨p,0,none⟩) 2 2] W (fun e W' => e = .returned (.bool true) ∧ Below Z.heap.size Z W'):=fun W p hW hp => by
 refine (ax_eq2 (bel_own hW h) hp).mono ?_
 rintro e W' ⟨he,hb⟩
 exact ⟨he,hz.trans ((hW.trans (hb.mono hW.size)).mono hz.size)⟩
set_option maxRecDepth 100000 in
set_option maxHeartbeats 16000000 in
theorem awake40_any (w : World) : Calls Tryz.prog 7 #[] w (fun e w' => e = .returned (.bool true) ∧ Below w.heap.size w w'):=by
 go_enter Tryz.func7,Tryz.ntmps7
 go_wp2_with fail
 refine (decl40_any 1 ⟨#[102]⟩ 5 2 _).mono ?_
 rintro e w1 ⟨n1,rfl,h1,hl1,hb1⟩
 have HX:=Lib.hid (And.intro h1 (And.intro hl1 hb1))
 clear h1 hl1 hb1
 go_wp2_with fail
 refine (decl40_any 2 ⟨#[103]⟩ 11 0 _).mono ?_
 rintro e w2 ⟨n2,rfl,h2,hl2,hb2⟩
 have HY:=Lib.hid (And.intro h2 (And.intro hl2 hb2))
 clear h2 hl2 hb2
 go_wp2_with fail
 obtain ⟨X,hX⟩ : ∃ X,(((w2.alloc (axDb n1 n2 11)).alloc (axMb w2.heap.size)).alloc (.cells #[.string ⟨#[109]⟩,.int .i64 1] 24)).alloc (.cells #[.string ⟨#[109]⟩,.int .i64 2] 24) = X:=⟨_,rfl⟩
 have hb2X : Below w2.heap.size w2 X:=by
  rw [← hX]
  exact ((((Below.refl _ _).alloc (Nat.le_refl _) _).alloc (by rw [alloc_size];omega) _).alloc (by simp only [alloc_size];omega) _).alloc (by simp only [alloc_size];omega) _
 have HSl:=Lib.hid (ax_sl (X:=X) (n1:=n1) (n2:=n2) (db:=w2.heap.size) (mb:=w2.heap.size + 1) (k:=11) (bel_row hb2X (bel_row HY.out.2.2 HX.out.1)) (bel_row hb2X HY.out.1)
  (by rw [← hX];simp only [heap_push,alloc_size];rw [if_neg (by omega),if_neg (by omega),if_neg (by omega),if_pos trivial];rfl)
  (by rw [← hX];simp only [heap_push,alloc_size];rw [if_neg (by omega),if_neg (by omega),if_pos trivial];rfl))
 have hf : X.heap[w2.heap.size + 1 + 1]? = some (.cells #[.string ⟨#[109]⟩,.int .i64 1] 24 (0,0)):=by
  rw [← hX];simp only [heap_push,alloc_size];rw [if_neg (by omega),if_pos trivial]
 have hg : X.heap[w2.heap.size + 1 + 1 + 1]? = some (.cells #[.string ⟨#[109]⟩,.int .i64 2] 24 (0,0)):=by
  rw [← hX];simp only [heap_push,alloc_size];rw [if_pos trivial]
 simp only [axDb,axMb] at hX
 rw [hX]
 have HK:=Lib.hid (show ∀ W,Below X.heap.size X W → (W.cell? ⟨w2.heap.size + 1 + 1,0,none⟩ = some (.string ⟨#[109]⟩) ∧ W.cell? ⟨w2.heap.size + 1 + 1,1,none⟩ = some (.int .i64 1) ∧ W.cell? ⟨w2.heap.size + 1 + 1 + 1,0,none⟩ = some (.string ⟨#[109]⟩) ∧ W.cell? ⟨w2.heap.size + 1 + 1 + 1,1,none⟩ = some (.int .i64 2)) from fun W hW =>
  ⟨cell_of_row W _ 0 _ _ (0,0) (bel_row hW hf),cell_of_row W _ 1 _ _ (0,0) (bel_row hW hf),cell_of_row W _ 0 _ _ (0,0) (bel_row hW hg),cell_of_row W _ 1 _ _ (0,0) (bel_row hW hg)⟩)
 have HSX:=Lib.hid (show ∀ W,Below X.heap.size X W → SlM W W.heap.size (some ⟨w2.heap.size + 1,0,none⟩) 1 [axMo n1 n2 w2.heap.size 11] from fun W hW => (HSl.out.below hW).keep hW.size (fun _ _ => rfl))
 have HB:=Lib.hid (hb2X)
 clear hf hg hX hb2X
 refine (ax_closF HSl.out).mono ?_
 rintro e Y ⟨A1,c1,rfl,ho1,hbY⟩
 obtain ⟨hk1,hk2,hk3,hk4⟩:=HK.out Y hbY
 have HO1:=Lib.hid (And.intro ho1 hbY)
 clear ho1 hbY
 go_wp2_with fail
 refine (ax_closG (HSX.out Y HO1.out.2)).mono ?_
 rintro e Y2 ⟨A2,c2,rfl,ho2,hbY2⟩
 have HO2:=Lib.hid (And.intro (bel_own hbY2 HO1.out.1) (And.intro ho2 (HO1.out.2.trans (hbY2.mono HO1.out.2.size))))
 clear ho2 hbY2 hk1 hk2 hk3 hk4
 clear HO1
 go_wp2_with fail
 refine (decl40_any 1 ⟨#[102]⟩ 5 2 _).mono ?_
 rintro e w3 ⟨n3,rfl,h1,hl1,hb1⟩
 have HX3:=Lib.hid (And.intro h1 (And.intro hl1 hb1))
 clear h1 hl1 hb1
 go_wp2_with fail
 refine (decl40_any 2 ⟨#[103]⟩ 1 0 _).mono ?_
 rintro e w4 ⟨n4,rfl,h2,hl2,hb2⟩
 have HX4:=Lib.hid (And.intro h2 (And.intro hl2 hb2))
 clear h2 hl2 hb2
 go_wp2_with fail
 obtain ⟨Z,hZ⟩ : ∃ Z,(w4.alloc (axDb n3 n4 1)).alloc (axMb w4.heap.size) = Z:=⟨_,rfl⟩
 have hb4Z : Below w4.heap.size w4 Z:=by
  rw [← hZ]
  exact ((Below.refl _ _).alloc (Nat.le_refl _) _).alloc (by rw [alloc_size];omega) _
 have HL:=Lib.hid (ax_sl (X:=Z) (n1:=n3) (n2:=n4) (db:=w4.heap.size) (mb:=w4.heap.size + 1) (k:=1) (bel_row hb4Z (bel_row HX4.out.2.2 HX3.out.1)) (bel_row hb4Z HX4.out.1)
  (by rw [← hZ];simp only [heap_push,alloc_size];rw [if_neg (by omega),if_pos trivial];rfl)
  (by rw [← hZ];simp only [heap_push,alloc_size];rw [if_pos trivial];rfl))
 have hbYZ : Below Y2.heap.size Y2 Z:=(HX3.out.2.2.trans (HX4.out.2.2.mono HX3.out.2.2.size)).trans (hb4Z.mono (Nat.le_trans HX3.out.2.2.size HX4.out.2.2.size))
 have hbXZ : Below X.heap.size X Z:=HO2.out.2.2.trans (hbYZ.mono HO2.out.2.2.size)
 have hbX : Below w.heap.size w X:=(HX.out.2.2.trans (HY.out.2.2.mono HX.out.2.2.size)).trans (HB.out.mono (Nat.le_trans HX.out.2.2.size HY.out.2.2.size))
 have HF:=Lib.hid (hbX.trans (hbXZ.mono hbX.size))
 have HZ:=Lib.hid (show ∀ W,Below Z.heap.size Z W → _ from fun W hW => HK.out W (hbXZ.trans (hW.mono hbXZ.size)))
 have HE1:=Lib.hid (show ∀ (W : World) (p : Nat),Below Z.heap.size Z W → W.heap[p]? = some (.cells #[.string ⟨#[109]⟩,.int .i64 1,.string ⟨#[109]⟩,.int .i64 2] 24 (0,0)) → Calls Tryz.prog 19 #[.slice A1 2 c1,.slice (some ⟨p,0,none⟩) 2 2] W (fun e W' => e = .returned (.bool true) ∧ Below Z.heap.size Z W') from fun W p hW hp => by
  refine (ax_eq2 (bel_own hW (bel_own hbYZ HO2.out.1)) hp).mono ?_
  rintro e W' ⟨he,hb⟩
  exact ⟨he,hW.trans (hb.mono hW.size)⟩)
 have HE2:=Lib.hid (show ∀ (W : World) (p : Nat),Below Z.heap.size Z W → W.heap[p]? = some (.cells #[.string ⟨#[109]⟩,.int .i64 2] 24 (0,0)) → Calls Tryz.prog 19 #[.slice A2 1 c2,.slice (some ⟨p,0,none⟩) 1 1] W (fun e W' => e = .returned (.bool true) ∧ Below Z.heap.size Z W') from fun W p hW hp => by
  refine (ax_eq1 (bel_own hW (bel_own hbYZ HO2.out.2.1)) hp).mono ?_
  rintro e W' ⟨he,hb⟩
  exact ⟨he,hW.trans (hb.mono hW.size)⟩)
 have HCh:=Lib.hid (show ∀ W,Below Z.heap.size Z W → Calls Tryz.prog 20 #[.slice (some ⟨w2.heap.size + 1,0,none⟩) 1 1,.slice (some ⟨w4.heap.size + 1,0,none⟩) 1 1] W (fun e W' => ∃ A c,e = .returned (.slice A 2 c) ∧ W'.ownsRow W.heap.size 24 2 (.slice A 2 c) 2 (namesC [axF,axG]) ∧ Below W.heap.size W W' ∧ Below Z.heap.size Z W') from fun W hW => by
  refine (ax_chg (HSX.out W (hbXZ.trans (hW.mono hbXZ.size))) ((HL.out.below hW).keep hW.size (fun _ _ => rfl))).mono ?_
  rintro e W' ⟨A,c,he,ho,hb⟩
  exact ⟨A,c,he,ho,hb,hW.trans (hb.mono hW.size)⟩)
 have HBz:=Lib.hid (Below.refl Z.heap.size Z)
 have HSz:=Lib.hid (HZ.out Z (Below.refl _ _))
 simp only [axDb,axMb] at hZ
 rw [hZ]
 clear hZ hb4Z hbYZ hbXZ hbX HL HK HSX HO2 HX HY HX3 HX4 HB HSl
 go_region_held3 (fun W => W.cell? ⟨w2.heap.size + 1 + 1,0,none⟩ = some (.string ⟨#[109]⟩) ∧ W.cell? ⟨w2.heap.size + 1 + 1,1,none⟩ = some (.int .i64 1) ∧ W.cell? ⟨w2.heap.size + 1 + 1 + 1,0,none⟩ = some (.string ⟨#[109]⟩) ∧ W.cell? ⟨w2.heap.size + 1 + 1 + 1,1,none⟩ = some (.int .i64 2))
  (focus (refine HZ.out _ ?_;(first | with_reducible exact HBz.out | with_reducible exact below_drew' HBz.out | with_reducible exact HBz.out.alloc HBz.out.size _ | with_reducible exact below_drew' (HBz.out.alloc HBz.out.size _))))
  (first
   | (go_at_call 20;(with_reducible refine Calls.mono (HCh.out _ ?_) ?_);(focus (first | with_reducible exact HBz.out | with_reducible exact below_drew' HBz.out | with_reducible exact HBz.out.alloc HBz.out.size _ | with_reducible exact below_drew' (HBz.out.alloc HBz.out.size _)));rintro e W3 ⟨A3,c3,rfl,ho3,hb3,hbz3⟩;have HR3:=Lib.hid (fun (k : Nat) (o : Obj) hr => bel_row (k:=k) (o:=o) hb3 hr);have HQ3:=Lib.hid (ax_eq3 ho3 hbz3);have HBz:=Lib.hid hbz3;have tok3 : True:=trivial;clear ho3 hb3 hbz3)
   | (go_at_call 19;have _t:=tok3;(with_reducible refine Calls.mono (HQ3.out _ _ ?_ ?_) ?_);(focus (first | with_reducible exact Below.refl _ _ | with_reducible exact below_drew' (Below.refl _ _) | with_reducible exact (Below.refl _ _).alloc (Nat.le_refl _) _ | with_reducible exact below_drew' ((Below.refl _ _).alloc (Nat.le_refl _) _)));(focus (first | (first | with_reducible exact heap_alloc_drew _ _ | with_reducible exact heap_alloc_new _ _) | exact HR3.out _ _ (heap_alloc_drew _ _) | exact HR3.out _ _ (heap_alloc_new _ _)));rintro e W4 ⟨rfl,hbz4⟩;have HBz:=Lib.hid hbz4;clear hbz4)
   | (go_at_call 19;(with_reducible refine Calls.mono (HE1.out _ _ ?_ ?_) ?_);(focus (first | with_reducible exact HBz.out | with_reducible exact below_drew' HBz.out | with_reducible exact HBz.out.alloc HBz.out.size _ | with_reducible exact below_drew' (HBz.out.alloc HBz.out.size _)));(focus (first | with_reducible exact heap_alloc_drew _ _ | with_reducible exact heap_alloc_new _ _));rintro e W1 ⟨rfl,hbz1⟩;have HBz:=Lib.hid hbz1;clear hbz1)
   | (go_at_call 19;(with_reducible refine Calls.mono (HE2.out _ _ ?_ ?_) ?_);(focus (first | with_reducible exact HBz.out | with_reducible exact below_drew' HBz.out | with_reducible exact HBz.out.alloc HBz.out.size _ | with_reducible exact below_drew' (HBz.out.alloc HBz.out.size _)));(focus (first | with_reducible exact heap_alloc_drew _ _ | with_reducible exact heap_alloc_new _ _));rintro e W2 ⟨rfl,hbz2⟩;have HBz:=Lib.hid hbz2;clear hbz2))
 all_goals (
  go_wp2
  go_ret
  exact ⟨rfl,HF.out.trans (HBz.out.mono HF.out.size)⟩)
end Go.Proofs.YtnfndgmlnoeelaaGreatDoor
