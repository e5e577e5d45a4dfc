/- lexer.letter, digit, Word -/
import Derived.Test.YtmmecapgnmlaiaaGreatDoorProg
import Derived.Test.YtmmecapgnmlaiaaGreatDoorZxa
import Derived.Deep.LoopGhost
import Derived.WalkLawsBesides
import Derived.WalkSpells
import Derived.Laws.RangeAny
import Derived.Test.YtmmecapgnmlaiaaGreatDoorRng
import Derived.Shelf.Abstract
import Derived.OwnWalkIn
import Derived.TacticsInMore
import Derived.LoopNIn
import Derived.LoopIn
import Derived.Lib.Strings
import Derived.Lib.IndexBytes
namespace Go.Proofs.YtmmecapgnmlaiaaGreatDoor
open Go.RowKit Go.Proofs
def letZ (c : Int) : Bool:=decide (97 ≤ c) && decide (c ≤ 122)
def digZ (c : Int) : Bool:=decide (48 ≤ c) && decide (c ≤ 57)
def letB (c : UInt8) : Bool:=letZ c.toNat
def digB (c : UInt8) : Bool:=digZ c.toNat
def restL (l : List UInt8) : Bool:=l.all fun c => letB c || digB c
def wordL : List UInt8 → Bool
 | [] => false
 | c :: r => letB c && restL r
def wordB (s : ByteArray) : Bool:=decide (s.size ≤ 24) && wordL s.data.toList
set_option maxHeartbeats 400000 in
theorem letter_any (c : Int) (w : World) : Calls Tryz.prog 168 #[.int .i32 c] w fun e w' => e = .returned (.bool (letZ c)) ∧ w = w':=by
 by_cases h1 : 97 ≤ c
 ·by_cases h2 : c ≤ 122
  all_goals
   go_enter Tryz.func168,Tryz.ntmps168
   go_wp2
   go_ret
   exact ⟨by simp [letZ,h1,h2],rfl⟩
 ·have h2 : decide (97 ≤ c) = false:=by simpa using h1
  go_enter Tryz.func168,Tryz.ntmps168
  go_wp2
  go_ret
  exact ⟨by simp [letZ];omega,rfl⟩
set_option maxHeartbeats 400000 in
theorem digit_any (c : Int) (w : World) : Calls Tryz.prog 169 #[.int .i32 c] w fun e w' => e = .returned (.bool (digZ c)) ∧ w = w':=by
 by_cases h1 : 48 ≤ c
 ·by_cases h2 : c ≤ 57
  all_goals
   go_enter Tryz.func169,Tryz.ntmps169
   go_wp2
   go_ret
   exact ⟨by simp [digZ,h1,h2],rfl⟩
 ·have h2 : decide (48 ≤ c) = false:=by simpa using h1
  go_enter Tryz.func169,Tryz.ntmps169
  go_wp2
  go_ret
  exact ⟨by simp [digZ];omega,rfl⟩
theorem toList_ne {s : ByteArray} (h : ¬ s.size = 0) : s.toList ≠ []:=by
 rw [ByteArray.toList_eq]
 intro e
 have : s.data.toList.length = 0:=by rw [e];rfl
 exact h (by simpa using this)
theorem toList_nil {s : ByteArray} (h : s.size = 0) : s.toList = []:=by
 rw [ByteArray.toList_eq]
 exact List.eq_nil_of_length_eq_zero (by simpa using h)
def wordFrom (l : List UInt8) (p : Nat) : Bool:=if p = 0 then wordL l else restL (l.drop p)
theorem wordFrom_yes (l : List UInt8) (p : Nat) (c : UInt8) (h : l[p]? = some c) (hc : letB c = true ∨ (p ≠ 0 ∧ digB c = true)) : wordFrom l p = wordFrom l (p + 1):=by
 have hd : l.drop p = c :: l.drop (p + 1):=by
  obtain ⟨hl,e⟩:=List.getElem?_eq_some_iff.1 h
  rw [List.drop_eq_getElem_cons hl,e]
 unfold wordFrom
 rw [if_neg (Nat.succ_ne_zero p)]
 by_cases h0 : p = 0
 ·subst h0
  simp only [List.drop_zero] at hd
  rcases hc with hc | hc
  ·rw [if_pos rfl]
   generalize l.drop (0 + 1) = r at hd
   subst hd
   simp [wordL,hc]
  ·exact absurd rfl hc.1
 ·rw [if_neg h0,hd]
  rcases hc with hc | hc <;> simp [restL,hc]
theorem wordFrom_no (l : List UInt8) (p : Nat) (c : UInt8) (h : l[p]? = some c) (hc : letB c = false) (hd' : p = 0 ∨ digB c = false) : wordFrom l p = false:=by
 have hd : l.drop p = c :: l.drop (p + 1):=by
  obtain ⟨hl,e⟩:=List.getElem?_eq_some_iff.1 h
  rw [List.drop_eq_getElem_cons hl,e]
 unfold wordFrom
 by_cases h0 : p = 0
 ·subst h0
  simp only [List.drop_zero] at hd
  rw [if_pos rfl,hd]
  simp [wordL,hc]
 ·rw [if_neg h0,hd]
  rcases hd' with e | e
  ·exact absurd e h0
  ·simp [restL,hc,e]
theorem wordFrom_end (l : List UInt8) (p : Nat) (h : l.length ≤ p) (h0 : p ≠ 0) : wordFrom l p = true:=by
 unfold wordFrom
 rw [if_neg h0,List.drop_eq_nil_of_le h]
 rfl
theorem getElem_data (s : ByteArray) (p : Nat) (h : p < s.size) : s.data.toList[p]? = some s[p]:=by
 rw [List.getElem?_eq_getElem (by simpa using h)]
 rfl
theorem rune_cases (s : ByteArray) (p : Nat) (h : p < s.size) : ∃ (r n : Nat),Utf8.decode s p = (r,n) ∧
  letB s[p] = letZ r ∧ digB s[p] = digZ r ∧ (letZ r = true ∨ digZ r = true → n = 1):=by
 by_cases ha : (s[p]'h).toNat < 128
 ·exact ⟨_,_,decode_ascii s p h ha,rfl,rfl,fun _ => rfl⟩
 ·obtain ⟨h1,_⟩:=decode_high s p h (by omega)
  have ht:=(s[p]'h).toNat_lt
  have e1 : letB s[p] = false:=by simp [letB,letZ];omega
  have e2 : digB s[p] = false:=by simp [digB,digZ];omega
  have e3 : letZ (Utf8.decode s p).1 = false:=by simp [letZ];omega
  have e4 : digZ (Utf8.decode s p).1 = false:=by simp [digZ];omega
  exact ⟨(Utf8.decode s p).1,(Utf8.decode s p).2,rfl,by rw [e1,e3],by rw [e2,e4],by rw [e3,e4];simp⟩
set_option maxHeartbeats 1000000 in
theorem word_some (s : ByteArray) (w : World) (h0 : ¬ s.size = 0) (h24 : s.size ≤ 24) : Calls Tryz.prog 120 #[.string s] w fun e w' => e = .returned (.bool (wordL s.data.toList)) ∧ Below w.heap.size w w':=by
 have e0 : s.toList.isEmpty = false:=by simpa using toList_ne h0
 have e1 : (s.toList == []) = false:=by simpa using toList_ne h0
 have e2 : decide (24 < (s.size : Int)) = false:=by simp;omega
 have hB : ∀ p,Below w.heap.size w (w.iter s p):=fun p => (Below.refl _ _).alloc (Nat.le_refl _) _
 have HB:=Lib.hid hB
 clear hB
 go_enter Tryz.func120,Tryz.ntmps120
 go_wp2
 go_loopg [] (s.size) (fun g wr => ∃ p,wr = w.iter s p ∧ p ≤ s.size ∧ g = s.size - p ∧ wordL s.data.toList = wordFrom s.data.toList p)
 case atStart => exact ⟨0,rfl,by omega,rfl,rfl⟩
 case round =>
  obtain ⟨p,rfl,hp,HG,HW⟩:=hrel
  have HG':=Lib.hid HG
  clear HG
  have HW':=Lib.hid HW
  clear HW
  by_cases hlt : p < s.size
  ·obtain ⟨r,n,hd,hl,hg,hn⟩:=rune_cases s p hlt
   have hnext:=fun ty => run_next_any (P:=Tryz.prog) w s p ty hlt
   rw [hd] at hnext
   simp only at hnext
   have HC:=Lib.hid (getElem_data s p hlt)
   generalize s[p] = c at hl hg HC
   clear hd
   have again : letB c = true ∨ (p ≠ 0 ∧ digB c = true) → wordL s.data.toList = wordFrom s.data.toList (p + 1):=fun h => HW'.out.trans (wordFrom_yes _ _ _ HC.out h)
   have stop : letB c = false → p = 0 ∨ digB c = false → wordL s.data.toList = false:=fun h h' => HW'.out.trans (wordFrom_no _ _ _ HC.out h h')
   have AG:=Lib.hid (And.intro again stop)
   clear again stop
   by_cases l1 : letZ r = true
   ·obtain rfl : n = 1:=hn (.inl l1)
    have AG':=Lib.hid (AG.out.1 (.inl (hl.trans l1)))
    clear hl hg hn AG HC
    go_wp2_with (first | (go_at_call 168;refine (letter_any _ _).mono ?_;rintro e w' ⟨rfl,rfl⟩) | (go_at_call 169;refine (digit_any _ _).mono ?_;rintro e w' ⟨rfl,rfl⟩))
    go_roundg (s.size - (p + 1))
    case measure => rw [HG'.out];omega
    case rel => exact ⟨p + 1,rfl,by omega,rfl,AG'.out⟩
   ·have l2 : letZ r = false:=by simpa using l1
    clear l1
    by_cases hp0 : p = 0
    ·have AG':=Lib.hid (AG.out.2 (hl.trans l2) (.inl hp0))
     have p1 : ((p : Int) == 0) = true:=by simpa using hp0
     clear hl hg hn AG HC hp0
     go_wp2_with (first | (go_at_call 168;refine (letter_any _ _).mono ?_;rintro e w' ⟨rfl,rfl⟩) | (go_at_call 169;refine (digit_any _ _).mono ?_;rintro e w' ⟨rfl,rfl⟩))
     go_ret
     exact ⟨by rw [AG'.out];rfl,HB.out _⟩
    ·have p1 : ((p : Int) == 0) = false:=by simpa using hp0
     by_cases d1 : digZ r = true
     ·obtain rfl : n = 1:=hn (.inr d1)
      have AG':=Lib.hid (AG.out.1 (.inr ⟨hp0,(hg.trans d1)⟩))
      clear hl hg hn AG HC hp0
      go_wp2_with (first | (go_at_call 168;refine (letter_any _ _).mono ?_;rintro e w' ⟨rfl,rfl⟩) | (go_at_call 169;refine (digit_any _ _).mono ?_;rintro e w' ⟨rfl,rfl⟩))
      go_roundg (s.size - (p + 1))
      case measure => rw [HG'.out];omega
      case rel => exact ⟨p + 1,rfl,by omega,rfl,AG'.out⟩
     ·have d2 : digZ r = false:=by simpa using d1
      have AG':=Lib.hid (AG.out.2 (hl.trans l2) (.inr (hg.trans d2)))
      clear hl hg hn AG HC hp0 d1
      go_wp2_with (first | (go_at_call 168;refine (letter_any _ _).mono ?_;rintro e w' ⟨rfl,rfl⟩) | (go_at_call 169;refine (digit_any _ _).mono ?_;rintro e w' ⟨rfl,rfl⟩))
      go_ret
      exact ⟨by rw [AG'.out];rfl,HB.out _⟩
  ·have hnext:=fun ty => run_next_end (P:=Tryz.prog) w s p ty hlt
   have AG':=Lib.hid (HW'.out.trans (wordFrom_end _ p (by simp;omega) (by omega)))
   go_wp2
   go_ret
   exact ⟨by rw [AG'.out];rfl,HB.out _⟩
set_option maxHeartbeats 400000 in
theorem word_any (s : ByteArray) (w : World) : Calls Tryz.prog 120 #[.string s] w fun e w' => e = .returned (.bool (wordB s)) ∧ Below w.heap.size w w':=by
 by_cases h0 : s.size = 0
 ·have e0 : s.toList.isEmpty = true:=by simpa using toList_nil h0
  have e1 : (s.toList == []) = true:=by simpa using toList_nil h0
  have e2 : wordB s = false:=by
   have:=toList_nil h0
   rw [ByteArray.toList_eq] at this
   simp [wordB,this,wordL]
  have E2:=Lib.hid e2
  clear e2 h0
  go_enter Tryz.func120,Tryz.ntmps120
  go_wp2
  go_ret
  exact ⟨by rw [E2.out];rfl,Below.refl _ _⟩
 by_cases h24 : s.size ≤ 24
 ·exact (word_some s w h0 h24).mono fun e w' ⟨h1,h2⟩ => ⟨by simp [h1,wordB,h24],h2⟩
 ·have e0 : s.toList.isEmpty = false:=by simpa using toList_ne h0
  have e1 : (s.toList == []) = false:=by simpa using toList_ne h0
  have e2 : decide (24 < (s.size : Int)) = true:=by simp;omega
  have e3 : wordB s = false:=by simp [wordB,h24]
  have E3:=Lib.hid e3
  clear e3
  go_enter Tryz.func120,Tryz.ntmps120
  go_wp2
  go_ret
  exact ⟨by rw [E3.out];rfl,Below.refl _ _⟩
end Go.Proofs.YtmmecapgnmlaiaaGreatDoor
/- strings.SplitSeq at one byte: its iterator's contract -/
namespace Go.Proofs.YtmmecapgnmlaiaaGreatDoor
open Go.RowKit Go.Proofs Go.Shelf
attribute [local go_sem] Oper.semAt_some wide_fn wide_depth
def splitL (c : UInt8) : List UInt8 → List (List UInt8)
 | [] => [[]]
 | b :: r => if b == c then [] :: splitL c r else match splitL c r with | p :: ps => (b :: p) :: ps | [] => [[b]]
def partsB (c : UInt8) (s : ByteArray) : List ByteArray:=(splitL c s.data.toList).map fun l => ⟨l.toArray⟩
theorem splitL_none (c : UInt8) : ∀ l : List UInt8,Lib.indexByte l c = -1 → splitL c l = [l]
 | [],_ => rfl
 | b :: r,h => by
  unfold Lib.indexByte at h
  by_cases hb : b == c
  ·simp [hb] at h
  ·have hr : Lib.indexByte r c = -1:=by
    have:=Lib.indexByte_ge r c
    simp only [hb] at h
    by_cases e : Lib.indexByte r c == -1
    ·simpa using e
    ·simp [e] at h;omega
   unfold splitL
   simp [hb,splitL_none c r hr]
theorem splitL_some (c : UInt8) : ∀ (l : List UInt8) (o : Nat),Lib.indexByte l c = o → o < l.length ∧ splitL c l = l.take o :: splitL c (l.drop (o + 1))
 | [],o,h => by simp [Lib.indexByte] at h
 | b :: r,o,h => by
  unfold Lib.indexByte at h
  by_cases hb : b == c
  ·simp [hb] at h
   obtain rfl : o = 0:=by omega
   exact ⟨by simp,by simp [splitL,hb]⟩
  ·simp only [hb] at h
   by_cases e : Lib.indexByte r c == -1
   ·simp [e] at h
   ·simp [e] at h
    have hg:=Lib.indexByte_ge r c
    have e' : Lib.indexByte r c ≠ -1:=by simpa using e
    obtain ⟨o',ho'⟩ : ∃ o' : Nat,Lib.indexByte r c = o':=⟨(Lib.indexByte r c).toNat,by omega⟩
    obtain rfl : o = o' + 1:=by omega
    obtain ⟨h1,h2⟩:=splitL_some c r o' ho'
    refine ⟨by simp;omega,?_⟩
    rw [splitL,if_neg hb,h2]
    simp
theorem extract_to (s : ByteArray) (i : Nat) : s.extract 0 i = ⟨(s.data.toList.take i).toArray⟩:=by
 apply Go.WideShapes.bytes_inj
 simp [ByteArray.data_extract]
theorem partsB_none (c : UInt8) (s : ByteArray) (h : Lib.indexByte s.data.toList c = -1) : partsB c s = [s]:=by
 unfold partsB
 rw [splitL_none c _ h]
 simp
theorem partsB_some (c : UInt8) (s : ByteArray) (o : Nat) (h : Lib.indexByte s.data.toList c = o) : o < s.size ∧ partsB c s = s.extract 0 o :: partsB c (s.extract (o + 1) s.size):=by
 obtain ⟨h1,h2⟩:=splitL_some c _ o h
 have hsz : s.data.toList.length = s.size:=by simp
 refine ⟨by omega,?_⟩
 unfold partsB
 rw [h2,extract_to]
 simp only [List.map_cons,List.cons.injEq,true_and]
 congr 2
 simp [ByteArray.data_extract]
 rw [List.take_of_length_le (by simp)]
def strIn : Option Value → Nat
 | some (.string s) => s.size
 | _ => 0
set_option maxRecDepth 100000 in
set_option maxHeartbeats 1000000 in
theorem splitSeq1_iter (c : UInt8) (s : ByteArray) (sb sp sv : Nat) (w : World) (h1 : w.cell? ⟨sb,0,none⟩ = some (.string s)) (h2 : w.cell? ⟨sp,0,none⟩ = some (.string ⟨#[c]⟩)) (h3 : w.cell? ⟨sv,0,none⟩ = some (.int .i64 0))
  (hf : w.frozen? ⟨sb,0,none⟩ = false) (hd1 : sb ≠ sp) (hd2 : sb ≠ sv) (hsz : s.size ≤ 1000) :
  Iter Tryz.prog 228 #[.pointer (some ⟨sp,0,none⟩),.pointer (some ⟨sb,0,none⟩),.pointer (some ⟨sv,0,none⟩)] (fun p : ByteArray => #[.string p]) (fun k => k = sb ∨ k = sp ∨ k = sv) 0 (fun _ => True) (partsB c s) w:=by
 intro l J Jx W hW hJ hJx _ hY h0
 have k1:=hW.cell (p:=⟨sb,0,none⟩) trivial h1
 have k2:=hW.cell (p:=⟨sp,0,none⟩) trivial h2
 have k3:=hW.cell (p:=⟨sv,0,none⟩) trivial h3
 have kf : W.frozen? ⟨sb,0,none⟩ = false:=(hW.frozen (p:=⟨sb,0,none⟩) (World.block_lt_of_cell? w ⟨sb,0,none⟩ h1) trivial).trans hf
 have HW:=Lib.hid (And.intro hJ (And.intro hJx hY))
 clear hJ hJx hY h1 h2 h3 hf hW
 refine callsIn_of_wp Tryz.func228 rfl trivial ?_ rfl
 simp only [Tryz.ntmps228,List.size_toArray,List.length_cons,List.length_nil,Nat.reduceAdd,Nat.reduceSub,Array.replicate_succ,Array.replicate_zero,List.push_toArray,List.append_toArray,List.nil_append,List.cons_append]
 gi_wp2
 gi_loopw [7,8] (fun i f wr => ∃ (pre : List ByteArray) (cur : ByteArray),pre ++ partsB c cur = partsB c s ∧ cur.size ≤ s.size ∧ J pre wr ∧ W.heap.size ≤ wr.heap.size ∧
   wr.cell? ⟨sb,0,none⟩ = some (.string cur) ∧ wr.cell? ⟨sp,0,none⟩ = some (.string ⟨#[c]⟩) ∧ wr.cell? ⟨sv,0,none⟩ = some (.int .i64 0) ∧ wr.frozen? ⟨sb,0,none⟩ = false)
  (fun _ _ wr => strIn (wr.cell? ⟨sb,0,none⟩))
 case atStart => exact ⟨[],s,rfl,Nat.le_refl _,h0,Nat.le_refl _,k1,k2,k3,kf⟩
 case round =>
  obtain ⟨pre,cur,hpc,hcs,hJ,hsz',c1,c2,c3,cf⟩:=hrel
  have HP:=Lib.hid hpc
  clear hpc
  by_cases hi : Lib.indexByte cur.data.toList c = -1
  ·have hpart:=partsB_none c cur hi
   have hi' : Lib.indexByte cur.data.toList c < 0:=by omega
   clear hi
   obtain ⟨fn,tmps,assign,body,hy,hR⟩:=HW.out.2.2 pre cur wr (by rw [← HP.out,hpart];exact List.prefix_rfl) hJ hsz'
   have HF:=Lib.hid (show pre ++ [cur] = partsB c s by rw [← HP.out,hpart])
   clear hpart
   gi_wp2_with (gi_at_call 230;refine (callsIn_wide.2 (index_one _ _ _)).mono ?_;rintro e w' ⟨rfl,rfl⟩)
   refine hR.mono ?_
   rintro e Y (⟨rfl,hJ',hk⟩ | ⟨rfl,hJ'⟩)
   ·gi_wp2
    go_end0
    exact ⟨⟨_,rfl⟩,.inl (by rw [← HF.out];exact hJ')⟩
   ·gi_wp2
    go_end0
    exact ⟨⟨_,rfl⟩,.inr ⟨_,by rw [← HF.out];exact List.prefix_rfl,hJ'⟩⟩
  ·obtain ⟨o,ho⟩ : ∃ o : Nat,Lib.indexByte cur.data.toList c = o:=⟨(Lib.indexByte cur.data.toList c).toNat,by have:=Lib.indexByte_ge cur.data.toList c;omega⟩
   obtain ⟨hlt,hpart⟩:=partsB_some c cur o ho
   clear hi
   obtain ⟨fn,tmps,assign,body,hy,hR⟩:=HW.out.2.2 pre (cur.extract 0 o) wr (by rw [← HP.out,hpart];exact ⟨_,by rw [List.append_assoc];rfl⟩) hJ hsz'
   have HF:=Lib.hid (show (pre ++ [cur.extract 0 o]) ++ partsB c (cur.extract (o + 1) cur.size) = partsB c s by rw [← HP.out,hpart,List.append_assoc];rfl)
   clear hpart
   gi_wp2_with (gi_at_call 230;refine (callsIn_wide.2 (index_one _ _ _)).mono ?_;rintro e w' ⟨rfl,rfl⟩;rw [ho])
   refine hR.mono ?_
   rintro e Y (⟨rfl,hJ',hk⟩ | ⟨rfl,hJ'⟩)
   ·have d1:=hk.cell (p:=⟨sb,0,none⟩) (.inl (.inl rfl)) c1
    have d2:=hk.cell (p:=⟨sp,0,none⟩) (.inl (.inr (.inl rfl))) c2
    have d3:=hk.cell (p:=⟨sv,0,none⟩) (.inl (.inr (.inr rfl))) c3
    have df : Y.frozen? ⟨sb,0,none⟩ = false:=(hk.frozen (p:=⟨sb,0,none⟩) (World.block_lt_of_cell? wr ⟨sb,0,none⟩ c1) (.inl (.inl rfl))).trans cf
    have hj:=HW.out.1 _ _ _ hJ' ((Keeps.refl _ Y).setCell (p:=⟨sb,0,none⟩) (by simp) (.string (cur.extract (o + 1) cur.size)))
    have hs2:=hk.size
    have C1:=Lib.hid (congrArg strIn c1)
    have D1:=Lib.hid (And.intro d1 (And.intro d2 (And.intro d3 df)))
    clear c1 c2 c3 cf hk hJ hR hy
    gi_wp2
    obtain ⟨d1,d2,d3,df⟩:=D1.out
    have hsame : (Y.setCell { block:=sb,off:=0 } (Value.string (cur.extract (o + 1) cur.size))).cell? ⟨sb,0,none⟩ = some (.string (cur.extract (o + 1) cur.size)):=World.cell?_setCell_same' _ _ _ (by rw [d1];rfl)
    have hle : (cur.extract (o + 1) cur.size).size = cur.size - (o + 1):=by simp
    refine ⟨⟨_,_,HF.out,by omega,hj,by simp [World.setCell];omega,hsame,?_,?_,?_⟩,?_⟩
    ·exact (World.cell?_setCell_other _ _ _ _ (fun h => hd1 (by injection h))).trans d2
    ·exact (World.cell?_setCell_other _ _ _ _ (fun h => hd2 (by injection h))).trans d3
    ·rw [World.frozen?_setCell];exact df
    ·rw [hsame,C1.out]
     simp only [strIn]
     omega
   ·gi_wp2
    refine bodyPost_ret (results_none rfl _ _ _) rfl ?_
    exact ⟨⟨_,rfl⟩,.inr ⟨_,⟨_,HF.out⟩,hJ'⟩⟩
end Go.Proofs.YtmmecapgnmlaiaaGreatDoor
/- lexer.Label -/
namespace Go.Proofs.YtmmecapgnmlaiaaGreatDoor
open Go.RowKit Go.Proofs Go.Shelf
attribute [local go_sem] Oper.semAt_some wide_fn wide_depth
def partB (p : ByteArray) : Bool:=decide (p.size ≤ 20) && wordB p
def labelB (s : ByteArray) : Bool:=decide (s.size ≤ 90) && (partsB 47 s).all partB
theorem SplitSeq_any (s sep : ByteArray) (w : World) : Calls Tryz.prog 119 #[.string s,.string sep] w fun e w' =>
  e = .returned (.func (.func 228) #[] #[.pointer (some ⟨w.heap.size + 1,0,none⟩),.pointer (some ⟨w.heap.size,0,none⟩),.pointer (some ⟨w.heap.size + 2,0,none⟩)]) ∧
  ((w.alloc (.cells #[.string s] 9)).alloc (.cells #[.string sep] 9)).alloc (.cells #[.int .i64 0] 3) = w':=by
 have hmf : ∀ (fn : Fn) (first cap : Array Value) (w : World),(Instr.makeFunc fn first cap).run Tryz.prog w = .ok (.func fn first cap) w:=fun _ _ _ _ => rfl
 go_enter Tryz.func119,Tryz.ntmps119
 go_wp2
 go_ret
 exact ⟨rfl,rfl⟩
set_option maxRecDepth 100000 in
set_option maxHeartbeats 1000000 in
theorem label_small (s : ByteArray) (w : World) (h90 : s.size ≤ 90) : Calls Tryz.prog 55 #[.string s] w fun e w' => e = .returned (.bool ((partsB 47 s).all partB)) ∧ Below w.heap.size w w':=by
 have e2 : decide (90 < (s.size : Int)) = false:=by simp;omega
 refine (callsIn_wide (n:=0)).1 ?_
 refine callsIn_of_wp_marks Tryz.func55 rfl trivial ?_ rfl
 simp only [Tryz.ntmps55,List.size_toArray,List.length_cons,List.length_nil,Nat.reduceAdd,Nat.reduceSub,Array.replicate_succ,Array.replicate_zero,List.push_toArray,List.append_toArray,List.nil_append,List.cons_append]
 gi_wp2_with (gi_at_call 119;refine (callsIn_wide.2 (SplitSeq_any _ _ _)).mono ?_;rintro e w' ⟨rfl,rfl⟩)
 obtain ⟨W0,hW0⟩ : ∃ W0,(((w.alloc (.cells #[.bool false] 4)).alloc (.cells #[.string s] 9)).alloc (.cells #[.string ⟨#[47]⟩] 9)).alloc (.cells #[.int .i64 0] 3) = W0:=⟨_,rfl⟩
 have z0 : W0.heap.size = w.heap.size + 4:=by subst hW0;simp
 have b0 : W0.cell? ⟨w.heap.size,0,none⟩ = some (.bool false):=by subst hW0;go_simp
 have b1 : W0.cell? ⟨w.heap.size + 1,0,none⟩ = some (.string s):=by subst hW0;go_simp
 have b2 : W0.cell? ⟨w.heap.size + 1 + 1,0,none⟩ = some (.string ⟨#[47]⟩):=by subst hW0;go_simp
 have b3 : W0.cell? ⟨w.heap.size + 1 + 2,0,none⟩ = some (.int .i64 0):=by subst hW0;go_simp
 have f0 : W0.frozen? ⟨w.heap.size,0,none⟩ = false:=by subst hW0;go_simp
 have f1 : W0.frozen? ⟨w.heap.size + 1,0,none⟩ = false:=by subst hW0;go_simp
 have hB0 : Below w.heap.size w W0:=by rw [← hW0];exact ((((Below.refl _ _).alloc (Nat.le_refl _) _).alloc (by simp) _).alloc (by simp;omega) _).alloc (by simp;omega) _
 rw [hW0]
 clear hW0
 have hit:=splitSeq1_iter 47 s (w.heap.size + 1) (w.heap.size + 1 + 1) (w.heap.size + 1 + 2) W0 b1 b2 b3 f1 (by omega) (by omega) (by omega)
 refine wpIn_range (P:=Tryz.prog) (w0:=W0) (gf:=228) rfl (fun args w => Tryz.call228 args w) hit (Keeps.refl _ _) (fun _ => rfl) (Nat.zero_le _) (by rintro k (rfl | rfl | rfl) <;> omega)
  (fun pre W => W.cell? ⟨w.heap.size,0,none⟩ = some (.bool false) ∧ W.frozen? ⟨w.heap.size,0,none⟩ = false ∧ pre.all partB = true ∧ Below w.heap.size w W)
  (fun c pre W => c = .ret ∧ W.cell? ⟨w.heap.size,0,none⟩ = some (.bool false) ∧ (partsB 47 s).all partB = false ∧ Below w.heap.size w W)
  ?told1 ?told2 (fun _ _ _ => trivial) ⟨b0,f0,rfl,hB0⟩
  (fun x => { tmps:=#[.string s,undef,.pointer (some ⟨w.heap.size,0,none⟩),.string x,.string s,.int .i64 s.size,.bool false,.string s,.func (.func 228) #[] #[.pointer (some ⟨w.heap.size + 1 + 1,0,none⟩),.pointer (some ⟨w.heap.size + 1,0,none⟩),.pointer (some ⟨w.heap.size + 1 + 2,0,none⟩)],.string x,undef,undef,undef,undef,undef,undef,undef,undef],defers:=[] })
  ?assign ?body ?done ?stop
 case told1 =>
  intro pre X Y ⟨h1,h2,h3,h4⟩ hk
  have hl : w.heap.size < X.heap.size:=World.block_lt_of_cell? X ⟨w.heap.size,0,none⟩ h1
  refine ⟨hk.cell (p:=⟨w.heap.size,0,none⟩) ⟨by simp;omega,by simp;omega⟩ h1,(hk.frozen (p:=⟨w.heap.size,0,none⟩) hl ⟨by simp;omega,by simp;omega⟩).trans h2,h3,h4.trans (hk.to_below (by omega) fun k hk => ⟨by omega,by omega⟩)⟩
 case told2 =>
  intro c pre X Y ⟨h0,h1,h3,h4⟩ hk
  have hl : w.heap.size < X.heap.size:=World.block_lt_of_cell? X ⟨w.heap.size,0,none⟩ h1
  refine ⟨h0,hk.cell (p:=⟨w.heap.size,0,none⟩) ⟨by simp;omega,by simp;omega⟩ h1,h3,h4.trans (hk.to_below (by omega) fun k hk => ⟨by omega,by omega⟩)⟩
 case assign =>
  intro l x W K hK
  gi_wp2
  exact hK
 case body =>
  rintro l pre x W hpre ⟨h1,h2,h3,h4⟩ hsz
  have stop : partB x = false → (partsB 47 s).all partB = false:=by
   intro h
   obtain ⟨r,hr⟩:=hpre
   rw [← hr,List.all_append,List.all_append]
   simp [h]
  have goes : partB x = true → (pre ++ [x]).all partB = true:=fun h => by simp [List.all_append,h3,h]
  have HH:=Lib.hid (And.intro stop (And.intro goes h3))
  have HS:=Lib.hid h4
  clear stop goes h3 hpre hit b0 b1 b2 b3 f0 f1 hB0 h4
  by_cases h20 : 20 < x.size
  ·have hd : decide (20 < (x.size : Int)) = true:=by simp;omega
   have hp:=Lib.hid (HH.out.1 (by simp [partB];omega))
   gi_wp2
   exact ⟨(Keeps.refl _ _).setCell (by simp;omega) _,rfl,World.cell?_setCell_same' _ _ _ (by rw [h1];rfl),hp.out,HS.out.setCell (Nat.le_refl _) _⟩
  ·have hd : decide (20 < (x.size : Int)) = false:=by simp;omega
   by_cases hw : wordB x = true
   ·have hp:=Lib.hid (HH.out.2.1 (by simp [partB,hw];omega))
    gi_wp2_with (gi_at_call 120;refine (CallsIn.inRound l (callsIn_wide.2 (word_any _ _))).mono ?_;rintro e w' ⟨rfl,hb⟩)
    exact ⟨Keeps.whole hb _,(hb.cell (p:=⟨w.heap.size,0,none⟩) (by simp;omega)).trans h1,(hb.frozen (p:=⟨w.heap.size,0,none⟩) (by simp;omega)).trans h2,hp.out,HS.out.trans (hb.mono (by omega))⟩
   ·have hw' : wordB x = false:=by simpa using hw
    have hp:=Lib.hid (HH.out.1 (by simp [partB,hw']))
    clear hw
    gi_wp2_with (gi_at_call 120;refine (CallsIn.inRound l (callsIn_wide.2 (word_any _ _))).mono ?_;rintro e w' ⟨rfl,hb⟩;have k1:=(hb.cell (p:=⟨w.heap.size,0,none⟩) (by simp;omega)).trans h1;have k2:=(hb.frozen (p:=⟨w.heap.size,0,none⟩) (by simp;omega)).trans h2)
    exact ⟨(Keeps.whole hb _).setCell (by simp;omega) _,rfl,World.cell?_setCell_same' _ _ _ (by rw [k1];rfl),hp.out,(HS.out.trans (hb.mono (by omega))).setCell (Nat.le_refl _) _⟩
 case done =>
  rintro D W hD ⟨h1,h2,h3,h4⟩ hK
  have H3:=Lib.hid h3
  clear h3
  gi_wp2
  have hs : (W.setCell ⟨w.heap.size,0,none⟩ (.bool true)).cell? ⟨w.heap.size,0,none⟩ = some (.bool true):=World.cell?_setCell_same' _ _ _ (by rw [h1];rfl)
  have hK' : (W.setCell ⟨w.heap.size,0,none⟩ (.bool true)).heap[D]? = some (.deferred (some [])):=(Below.heap_setCell _ _ _ _ (by simp;omega)).trans hK
  have hc:=cell_putObj (o':=.deferred none) hK' rfl hs
  refine ret_mark (v:=.bool true) hK' ?_ ⟨by rw [H3.out],below_putObj (h4.setCell (Nat.le_refl _) _) (by omega) _⟩
  simp [results,Tryz.results55,go_sem,hc]
 case stop =>
  rintro D c pre W hD hpre ⟨rfl,h1,h3,h4⟩ hK
  have H3:=Lib.hid h3
  clear h3
  gi_wp2
  have hc:=cell_putObj (o':=.deferred none) hK rfl h1
  refine ret_mark (v:=.bool false) hK ?_ ⟨by rw [H3.out],below_putObj h4 (by omega) _⟩
  simp [results,Tryz.results55,go_sem,hc]
theorem label_any (s : ByteArray) (w : World) : Calls Tryz.prog 55 #[.string s] w fun e w' => e = .returned (.bool (labelB s)) ∧ Below w.heap.size w w':=by
 by_cases h90 : s.size ≤ 90
 ·exact (label_small s w h90).mono fun e w' ⟨h1,h2⟩ => ⟨by simp [h1,labelB,h90],h2⟩
 ·have e2 : decide (90 < (s.size : Int)) = true:=by simp;omega
  have e3:=Lib.hid (show labelB s = false by simp [labelB,h90])
  go_enter Tryz.func55,Tryz.ntmps55
  go_wp2
  refine bodyPost_ret (v:=.bool false) (by simp [results,Tryz.results55,go_sem]) rfl ⟨by rw [e3.out],?_⟩
  exact (Below.refl _ _).alloc (Nat.le_refl _) _
end Go.Proofs.YtmmecapgnmlaiaaGreatDoor
/- syntax.name, shapeOf, checkNumbers, checkNames, checkNode -/
namespace Go.Proofs.YtmmecapgnmlaiaaGreatDoor
open Go.RowKit Go.Proofs
def reserved : List (List UInt8):=[[99,97,115,101],[99,104,97,110,99,101],[99,111,110,102,108,105,99,116],[101,108,115,101],[102,97,108,115,101],[102,108,97,107,121],[102,117,110],[105,102],[105,110],
 [108,101,116],[110,105,108],[111,102],[112,117,98],[116,101,115,116],[116,104,101,110],[116,114,117,101],[117,115,101]]
def resB (l : List UInt8) : Bool:=reserved.any fun r => l == r
def nameB (s : ByteArray) : Bool:=!resB s.toList && wordB s
set_option maxHeartbeats 1000000 in
theorem name_any (s : ByteArray) (w : World) : Calls Tryz.prog 231 #[.string s] w fun e w' => e = .returned (.bool (nameB s)) ∧ Below w.heap.size w w':=by
 go_enter Tryz.func231,Tryz.ntmps231
 go_wp2_with (go_at_call 120;refine (word_any _ _).mono ?_;rintro e w' ⟨rfl,hb⟩)
 all_goals go_ret
 all_goals first
  | (exfalso;simp_all;done)
  | (refine ⟨?_,Below.refl _ _⟩;simp [nameB,resB,reserved, *];done)
  | (refine ⟨?_,by assumption⟩;simp [nameB,resB,reserved, *];done)
end Go.Proofs.YtmmecapgnmlaiaaGreatDoor
