/-
 Several texts of mine as one, without what is not wanted here: XSrP.
-/
import Derived.Test.YtpdjjjiknijpkaaGreatDoorTvGg
import Derived.Test.YtpdjjjiknijpkaaGreatDoorTvShelf
import Derived.Sort.Grow
set_option linter.unusedVariables false
set_option linter.unusedSimpArgs false
set_option maxRecDepth 100000
set_option maxHeartbeats 8000000
namespace Go.Proofs.YtpdjjjiknijpkaaGreatDoor
open Go.ChangeShapes Go.WideShapes Go.Deep Go.RowKit Go.Sort
theorem cmpOb_grow (a b:ObT) (w:World) (c:Int) (hF:cmpS a.dig b.dig=c) :
  Calls Tryz.prog 15 #[.agg #[.string a.dig,.slice a.bytes.A a.bytes.n a.bytes.cap],.agg #[.string b.dig,.slice b.bytes.A b.bytes.n b.bytes.cap]] w fun e w'=>e = .returned (.int .i64 c)∧∃ q os',w'=grow (w.drewN q) os':=by
 have hba:=((Below.refl w.heap.size w).alloc (Nat.le_refl _) (.cells #[.string a.dig,.slice a.bytes.A a.bytes.n a.bytes.cap] 41)).alloc (by simp) (.cells #[.string b.dig,.slice b.bytes.A b.bytes.n b.bytes.cap] 41);obtain⟨w0,hw0⟩:∃ w0,w0=(w.alloc (.cells #[.string a.dig,.slice a.bytes.A a.bytes.n a.bytes.cap] 41)).alloc (.cells #[.string b.dig,.slice b.bytes.A b.bytes.n b.bytes.cap] 41):=⟨_,rfl⟩;rw[← hw0]at hba;obtain⟨hbaH,hFH,hw0H⟩:=hq2 hba (hq2 hF (Lib.hid hw0));clear hba hF hw0;go_enter Tryz.func15,Tryz.ntmps15;go_wp2_with fail;refine(Tryz.strings_Compare _ _ _).mono ?_;rintro e w1 ⟨rfl,rfl⟩;go_wp2;go_ret;obtain rfl:=hw0H.out;refine⟨by rw[← hFH.out];first | rfl | simp[cmpS],?_⟩;exact⟨0,#[_,_],rfl⟩
def SrtObAns (base:Nat) (v:Value) (P:List ObT) (w:World) (e:Ending) (w':World):Prop :=
 e = .returned (.tuple #[])∧∃ P':List ObT,P'.Perm P∧(P'.Pairwise fun a b=>cmpS a.dig b.dig≤0)∧Own ROv 41 w' base v P'∧w.grownBy w' v.ownBlock
theorem sortOb_any (A:Option Addr) (n cap:Nat) (P:List ObT) (w:World) (base:Nat) (hO:Own ROv 41 w base (.slice A n cap) P) (hn:n≤1000000) :
  Calls Tryz.prog 14 #[.slice A n cap,.func (.func 15) #[] #[]] w (SrtObAns base (.slice A n cap) P w):=by
 have hl:=hO.len
 rcases hO.1.2 with ⟨hv,h0⟩ | ⟨g,cap',cur,hv,_⟩
 ·injection hv with e1 e2 e3;subst e1 e2 e3;have hP0:P = []:=by cases P with
   | nil=>rfl
   | cons a b=>simp at h0
  subst hP0;have hcon:=AnyF.slices_SortFunc_none { Tryz.sortOb with } none 0 (.func (.func 15) #[] #[]) w
  change Calls Tryz.prog 14 _ _ _ at hcon
  refine hcon.mono ?_;rintro e w' ⟨rfl,rfl⟩;exact⟨rfl,[],List.Perm.refl _,List.Pairwise.nil,hO,World.grownBy.refl _ _⟩
 ·injection hv with e1 e2 e3;subst e1 e3;clear e2;have eg:∀ args w,(callFunc 15 args).run Tryz.prog w = .ok (.enter 15 args) w:=enters_of Tryz.func15 (by kernel_rfl) rfl;have hH:=holdsK_of_own hO;have hsz:P.toArray.size=n:=by simpa using hl
  have hcon:=AnyQ.slices_SortFunc Tryz.sortOb ROv.size Tryz.isAgg41 Tryz.sizeOf41 ROv.vals (fun _=>rfl) ROv.one (fun a b=>cmpS a.dig b.dig) (swoK _) 15 #[] g 0 cap P.toArray w eg
   (fun m os dk _ a b=>cmpOb_grow a b _ _ rfl) hH (hO.1.lt g rfl).2 (by rw[hsz];omega)
  change Calls Tryz.prog 14 _ _ _ at hcon
  rw[hsz]at hcon;refine hcon.mono ?_;rintro e w' ⟨rfl,d',m,os,hp,hs,rfl⟩;rw[← hsz]at hp hs;obtain⟨p1,p2⟩:=perm_of_in hp;have p1:d'.toList.Perm P:=by simpa using p1
  have hso:=sorted_of_in p2 hs;refine⟨rfl,d'.toList,p1,?_,?_,?_⟩
  ·refine hso.imp fun {a b} hab=>?_;have hab:decide (cmpS b.dig a.dig<0)=false:=hab;simp only[decide_eq_false_iff_not]at hab;rw[cmpS_swap];omega
  ·have hd:d'=d'.toList.toArray:=by simp
   rw[hd];exact own_sortK hO _ (by rw[← hl];exact p1.length_eq) m os (fun y hy=>trivial)
  ·exact grown_sortK _ _ _
theorem cmpFi_grow (a b:File) (w:World) (c:Int) (hF:cmpS a.path b.path=c) :
  Calls Tryz.prog 36 #[.agg #[.string a.path,.bool a.run,.slice a.bytes.A a.bytes.n a.bytes.cap],.agg #[.string b.path,.bool b.run,.slice b.bytes.A b.bytes.n b.bytes.cap]] w fun e w'=>e = .returned (.int .i64 c)∧∃ q os',w'=grow (w.drewN q) os':=by
 have hba:=((Below.refl w.heap.size w).alloc (Nat.le_refl _) (.cells #[.string a.path,.bool a.run,.slice a.bytes.A a.bytes.n a.bytes.cap] 95)).alloc (by simp) (.cells #[.string b.path,.bool b.run,.slice b.bytes.A b.bytes.n b.bytes.cap] 95);obtain⟨w0,hw0⟩:∃ w0,w0=(w.alloc (.cells #[.string a.path,.bool a.run,.slice a.bytes.A a.bytes.n a.bytes.cap] 95)).alloc (.cells #[.string b.path,.bool b.run,.slice b.bytes.A b.bytes.n b.bytes.cap] 95):=⟨_,rfl⟩;rw[← hw0]at hba;obtain⟨hbaH,hFH,hw0H⟩:=hq2 hba (hq2 hF (Lib.hid hw0));clear hba hF hw0;go_enter Tryz.func36,Tryz.ntmps36;go_wp2_with fail;refine(Tryz.strings_Compare _ _ _).mono ?_;rintro e w1 ⟨rfl,rfl⟩;go_wp2;go_ret;obtain rfl:=hw0H.out;refine⟨by rw[← hFH.out];first | rfl | simp[cmpS],?_⟩;exact⟨0,#[_,_],rfl⟩
def SrtFiAns (base:Nat) (v:Value) (P:List File) (w:World) (e:Ending) (w':World):Prop :=
 e = .returned (.tuple #[])∧∃ P':List File,P'.Perm P∧(P'.Pairwise fun a b=>cmpS a.path b.path≤0)∧Own RFv 95 w' base v P'∧w.grownBy w' v.ownBlock
theorem sortFi_any (A:Option Addr) (n cap:Nat) (P:List File) (w:World) (base:Nat) (hO:Own RFv 95 w base (.slice A n cap) P) (hn:n≤1000000) :
  Calls Tryz.prog 35 #[.slice A n cap,.func (.func 36) #[] #[]] w (SrtFiAns base (.slice A n cap) P w):=by
 have hl:=hO.len
 rcases hO.1.2 with ⟨hv,h0⟩ | ⟨g,cap',cur,hv,_⟩
 ·injection hv with e1 e2 e3;subst e1 e2 e3;have hP0:P = []:=by cases P with
   | nil=>rfl
   | cons a b=>simp at h0
  subst hP0;have hcon:=AnyF.slices_SortFunc_none { Tryz.sortFi with } none 0 (.func (.func 36) #[] #[]) w
  change Calls Tryz.prog 35 _ _ _ at hcon
  refine hcon.mono ?_;rintro e w' ⟨rfl,rfl⟩;exact⟨rfl,[],List.Perm.refl _,List.Pairwise.nil,hO,World.grownBy.refl _ _⟩
 ·injection hv with e1 e2 e3;subst e1 e3;clear e2;have eg:∀ args w,(callFunc 36 args).run Tryz.prog w = .ok (.enter 36 args) w:=enters_of Tryz.func36 (by kernel_rfl) rfl;have hH:=holdsK_of_own hO;have hsz:P.toArray.size=n:=by simpa using hl
  have hcon:=AnyQ.slices_SortFunc Tryz.sortFi RFv.size Tryz.isAgg95 Tryz.sizeOf95 RFv.vals (fun _=>rfl) RFv.one (fun a b=>cmpS a.path b.path) (swoK _) 36 #[] g 0 cap P.toArray w eg
   (fun m os dk _ a b=>cmpFi_grow a b _ _ rfl) hH (hO.1.lt g rfl).2 (by rw[hsz];omega)
  change Calls Tryz.prog 35 _ _ _ at hcon
  rw[hsz]at hcon;refine hcon.mono ?_;rintro e w' ⟨rfl,d',m,os,hp,hs,rfl⟩;rw[← hsz]at hp hs;obtain⟨p1,p2⟩:=perm_of_in hp;have p1:d'.toList.Perm P:=by simpa using p1
  have hso:=sorted_of_in p2 hs;refine⟨rfl,d'.toList,p1,?_,?_,?_⟩
  ·refine hso.imp fun {a b} hab=>?_;have hab:decide (cmpS b.path a.path<0)=false:=hab;simp only[decide_eq_false_iff_not]at hab;rw[cmpS_swap];omega
  ·have hd:d'=d'.toList.toArray:=by simp
   rw[hd];exact own_sortK hO _ (by rw[← hl];exact p1.length_eq) m os (fun y hy=>trivial)
  ·exact grown_sortK _ _ _
end Go.Proofs.YtpdjjjiknijpkaaGreatDoor