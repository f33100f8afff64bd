/-
 Several texts of mine as one, without what is not wanted here: XExO, XRpl.
-/
import Derived.Test.YtdiaabeollcjaaaGreatDoorTlFC10
import Derived.Lib.SlBuf
import Derived.Lib.IndexMore
set_option linter.unusedVariables false
set_option linter.unusedSimpArgs false
set_option maxRecDepth 100000
set_option maxHeartbeats 8000000
namespace Go.Proofs.YtdiaabeollcjaaaGreatDoor.C10
open Go.ChangeShapes Go.WideShapes Go.Deep Go.RowKit Go.Maps
theorem own_open1 {α:Type} {R:Rd α} {e:TypeId} {w:World} {base g n cap:Nat} {l:List α} (h:Own R e w base (.slice (some ⟨g,0,none⟩) n cap) l):∃ cur,base≤g∧w.heap[g]? = some (.cells cur e (0,0))∧n≤cap∧cap≤maxLen∧cur.size=cap*R.size∧cur.toList.take (n*R.size)=l.flatMap R.vals∧l.length=n:=by
 have hl:=h.len
 rcases h.1.2 with ⟨hv,_⟩ | ⟨g',cap',cur,hv,a,b,c,d,e1,f⟩
 ·cases hv
 ·injection hv with h1 h2 h3;injection h1 with h1;injection h1 with h1;subst h1 h3;rw[hl]at c f;exact⟨cur,a,b,c,d,e1,f,hl⟩
theorem own_at {α:Type} {R:Rd α} {e:TypeId} {w:World} {base n cap:Nat} {A:Option Addr} {l:List α} (h:Own R e w base (.slice A n cap) l) (hn:0<n):∃ g,A=some ⟨g,0,none⟩∧base≤g∧g<w.heap.size:=by
 rcases h.1.2 with ⟨hv,h0⟩ | ⟨g,cap',cur,hv,a,b,_⟩
 ·injection hv with _ h2 _;omega
 ·injection hv with h1 _ _;exact⟨g,h1,a,(Array.getElem?_eq_some_iff.1 b).1⟩
theorem own_fr {α:Type} {R:Rd α} {e:TypeId} {w:World} {base g n cap:Nat} {l:List α} (h:Own R e w base (.slice (some ⟨g,0,none⟩) n cap) l) (i:Nat):w.frozen? ⟨g,i,none⟩=false:=by
 obtain⟨cur,_,hg,_⟩:=own_open1 h;unfold World.frozen?;simp[hg]
theorem vals_str (l:List ByteArray):l.flatMap RStr.vals=l.map Value.string:=by
 induction l with
 | nil=>rfl
 | cons x r ih=>rw[List.flatMap_cons,ih];rfl
theorem own_set1 {e:TypeId} {w:World} {base g n cap i:Nat} {l:List ByteArray} (h:Own RStr e w base (.slice (some ⟨g,0,none⟩) n cap) l) (hi:i<n) (s:ByteArray) (hs:s.size≤maxLen) :
  Own RStr e (w.setCell ⟨g,i,none⟩ (.string s)) base (.slice (some ⟨g,0,none⟩) n cap) (l.set i s):=by
 obtain⟨cur,hb,hg,h1,h2,h3,h4,hl⟩:=own_open1 h;subst hl;have e1:RStr.size=1:=rfl;rw[e1,Nat.mul_one]at h3 h4;have hg':(w.setCell ⟨g,i,none⟩ (.string s)).heap[g]? = some (.cells (cur.setIfInBounds i (.string s)) e (0,0)):=by
  unfold World.setCell;simp[Array.getElem?_modify,hg]
 refine⟨⟨?_,.inr ⟨g,cap,cur.setIfInBounds i (.string s),?_,hb,hg',?_,h2,?_,?_⟩⟩,fun x hx=>?_⟩
 ·rw[flatMap_vals_length]
 ·rw[List.length_set]
 ·rw[List.length_set];exact h1
 ·rw[e1,Nat.mul_one,Array.size_setIfInBounds];exact h3
 ·rw[e1,Nat.mul_one,List.length_set,Array.toList_setIfInBounds,List.take_set,h4,vals_str,vals_str,List.map_set]
 ·rcases List.mem_or_eq_of_mem_set hx with hx | rfl
  ·exact h.2 x hx
  ·exact hs
theorem slAt_lt2 {w:World} {b off m:Nat} {l:List ByteArray} (h:SlAt RStr w (some ⟨b,off,none⟩) m l) (h0:0<m):b<w.heap.size:=by
 have hl:=h.1;exact cell?_lt (cell_Str h (List.getElem?_eq_getElem (show 0<l.length by omega)))
def trB (s:ByteArray):ByteArray:=bsOf (trimNl s.data.toList)
theorem map_trB (L:List (List UInt8)):(und L).map trB=und (L.map trimNl):=by
 unfold und trB;rw[List.map_map,List.map_map];apply List.map_congr_left;intro x _;show bsOf (trimNl (bsOf x).data.toList)=bsOf (trimNl x);rw[data_bsOf]
def SoRelT (L:List ByteArray) (A:Option Addr) (n c:Nat) (w0:World) (i:Value) (wr:World):Prop :=
 ∃ k:Nat,k≤L.length∧i = .int .i64 k∧Own RStr 9 wr w0.heap.size (.slice A n c) ((L.take k).map trB++L.drop k)∧Below w0.heap.size w0 wr
def soO (L:List ByteArray):List UInt8:=(L.map fun s=>s.data.toList ++ [10]).flatten
theorem soO_snoc (L:List ByteArray) (t:ByteArray):soO (L ++ [t])=soO L++(t.data.toList ++ [10]):=by unfold soO;rw[List.map_append,List.flatten_append];simp
def SoRelO (S:List ByteArray) (A:Option Addr) (n c:Nat) (w0:World) (v i:Value) (wr:World):Prop :=
 ∃ (k:Nat) (A5:Option Addr) (m5 c5:Nat),k≤S.length∧i = .int .i64 k∧v = .slice A5 m5 c5∧Own RU8 5 wr w0.heap.size v (soO (S.take k))∧m5≤100001*k ∧
  SlAt RStr wr A n S∧(0<n→∀ ad,A=some ad→v.ownBlock≠some ad.block)∧Below w0.heap.size w0 wr
def SoAns (l:List UInt8) (w:World) (e:Ending) (w':World):Prop :=
 ∃ A m c,e = .returned (.slice A m c)∧Own RU8 5 w' w.heap.size (.slice A m c) (sortP l)∧m≤100000000000∧Below w.heap.size w w'
theorem step_trB {L:List ByteArray} {k:Nat} {s:ByteArray} (h:L[k]? = some s):((L.take k).map trB++L.drop k).set k (trB s)=(L.take (k+1)).map trB++L.drop (k+1):=by
 have hk:=(List.getElem?_eq_some_iff.1 h).1;have hl:((L.take k).map trB).length=k:=by rw[List.length_map,List.length_take];omega
 rw[drop_cons h,List.set_append_right _ _ (by omega),hl,Nat.sub_self,List.set_cons_zero,List.take_add_one,h];simp
theorem sortLines_any (A:Option Addr) (n c:Nat) (l:List UInt8) (w:World) (hl:(RSl RU8).ok w ⟨A,n,c,l⟩) (hn:n≤100000) :
  Calls Tryz.prog 94 #[.slice A n c] w (SoAns l w):=by
 obtain⟨Z,hZ⟩:∃ Z,SoAns l w=Z:=⟨_,rfl⟩;have hZ':∀ e W,SoAns l w e W→Z e W:=fun e W h=>by rw[← hZ];exact h
 rw[hZ];clear hZ;have hln:l.length=n:=hl.1.1;have hall:=(linesP_all l.length l (Nat.le_refl _)).2.1;obtain⟨L,hL⟩:∃ L,und (linesP l)=L:=⟨_,rfl⟩;have hLl:L.length≤100000:=by rw[← hL,und_len];omega
 have hLz:∀ s∈L,s.size≤100000:=fun s hs=>by
  rw[← hL,mem_und]at hs;have:=mem_length_le hs;have e:s.data.toList.length=s.size:=(Lib.size_eq s).symm;omega
 obtain⟨hZ'H,hlH,hlnH,hallH,hLH,hLzH⟩:=hq2 hZ' (hqb hl hln hall hL (Lib.hid hLz));clear hZ' hl hln hall hL hLz;go_enter Tryz.func94,Tryz.ntmps94;go_wp2_with fail;refine(lines_any A n c l w hlH.out (by omega)).mono ?_;rintro e w1 ⟨A1,m1,c1,rfl,hown1,hb1⟩;rw[hLH.out]at hown1;have hm1:=hown1.len;have hst:SoRelT L A1 m1 c1 w (.int .i64 0) w1:=⟨0,Nat.zero_le _,rfl,by simpa using hown1,hb1⟩;obtain⟨hown1H,hb1H,hm1H,hstH⟩:=hq2 hown1 (hq2 hb1 (hq2 hm1 (Lib.hid hst)));clear hown1 hb1 hm1 hst;go_wp2_with fail
 go_loopw [12] (fun i wr=>SoRelT L A1 m1 c1 w i wr) (fun i _=>m1-(intOf i).toNat)
 case atStart=>exact hstH.out
 case round =>
  clear hstH;obtain⟨k,hk,rfl,hown,hb⟩:=hrel;have hkm:k≤m1:=by have:=hm1H.out;omega
  have hm1b:m1≤100000:=by have:=hm1H.out;omega
  by_cases hlt:k<m1
  ·obtain⟨t,ht⟩:∃ t,L[k]? = some t:=⟨L[k]'(by have:=hm1H.out;omega),List.getElem?_eq_getElem _⟩;have hlen:=hown.len;have hlk:((L.take k).map trB).length=k:=by rw[List.length_map,List.length_take];omega
   have htk:((L.take k).map trB++L.drop k)[k]? = some t:=by rw[List.getElem?_append_right (by omega),hlk,Nat.sub_self,drop_cons ht];rfl
   have hstp:=step_trB ht;obtain⟨g,hA1,hg1,hg2⟩:=own_at hown (by omega);subst hA1;have cy:=cell_Str hown.slAt htk;rw[Nat.zero_add]at cy;have fy:=own_fr hown k;have htz:=hLzH.out t (List.mem_of_getElem? ht);have hts:=Tryz.strings_TrimSuffix t ⟨#[10]⟩ wr (by omega);have ets:(⟨(Lib.trimSuffix t.data.toList (⟨#[10]⟩:ByteArray).data.toList).toArray⟩:ByteArray)=trB t:=rfl;rw[ets]at hts;have htb:(trB t).size≤maxLen:=by
    unfold trB;rw[bsOf_size];have:=trimNl_len t.data.toList;have e:t.data.toList.length=t.size:=(Lib.size_eq t).symm;unfold maxLen;omega
   have hkl2:k+1≤L.length:=by have:=hm1H.out;omega
   have hownS:=own_set1 hown (i:=k) (by omega) (trB t) htb;rw[hstp]at hownS;have R:SoRelT L (some ⟨g,0,none⟩) m1 c1 w (.int .i64 (k+1)) (wr.setCell ⟨g,k,none⟩ (.string (trB t))):=⟨k+1,hkl2,by go_num,hownS,hb.setCell hg1 _⟩;clear ets hlk htk hlen hstp;obtain⟨hownH,hbH,htH,htsH,hownSH,RH⟩:=hq2 hown (hqb hb ht hts hownS (Lib.hid R));clear hown hb ht hts hownS R;go_wp2_with fail;refine htsH.out.mono ?_;rintro e w6 ⟨rfl,hw6⟩;rw[hw6];clear hw6;go_wp2;refine⟨?rel,?measure⟩
   case measure=>(simp[intOf];omega)
   case rel=>first | exact RH.out | exact⟨rfl,RH.out⟩
  ·obtain rfl:k=m1:=by omega
   have e1:L.take k=L:=List.take_of_length_le (by have:=hm1H.out;omega);have e2:L.drop k = []:=List.drop_eq_nil_of_le (by have:=hm1H.out;omega);rw[e1,e2,List.append_nil]at hown;clear e1 e2;obtain⟨hownH,hbH⟩:=hq2 hown (Lib.hid hb);clear hown hb;go_wp2_with fail;refine(sort_own A1 k c1 _ wr _ hownH.out (by omega)).mono ?_;rintro e w2 ⟨rfl,hown2,hg2⟩;have hb2:Below w.heap.size w w2:=hbH.out.grown hg2 hbH.out.size fun q hq=>(hownH.out.1.lt q hq).1;clear hg2;obtain⟨hown2H,hb2H⟩:=hq2 hown2 (Lib.hid hb2);clear hown2 hb2;go_wp2_with fail;refine(comp_own A1 k c1 _ w2 _ hown2H.out (by omega) hb2H.out.size).mono ?_;rintro e w3 ⟨k3,hk3,rfl,hown3,hb3⟩;have hb03:=hb2H.out.trans hb3;obtain⟨S,hS⟩:∃ S,compB (sortB (L.map trB))=S:=⟨_,rfl⟩;rw[hS]at hown3;have hSl:=hown3.len;have hSz:∀ s∈S,s.size≤100000:=fun s hs=>by
    rw[← hS,(rising_comp _).2]at hs;obtain⟨t,ht,rfl⟩:=List.mem_map.1 hs;unfold trB;rw[bsOf_size];have h1:=trimNl_len t.data.toList;have h2:=hLzH.out t ht;have e:t.data.toList.length=t.size:=(Lib.size_eq t).symm;omega
   have hsP:sortP l=soO S:=by unfold sortP soO;rw[← hS,← map_trB,hLH.out]
   have hst2:SoRelO S A1 k3 c1 w (.slice none 0 0) (.int .i64 0) w3:=⟨0,none,0,0,Nat.zero_le _,rfl,rfl,Own.nil _ _,Nat.zero_le _,hown3.slAt,(fun _ ad _ h=>by cases h),hb03⟩;clear hb3;obtain⟨hown3H,hb03H,hSH,hSlH,hSzH,hsPH,hst2H⟩:=hq2 hown3 (hq2 hb03 (hqb hS hSl hSz hsP (Lib.hid hst2)));clear hown3 hb03 hS hSl hSz hsP hst2;go_wp2_with fail
   go_loopw [5,29] (fun v i wr=>SoRelO S A1 k3 c1 w v i wr) (fun _ i _=>k3-(intOf i).toNat)
   case atStart=>exact hst2H.out
   case round =>
    clear hst2H;obtain⟨j,A5,m5,c5,hj,rfl,rfl,hown5,hm5,hsl5,hfar5,hb5⟩:=hrel;have hjm:j≤k3:=by have:=hSlH.out;omega
    by_cases hlt5:j<k3
    ·obtain⟨t,ht⟩:∃ t,S[j]? = some t:=⟨S[j]'(by have:=hSlH.out;omega),List.getElem?_eq_getElem _⟩;obtain⟨b5,off5,hA5,_⟩:=hsl5.2.1 (by omega);subst hA5;have cy:=cell_Str hsl5 ht;have htz:=hSzH.out t (List.mem_of_getElem? ht);have hlen5:=hown5.len;have htk:S.take (j+1)=S.take j ++ [t]:=by rw[List.take_add_one,ht];rfl
     have hj2:j+1≤S.length:=by have:=hSlH.out;omega
     have hb5s:=hb5.size;have hez:(t++(⟨#[10]⟩:ByteArray)).size=t.size+1:=by rw[ByteArray.size_append];rfl
     have hed:(t++(⟨#[10]⟩:ByteArray)).data.toList=t.data.toList ++ [10]:=by simp[ByteArray.data_append]
     have hm5b:m5≤10100000000:=by omega
     obtain⟨hown5H,hsl5H,hfar5H,hb5H,htH,htkH,hezH,hedH,hlen5H⟩:=hqc hown5 hsl5 hfar5 hb5 ht htk hez hed (Lib.hid hlen5);clear hown5 hsl5 hfar5 hb5 ht htk hez hed hlen5;go_wp2_with (at_builtin;go_loud (refine wpList_app_s rfl (.tmp 33) (.tmp 35) rfl rfl hown5H.out (t++(⟨#[10]⟩:ByteArray)) rfl ?c1 ?c2 (m5+(t.size+1)) ?c3 ?_))
     case c1=>rw[hezH.out,hlen5H.out];omega
     case c2=>exact hb5s
     case c3=>rw[hezH.out,hlen5H.out]
     intro A' c' w8 hown8 hg8 hd8;have hown8:Own RU8 5 w8 w.heap.size (.slice A' (m5+(t.size+1)) c') (soO (S.take j)++(t.data.toList ++ [10])):=by first | exact hown8 | (rw[← hedH.out];exact hown8)
     have hsl8:SlAt RStr w8 (some ⟨b5,off5,none⟩) k3 S:=by
      have hk8:Kp (fun q=>(Value.slice A5 m5 c5).ownBlock=some q) wr w8:=Kp.of_grown hg8 fun q hq=>hq;exact hk8.slAt hsl5H.out (fun h0 ad hA hs=>hfar5H.out h0 ad hA hs) (fun _ h=>h)
     have hfl:b5<wr.heap.size:=slAt_lt2 hsl5H.out (by omega);have R:SoRelO S (some ⟨b5,off5,none⟩) k3 c1 w (.slice A' (m5+(t.size+1)) c') (.int .i64 (j+1)) w8:=by
      refine⟨j+1,A',_,c',hj2,by go_num,rfl,?_,by omega,hsl8,?_,hb5H.out.grown hg8 hb5s fun q hq=>(hown5H.out.1.lt q hq).1⟩
      ·rw[htkH.out,soO_snoc];exact hown8
      ·intro h0 ad hA hs
       rcases hd8 _ hs with h1 | h1
       ·exact hfar5H.out h0 ad hA h1
       ·injection hA with hA;subst hA;exact absurd h1 (by show ¬ wr.heap.size≤b5;omega)
     clear hown8 hg8 hd8 hsl8 hfl;have RH:=Lib.hid R;clear R;go_wp2;refine⟨?rel,?measure⟩
     case measure=>(simp[intOf];omega)
     case rel=>first | exact RH.out | exact⟨rfl,RH.out⟩
    ·obtain rfl:j=k3:=by omega
     have e1:S.take j=S:=List.take_of_length_le (by have:=hSlH.out;omega);rw[e1,← hsPH.out]at hown5;have R:=hZ'H.out (.returned (.slice A5 m5 c5)) wr ⟨A5,m5,c5,rfl,hown5,by omega,hb5⟩;clear e1;obtain⟨hown5H,hsl5H,hfar5H,hb5H,RH⟩:=hqb hown5 hsl5 hfar5 hb5 (Lib.hid R);clear hown5 hsl5 hfar5 hb5 R;go_wp2_with fail;exact RH.out
end Go.Proofs.YtdiaabeollcjaaaGreatDoor.C10
namespace Go.Proofs.YtdiaabeollcjaaaGreatDoor.C10
open Go.ChangeShapes Go.WideShapes Go.Deep Go.RowKit
theorem replaceK_len (old new:List UInt8) (h:old≠[]):∀ (k:Nat) (s:List UInt8),k≤Lib.count s old→(Lib.replaceK old new k s).length+k*old.length=s.length+k*new.length
 | 0,s,_=>by simp[Lib.replaceK]
 | k+1,s,hk=>by
  obtain⟨i,hi⟩:=Lib.index_of_count (show 0<Lib.count s old by omega);have hc:=Lib.count_hit h hi;have hr:=Lib.index_room s old (by omega);have ih:=replaceK_len old new h k (s.drop (i+old.length)) (by omega);rw[Lib.replaceK_hit old new k s i hi,List.length_append,List.length_append,List.length_take];rw[List.length_drop]at ih;rw[Nat.add_mul,Nat.add_mul];omega
def RpRel (l old new:List UInt8) (K N:Nat) (w0:World) (v11 v12 v49:Value) (wr:World):Prop :=
 ∃ (i st:Nat) (acc:List UInt8),i≤K∧v49 = .int .i64 i∧v12 = .int .i64 st∧v11 = .int .i64 acc.length∧st≤l.length∧acc++Lib.replaceK old new (K-i) (l.drop st)=Lib.replaceK old new K l∧K-i≤Lib.count (l.drop st) old∧Lib.Buf w0 wr w0.heap.size N acc
def RpAns (l old new:List UInt8) (w:World) (e:Ending) (w':World):Prop :=
 ∃ A m c,e = .returned (.slice A m c)∧(RSl RU8).ok w' ⟨A,m,c,replP l old new⟩∧(0<m→∀ ad,A=some ad→w.heap.size≤ad.block)∧Below w.heap.size w w'
theorem holdsB {w:World} {A:Option Addr} {n c:Nat} {l:List UInt8} (h:SlAt RU8 w A n l):Lib.HoldsBytes w (.slice A n c) l:=by
 refine⟨A,c,by rw[h.1],fun hA=>?_,fun a ha i x hx=>?_⟩
 ·rcases Nat.eq_zero_or_pos n with h0 | h0
  ·exact List.eq_nil_of_length_eq_zero (by rw[h.1];exact h0)
  ·obtain⟨b,off,hA2,_⟩:=h.2.1 h0;rw[hA]at hA2;cases hA2
 ·have hi:=(List.getElem?_eq_some_iff.1 hx).1;obtain⟨b,off,hA2,_⟩:=h.2.1 (by have:=h.1;omega);rw[ha]at hA2;injection hA2 with hA2;subst hA2;subst ha;rw[Addr.add_lit];exact cell_U8 h hx
theorem natU_rng (l:List UInt8):∀ x∈natU l,0≤x∧x<256:=by
 intro x hx;unfold natU at hx;obtain⟨c,_,rfl⟩:=List.mem_map.1 hx;have:=c.toNat_lt;omega
theorem countB_any (A:Option Addr) (n c:Nat) (l:List UInt8) (b off k ck:Nat) (old:List UInt8) (w:World) (hm:MaxLenAt w) (h:SlAt RU8 w A n l) (hc:n≤c) (hA:A=none→c=0) (hn:n≤1000000000) (ho:SlAt RU8 w (some ⟨b,off,none⟩) k old) (hk:1≤k) (hk2:k≤1000000) :
  Calls Tryz.prog 172 #[.slice A n c,.slice (some ⟨b,off,none⟩) k ck] w fun e w'=>e = .returned (.int .i64 (Lib.count l old))∧∃ q,w'=w.drewN q:=by
 obtain⟨m,hm⟩:=hm;have hco:∀ i,i<k→w.cell? ((⟨b,off,none⟩:Addr).add i)=some (.int .u8 ((natU old).getD i 0)):=fun i hi=>by rw[Addr.add_lit];exact natU_get ho i hi
 cases A with
 | none =>
  obtain rfl:c=0:=hA rfl;obtain rfl:n=0:=by omega
  obtain rfl:l = []:=List.eq_nil_of_length_eq_zero h.1;refine(Tryz.bytes_Count_nil_any (some ⟨b,off,none⟩) k ck w hk (by omega) (fun h1=>⟨b,off,_,rfl,by have:=hco 0 (by omega);rw[Addr.add_lit]at this;exact this⟩)).mono ?_;rintro e w' ⟨rfl,hw⟩;have:Lib.count [] old=0:=by
   have hne:old≠[]:=fun e=>by have:=ho.1;rw[e]at this;simp at this;omega
   cases old with
   | nil=>exact absurd rfl hne
   | cons x r=>rfl
  rw[this];exact⟨rfl,0,hw⟩
 | some ad =>
  have hcl:∀ i,i<n→w.cell? (ad.add i)=some (.int .u8 ((natU l).getD i 0)):=fun i hi=>by
   obtain⟨b1,o1,hA1,_⟩:=h.2.1 (by omega);injection hA1 with hA1;subst hA1;rw[Addr.add_lit];exact natU_get h i hi
  have:=Tryz.bytes_Count_any ad ⟨b,off,none⟩ n c k ck (natU l) (natU old) m w (by rw[natU_len,h.1]) (by rw[natU_len,ho.1]) (natU_rng l) (natU_rng old) hcl hco hc (by omega) (by omega) hk hm;rw[natU_of,natU_of]at this;exact this
theorem indexBs_any (b1 o1 n c:Nat) (l:List UInt8) (b off k ck:Nat) (old:List UInt8) (w:World) (hm:MaxLenAt w) (h:SlAt RU8 w (some ⟨b1,o1,none⟩) n l) (hc:n≤c) (hn:n≤1000000000) (ho:SlAt RU8 w (some ⟨b,off,none⟩) k old) (hk2:k≤1000000) :
  Calls Tryz.prog 173 #[.slice (some ⟨b1,o1,none⟩) n c,.slice (some ⟨b,off,none⟩) k ck] w fun e w'=>e = .returned (.int .i64 (Lib.index l old))∧∃ q,w'=w.drewN q:=by
 obtain⟨m,hm⟩:=hm;have:=Tryz.bytes_Index_at ⟨b1,o1,none⟩ ⟨b,off,none⟩ n c k ck (natU l) (natU old) m w (by rw[natU_len,h.1]) (by rw[natU_len,ho.1]) (natU_rng l) (natU_rng old) (fun i hi=>by rw[Addr.add_lit];exact natU_get h i hi) (fun i hi=>by rw[Addr.add_lit];exact natU_get ho i hi) hc (by omega) (by omega) hm;rw[natU_of,natU_of]at this;exact this
theorem slAt_partR {α:Type} {R:Rd α} {w:World} {b off n:Nat} {l:List α} (h:SlAt R w (some ⟨b,off,none⟩) n l) (k m:Nat) (hk:k+m≤n) (h1:R.size=1):SlAt R w (some ⟨b,off+k,none⟩) m ((l.drop k).take m):=slAt_part h k m hk h1
def madeUN (n:Nat):Array Value:=madeCells (Value.int .u8 0).cells (n*1)
theorem run_makeUN (n:Nat) (hn:n≤140737488355328) (W:World):(Instr.makeSlice 56 (.int .i64 (n:Int)) (.int .i64 (n:Int))).run Tryz.prog W = .ok (.slice (some ⟨W.heap.size,0,none⟩) n n) (W.alloc (.cells (madeUN n) 5)):=by
 obtain⟨i,z,hi,hz,hz1,hz2,hz3⟩:∃ i z,Tryz.prog.info? 5 = some i∧i.zero=some z∧i.size=1∧i.bytes=1∧z = .int .u8 0:=by
  obtain⟨i,h1,h2,h3,h4⟩:=info_parts (z:=.int .u8 0) (size:=1) (bytes:=1) (show (Tryz.prog.info? 5).map (fun i=>(i.zero,i.size,i.bytes))=some (some (.int .u8 0),1,1) by kernel_rfl);exact⟨i,_,h1,h2,h3,h4,rfl⟩
 subst hz3;have:=run_make (P:=Tryz.prog) W 56 5 i (.int .u8 0) Tryz.underlying56 hi hz .i64 .i64 (n:Int) (n:Int) (by omega) (Int.le_refl _) (by rw[hz2];omega) (by omega);rw[this,hz1];simp only[Int.toNat_natCast];rfl
theorem madeUN_size (n:Nat):(madeUN n).size=n:=by unfold madeUN madeCells;simp[Value.cells]
theorem buf_drewN {w0 wr:World} {h N:Nat} {acc:List UInt8} (hb:Lib.Buf w0 wr h N acc) (q:Nat):Lib.Buf w0 (wr.drewN q) h N acc:=⟨hb.below.trans ⟨rfl,rfl,rfl,Nat.le_refl _,fun _ _=>rfl⟩,hb.there,hb.free,hb.holds,hb.fits⟩
theorem buf_drew {w0 wr:World} {h N:Nat} {acc:List UInt8} (hb:Lib.Buf w0 wr h N acc):Lib.Buf w0 wr.drew h N acc:=⟨hb.below.trans ⟨rfl,rfl,rfl,Nat.le_refl _,fun _ _=>rfl⟩,hb.there,hb.free,hb.holds,hb.fits⟩
theorem step_copy {P:Program} {w:World} {ops:Array Oper} {o:Oper} {a:Act} {K:Act→World→Prop} {Q:Exit→Act→World→Prop} {E:Prop} (hgd:o.guard=none) (d s:Operand) (t t':TypeId)
  (ho:o.op = .call { callee:=.builtin .copy,args:=#[d,s],argTypes:=#[t,t'] }) (v u:Value) (hd:a.eval d=v) (hs:a.eval s=u) {v':Value} {w':World}
  (hr:(Builtin.copy_ #[t,t'] o.type #[v,u]).run P w = .ok v' w') (h:K (a.put o.dst v') w') :
  if Region.wanted o (yielded ops a.tmps)=true then Oper.wp P o a w K Q else E:=by
 have hw:Region.wanted o (yielded ops a.tmps)=true:=by simp[Region.wanted,hgd]
 rw[if_pos hw];exact Lib.wp_copy_run w d s t t' ho v u hd hs hr h
theorem hs_u8:(Tryz.prog.info? 5).map (·.size)=some 1:=by kernel_rfl
theorem sz_u8:∀ w,(Go.sizeOf 5).run Tryz.prog w = .ok 1 w:=by
 obtain⟨i,hi,hs⟩:=Option.map_eq_some_iff.1 hs_u8;intro w;have:=run_sizeOf (P:=Tryz.prog) w hi;have e:Tryz.prog.cellsOf 5 = 1:=by simp[Program.cellsOf,hi,hs]
 rw[e]at this;exact this
theorem replace_any (A:Option Addr) (n c:Nat) (l:List UInt8) (b1 o1 n1 c1:Nat) (old:List UInt8) (A2:Option Addr) (n2 c2:Nat) (new:List UInt8) (w:World) (hm:MaxLenAt w) (hl:(RSl RU8).ok w ⟨A,n,c,l⟩) (ho:SlAt RU8 w (some ⟨b1,o1,none⟩) n1 old) (hnw:SlAt RU8 w A2 n2 new)
  (hn:n≤100000) (hn1:1≤n1) (hn1b:n1≤300) (hn2:n2≤300) :
  Calls Tryz.prog 146 #[.slice A n c,.slice (some ⟨b1,o1,none⟩) n1 c1,.slice A2 n2 c2,.int .i64 (-1)] w (RpAns l old new w):=by
 obtain⟨Z,hZ⟩:∃ Z,RpAns l old new w=Z:=⟨_,rfl⟩;have hZ':∀ e W,RpAns l old new w e W→Z e W:=fun e W h=>by rw[← hZ];exact h
 rw[hZ];clear hZ;obtain⟨hs,hc,hcm,hA0⟩:=hl;simp only at hs hc hcm hA0;have hln:l.length=n:=hs.1;have hon:old.length=n1:=ho.1;have hwn:new.length=n2:=hnw.1;have hone:old≠[]:=fun e=>by rw[e]at hon;simp at hon;omega
 have hct:=countB_any A n c l b1 o1 n1 c1 old w hm hs hc hA0 (by omega) ho hn1 (by omega);obtain⟨K,hK⟩:∃ K,Lib.count l old=K:=⟨_,rfl⟩;have hKl:=Lib.count_le l old;have hrp:replP l old new=Lib.replaceK old new K l:=by unfold replP;rw[hK]
 have hlen:=replaceK_len old new hone K l (by omega);rw[hK]at hct hKl;have hmk:=run_makeUN
 rcases Nat.eq_zero_or_pos K with hK0 | hK0
 ·subst hK0;obtain⟨hZ'H,hsH,hA0H,hlnH,honH,hwnH,honeH,hctH,hKH,hrpH,hlenH,hoH,hnwH,hmkH⟩:=hq2 hZ' (hqb hs hA0 hln hon (hqc hwn hone hct hK hrp hlen ho hnw (Lib.hid hmk)));clear hZ' hs hA0 hln hon hwn hone hct hK hrp hlen ho hnw hmk;go_enter Tryz.func146,Tryz.ntmps146;go_wp2_with fail;refine hctH.out.mono ?_;rintro e w1 ⟨rfl,q1,rfl⟩;have hs1:=hsH.out.below (bel_drewN (Below.refl w.heap.size w) q1);have hs1H:=Lib.hid hs1;clear hs1;go_wp2_with (at_builtin;go_loud (refine wpList_app (base:=w.heap.size) (l:=[]) rfl (.const (.slice none 0 0)) (.tmp 24) 56 rfl Tryz.underlying56 elem_U8 (by decide) rfl (Own.nil _ _) A n c l rfl hs1H.out ?nn ?ok ?c1 ?c2 ?c3 n ?c4 ?_))
  case nn=>exact fun _=>hA0H.out
  case ok=>exact fun _ _ _ _ h=>h
  case c1=>simp[maxLen];omega
  case c2=>simp;omega
  case c3=>exact Nat.le_refl _
  case c4=>simp
  intro A' c' w8 hown8 hg8 hat8 hb8;have hb:Below w.heap.size w w8:=(bel_drewN (Below.refl w.heap.size w) q1).trans hb8;have R:=hZ'H.out (.returned (.slice A' n c')) w8 ⟨A',n,c',rfl,by rw[hrpH.out];exact⟨hown8.slAt,hown8.cap_le,(own_capx hown8).2.1,(own_capx hown8).1⟩,fun _ ad hA=>(own_capx hown8).2.2 ad hA,hb⟩;clear hown8 hg8 hat8 hb8 hb;have RH:=Lib.hid R;clear R;go_wp2_with fail;exact RH.out
 ·obtain⟨N,hN⟩:∃ N,(Lib.replaceK old new K l).length=N:=⟨_,rfl⟩;rw[hN,hln,hon,hwn]at hlen;have hKn2:K*n2≤100001*300:=Nat.mul_le_mul (by omega) hn2;have hNb:N≤40000000:=by omega
  have hKi:(n:Int)+(K:Int)*((n2:Int)-(n1:Int))=(N:Int):=by
   have:((N+K*n1:Nat):Int)=((n+K*n2:Nat):Int):=by rw[hlen]
   rw[Int.mul_sub];simp only[Int.natCast_add,Int.natCast_mul]at this;omega
  have e1:IntKind.i64.wrap ((n2:Int)-(n1:Int))=(n2:Int)-(n1:Int):=IntWalk.i64_in _ (by omega);have e2:IntKind.i64.wrap ((K:Int)*((n2:Int)-(n1:Int)))=(K:Int)*((n2:Int)-(n1:Int)):=IntWalk.i64_in _ (by omega);have e3:IntKind.i64.wrap ((n:Int)+(K:Int)*((n2:Int)-(n1:Int)))=(N:Int):=by rw[hKi];exact IntWalk.i64_in _ (by omega)
  have hmk2:=fun W=>hmk N (by omega) W;have hK1:¬ (K:Int)=0:=by omega
  clear hmk;obtain⟨hZ'H,hsH,hA0H,hlnH,honH,hwnH,honeH,hctH,hKH,hrpH,hlenH,hoH,hnwH,hKiH,hNH⟩:=hq2 hZ' (hq2 hs (hqb hA0 hln hon hwn (hqc hone hct hK hrp hlen ho hnw hKi (Lib.hid hN))));clear hZ' hs hA0 hln hon hwn hone hct hK hrp hlen ho hnw hKi hN;go_enter Tryz.func146,Tryz.ntmps146;go_wp2_with fail;refine hctH.out.mono ?_;rintro e w1 ⟨rfl,q1,rfl⟩;go_wp2_with fail;have hst:RpRel l old new K N w (.int .i64 0) (.int .i64 0) (.int .i64 0) ((w.drewN q1).alloc (.cells (madeUN N) 5)):=by
   refine⟨0,0,[],Nat.zero_le _,rfl,rfl,rfl,Nat.zero_le _,rfl,by rw[Nat.sub_zero,List.drop_zero,hKH.out];exact Nat.le_refl _,?_⟩;have:=Lib.Buf.start (w.drewN q1) (madeUN N) 5 N 0 (by rw[madeUN_size];exact Nat.le_refl _);exact⟨(bel_drewN (Below.refl w.heap.size w) q1).trans this.below,this.there,this.free,this.holds,this.fits⟩
  have hstH:=Lib.hid hst;clear hst;have hKz:((K:Int)==0)=false:=by simp;omega
  have hn1z:decide (0<n1)=true:=by simp;omega
  simp only[hKz,hn1z];clear e1 e2 e3 hmk2
  go_loopw [11,12,49] (fun v11 v12 v49 wr=>RpRel l old new K N w v11 v12 v49 wr) (fun _ _ v49 _=>K-(intOf v49).toNat)
  case atStart=>exact hstH.out
  case round =>
   clear hstH;obtain⟨i,st,acc,hi,rfl,rfl,rfl,hst,heq,hcnt,hbuf⟩:=hrel;have hlnO:=hlnH.out;have hfit:=hbuf.fits;have hbel:=hbuf.below
   by_cases hlt:i<K
   ·obtain⟨kk,hkk⟩:∃ kk,K-i=kk+1:=⟨K-i-1,by omega⟩;rw[hkk]at heq hcnt;obtain⟨ix,hix⟩:=Lib.index_of_count (show 0<Lib.count (l.drop st) old by omega);have hroom:=Lib.index_room (l.drop st) old (by omega);rw[hix,honH.out,List.length_drop]at hroom;have hch:=Lib.count_hit honeH.out hix;rw[honH.out]at hch;rw[Lib.replaceK_hit old new kk _ ix hix,honH.out]at heq;have hll:st+ix+n1≤n:=by omega
    have hnpos:0<n:=by omega
    obtain⟨b,off,hAe,_⟩:=hsH.out.2.1 hnpos;subst hAe;have hcst:¬ c=st:=by omega
    have hrest:SlAt RU8 wr (some ⟨b,off+st,none⟩) (n-st) (l.drop st):=by
     have:=slAt_partR (hsH.out.below hbel) st (n-st) (by omega) rfl;rw[List.take_of_length_le (by rw[List.length_drop];omega)]at this;exact this
    have hixc:=indexBs_any b (off+st) (n-st) (c-st) (l.drop st) b1 o1 n1 c1 old wr (hm.below hbel) hrest (by omega) (by omega) (hoH.out.below hbel) (by omega);rw[hix]at hixc;have hpart:SlAt RU8 w (some ⟨b,off+st,none⟩) ix ((l.drop st).take ix):=slAt_partR hsH.out st ix (by omega) rfl;have hpl:((l.drop st).take ix).length=ix:=by rw[List.length_take,List.length_drop];omega
    have htot:acc.length+ix+n2≤N:=by
     have:=congrArg List.length heq;simp only[List.length_append]at this;rw[hpl,hwnH.out,hNH.out]at this;omega
    have hcnt2:kk≤Lib.count (l.drop (st+ix+n1)) old:=by
     rw[List.drop_drop]at hch;rw[show st+ix+n1=st+(ix+n1) by omega];omega
    have heq2:(acc++(l.drop st).take ix++new)++Lib.replaceK old new kk (l.drop (st+ix+n1))=Lib.replaceK old new K l:=by
     rw[← heq,List.drop_drop,show st+ix+n1=st+(ix+n1) by omega];simp[List.append_assoc]
    have hd1:st≤n:=by omega
    have hacc2:acc.length+ix+n2≤N:=by omega
    clear hroom hch heq hcnt;obtain⟨hkkH,hbufH,hixH,hixcH,hpartH,hplH,hcnt2H,heq2H,hrestH,hbelH,hacc2H⟩:=hq2 hkk (hq2 hbuf (hqc hix hixc hpart hpl hcnt2 heq2 hrest hbel (Lib.hid hacc2)));clear hkk hbuf hix hixc hpart hpl hcnt2 heq2 hrest hbel hacc2;go_wp2_with fail;refine hixcH.out.mono ?_;rintro e w2 ⟨rfl,q2,rfl⟩;go_wp2_with fail;have hbufq:=buf_drew (buf_drewN hbufH.out q2);have hsl1:∀ W,(Instr.slice 56 (.slice (some ⟨w.heap.size,0,none⟩) N N) (some (.int .i64 (acc.length:Int))) none none).run Tryz.prog W = .ok (Lib.tailV w.heap.size N acc.length) W:=fun W=>Lib.run_slice_tailV W 56 5 Tryz.underlying56 sz_u8 _ N acc.length (by omega);obtain⟨w3,hr3,hb3⟩:=Lib.copy_part (P:=Tryz.prog) w _ w.heap.size N acc _ (.slice (some ⟨b,off+st,none⟩) ix (c-st)) 56 3 5 Tryz.underlying56 hs_u8 (Nat.le_refl _) hbufq (holdsB hpartH.out) (by rw[hplH.out];omega);rw[hplH.out]at hr3;obtain⟨acc2,hacc2e⟩:∃ a,acc++(l.drop st).take ix=a:=⟨_,rfl⟩;have hacc2l:acc2.length=acc.length+ix:=by rw[← hacc2e,List.length_append,hplH.out]
    have hacb:=hacc2H.out;have hsl2:∀ W,(Instr.slice 56 (.slice (some ⟨w.heap.size,0,none⟩) N N) (some (.int .i64 ((acc.length:Int)+(ix:Int)))) none none).run Tryz.prog W = .ok (Lib.tailV w.heap.size N (acc.length+ix)) W:=fun W=>by
     have:=Lib.run_slice_tailV (P:=Tryz.prog) W 56 5 Tryz.underlying56 sz_u8 w.heap.size N (acc.length+ix) (by omega)
     rwa [show ((acc.length+ix:Nat):Int)=(acc.length:Int)+(ix:Int) by omega]at this
    rw[hacc2e]at hb3;have heq3:=heq2H.out;rw[hacc2e]at heq3;obtain⟨w4,hr4,hb4⟩:=Lib.copy_part (P:=Tryz.prog) w w3 w.heap.size N acc2 new (.slice A2 n2 c2) 56 3 5 Tryz.underlying56 hs_u8 (Nat.le_refl _) hb3 (holdsB hnwH.out) (by rw[hacc2l,hwnH.out];omega);rw[hacc2l,hwnH.out]at hr4;have R:RpRel l old new K N w (.int .i64 ((acc.length:Int)+(ix:Int)+(n2:Int))) (.int .i64 ((st:Int)+(ix:Int)+(n1:Int))) (.int .i64 ((i:Int)+1)) w4:=by
     refine⟨i+1,st+ix+n1,acc2++new,by omega,by go_num,by go_num,by rw[List.length_append,hacc2l,hwnH.out];go_num,by rw[hlnH.out];omega,?_,?_,hb4⟩
     ·rw[show K-(i+1)=kk by have:=hkkH.out;omega];exact heq3
     ·rw[show K-(i+1)=kk by have:=hkkH.out;omega];exact hcnt2H.out
    clear hacc2e heq3 hb4 hacc2l;obtain⟨hb3H,hbufqH,RH⟩:=hq2 hb3 (hq2 hbufq (Lib.hid R));clear hb3 hbufq R;refine startR (R:=Rk (fun _=>True) (fun _=>True) 10 10) (by kernel_rfl) ?_;have hC:True:=trivial;have i1:(0:Int)≤(st:Int)+(ix:Int):=by omega
    have i2:(st:Int)+(ix:Int)≤(c:Int):=by omega
    have i3:((st:Int)+(ix:Int)).toNat=st+ix:=by omega
    have i4:st≤st+ix:=by omega
    have i5:st+ix-st=ix:=by omega
    refine takeC (i:=0) (d:=some 58) (v:=?_) rfl rfl (by kernel_rfl) (by kernel_rfl) (by kernel_rfl) (by kernel_rfl) (fun _ _ _ h=>h) (Or.inl ⟨by rfl,?_⟩) hC ?_
    rotate_left
    ·(intro w hSw;(try dsimp only at hSw);go_simp;(try with_reducible rfl))
    (try simp only[Act.put,List.setIfInBounds_toArray,List.set_cons_zero,List.set_cons_succ])
    refine takeC (i:=1) (d:=some 59) (v:=?_) rfl rfl (by kernel_rfl) (by kernel_rfl) (by kernel_rfl) (by kernel_rfl) (fun _ _ _ h=>h) (Or.inl ⟨by rfl,?_⟩) hC ?_
    rotate_left
    ·(intro w hSw;(try dsimp only at hSw);go_simp;(try with_reducible rfl))
    (try simp only[Act.put,List.setIfInBounds_toArray,List.set_cons_zero,List.set_cons_succ])
    refine takeC (i:=2) (d:=some 60) (v:=?_) rfl rfl (by kernel_rfl) (by kernel_rfl) (by kernel_rfl) (by kernel_rfl) (fun _ _ _ h=>h) (Or.inl ⟨by rfl,?_⟩) hC ?_
    rotate_left
    ·(intro w hSw;(try dsimp only at hSw);go_simp;(try with_reducible rfl))
    (try simp only[Act.put,List.setIfInBounds_toArray,List.set_cons_zero,List.set_cons_succ])
    refine takeC (i:=3) (d:=some 61) (v:=?_) rfl rfl (by kernel_rfl) (by kernel_rfl) (by kernel_rfl) (by kernel_rfl) (fun _ _ _ h=>h) (Or.inl ⟨by rfl,?_⟩) hC ?_
    rotate_left
    ·(intro w hSw;(try dsimp only at hSw);go_simp;(try with_reducible rfl))
    (try simp only[Act.put,List.setIfInBounds_toArray,List.set_cons_zero,List.set_cons_succ])
    refine takeC (i:=4) (d:=some 62) (v:=?_) rfl rfl (by kernel_rfl) (by kernel_rfl) (by kernel_rfl) (by kernel_rfl) (fun _ _ _ h=>h) (Or.inl ⟨by rfl,?_⟩) hC ?_
    rotate_left
    ·(intro w hSw;(try dsimp only at hSw);go_simp;(try with_reducible rfl))
    (try simp only[Act.put,List.setIfInBounds_toArray,List.set_cons_zero,List.set_cons_succ])
    refine takeC (i:=5) (d:=some 63) (v:=?_) rfl rfl (by kernel_rfl) (by kernel_rfl) (by kernel_rfl) (by kernel_rfl) (fun _ _ _ h=>h) (Or.inl ⟨by rfl,?_⟩) hC ?_
    rotate_left
    ·(intro w hSw;(try dsimp only at hSw);go_simp;(try with_reducible rfl))
    (try simp only[Act.put,List.setIfInBounds_toArray,List.set_cons_zero,List.set_cons_succ])
    refine takeC (i:=6) (d:=some 64) (v:=?_) rfl rfl (by kernel_rfl) (by kernel_rfl) (by kernel_rfl) (by kernel_rfl) (fun _ _ _ h=>h) (Or.inl ⟨by rfl,?_⟩) hC ?_
    rotate_left
    ·(intro w hSw;(try dsimp only at hSw);go_simp;(try with_reducible rfl))
    (try simp only[Act.put,List.setIfInBounds_toArray,List.set_cons_zero,List.set_cons_succ])
    refine takeC (i:=7) (d:=some 65) (v:=.slice (some ⟨b,off+st,none⟩) ix (c-st)) rfl rfl (by kernel_rfl) (by kernel_rfl) (by kernel_rfl) (by kernel_rfl) (fun _ _ _ h=>h) (Or.inl ⟨by rfl,?_⟩) hC ?_
    ·intro w hSw;clear hSw;go_simp
    (try simp only[Act.put,List.setIfInBounds_toArray,List.set_cons_zero,List.set_cons_succ])
    refine oneR (i:=8) (by kernel_rfl) rfl (fun K hK=>?_);refine step_copy rfl (.tmp 61) (.tmp 65) 56 56 rfl _ _ rfl rfl hr3 ?_;have hC3:True:=trivial;refine hK.out _ _ ⟨fun _ _ _=>trivial,fun _ _=>hC3⟩ ?_;clear hK K
    (try simp only[Act.put,List.setIfInBounds_toArray,List.set_cons_zero,List.set_cons_succ])
    refine takeC (i:=9) (d:=some 67) (v:=?_) rfl rfl (by kernel_rfl) (by kernel_rfl) (by kernel_rfl) (by kernel_rfl) (fun _ _ _ h=>h) (Or.inl ⟨by rfl,?_⟩) hC ?_
    rotate_left
    ·(intro w hSw;(try dsimp only at hSw);go_simp;(try with_reducible rfl))
    (try simp only[Act.put,List.setIfInBounds_toArray,List.set_cons_zero,List.set_cons_succ])
    refine oneR (i:=10) (by kernel_rfl) rfl (fun K hK=>?_);go_simp;refine hK.out _ _ ⟨fun h=>absurd rfl h,fun h=>absurd rfl h⟩ ?_;clear hK K
    (try simp only[Act.put,List.setIfInBounds_toArray,List.set_cons_zero,List.set_cons_succ])
    refine doneR (by kernel_rfl) ?_ _;clear hC hC3 hr3;clear hsl1 hsl2;unfold Lib.tailV at hr4
    by_cases hN2:N=acc.length+ix
    ·rw[if_pos hN2,show N-(acc.length+ix)=0 by omega]at hr4;have hN3:=hN2.symm;clear hN2;go_wp2_with (at_builtin;refine Lib.wpList_copy_run _ rfl _ _ 56 56 rfl _ _ rfl rfl hr4 ?_);refine⟨?rel,?measure⟩
     case measure=>(simp[intOf];omega)
     case rel=>first | exact RH.out | exact⟨rfl,RH.out⟩
    ·rw[if_neg hN2]at hr4;go_wp2_with (at_builtin;refine Lib.wpList_copy_run _ rfl _ _ 56 56 rfl _ _ rfl rfl hr4 ?_);refine⟨?rel,?measure⟩
     case measure=>(simp[intOf];omega)
     case rel=>first | exact RH.out | exact⟨rfl,RH.out⟩
   ·obtain rfl:i=K:=by omega
    have hKpos:=hK0;rw[Nat.sub_self]at heq hcnt;have e0:Lib.replaceK old new 0 (l.drop st)=l.drop st:=rfl;rw[e0]at heq;have hnpos:0<n:=by
     rcases Nat.eq_zero_or_pos n with h0 | h0
     ·exfalso;have hl0:l = []:=List.eq_nil_of_length_eq_zero (by omega);have hk:=hKH.out;rw[hl0]at hk;have hone:=honeH.out
      cases old with
      | nil=>exact hone rfl
      | cons x r =>
       have hz:Lib.count [] (x::r)=0:=rfl;omega
     ·exact h0
    obtain⟨b,off,hAe,_⟩:=hsH.out.2.1 hnpos;subst hAe;have hstn:st≤n:=by omega
    have hNe:acc.length+(n-st)=N:=by
     have:=congrArg List.length heq;rw[hNH.out,List.length_append,List.length_drop]at this;omega
    obtain⟨A3,hA3⟩:∃ A3,(if c=st then some (⟨b,off,none⟩:Addr) else some ⟨b,off+st,none⟩)=A3:=⟨_,rfl⟩;have hpart:SlAt RU8 w A3 (n-st) (l.drop st):=by
     have hp:=slAt_partR hsH.out st (n-st) (by omega) rfl;rw[List.take_of_length_le (by rw[List.length_drop];omega)]at hp
     by_cases h:c=st
     ·rw[if_pos h]at hA3;have h0:n-st=0:=by omega
      rw[h0]at hp ⊢;refine⟨hp.1,fun h=>absurd h (by omega),fun x hx=>?_⟩;rw[List.eq_nil_of_length_eq_zero hp.1]at hx
      cases hx
     ·rw[if_neg h]at hA3;rw[← hA3];exact hp
    have hbufq:=buf_drew hbuf;have hsl1:∀ W,(Instr.slice 56 (.slice (some ⟨w.heap.size,0,none⟩) N N) (some (.int .i64 (acc.length:Int))) none none).run Tryz.prog W = .ok (Lib.tailV w.heap.size N acc.length) W:=fun W=>Lib.run_slice_tailV W 56 5 Tryz.underlying56 sz_u8 _ N acc.length (by omega);obtain⟨w3,hr3,hb3⟩:=Lib.copy_part (P:=Tryz.prog) w _ w.heap.size N acc _ (.slice A3 (n-st) (c-st)) 56 3 5 Tryz.underlying56 hs_u8 (Nat.le_refl _) hbufq (holdsB hpart) (by rw[List.length_drop,hlnO];omega);rw[List.length_drop,hlnO]at hr3;rw[heq]at hb3;have hsub:((n-st:Nat):Int)=(n:Int)-(st:Int):=by omega
    have i1:(0:Int)≤(acc.length:Int)+((n-st:Nat):Int):=by omega
    have i2:(acc.length:Int)+((n-st:Nat):Int)≤(N:Int):=by omega
    have i3:((acc.length:Int)+((n-st:Nat):Int)).toNat=N:=by omega
    have R:=hZ'H.out (.returned (.slice (some ⟨w.heap.size,0,none⟩) N N)) w3 ⟨some ⟨w.heap.size,0,none⟩,N,N,rfl,?_,(fun _ ad hA=>by injection hA with hA;subst hA;exact Nat.le_refl _),hb3.below⟩
    case refine_1 =>
     rw[hrpH.out];refine⟨⟨hNH.out,fun _=>⟨_,_,rfl,fun j x hx k v hk=>?_⟩,fun x _=>trivial⟩,Nat.le_refl _,(by show N≤maxLen;unfold maxLen;omega),fun h=>by cases h⟩;have h1:=hb3.holds j x hx;have hk1:k=0:=by
      have:=(List.getElem?_eq_some_iff.1 hk).1;have e:(RU8.vals x).length=1:=rfl;omega
     subst hk1;have hv:v = .int .u8 (x.toNat:Int):=by
      have e:(RU8.vals x)[0]? = some (.int .u8 (x.toNat:Int)):=rfl;rw[e]at hk;injection hk with hk;exact hk.symm
     rw[hv,show 0+j*RU8.size+0=j by show 0+j*1+0=j;omega];exact h1
    clear e0 heq hcnt;obtain⟨hbufH,hbufqH,hpartH,hb3H,hbelH,RH⟩:=hq2 hbuf (hqb hbufq hpart hb3 hbel (Lib.hid R));clear hbuf hbufq hpart hb3 hbel R;go_wp2_with fail;refine startR (R:=Rk (fun _=>True) (fun _=>True) 9 9) (by kernel_rfl) ?_;have hC:True:=trivial;refine takeC (i:=0) (d:=some 120) (v:=?_) rfl rfl (by kernel_rfl) (by kernel_rfl) (by kernel_rfl) (by kernel_rfl) (fun _ _ _ h=>h) (Or.inl ⟨by rfl,?_⟩) hC ?_
    rotate_left
    ·(intro w hSw;(try dsimp only at hSw);go_simp;(try with_reducible rfl))
    (try simp only[Act.put,List.setIfInBounds_toArray,List.set_cons_zero,List.set_cons_succ])
    refine takeC (i:=1) (d:=some 121) (v:=?_) rfl rfl (by kernel_rfl) (by kernel_rfl) (by kernel_rfl) (by kernel_rfl) (fun _ _ _ h=>h) (Or.inl ⟨by rfl,?_⟩) hC ?_
    rotate_left
    ·(intro w hSw;(try dsimp only at hSw);go_simp;(try with_reducible rfl))
    (try simp only[Act.put,List.setIfInBounds_toArray,List.set_cons_zero,List.set_cons_succ])
    refine takeC (i:=2) (d:=some 122) (v:=?_) rfl rfl (by kernel_rfl) (by kernel_rfl) (by kernel_rfl) (by kernel_rfl) (fun _ _ _ h=>h) (Or.inl ⟨by rfl,?_⟩) hC ?_
    rotate_left
    ·(intro w hSw;(try dsimp only at hSw);go_simp;(try with_reducible rfl))
    (try simp only[Act.put,List.setIfInBounds_toArray,List.set_cons_zero,List.set_cons_succ])
    refine takeC (i:=3) (d:=some 123) (v:=?_) rfl rfl (by kernel_rfl) (by kernel_rfl) (by kernel_rfl) (by kernel_rfl) (fun _ _ _ h=>h) (Or.inl ⟨by rfl,?_⟩) hC ?_
    rotate_left
    ·(intro w hSw;(try dsimp only at hSw);go_simp;(try with_reducible rfl))
    (try simp only[Act.put,List.setIfInBounds_toArray,List.set_cons_zero,List.set_cons_succ])
    refine takeC (i:=4) (d:=some 124) (v:=?_) rfl rfl (by kernel_rfl) (by kernel_rfl) (by kernel_rfl) (by kernel_rfl) (fun _ _ _ h=>h) (Or.inl ⟨by rfl,?_⟩) hC ?_
    rotate_left
    ·(intro w hSw;(try dsimp only at hSw);go_simp;(try with_reducible rfl))
    (try simp only[Act.put,List.setIfInBounds_toArray,List.set_cons_zero,List.set_cons_succ])
    refine takeC (i:=5) (d:=some 125) (v:=?_) rfl rfl (by kernel_rfl) (by kernel_rfl) (by kernel_rfl) (by kernel_rfl) (fun _ _ _ h=>h) (Or.inl ⟨by rfl,?_⟩) hC ?_
    rotate_left
    ·(intro w hSw;(try dsimp only at hSw);go_simp;(try with_reducible rfl))
    (try simp only[Act.put,List.setIfInBounds_toArray,List.set_cons_zero,List.set_cons_succ])
    refine takeC (i:=6) (d:=some 126) (v:=?_) rfl rfl (by kernel_rfl) (by kernel_rfl) (by kernel_rfl) (by kernel_rfl) (fun _ _ _ h=>h) (Or.inl ⟨by rfl,?_⟩) hC ?_
    rotate_left
    ·(intro w hSw;(try dsimp only at hSw);go_simp;(try with_reducible rfl))
    (try simp only[Act.put,List.setIfInBounds_toArray,List.set_cons_zero,List.set_cons_succ])
    refine oneR (i:=7) (by kernel_rfl) rfl (fun K hK=>?_);refine step_copy rfl (.tmp 123) (.tmp 126) 56 56 rfl _ _ rfl rfl hr3 ?_;have hC3:True:=trivial;refine hK.out _ _ ⟨fun _ _ _=>trivial,fun _ _=>hC3⟩ ?_;clear hK K
    (try simp only[Act.put,List.setIfInBounds_toArray,List.set_cons_zero,List.set_cons_succ])
    refine takeC (i:=8) (d:=some 128) (v:=?_) rfl rfl (by kernel_rfl) (by kernel_rfl) (by kernel_rfl) (by kernel_rfl) (fun _ _ _ h=>h) (Or.inl ⟨by rfl,?_⟩) hC ?_
    rotate_left
    ·(intro w hSw;(try dsimp only at hSw);go_simp;(try with_reducible rfl))
    (try simp only[Act.put,List.setIfInBounds_toArray,List.set_cons_zero,List.set_cons_succ])
    refine oneR (i:=9) (by kernel_rfl) rfl (fun K hK=>?_);go_simp;refine hK.out _ _ ⟨fun h=>absurd rfl h,fun h=>absurd rfl h⟩ ?_;clear hK K
    (try simp only[Act.put,List.setIfInBounds_toArray,List.set_cons_zero,List.set_cons_succ])
    refine doneR (by kernel_rfl) ?_ _;clear hC hC3 hr3;go_wp2_with fail;exact RH.out
theorem replaceAll_any (A:Option Addr) (n c:Nat) (l:List UInt8) (b1 o1 n1 c1:Nat) (old:List UInt8) (A2:Option Addr) (n2 c2:Nat) (new:List UInt8) (w:World) (hm:MaxLenAt w) (hl:(RSl RU8).ok w ⟨A,n,c,l⟩) (ho:SlAt RU8 w (some ⟨b1,o1,none⟩) n1 old) (hnw:SlAt RU8 w A2 n2 new)
  (hn:n≤100000) (hn1:1≤n1) (hn1b:n1≤300) (hn2:n2≤300) :
  Calls Tryz.prog 97 #[.slice A n c,.slice (some ⟨b1,o1,none⟩) n1 c1,.slice A2 n2 c2] w (RpAns l old new w):=by
 obtain⟨Z,hZ⟩:∃ Z,RpAns l old new w=Z:=⟨_,rfl⟩;have hZ':∀ e W,RpAns l old new w e W→Z e W:=fun e W h=>by rw[← hZ];exact h
 have hcall:=replace_any A n c l b1 o1 n1 c1 old A2 n2 c2 new w hm hl ho hnw hn hn1 hn1b hn2;rw[hZ];clear hZ hl ho hnw;obtain⟨hcallH,hZ'H⟩:=hq2 hcall (Lib.hid hZ');clear hcall hZ';go_enter Tryz.func97,Tryz.ntmps97;go_wp2_with fail;refine hcallH.out.mono ?_;rintro e w1 ⟨A3,m3,c3,rfl,h1,h2,h3⟩;have R:=hZ'H.out _ _ ⟨A3,m3,c3,rfl,h1,h2,h3⟩;clear h1 h2 h3;have RH:=Lib.hid R;clear R;go_wp2_with fail;exact RH.out
end Go.Proofs.YtdiaabeollcjaaaGreatDoor.C10