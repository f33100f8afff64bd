/-
 Several texts of mine as one, without what is not wanted here: XToT, XTtD.
-/
import Derived.Test.YtpdjjjiknijpkaaGreatDoorTvUC10
import Derived.Test.YtpdjjjiknijpkaaGreatDoorTvGh
set_option linter.unusedVariables false
set_option linter.unusedSimpArgs false
set_option maxRecDepth 100000
set_option maxHeartbeats 8000000
namespace Go.Proofs.YtpdjjjiknijpkaaGreatDoor.C10
open Go.ChangeShapes Go.WideShapes Go.Deep Go.RowKit Go.Lib Go.Maps
def tRoot (l:List File):ByteArray:=digF (TD 200 (l.map tfOf))
def tCs (l:List File):List Byt:=Cs 200 (l.map tfOf)
structure ObjsOf (l:List File) (O:List ObT):Prop where
 ord:O.Pairwise fun a b=>cmpS a.dig b.dig = -1
 mem:∀ x∈O,Fd (tCs l) x.dig=some x.bytes.l
 all:∀ d bs,Fd (tCs l) d=some bs→∃ x∈O,x.dig=d
def ToAns (l:List File) (w:World) (e:Ending) (w':World):Prop :=
 Below w.heap.size w w'∧((∃ k:Int,k≠0∧e = .returned (.tuple #[.string ⟨#[]⟩,.slice none 0 0,.int .i64 k])) ∨
  (FilesX l∧∃ A n c O,n≤4000∧e = .returned (.tuple #[.string (tRoot l),.slice A n c,.int .i64 0])∧SlAt ROb w' A n O∧ObjsOf l O))
def ToRel (f:ByteArray→Option SV) (F:ByteArray→Option Byt) (M cM r:Nat) (W3:World) (v:Value) (wr:World):Prop :=
 ∃ (left:ByteArray→Bool) (cnt:Nat) (L:List ObT) (A:Option Addr) (n cap:Nat),v = .slice A n cap∧TRange KSV valV wr M r cM f left cnt∧Own ROv 41 wr (r+1) v L∧(L.Pairwise fun a b=>a.dig≠b.dig) ∧
  (∀ s,s.size≤maxLen→((∃ x∈L,x.dig=s)↔left s=false∧(f s).isSome=true))∧(∀ x∈L,x.dig.size≤maxLen∧F x.dig=some x.bytes.l∧(RSl RU8).ok W3 x.bytes)∧L.length+cnt≤cM∧Below W3.heap.size W3 wr∧r+1≤wr.heap.size
theorem treeOf_any (A:Option Addr) (m cap:Nat) (l:List File) (w:World) (hmx:MaxLenAt w) (hl:(RSl RFile).ok w ⟨A,m,cap,l⟩) :
  Calls Tryz.prog 4 #[.slice A m cap] w (ToAns l w):=by
 obtain⟨Z,hZ⟩:∃ Z,ToAns l w=Z:=⟨_,rfl⟩;have hZ':∀ e W,ToAns l w e W→Z e W:=fun e W h=>by rw[← hZ];exact h
 rw[hZ];clear hZ;have hlm:l.length=m:=hl.1.1;have hmk:=@run_makeMap Tryz.prog;obtain⟨hZ'H,hmxH,hlH⟩:=hq2 hZ' (hq2 hmx (Lib.hid hl));clear hZ' hmx hl;go_enter Tryz.func4,Tryz.ntmps4;go_wp2_with fail;refine(checkFiles_x A m cap l w hmxH.out hlH.out.1).mono ?_;rintro e w1 ⟨kf,rfl,hb1,hkx⟩
 by_cases hk0:kf=0
 ·subst hk0;have hX:=hkx.1 rfl;have hm1:=hX.len;have hwf:=wf_of hX;have hmx1:=hmxH.out.below hb1;have hl1:=(RSl RFile).mono _ _ _ hb1 hlH.out;obtain⟨W2,hW2⟩:∃ W,(w1.alloc (.map #[] 0)).alloc (.cells #[.map (some w1.heap.size)] 50)=W:=⟨_,rfl⟩;have hb12:Below w1.heap.size w1 W2:=by rw[← hW2];exact((Below.refl _ _).alloc (Nat.le_refl _) _).alloc (by simp) _
  have hwb:W2.cell? ⟨w1.heap.size+1,0,none⟩=some (.map (some w1.heap.size)):=by
   rw[← hW2];have:=cell_new (w1.alloc (.map #[] 0)) #[.map (some w1.heap.size)] 50 0;simp only[World.size_alloc]at this;rw[this];rfl
  have hm2:TMap KSV valV W2 w1.heap.size (fun _=>none) 0:=by rw[← hW2];exact(TMap.made w1 KSV valV).alloc _
  have hF0:FoundAt W2 w1.heap.size (fun _=>none) 0:=⟨_,hm2,fun d=>.inl ⟨rfl,rfl⟩⟩;have hmx2:=hmx1.below hb12;have hl2:=(RSl RFile).mono _ _ _ hb12 hl1;have hcsn:=Cs_count partT 200 (l.map tfOf);rw[List.length_map]at hcsn;have hcnt:0+(Cs (199+1) (l.map tfOf)).length≤1000000:=by
   have:l.length*200≤1000*200:=Nat.mul_le_mul_right _ hm1;show 0+(Cs 200 (l.map tfOf)).length≤1000000;omega
  have hrow:∀ y∈l,pathB y.path=true∧y.bytes.l.length≤100000:=fun y hy=>by
   obtain⟨j,hj,rfl⟩:=List.mem_iff_getElem.1 hy;exact hX.row j _ (List.getElem?_eq_getElem hj)
  have hdir:=dir_any partT 199 (by omega) (w1.heap.size+1) w1.heap.size (fun _=>none) 0 A m cap l W2 hwb hF0 hmx2 hl2 (by omega) (fun y hy=>pathB_le (hrow y hy).1) (fun y hy=>(hrow y hy).2) hwf hcnt;have hb02:=hb1.trans (hb12.mono hb1.size);have hw0:=hb1.size;obtain⟨mb,hmb⟩:∃ b,w1.heap.size=b:=⟨_,rfl⟩;have hmbw:w.heap.size≤mb:=by omega
  rw[hmb]at hdir hwb hm2 hF0 hW2;obtain⟨hb1H,hXH,hwfH,hmx1H,hl1H,hb12H,hF0H,hmx2H,hl2H,hcsnH,hcntH,hrowH,hdirH,hb02H,hm2H,hkxH,hW2H⟩:=hqc hb1 hX hwf hmx1 hl1 hb12 hF0 hmx2 (hqc hl2 hcsn hcnt hrow hdir hb02 hm2 hkx (Lib.hid hW2));clear hb1 hX hwf hmx1 hl1 hb12 hF0 hmx2 hl2 hcsn hcnt hrow hdir hb02 hm2 hkx hW2;go_wp2_with fail;rw[hW2H.out];refine hdirH.out.mono ?_;rintro e w3 ⟨rfl,⟨cM,hcM,hF3⟩,hkp3,hck3⟩;have hwb3:=hck3 _ _ hwb;obtain⟨f,hf,hf2⟩:=hF3;have hb03:Below w.heap.size w w3:=hb02H.out.trans (hkp3.below hb02H.out.size fun k hk=>by rw[hk];exact hmbw);have hcM2:cM≤1000000:=by have h:=hcntH.out;omega
  clear hkp3 hck3;obtain⟨hfH,hf2H,hb03H⟩:=hq2 hf (hq2 hf2 (Lib.hid hb03));clear hf hf2 hb03
  by_cases hc4:cM≤4000
  ·have ic:¬ (4000:Int)<(cM:Int):=by omega
   go_wp2_with (first | (at_len;go_loud (refine wpList_tlen rfl (.tmp 25) 48 rfl Tryz.underlying48 rfl hfH.out ?_)) | (at_range;go_loud (refine wpList_trange rfl (.tmp 31) 48 rfl Tryz.underlying48 rfl hfH.out ?_);intro w4 hr4 hg4 hs4;have hr4H:=Lib.hid hr4;clear hr4;have hg4H:=Lib.hid hg4;clear hg4))
   try go_frame
   go_loopw [8] (fun v wr=>ToRel f (Fd (tCs l)) mb cM w3.heap.size w3 v wr) (fun v wr=>wr.rangeLeft mb w3.heap.size)
   case atStart =>
    refine⟨_,cM,[],none,0,0,rfl,hr4H.out,Own.nil _ _,List.Pairwise.nil,fun s hs=>⟨fun ⟨x,hx,_⟩=>(by cases hx),?_⟩,fun x hx=>(by cases hx),by simp,(Below.refl _ _).grown hg4H.out (Nat.le_refl _) (fun k hk=>by cases hk),by omega⟩;rintro⟨h1,h2⟩;rw[h1]at h2;cases h2
   case round =>
    obtain⟨left,cnt,L,A3,n3,cap3,rfl,hr,hown,hnd,hmem,hel,hcn,hb3,hsz3⟩:=hrel;have hrl:=hr.left_eq;have hn3:=hown.len;have hb3s:=hb3.size;obtain⟨hrH,hownH,hndH,hmemH,helH,hb3H,hrlH⟩:=hq2 hr (hq2 hown (hqb hnd hmem hel hb3 (Lib.hid hrl)));clear hr hown hnd hmem hel hb3 hrl;go_wp2_with (at_next;go_loud (refine wpList_tnext rfl (.tmp 32) rfl rfl injV hrH.out ?_ ?_))
    ·intro hc0 hl0;have hl0H:=Lib.hid hl0;clear hl0;go_wp2_with fail;refine(sortOb_any A3 n3 cap3 L wr _ hownH.out (by omega)).mono ?_;rintro e w6 ⟨rfl,L',hp,hso,hown6,hg6⟩;have hb6:Below w3.heap.size w3 w6:=hb3H.out.trans ((Below.refl _ _).grown hg6 hb3s (fun k hk=>by have:=(hownH.out.1.lt k hk).1;omega));have hsl:=hown6.slAt;have hel':∀ x∈L',x.dig.size≤maxLen∧Fd (tCs l) x.dig=some x.bytes.l∧(RSl RU8).ok w3 x.bytes:=fun x hx=>helH.out x (hp.mem_iff.1 hx);have hob:ObjsOf l L':=by
      refine⟨?_,fun x hx=>(hel' x hx).2.1,fun d bs hd=>?_⟩
      ·have h2:L'.Pairwise fun a b=>a.dig≠b.dig:=(hp.pairwise_iff (fun h=>Ne.symm h)).2 hndH.out;refine(hso.and h2).imp fun {a b} h=>?_
       rcases cmpS_range a.dig b.dig with e | e | e
       ·exact e
       ·exact absurd ((cmpS_zero _ _).1 e) h.2
       ·have:=h.1;omega
      ·have hdd:=(Fd_some hd).1;have hz:d.size≤maxLen:=by rw[hdd,digF_size];decide
       have hfd:(f d).isSome=true:=by
        rcases hf2H.out d with ⟨_,h⟩ | ⟨v,bs',h1,_,_⟩
        ·have hd':(Cs (199+1) (l.map tfOf)).foldl putF (fun _=>none) d=some bs:=hd;rw[h]at hd';cases hd'
        ·rw[h1];rfl
       obtain⟨x,hx,hxd⟩:=(hmemH.out d hz).2 ⟨hl0H.out d hz,hfd⟩;exact⟨x,hp.mem_iff.2 hx,hxd⟩
     have hL'n:n3≤4000:=by omega
     have R:=hZ'H.out (.returned (.tuple #[.string (tRoot l),.slice A3 n3 cap3,.int .i64 0])) w6 ⟨hb03H.out.trans (hb6.mono hb03H.out.size),.inr ⟨hXH.out,A3,n3,cap3,L',hL'n,rfl,slAt_ob hsl fun x hx=>(RSl RU8).mono _ _ _ hb6 (hel' x hx).2.2,hob⟩⟩;clear hp hso hown6 hg6 hb6 hsl hel' hob;have RH:=Lib.hid R;clear R;go_wp2_with fail
     go_ret3
     exact RH.out
    ·intro tn y w5 cnt5 hgood hleft hfx hr5 hlt5 hg5 hs5 hen;obtain⟨yA,yn,yc⟩:=y;replace hen:(Instr.entry (.pointer (some ⟨w3.heap.size,0,none⟩))).run Tryz.prog w5 = .ok (.tuple #[.string tn,.slice yA yn yc]) w5:=hen;have hgd:tn.size≤maxLen:=hgood;have hb5:Below w3.heap.size w3 w5:=hb3H.out.trans (grown_below hg5 (by omega) hb3s);obtain⟨bs,hFb,hub⟩:∃ bs,Fd (tCs l) tn=some bs∧(RSl RU8).ok w3 ⟨yA,yn,yc,bs⟩:=by
      rcases hf2H.out tn with ⟨h,_⟩ | ⟨v,bs,h1,h2,h3⟩
      ·rw[hfx]at h;cases h
      ·rw[hfx]at h1;injection h1 with h1;subst h1;exact⟨bs,h2,h3⟩
     have hown5:Own ROv 41 w5 (w3.heap.size+1) (.slice A3 n3 cap3) L:=hownH.out.kept hg5 (by
      cases hv:(Value.slice A3 n3 cap3).ownBlock with
      | none=>exact .inl rfl
      | some g=>exact .inr (fun e=>by injection e with e;have:=(hownH.out.1.lt g hv).1;omega)) (fun _ _ h=>h)
     have hleft2:∀ s,s.size≤maxLen→((left s && !decide (s=tn))=false↔left s=false∨s=tn):=fun s hs=>by cases hL:left s <;> by_cases e0:s=tn <;> simp[e0]
     have hnL:∀ x∈L,x.dig≠tn:=fun x hx e=>by have:=((hmemH.out tn hgd).1 ⟨x,hx,e⟩).1;rw[hleft]at this;cases this
     have hlr:w5.rangeLeft mb w3.heap.size<wr.rangeLeft mb w3.heap.size:=by rw[hr5.left_eq,hrlH.out];exact hlt5
     have hw5s:w3.heap.size+1≤w5.heap.size:=by rw[hs5];exact hsz3
     have hrow5:SlAt ROv (w5.alloc (.cells #[.string tn,.slice yA yn yc] 41)) (some ⟨w5.heap.size,0,none⟩) 1 [⟨tn,⟨yA,yn,yc,bs⟩⟩]:=slAt_new (R:=ROv) w5 41 (⟨tn,⟨yA,yn,yc,bs⟩⟩:ObT) trivial;have hba5:Below w5.heap.size w5 (w5.alloc (.cells #[.string tn,.slice yA yn yc] 41)):=(Below.refl _ _).alloc (Nat.le_refl _) _;have hown5a:=hown5.below hba5;have hr5a:=hr5.alloc (.cells #[.string tn,.slice yA yn yc] 41);have hcn5:L.length+1+cnt5≤cM:=by omega
     have hfsome:(f tn).isSome=true:=by rw[hfx];rfl
     have hle2:n3+1≤4001:=by omega
     clear hgood hg5 hs5 hown5;obtain⟨hr5H,hr5aH,hb5H,hFbH,hubH,hown5aH,hleft2H,hnLH,hlrH,hrow5H,hba5H,hfxH,hleftH⟩:=hqb hr5 hr5a hb5 hFb (hqc hub hown5a hleft2 hnL hlr hrow5 hba5 hfx (Lib.hid hleft));clear hr5 hr5a hb5 hFb hub hown5a hleft2 hnL hlr hrow5 hba5 hfx hleft;go_wp2_with (at_builtin;go_loud (refine wpList_app rfl (.tmp 38) (.tmp 42) 24 rfl Tryz.underlying24 elem_ObT (by decide) rfl hown5aH.out (some ⟨w5.heap.size,0,none⟩) 1 1 [⟨tn,⟨yA,yn,yc,bs⟩⟩] rfl hrow5H.out ?nn ?ok ?c1 ?c2 ?c3 (n3+1) ?c4 ?_))
     case nn=>intro h;cases h
     case ok=>exact fun _ _ _ _ h=>h
     case c1=>unfold maxLen;omega
     case c2=>omega
     case c3=>simp;omega
     case c4=>omega
     intro A' c' w8 hown8 hg8 hat8 hb8;have hg8r:w5.grownBy w8 (Value.slice A3 n3 cap3).ownBlock:=by
      refine⟨hg8.os,hg8.tape,hg8.output,by have:=hg8.size;simp at this;omega,fun k hk hne=>(hg8.block k (by simp;omega) hne).trans (hba5H.out.block k hk)⟩
     have hr8:=hr5H.out.kept hg8r (fun e=>by
      have h1:=(hown5aH.out.1.lt mb e.symm).1;have:=hfH.out.lt;omega) (fun e=>by have h1:=(hown5aH.out.1.lt _ e.symm).1;omega)
     have hb8:Below w3.heap.size w3 w8:=(hb5H.out.trans (hba5H.out.mono (by omega))).grown hg8 (by simp;omega) fun k hk=>by have:=(hown5aH.out.1.lt k hk).1;omega
     have hs8:w3.heap.size+1≤w8.heap.size:=by have:=hg8.size;simp at this;omega
     have hlr8:w8.rangeLeft mb w3.heap.size<wr.rangeLeft mb w3.heap.size:=by rw[hr8.left_eq,hrlH.out];exact hlt5
     have R:ToRel f (Fd (tCs l)) mb cM w3.heap.size w3 (.slice A' (n3+1) c') w8:=by
      refine⟨_,cnt5,L ++ [⟨tn,⟨yA,yn,yc,bs⟩⟩],A',n3+1,c',rfl,hr8,hown8,?_,fun s hs=>?_,fun x hx=>?_,by simp;omega,hb8,hs8⟩
      ·rw[List.pairwise_append];exact⟨hndH.out,List.pairwise_singleton _ _,fun a ha b hb=>by rw[List.mem_singleton.1 hb];exact hnLH.out a ha⟩
      ·rw[hleft2H.out s hs]
       constructor
       ·rintro⟨x,hx,rfl⟩
        rcases List.mem_append.1 hx with hx | hx
        ·have:=(hmemH.out x.dig hs).1 ⟨x,hx,rfl⟩;exact⟨.inl this.1,this.2⟩
        ·rw[List.mem_singleton.1 hx];exact⟨.inr rfl,hfsome⟩
       ·rintro⟨h1 | h1,h2⟩
        ·obtain⟨x,hx,e⟩:=(hmemH.out s hs).2 ⟨h1,h2⟩;exact⟨x,List.mem_append_left _ hx,e⟩
        ·subst h1;exact⟨_,List.mem_append_right _ (List.mem_singleton.2 rfl),rfl⟩
      ·rcases List.mem_append.1 hx with hx | hx
       ·exact helH.out x hx
       ·rw[List.mem_singleton.1 hx];exact⟨hgd,hFbH.out,hubH.out⟩
     clear hown8 hg8 hat8 hb8 hg8r hr8 hs8;have RH:=Lib.hid R;clear R;go_wp2;refine⟨?rel,?measure⟩
     case measure=>exact hlr8
     case rel=>exact RH.out
  ·have ic:(4000:Int)<(cM:Int):=by omega
   have R:=hZ'H.out (.returned (.tuple #[.string ⟨#[]⟩,.slice none 0 0,.int .i64 2])) w3 ⟨hb03H.out,.inl ⟨2,by decide,rfl⟩⟩;have RH:=Lib.hid R;clear R;go_wp2_with (at_len;go_loud (refine wpList_tlen rfl (.tmp 25) 48 rfl Tryz.underlying48 rfl hfH.out ?_))
   go_ret3
   exact RH.out
 ·have R:=hZ'H.out (.returned (.tuple #[.string ⟨#[]⟩,.slice none 0 0,.int .i64 kf])) w1 ⟨hb1,.inl ⟨kf,hk0,rfl⟩⟩;have hk0':(kf==0)=false:=by simpa using hk0
  obtain⟨RH,hb1H,hkxH⟩:=hq2 R (hq2 hb1 (Lib.hid hkx));clear R hb1 hkx;go_wp2_with fail
  go_ret3
  exact RH.out
end Go.Proofs.YtpdjjjiknijpkaaGreatDoor.C10
namespace Go.Proofs.YtpdjjjiknijpkaaGreatDoor.C10
open Go.ChangeShapes Go.WideShapes Go.Deep Go.RowKit Go.Lib
theorem SameO.digs {D D':List ObT} (h:SameO D D'):D'.map (fun x=>x.dig)=D.map (fun x=>x.dig):=by
 refine List.ext_getElem? fun j=>?_;rw[List.getElem?_map,List.getElem?_map]
 rcases Nat.lt_or_ge j D.length with hj | hj
 ·have h1:D[j]? = some (D[j]'hj):=List.getElem?_eq_getElem hj;have h2:D'[j]? = some (D'[j]'(by rw[h.1];exact hj)):=List.getElem?_eq_getElem _;rw[h1,h2,Option.map_some,Option.map_some,(h.2 j _ _ h1 h2).1]
 ·rw[List.getElem?_eq_none hj,List.getElem?_eq_none (by rw[h.1];exact hj)]
theorem SameO.mem {D D':List ObT} (h:SameO D D') {y:ObT} (hy:y∈D'):∃ x∈D,y.dig=x.dig∧y.bytes.l=x.bytes.l:=by
 obtain⟨j,hj,rfl⟩:=List.getElem_of_mem hy;have hj2:j<D.length:=by rw[← h.1];exact hj
 have:=h.2 j _ _ (List.getElem?_eq_getElem hj2) (List.getElem?_eq_getElem hj);exact⟨_,List.getElem_mem hj2,this⟩
theorem SameO.ord {D D':List ObT} (h:SameO D D') (hs:D.Pairwise fun a b=>cmpS a.dig b.dig = -1):D'.Pairwise fun a b=>cmpS a.dig b.dig = -1:=by
 have h1:(D.map fun x=>x.dig).Pairwise fun a b=>cmpS a b = -1:=List.pairwise_map.2 hs;rw[← h.digs]at h1;exact List.pairwise_map.1 h1
theorem SameO.good {L:List TFi} {D D':List ObT} (h:SameO D D') (hg:Good L D):Good L D':=fun y hy=>by
 obtain⟨x,hx,e1,e2⟩:=h.mem hy;rw[e1,e2];exact hg x hx
theorem SameO.ins {D D':List ObT} (h:SameO D D') {d:ByteArray}:InS D' d↔InS D d:=by
 have h1:∀ (X:List ObT),InS X d↔d∈X.map (fun x=>x.dig):=fun X=>by
  constructor
  ·rintro⟨x,hx,rfl⟩;exact List.mem_map.2 ⟨x,hx,rfl⟩
  ·intro hd;obtain⟨x,hx,e⟩:=List.mem_map.1 hd;exact⟨x,hx,e⟩
 rw[h1,h1,h.digs]
theorem PutO.len {D D':List ObT} {x:ObT} (h:PutO D x D'):D'.length=D.length+1:=by
 obtain⟨k,rfl⟩:=h;have:=congrArg List.length (List.take_append_drop k D);simp only[List.length_append,List.length_cons]at this ⊢;omega
theorem PutO.ins {D D':List ObT} {x:ObT} (h:PutO D x D') {d:ByteArray} (hd:InS D' d):InS D d∨d=x.dig:=by
 obtain⟨y,hy,e⟩:=hd
 rcases puto_mem h y hy with h1 | h1
 ·exact .inl ⟨y,h1,e⟩
 ·exact .inr (by rw[← e,h1])
theorem PutO.good {L:List TFi} {D D':List ObT} {x:ObT} (h:PutO D x D') (hg:Good L D) (hx:x.bytes.l∈Cs 200 L∧x.dig=digF x.bytes.l):Good L D':=fun y hy=>by
 rcases puto_mem h y hy with h1 | h1
 ·exact hg y h1
 ·rw[h1];exact hx
theorem ObjsOf.good {l:List File} {O:List ObT} (h:ObjsOf l O) {x:ObT} (hx:x∈O):x.bytes.l∈Cs 200 (l.map tfOf)∧x.dig=digF x.bytes.l:=by
 have h1:=Fd_some (h.mem x hx);exact⟨h1.2,h1.1⟩
theorem ObjsOf.has {l:List File} {O:List ObT} (h:ObjsOf l O) (hf:Faith (Cs 200 (l.map tfOf))) {b:Byt} (hb:b∈Cs 200 (l.map tfOf)):∃ x∈O,x.dig=digF b:=h.all _ b (Fd_mem hf hb)
theorem room {l:List File} {O D:List ObT} (h:ObjsOf l O) (hf:Faith (Cs 200 (l.map tfOf))) (hg:Good (l.map tfOf) D) (hs:D.Pairwise fun a b=>cmpS a.dig b.dig = -1) {d:ByteArray} (hd:¬ InS D d) {b:Byt} (hb:b∈Cs 200 (l.map tfOf)) (hdb:d=digF b):D.length<O.length:=by
 have hnd:(D.map fun x=>x.dig.data.toList).Nodup:=by
  refine List.pairwise_map.2 (hs.imp fun {a b} hab e=>?_);have e2:a.dig=b.dig:=by
   have:a.dig.data=b.dig.data:=Array.toList_inj.1 e;exact ByteArray.ext this
  rw[(cmpS_zero _ _).2 e2]at hab;exact absurd hab (by decide)
 have hn:((d::D.map fun x=>x.dig).map fun s=>s.data.toList).Nodup:=by
  rw[List.map_cons,List.map_map];refine List.nodup_cons.2 ⟨fun hm=>?_,hnd⟩;obtain⟨x,hx,e⟩:=List.mem_map.1 hm;exact hd ⟨x,hx,ByteArray.ext (Array.toList_inj.1 e)⟩
 have hsub:∀ s∈(d::D.map fun x=>x.dig).map (fun s=>s.data.toList),s∈(O.map fun x=>x.dig).map fun s=>s.data.toList:=fun s hs=>by
  obtain⟨e,he,rfl⟩:=List.mem_map.1 hs;have:∃ x∈O,x.dig=e:=by
   rcases List.mem_cons.1 he with he | he
   ·rw[he,hdb];exact h.has hf hb
   ·obtain⟨x,hx,rfl⟩:=List.mem_map.1 he;have h1:=hg x hx;rw[h1.2];exact h.has hf h1.1
  obtain⟨x,hx,rfl⟩:=this;exact List.mem_map.2 ⟨_,List.mem_map.2 ⟨x,hx,rfl⟩,rfl⟩
 have:=nodup_lenM hn hsub;simp only[List.length_map,List.length_cons]at this;omega
end Go.Proofs.YtpdjjjiknijpkaaGreatDoor.C10