/-
 Several texts of mine as one, without what is not wanted here: XNdD.
-/
import Derived.Test.YtpdjjjiknijpkaaGreatDoorTvFC10
set_option linter.unusedVariables false
set_option linter.unusedSimpArgs false
set_option maxRecDepth 100000
set_option maxHeartbeats 8000000
namespace Go.Proofs.YtpdjjjiknijpkaaGreatDoor.C10
open Go.ChangeShapes Go.WideShapes Go.Deep Go.RowKit Go.Lib
theorem addN_none {f:TFi} (hc:(cutP f.path).2=none):∀ (l:List TN),addN l f=l ++ [⟨(cutP f.path).1,some f,[]⟩]
 | []=>by unfold addN;rw[hc];rfl
 | [x]=>by unfold addN;rw[hc];rfl
 | x::y::t=>by rw[addN,addN_none hc (y::t)];rfl
theorem addN_new {f:TFi} {r:Byt} (hc:(cutP f.path).2=some r):∀ (l:List TN),(∀ x,l.getLast? = some x→¬ (x.file=none∧x.name=(cutP f.path).1))→addN l f=l ++ [⟨(cutP f.path).1,none,[cutF f r]⟩]
 | [],_=>by unfold addN;rw[hc];rfl
 | [x],h=>by unfold addN;rw[hc];simp only;rw[if_neg (h x rfl)];rfl
 | x::y::t,h=>by rw[addN,addN_new hc (y::t) (fun z hz=>h z (by rw[List.getLast?_cons_cons];exact hz))];rfl
theorem addN_old {f:TFi} {r:Byt} (hc:(cutP f.path).2=some r):∀ (l:List TN) (x:TN),l.getLast? = some x→x.file=none→x.name=(cutP f.path).1→addN l f=l.set (l.length-1) ⟨x.name,none,x.sub ++ [cutF f r]⟩
 | [],x,h,_,_=>by cases h
 | [z],x,h,h1,h2=>by
  injection h with h;subst h;unfold addN;rw[hc];simp only;rw[if_pos ⟨h1,h2⟩];rfl
 | z::y::t,x,h,h1,h2=>by
  rw[List.getLast?_cons_cons]at h;rw[addN,addN_old hc (y::t) x h h1 h2];rfl
theorem cell_grown {w w':World} {row:Option Nat} (hg:w.grownBy w' row) {a:Addr} {v:Value} (h:w.cell? a=some v) (hne:some a.block≠row):w'.cell? a=some v :=
 (World.cell?_of_block (w:=w) (hg.block a.block (cell?_lt h) hne)).trans h
theorem own_fz {α:Type} {R:Rd α} {e:TypeId} {w:World} {base g n cap:Nat} {l:List α} (h:Own R e w base (.slice (some ⟨g,0,none⟩) n cap) l) (j:Nat):w.frozen? ⟨g,j,none⟩=false:=by
 rcases h.1.2 with ⟨h1,_⟩ | ⟨g',cap',cur,hvv,_,hg,_⟩
 ·cases h1
 ·injection hvv with q1 _ _;injection q1 with q1;injection q1 with q1 _ _;subst q1;simp[World.frozen?,hg]
theorem sub_len (l:List TFi) (x:TN) (hx:x∈grp l):x.sub.length≤l.length:=by
 have hs:=node_sub hx
 cases hf:x.file with
 | some f=>rw[((grp_ok l x hx).file f hf).2];exact Nat.zero_le _
 | none =>
  have e:filesN x=x.sub.map (backF x.name):=by unfold filesN;rw[hf]
  rw[e]at hs;have:=hs.length_le
  rwa [List.length_map]at this
theorem elem_FileT:Elem Tryz.prog 95 RFile.size 48:=elem_of (z:=.agg #[.string ⟨#[]⟩,.bool false,.slice none 0 0]) (by kernel_rfl) (by decide)
theorem slAt_ltT {α:Type} {R:Rd α} {w:World} {b off n:Nat} {l:List α} (h:SlAt R w (some ⟨b,off,none⟩) n l) (h0:0<n) (hs:0<R.size):b<w.heap.size:=by
 obtain⟨b',o',hA,hc⟩:=h.2.1 h0;injection hA with hA;injection hA with h1 _ _;subst h1;obtain⟨x,hx⟩:∃ x,l[0]? = some x:=⟨l[0]'(by have:=h.1;omega),List.getElem?_eq_getElem _⟩;obtain⟨v,hv⟩:∃ v,(R.vals x)[0]? = some v:=⟨(R.vals x)[0]'(by rw[R.len];exact hs),List.getElem?_eq_getElem _⟩;exact cell?_lt (hc 0 x hx 0 v hv)
def nmF (y:File):ByteArray:=⟨(cutP y.path.data.toList).1.toArray⟩
def NlRel (W0:World) (b off:Nat) (l:List File) (C:List ByteArray) (v i:Value) (wr:World):Prop :=
 ∃ (k:Nat) (A:Option Addr) (n c:Nat) (D:List NV),k≤l.length∧i = .int .i64 k∧v = .slice A n c∧n≤k∧NdR W0 b off l C wr (.slice A n c) D (grp ((l.take k).map tfOf))
theorem elem_Node:Elem Tryz.prog 105 3 48:=elem_of (z:=.agg #[.string ⟨#[]⟩,.pointer none,.slice none 0 0]) (by kernel_rfl) (by decide)
theorem own_form {α:Type} {R:Rd α} {e:TypeId} {w:World} {base:Nat} {A:Option Addr} {n c:Nat} {l:List α} (h:Own R e w base (.slice A n c) l) (hn:0<n):∃ g,A=some ⟨g,0,none⟩:=by
 rcases h.1.2 with ⟨h1,_⟩ | ⟨g,cap',cur,hvv,_⟩
 ·injection h1 with _ h2 _;omega
 ·injection hvv with h1 _ _;exact⟨g,h1⟩
theorem nodes_loop (b off m cap:Nat) (l:List File) (W0:World) (hmx:MaxLenAt W0) (hl:SlAt RFile W0 (some ⟨b,off,none⟩) m l) (hm:m≤1000) (hz:∀ y∈l,y.path.size≤200) (Z:Ending→World→Prop)
  (hend:∀ (A:Option Addr) (n c:Nat) (D:List NV) (w1:World),n≤m→NdR W0 b off l (l.map nmF) w1 (.slice A n c) D (grp (l.map tfOf)) →
   Calls Tryz.prog 70 #[.slice A n c,gV] w1 fun e w'=>e = .returned (.tuple #[])∧Z (.returned (.slice A n c)) w') :
  Calls Tryz.prog 40 #[.slice (some ⟨b,off,none⟩) m cap] W0 Z:=by
 have hln:=hl.1;have hst:NlRel W0 b off l (l.map nmF) (.slice none 0 0) (.int .i64 0) W0:=⟨0,none,0,0,[],Nat.zero_le _,rfl,rfl,Nat.le_refl _,NdR.start (Below.refl _ _)⟩;obtain⟨C,hC⟩:∃ C,l.map nmF=C:=⟨_,rfl⟩;rw[hC]at hst hend;have hend':=hend;unfold gV at hend';clear hend;obtain⟨hmxH,hlH,hzH,hend'H,hstH,hCH⟩:=hq2 hmx (hqb hl hz hend' hst (Lib.hid hC));clear hmx hl hz hend' hst hC;go_enter Tryz.func40,Tryz.ntmps40;go_wp2_with fail
 go_loopw [3,11] (fun v i wr=>NlRel W0 b off l C v i wr) (fun _ i _=>m-(intOf i).toNat)
 case atStart=>exact hstH.out
 case round =>
  clear hstH;obtain⟨k,A,n,c,D,hk,rfl,rfl,hnk,hNd⟩:=hrel
  by_cases hlt:k<m
  ·obtain⟨y,hy⟩:∃ y,l[k]? = some y:=⟨l[k]'(by omega),List.getElem?_eq_getElem _⟩;have hym:=List.mem_of_getElem? hy;have hyz:=hzH.out y hym;have hsl:=hlH.out.below hNd.bel;obtain⟨d0,d1,d2⟩:=cells_File hsl hy;have hyok:=hlH.out.2.2 y hym;have htk:(l.take (k+1)).map tfOf=(l.take k).map tfOf ++ [tfOf y]:=by rw[List.take_add_one,hy];simp
   have hgr:=grp_snoc ((l.take k).map tfOf) (tfOf y);rw[← htk]at hgr;have hnC:nmF y∈C:=by rw[← hCH.out];exact List.mem_map.2 ⟨y,hym,rfl⟩
   obtain⟨mm,hmm⟩:=hmxH.out.below hNd.bel;have hcut:=Tryz.strings_Cut y.path ⟨#[47]⟩ mm wr (by omega) hmm;rw[show (⟨#[47]⟩:ByteArray).data.toList = [47] from rfl,cut_one,cutP_C]at hcut;have hDn:D.length=n:=hNd.own.len;have hYn:(grp ((l.take k).map tfOf)).length=n:=by rw[← hNd.len];exact hDn
   clear htk
   cases hc2:(cutP y.path.data.toList).2 with
   | none =>
    rw[hc2]at hcut;simp only[Option.getD_none,Option.isSome_none]at hcut;rw[show (⟨(cutP y.path.data.toList).1.toArray⟩:ByteArray)=nmF y from rfl]at hcut;rw[addN_none (f:=tfOf y) hc2]at hgr;obtain⟨nm,hnm⟩:∃ s,nmF y=s:=⟨_,rfl⟩;rw[hnm]at hcut hnC;obtain⟨yp,yr,⟨yA,yn,yc,yl⟩⟩:=y;simp only at d0 d1 d2 hcut;obtain⟨hNdH,hyH,hymH,hyzH,hslH,hyokH,hgrH,hnCH,hcutH,hc2H,hnmH⟩:=hq2 hNd (hq2 hy (hqc hym hyz hsl hyok hgr hnC hcut hc2 (Lib.hid hnm)));clear hNd hy hym hyz hsl hyok hgr hnC hcut hc2 hnm;go_wp2_with fail;refine hcutH.out.mono ?_;rintro e w1 ⟨rfl,q,rfl⟩;have hNd1:=hNdH.out.below (bel_drewN (Below.refl _ _) q);have hb2:Below (wr.drewN q).heap.size (wr.drewN q) ((wr.drewN q).alloc (.cells #[.string nm,.pointer (some ⟨b,off+k*3,none⟩),.slice none 0 0] 105)):=(Below.refl _ _).alloc (Nat.le_refl _) _;have hNd2:=hNd1.below hb2;have hnew:SlAt (RNV C) ((wr.drewN q).alloc (.cells #[.string nm,.pointer (some ⟨b,off+k*3,none⟩),.slice none 0 0] 105)) (some ⟨(wr.drewN q).heap.size,0,none⟩) 1 [⟨nm,some ⟨b,off+k*3,none⟩,none,0,0⟩]:=slAt_new (R:=RNV C) (wr.drewN q) 105 ⟨nm,some ⟨b,off+k*3,none⟩,none,0,0⟩ hnCH.out;obtain⟨hNd1H,hb2H,hNd2H,hnewH⟩:=hq2 hNd1 (hq2 hb2 (hq2 hNd2 (Lib.hid hnew)));clear hNd1 hb2 hNd2 hnew;go_wp2_with (at_builtin;go_loud (refine wpList_app rfl (.tmp 26) (.tmp 32) 100 rfl Tryz.underlying100 elem_Node (by show 0<3;decide) rfl hNd2H.out.own (some ⟨wr.heap.size,0,none⟩) 1 1 [⟨nm,some ⟨b,off+k*3,none⟩,none,0,0⟩] rfl hnewH.out ?nn ?ok ?c1 ?c2 ?c3 (n+1) ?c4 ?_))
    case nn=>intro h;cases h
    case ok=>exact fun _ _ _ _ h=>h
    case c1=>rw[hDn];unfold maxLen;omega
    case c2=>rw[hDn];omega
    case c3=>exact hNd2H.out.bel.size
    case c4=>rw[hDn]
    intro A9 c9 w9 hown9 hg9 hat9 hb9;have R:NlRel W0 b off l C (.slice A9 (n+1) c9) (.int .i64 ((k:Int)+1)) w9:=by
     refine⟨k+1,A9,n+1,c9,D ++ [⟨nm,some ⟨b,off+k*3,none⟩,none,0,0⟩],by omega,by go_num,rfl,by omega,?_⟩;rw[hgrH.out];refine hNd2H.out.push hown9 hg9 (by simpa using hat9) ⟨rfl,rfl,rfl⟩ ?_ (fun f hf=>?_) (fun h=>by cases h) rfl
     ·rw[← hnmH.out];unfold nmF;rfl
     ·injection hf with hf;exact⟨k,_,hyH.out,hf,rfl⟩
    clear hown9 hg9 hat9 hb9;have RH:=Lib.hid R;clear R;go_wp2;refine⟨?rel,?measure⟩
    case measure=>(simp[intOf];omega)
    case rel=>first | exact RH.out | exact⟨rfl,RH.out⟩
   | some r =>
    rw[hc2]at hcut;simp only[Option.getD_some,Option.isSome_some]at hcut;rw[show (⟨(cutP y.path.data.toList).1.toArray⟩:ByteArray)=nmF y from rfl]at hcut;obtain⟨nm,hnm⟩:∃ s,nmF y=s:=⟨_,rfl⟩;rw[hnm]at hcut hnC;obtain⟨rs,hrs⟩:∃ s,(⟨r.toArray⟩:ByteArray)=s:=⟨_,rfl⟩;rw[hrs]at hcut;have hpl:y.path.data.toList=(cutP y.path.data.toList).1++47::r:=(cutP_some hc2).1;have hrl:rs.data.toList=r:=by rw[← hrs]
    have hrz:rs.size≤maxLen:=by
     have h1:=congrArg List.length hpl;rw[List.length_append,List.length_cons]at h1;have h2:rs.size=r.length:=by rw[← hrs];exact List.size_toArray
     have h3:y.path.data.toList.length=y.path.size:=(Lib.size_eq y.path).symm;unfold maxLen;omega
    have hnl:nm.data.toList=(cutP y.path.data.toList).1:=by rw[← hnm];unfold nmF;rfl
    obtain⟨yp,yr,⟨yA,yn,yc,yl⟩⟩:=y;simp only at d0 d1 d2 hcut hpl hnl hc2;clear hpl;obtain⟨hNdH,hyH,hymH,hyzH,hslH,hyokH,hgrH,hnCH,hcutH,hc2H,hnmH,hrsH,hrlH,hrzH,hnlH⟩:=hq2 hNd (hq2 hy (hqb hym hyz hsl hyok (hqc hgr hnC hcut hc2 hnm hrs hrl hrz (Lib.hid hnl))));clear hNd hy hym hyz hsl hyok hgr hnC hcut hc2 hnm hrs hrl hrz hnl;go_wp2_with fail;refine hcutH.out.mono ?_;rintro e w1 ⟨rfl,q,rfl⟩;have hNd1:=hNdH.out.below (bel_drewN (Below.refl _ _) q);have e1:(wr.drewN q).cell? ⟨b,off+k*3+1,none⟩=some (.bool yr):=d1;have e2:(wr.drewN q).cell? ⟨b,off+k*3+2,none⟩=some (.slice yA yn yc):=d2;obtain⟨W,hW⟩:∃ W,wr.drewN q=W:=⟨_,rfl⟩;rw[hW]at hNd1 e1 e2;rw[hW];have hbW0:b<W0.heap.size:=slAt_ltT hlH.out (by omega) (by decide);clear d0 d1 d2 hcutH;obtain⟨hNd1H,hWH,hbW0H⟩:=hq2 hNd1 (hq2 hW (Lib.hid hbW0));clear hNd1 hW hbW0;have hlast:(n=0)∨∃ n1 x u,n=n1+1∧D[n1]? = some x∧(grp ((l.take k).map tfOf))[n1]? = some u:=by
     rcases Nat.eq_zero_or_pos n with h | h
     ·exact .inl h
     ·exact .inr ⟨n-1,D[n-1]'(by omega),(grp ((l.take k).map tfOf))[n-1]'(by omega),by omega,List.getElem?_eq_getElem _,List.getElem?_eq_getElem _⟩
    rcases hlast with hn0 | ⟨n1,x,u,hn1,hxD,huY⟩
    ·subst hn0;have hD0:D = []:=List.eq_nil_of_length_eq_zero hDn;have hY0:grp ((l.take k).map tfOf) = []:=List.eq_nil_of_length_eq_zero hYn;obtain⟨hD0H,hY0H⟩:=hq2 hD0 (Lib.hid hY0);clear hD0 hY0;have hb2:Below W.heap.size W (W.alloc (.cells #[.string nm,.pointer none,.slice none 0 0] 105)):=(Below.refl _ _).alloc (Nat.le_refl _) _;have hNd2:=hNd1H.out.below hb2;have hnew0:SlAt (RNV C) (W.alloc (.cells #[.string nm,.pointer none,.slice none 0 0] 105)) (some ⟨W.heap.size,0,none⟩) 1 [⟨nm,none,none,0,0⟩]:=slAt_new (R:=RNV C) W 105 ⟨nm,none,none,0,0⟩ hnCH.out;obtain⟨hb2H,hNd2H,hnew0H⟩:=hq2 hb2 (hq2 hNd2 (Lib.hid hnew0));clear hb2 hNd2 hnew0;go_wp2_with (at_builtin;go_loud (refine wpList_app rfl (.tmp 56) (.tmp 59) 100 rfl Tryz.underlying100 elem_Node (by show 0<3;decide) rfl hNd2H.out.own (some ⟨W.heap.size,0,none⟩) 1 1 [⟨nm,none,none,0,0⟩] rfl hnew0H.out ?nn ?ok ?c1 ?c2 ?c3 (0+1) ?c4 ?_))
     case nn=>intro h;cases h
     case ok=>exact fun _ _ _ _ h=>h
     case c1=>rw[hDn];unfold maxLen;omega
     case c2=>rw[hDn];omega
     case c3=>exact hNd2H.out.bel.size
     case c4=>rw[hDn]
     intro A5 c5 w5 hown5 hg5 hat5 hb5;have hNd5:=hNd2H.out.push (x:=⟨nm,none,none,0,0⟩) (y:=⟨(cutP yp.data.toList).1,none,[]⟩) hown5 hg5 (by simpa using hat5) ⟨rfl,rfl,rfl⟩ hnlH.out (fun f hf=>by cases hf) (fun _=>rfl) rfl;have hxD5:(D ++ [(⟨nm,none,none,0,0⟩:NV)])[0]? = some ⟨nm,none,none,0,0⟩:=by rw[List.getElem?_append_right (by omega),hDn,Nat.sub_self];rfl
     have huY5:(grp ((l.take k).map tfOf) ++ [(⟨(cutP yp.data.toList).1,none,[]⟩:TN)])[0]? = some ⟨(cutP yp.data.toList).1,none,[]⟩:=by rw[List.getElem?_append_right (by omega),hYn,Nat.sub_self];rfl
     obtain⟨g5,hA5⟩:=own_form hown5 (by omega);subst hA5;have hslo5:=hown5.slAt;have z2:w5.cell? ⟨g5,0*3+2,none⟩=some (.slice none 0 0):=by have:=(hslo5.2.1 (by omega));obtain⟨b',o',hA,hc⟩:=this;injection hA with hA;injection hA with h1 h2 _;subst h1 h2;have:=hc 0 _ hxD5 2 _ rfl;simpa[RNV]using this
     have e1:=(hb5.cell (p:=⟨b,off+k*3+1,none⟩) hbW0H.out).trans (keepC hb2H.out e1);have e2:=(hb5.cell (p:=⟨b,off+k*3+2,none⟩) hbW0H.out).trans (keepC hb2H.out e2);clear hslo5 hg5 hat5 hb5 hown5;obtain⟨hNd5H,hxD5H,huY5H⟩:=hq2 hNd5 (hq2 hxD5 (Lib.hid huY5));clear hNd5 hxD5 huY5;go_wp2_with fail;refine startR (R:=Rk (fun _=>True) (fun w'=>w'.cell? ⟨g5,0*3+2,none⟩=some (.slice none 0 0)∧w'.cell? ⟨b,off+k*3+1,none⟩=some (.bool yr)∧w'.cell? ⟨b,off+k*3+2,none⟩=some (.slice yA yn yc)) 23 23) (by kernel_rfl) ?_;have hC:w5.drew.cell? ⟨g5,0*3+2,none⟩=some (.slice none 0 0)∧w5.drew.cell? ⟨b,off+k*3+1,none⟩=some (.bool yr)∧w5.drew.cell? ⟨b,off+k*3+2,none⟩=some (.slice yA yn yc):=⟨z2,e1,e2⟩;refine takeC (i:=0) (d:=some 63) (v:=?_) rfl rfl (by kernel_rfl) (by kernel_rfl) (by kernel_rfl) (by kernel_rfl) (fun _ _ _ h=>h) (Or.inl ⟨by rfl,?_⟩) hC ?_
     rotate_left
     ·(intro w hSw;(try dsimp only at hSw);go_simp;(try with_reducible rfl))
     (try simp only[Act.put,List.setIfInBounds_toArray,List.set_cons_zero,List.set_cons_succ])
     refine takeC (i:=1) (d:=some 64) (v:=?_) rfl rfl (by kernel_rfl) (by kernel_rfl) (by kernel_rfl) (by kernel_rfl) (fun _ _ _ h=>h) (Or.inl ⟨by rfl,?_⟩) hC ?_
     rotate_left
     ·(intro w hSw;(try dsimp only at hSw);go_simp;(try with_reducible rfl))
     (try simp only[Act.put,List.setIfInBounds_toArray,List.set_cons_zero,List.set_cons_succ])
     refine takeC (i:=2) (d:=some 65) (v:=?_) rfl rfl (by kernel_rfl) (by kernel_rfl) (by kernel_rfl) (by kernel_rfl) (fun _ _ _ h=>h) (Or.inl ⟨by rfl,?_⟩) hC ?_
     rotate_left
     ·(intro w hSw;(try dsimp only at hSw);go_simp;(try with_reducible rfl))
     (try simp only[Act.put,List.setIfInBounds_toArray,List.set_cons_zero,List.set_cons_succ])
     refine takeC (i:=3) (d:=some 66) (v:=?_) rfl rfl (by kernel_rfl) (by kernel_rfl) (by kernel_rfl) (by kernel_rfl) (fun _ _ _ h=>h) (Or.inl ⟨by rfl,?_⟩) hC ?_
     rotate_left
     ·(intro w hSw;(try dsimp only at hSw);go_simp;(try with_reducible rfl))
     (try simp only[Act.put,List.setIfInBounds_toArray,List.set_cons_zero,List.set_cons_succ])
     refine takeC (i:=4) (d:=some 67) (v:=?_) rfl rfl (by kernel_rfl) (by kernel_rfl) (by kernel_rfl) (by kernel_rfl) (fun _ _ _ h=>h) (Or.inl ⟨by rfl,?_⟩) hC ?_
     rotate_left
     ·(intro w hSw;(try dsimp only at hSw);go_simp;(try with_reducible rfl))
     (try simp only[Act.put,List.setIfInBounds_toArray,List.set_cons_zero,List.set_cons_succ])
     refine takeC (i:=5) (d:=some 68) (v:=?_) rfl rfl (by kernel_rfl) (by kernel_rfl) (by kernel_rfl) (by kernel_rfl) (fun _ _ _ h=>h) (Or.inl ⟨by rfl,?_⟩) hC ?_
     rotate_left
     ·(intro w hSw;(try dsimp only at hSw);go_simp;(try with_reducible rfl))
     (try simp only[Act.put,List.setIfInBounds_toArray,List.set_cons_zero,List.set_cons_succ])
     refine takeC (i:=6) (d:=some 69) (v:=?_) rfl rfl (by kernel_rfl) (by kernel_rfl) (by kernel_rfl) (by kernel_rfl) (fun _ _ _ h=>h) (Or.inl ⟨by rfl,?_⟩) hC ?_
     rotate_left
     ·(intro w hSw;(try dsimp only at hSw);go_simp;(try with_reducible rfl))
     (try simp only[Act.put,List.setIfInBounds_toArray,List.set_cons_zero,List.set_cons_succ])
     refine takeC (i:=7) (d:=some 70) (v:=?_) rfl rfl (by kernel_rfl) (by kernel_rfl) (by kernel_rfl) (by kernel_rfl) (fun _ _ _ h=>h) (Or.inl ⟨by rfl,?_⟩) hC ?_
     rotate_left
     ·(intro w hSw;(try dsimp only at hSw);go_simp;(try with_reducible rfl))
     (try simp only[Act.put,List.setIfInBounds_toArray,List.set_cons_zero,List.set_cons_succ])
     refine takeC (i:=8) (d:=some 71) (v:=?_) rfl rfl (by kernel_rfl) (by kernel_rfl) (by kernel_rfl) (by kernel_rfl) (fun _ _ _ h=>h) (Or.inl ⟨by rfl,?_⟩) hC ?_
     rotate_left
     ·(intro w hSw;(try dsimp only at hSw);go_simp;(try with_reducible rfl))
     (try simp only[Act.put,List.setIfInBounds_toArray,List.set_cons_zero,List.set_cons_succ])
     refine takeC (i:=9) (d:=some 72) (v:=?_) rfl rfl (by kernel_rfl) (by kernel_rfl) (by kernel_rfl) (by kernel_rfl) (fun _ _ _ h=>h) (Or.inl ⟨by rfl,?_⟩) hC ?_
     rotate_left
     ·(intro w hSw;(try dsimp only at hSw);go_simp;(try with_reducible rfl))
     (try simp only[Act.put,List.setIfInBounds_toArray,List.set_cons_zero,List.set_cons_succ])
     refine takeC (i:=10) (d:=some 73) (v:=?_) rfl rfl (by kernel_rfl) (by kernel_rfl) (by kernel_rfl) (by kernel_rfl) (fun _ _ _ h=>h) (Or.inl ⟨by rfl,?_⟩) hC ?_
     rotate_left
     ·(intro w hSw;(try dsimp only at hSw);go_simp;(try with_reducible rfl))
     (try simp only[Act.put,List.setIfInBounds_toArray,List.set_cons_zero,List.set_cons_succ])
     refine takeC (i:=11) (d:=some 74) (v:=?_) rfl rfl (by kernel_rfl) (by kernel_rfl) (by kernel_rfl) (by kernel_rfl) (fun _ _ _ h=>h) (Or.inl ⟨by rfl,?_⟩) hC ?_
     rotate_left
     ·(intro w hSw;(try dsimp only at hSw);go_simp;(try with_reducible rfl))
     (try simp only[Act.put,List.setIfInBounds_toArray,List.set_cons_zero,List.set_cons_succ])
     refine takeC (i:=12) (d:=some 75) (v:=?_) rfl rfl (by kernel_rfl) (by kernel_rfl) (by kernel_rfl) (by kernel_rfl) (fun _ _ _ h=>h) (Or.inl ⟨by rfl,?_⟩) hC ?_
     rotate_left
     ·(intro w hSw;(try dsimp only at hSw);go_simp;(try with_reducible rfl))
     (try simp only[Act.put,List.setIfInBounds_toArray,List.set_cons_zero,List.set_cons_succ])
     refine takeC (i:=13) (d:=some 76) (v:=?_) rfl rfl (by kernel_rfl) (by kernel_rfl) (by kernel_rfl) (by kernel_rfl) (fun _ _ _ h=>h) (Or.inl ⟨by rfl,?_⟩) hC ?_
     rotate_left
     ·(intro w hSw;(try dsimp only at hSw);go_simp;(try with_reducible rfl))
     (try simp only[Act.put,List.setIfInBounds_toArray,List.set_cons_zero,List.set_cons_succ])
     refine takeC (i:=14) (d:=some 77) (v:=?_) rfl rfl (by kernel_rfl) (by kernel_rfl) (by kernel_rfl) (by kernel_rfl) (fun _ _ _ h=>h) (Or.inl ⟨by rfl,?_⟩) hC ?_
     rotate_left
     ·(intro w hSw;(try dsimp only at hSw);go_simp;(try with_reducible rfl))
     (try simp only[Act.put,List.setIfInBounds_toArray,List.set_cons_zero,List.set_cons_succ])
     refine takeC (i:=15) (d:=some 78) (v:=?_) rfl rfl (by kernel_rfl) (by kernel_rfl) (by kernel_rfl) (by kernel_rfl) (fun _ _ _ h=>h) (Or.inl ⟨by rfl,?_⟩) hC ?_
     rotate_left
     ·(intro w hSw;(try dsimp only at hSw);go_simp;(try with_reducible rfl))
     (try simp only[Act.put,List.setIfInBounds_toArray,List.set_cons_zero,List.set_cons_succ])
     refine takeC (i:=16) (d:=some 79) (v:=?_) rfl rfl (by kernel_rfl) (by kernel_rfl) (by kernel_rfl) (by kernel_rfl) (fun _ _ _ h=>h) (Or.inl ⟨by rfl,?_⟩) hC ?_
     rotate_left
     ·(intro w hSw;(try dsimp only at hSw);go_simp;(try with_reducible rfl))
     (try simp only[Act.put,List.setIfInBounds_toArray,List.set_cons_zero,List.set_cons_succ])
     refine takeC (i:=17) (d:=some 80) (v:=?_) rfl rfl (by kernel_rfl) (by kernel_rfl) (by kernel_rfl) (by kernel_rfl) (fun _ _ _ h=>h) (Or.inl ⟨by rfl,?_⟩) hC ?_
     rotate_left
     ·(intro w hSw;(try dsimp only at hSw);go_simp;(try with_reducible rfl))
     (try simp only[Act.put,List.setIfInBounds_toArray,List.set_cons_zero,List.set_cons_succ])
     refine takeC (i:=18) (d:=some 81) (v:=?_) rfl rfl (by kernel_rfl) (by kernel_rfl) (by kernel_rfl) (by kernel_rfl) (fun _ _ _ h=>h) (Or.inl ⟨by rfl,?_⟩) hC ?_
     rotate_left
     ·(intro w hSw;(try dsimp only at hSw);go_simp;(try with_reducible rfl))
     (try simp only[Act.put,List.setIfInBounds_toArray,List.set_cons_zero,List.set_cons_succ])
     refine oneR (i:=19) (by kernel_rfl) rfl (fun K hK=>?_);go_simp;have hb8:Below w5.heap.size w5 (w5.drew.alloc (.cells #[.string rs,.bool yr,.slice yA yn yc] 95)):=((Below.refl _ _).drew).alloc (Nat.le_refl _) _;have hN8:=hNd5H.out.below hb8;have hC8:(w5.drew.alloc (.cells #[.string rs,.bool yr,.slice yA yn yc] 95)).cell? ⟨g5,0*3+2,none⟩=some (.slice none 0 0)∧(w5.drew.alloc (.cells #[.string rs,.bool yr,.slice yA yn yc] 95)).cell? ⟨b,off+k*3+1,none⟩=some (.bool yr)∧(w5.drew.alloc (.cells #[.string rs,.bool yr,.slice yA yn yc] 95)).cell? ⟨b,off+k*3+2,none⟩=some (.slice yA yn yc):=⟨keepC hb8 z2,keepC hb8 e1,keepC hb8 e2⟩;refine hK.out _ _ ⟨fun _ _ _=>trivial,fun _ _=>hC8⟩ ?_;clear hK K
     (try simp only[Act.put,List.setIfInBounds_toArray,List.set_cons_zero,List.set_cons_succ])
     obtain⟨fl,hfo,hfm,hfk⟩:=(hN8.each 0 _ _ hxD5H.out huY5H.out).sub;have hfo:Own RFile 95 (w5.drew.alloc (.cells #[.string rs,.bool yr,.slice yA yn yc] 95)) W0.heap.size (.slice none 0 0) fl:=hfo;have hfln:=hfo.len;have hokz:RFile.ok W0 (⟨rs,yr,⟨yA,yn,yc,yl⟩⟩:File):=⟨hrzH.out,trivial,hyokH.out.2.2⟩;have hnew:=slAt_new (R:=RFile) w5.drew 95 (⟨rs,yr,⟨yA,yn,yc,yl⟩⟩:File) (RFile.mono _ _ _ (hNd5H.out.bel.drew) hokz);have hxn1:0≤1000:=by
      omega
     obtain⟨hb8H,hN8H,hfoH,hfmH,hfkH,hokzH,hnewH,hflnH⟩:=hq2 hb8 (hq2 hN8 (hq2 hfo (hqb hfm hfk hokz hnew (Lib.hid hfln))));clear hb8 hN8 hfo hfm hfk hokz hnew hfln;refine oneR (i:=20) (by kernel_rfl) rfl (fun K hK=>?_);refine step_app1g (R:=RFile) (base:=W0.heap.size) (v:=.slice none 0 0) (l:=fl) ?g1 (.tmp 69) (.tmp 82) 22 ?g2 Tryz.underlying22 elem_FileT (by decide) ?g3 hfoH.out w5.heap.size (⟨rs,yr,⟨yA,yn,yc,yl⟩⟩:File) ?g4 hnewH.out (fun w' hg z hz ho=>RFile.mono _ _ _ (hN8H.out.bel.grown hg hN8H.out.bel.size fun q hq=>(hfoH.out.1.lt q hq).1) ((List.mem_append.1 hz).elim (fun h=>hfkH.out z h) (fun h=>by rw[List.mem_singleton]at h;rw[h];exact hokzH.out))) ?a4 ?a5 ?a6 (0+1) ?a7 ?_
     case g1=>rfl
     case g2=>rfl
     case g3=>rfl
     case g4=>rfl
     case a4=>rw[hflnH.out];unfold maxLen;omega
     case a5=>rw[hflnH.out];omega
     case a6=>exact hN8H.out.bel.size
     case a7=>rw[hflnH.out]
     intro A9 c9 w9 hown9 hg9 hd9;have hF:=hN8H.out.put hxD5H.out huY5H.out rfl hown9 hfmH.out hfkH.out hokzH.out hg9 (fun q hq=>(hd9 q hq).imp id fun h=>h);have hob:∀ q,(Value.slice none 0 0).ownBlock=some q→W0.heap.size≤q:=fun q hq=>(hfoH.out.1.lt q hq).1;have hC9:w9.cell? ⟨g5,0*3+2,none⟩=some (.slice none 0 0)∧w9.cell? ⟨b,off+k*3+1,none⟩=some (.bool yr)∧w9.cell? ⟨b,off+k*3+2,none⟩=some (.slice yA yn yc):=⟨cell_grown hg9 hC8.1 (fun e=>hN8H.out.dis2 0 _ g5 hxD5H.out e.symm rfl),cell_grown hg9 hC8.2.1 (fun e=>by have h8:W0.heap.size≤b:=hob _ e.symm;have:=hbW0H.out;omega),cell_grown hg9 hC8.2.2 (fun e=>by have h8:W0.heap.size≤b:=hob _ e.symm;have:=hbW0H.out;omega)⟩;have f9:=own_fz hF.own (0*3+2);rw[World.frozen?_setCell]at f9;clear hob hown9 hg9 hd9;have R:NlRel W0 b off l C (.slice (some ⟨g5,0,none⟩) (0+1) c5) (.int .i64 ((k:Int)+1)) (w9.setCell ⟨g5,0*3+2,none⟩ (.slice A9 (0+1) c9)):=by
      refine⟨k+1,some ⟨g5,0,none⟩,(0+1),c5,(D ++ [(⟨nm,none,none,0,0⟩:NV)]).set (0) ⟨nm,none,A9,0+1,c9⟩,by omega,by go_num,rfl,by omega,?_⟩;have et:cutF (tfOf (⟨yp,yr,⟨yA,yn,yc,yl⟩⟩:File)) r=tfOf (⟨rs,yr,⟨yA,yn,yc,yl⟩⟩:File):=by unfold cutF tfOf;simp only;rw[hrlH.out]
      rw[hgrH.out];rw[addN_new (f:=tfOf (⟨yp,yr,⟨yA,yn,yc,yl⟩⟩:File)) hc2H.out _ (fun x hx=>by rw[hY0H.out]at hx;cases hx)];have es:(grp ((l.take k).map tfOf) ++ [(⟨(cutP yp.data.toList).1,none,[]⟩:TN)]).set 0 ⟨(cutP yp.data.toList).1,none,[] ++ [tfOf (⟨rs,yr,⟨yA,yn,yc,yl⟩⟩:File)]⟩=grp ((l.take k).map tfOf) ++ [⟨(cutP yp.data.toList).1,none,[cutF (tfOf (⟨yp,yr,⟨yA,yn,yc,yl⟩⟩:File)) r]⟩]:=by
       rw[List.set_append_right _ _ (by omega),hYn,Nat.sub_self,et];rfl
      have es:=es.symm;rw[show (cutP (tfOf (⟨yp,yr,⟨yA,yn,yc,yl⟩⟩:File)).path).1=(cutP yp.data.toList).1 from rfl,es];exact hF
     clear hF;have RH:=Lib.hid R;clear R;refine hK.out _ _ ⟨fun _ _ _=>trivial,fun _ _=>hC9⟩ ?_;clear hK K
     (try simp only[Act.put,List.setIfInBounds_toArray,List.set_cons_zero,List.set_cons_succ])
     clear hC hC8;have hC:=hC9;refine oneR (i:=21) (by kernel_rfl) rfl (fun K hK=>?_);go_simp;refine hK.out _ _ ⟨fun _ _ _=>trivial,fun _ h=>h⟩ ?_;clear hK K
     (try simp only[Act.put,List.setIfInBounds_toArray,List.set_cons_zero,List.set_cons_succ])
     refine oneR (i:=22) (by kernel_rfl) rfl (fun K hK=>?_);go_simp;refine hK.out _ _ ⟨fun _ _ _=>trivial,fun _ h=>h⟩ ?_;clear hK K
     (try simp only[Act.put,List.setIfInBounds_toArray,List.set_cons_zero,List.set_cons_succ])
     refine oneR (i:=23) (by kernel_rfl) rfl (fun K hK=>?_);go_simp;refine hK.out _ _ ⟨fun h=>absurd rfl h,fun h=>absurd rfl h⟩ ?_;clear hK K
     (try simp only[Act.put,List.setIfInBounds_toArray,List.set_cons_zero,List.set_cons_succ])
     refine doneR (by kernel_rfl) ?_ _;clear hC hC9 z2 e1 e2;go_wp2;refine⟨?rel,?measure⟩
     case measure=>(simp[intOf];omega)
     case rel=>first | exact RH.out | exact⟨rfl,RH.out⟩
    ·subst hn1;have hNc:=hNd1H.out.each n1 x u hxD huY;obtain⟨g0,hA0⟩:=own_form hNd1H.out.own (by omega);subst hA0;have hslo:=hNd1H.out.own.slAt;have z0:W.cell? ⟨g0,n1*3,none⟩=some (.string x.name):=by have:=(hslo.2.1 (by omega));obtain⟨b',o',hA,hc⟩:=this;injection hA with hA;injection hA with h1 h2 _;subst h1 h2;have:=hc n1 x hxD 0 _ rfl;simpa[RNV]using this
     have z1:W.cell? ⟨g0,n1*3+1,none⟩=some (.pointer x.ptr):=by have:=(hslo.2.1 (by omega));obtain⟨b',o',hA,hc⟩:=this;injection hA with hA;injection hA with h1 h2 _;subst h1 h2;have:=hc n1 x hxD 1 _ rfl;simpa[RNV]using this
     have z2:W.cell? ⟨g0,n1*3+2,none⟩=some (.slice x.A x.n x.cap):=by have:=(hslo.2.1 (by omega));obtain⟨b',o',hA,hc⟩:=this;injection hA with hA;injection hA with h1 h2 _;subst h1 h2;have:=hc n1 x hxD 2 _ rfl;simpa[RNV]using this
     have j1:IntKind.i64.wrap (((n1+1:Nat):Int)-1)=(n1:Int):=by rw[IntKind.wrap_i64];omega
     have j2:¬ (n1:Int)<0:=by omega
     have j3:(0:Int)≤(n1:Int):=by omega
     have j4:(n1:Int)<((n1+1:Nat):Int):=by omega
     have j5:((n1:Int)).toNat=n1:=by omega
     clear hslo
     by_cases hold:u.file=none∧u.name=(cutP yp.data.toList).1
     ·have hptr:=hNc.dir hold.1;have hnmx:x.name=nm:=by
       have:x.name.data.toList=nm.data.toList:=by rw[hNc.name,hold.2,hnlH.out]
       rw[← bsOf_data x.name,← bsOf_data nm,this]
      obtain⟨xnm,xpt,xA,xn,xc⟩:=x;simp only at hptr hnmx z0 z1 z2;subst hptr hnmx;have q1:(xnm.toList==xnm.toList)=true:=by simp
      obtain⟨hNcH,hxDH,huYH,holdH⟩:=hq2 hNc (hq2 hxD (hq2 huY (Lib.hid hold)));clear hNc hxD huY hold;go_wp2_with fail;refine startR (R:=Rk (fun _=>True) (fun w'=>w'.cell? ⟨g0,n1*3+2,none⟩=some (.slice xA xn xc)∧w'.cell? ⟨b,off+k*3+1,none⟩=some (.bool yr)∧w'.cell? ⟨b,off+k*3+2,none⟩=some (.slice yA yn yc)) 23 23) (by kernel_rfl) ?_;have hC:W.drew.cell? ⟨g0,n1*3+2,none⟩=some (.slice xA xn xc)∧W.drew.cell? ⟨b,off+k*3+1,none⟩=some (.bool yr)∧W.drew.cell? ⟨b,off+k*3+2,none⟩=some (.slice yA yn yc):=⟨z2,e1,e2⟩;refine takeC (i:=0) (d:=some 63) (v:=?_) rfl rfl (by kernel_rfl) (by kernel_rfl) (by kernel_rfl) (by kernel_rfl) (fun _ _ _ h=>h) (Or.inl ⟨by rfl,?_⟩) hC ?_
      rotate_left
      ·(intro w hSw;(try dsimp only at hSw);go_simp;(try with_reducible rfl))
      (try simp only[Act.put,List.setIfInBounds_toArray,List.set_cons_zero,List.set_cons_succ])
      refine takeC (i:=1) (d:=some 64) (v:=?_) rfl rfl (by kernel_rfl) (by kernel_rfl) (by kernel_rfl) (by kernel_rfl) (fun _ _ _ h=>h) (Or.inl ⟨by rfl,?_⟩) hC ?_
      rotate_left
      ·(intro w hSw;(try dsimp only at hSw);go_simp;(try with_reducible rfl))
      (try simp only[Act.put,List.setIfInBounds_toArray,List.set_cons_zero,List.set_cons_succ])
      refine takeC (i:=2) (d:=some 65) (v:=?_) rfl rfl (by kernel_rfl) (by kernel_rfl) (by kernel_rfl) (by kernel_rfl) (fun _ _ _ h=>h) (Or.inl ⟨by rfl,?_⟩) hC ?_
      rotate_left
      ·(intro w hSw;(try dsimp only at hSw);go_simp;(try with_reducible rfl))
      (try simp only[Act.put,List.setIfInBounds_toArray,List.set_cons_zero,List.set_cons_succ])
      refine takeC (i:=3) (d:=some 66) (v:=?_) rfl rfl (by kernel_rfl) (by kernel_rfl) (by kernel_rfl) (by kernel_rfl) (fun _ _ _ h=>h) (Or.inl ⟨by rfl,?_⟩) hC ?_
      rotate_left
      ·(intro w hSw;(try dsimp only at hSw);go_simp;(try with_reducible rfl))
      (try simp only[Act.put,List.setIfInBounds_toArray,List.set_cons_zero,List.set_cons_succ])
      refine takeC (i:=4) (d:=some 67) (v:=?_) rfl rfl (by kernel_rfl) (by kernel_rfl) (by kernel_rfl) (by kernel_rfl) (fun _ _ _ h=>h) (Or.inl ⟨by rfl,?_⟩) hC ?_
      rotate_left
      ·(intro w hSw;(try dsimp only at hSw);go_simp;(try with_reducible rfl))
      (try simp only[Act.put,List.setIfInBounds_toArray,List.set_cons_zero,List.set_cons_succ])
      refine takeC (i:=5) (d:=some 68) (v:=?_) rfl rfl (by kernel_rfl) (by kernel_rfl) (by kernel_rfl) (by kernel_rfl) (fun _ _ _ h=>h) (Or.inl ⟨by rfl,?_⟩) hC ?_
      rotate_left
      ·(intro w hSw;(try dsimp only at hSw);go_simp;(try with_reducible rfl))
      (try simp only[Act.put,List.setIfInBounds_toArray,List.set_cons_zero,List.set_cons_succ])
      refine takeC (i:=6) (d:=some 69) (v:=?_) rfl rfl (by kernel_rfl) (by kernel_rfl) (by kernel_rfl) (by kernel_rfl) (fun _ _ _ h=>h) (Or.inl ⟨by rfl,?_⟩) hC ?_
      rotate_left
      ·(intro w hSw;(try dsimp only at hSw);go_simp;(try with_reducible rfl))
      (try simp only[Act.put,List.setIfInBounds_toArray,List.set_cons_zero,List.set_cons_succ])
      refine takeC (i:=7) (d:=some 70) (v:=?_) rfl rfl (by kernel_rfl) (by kernel_rfl) (by kernel_rfl) (by kernel_rfl) (fun _ _ _ h=>h) (Or.inl ⟨by rfl,?_⟩) hC ?_
      rotate_left
      ·(intro w hSw;(try dsimp only at hSw);go_simp;(try with_reducible rfl))
      (try simp only[Act.put,List.setIfInBounds_toArray,List.set_cons_zero,List.set_cons_succ])
      refine takeC (i:=8) (d:=some 71) (v:=?_) rfl rfl (by kernel_rfl) (by kernel_rfl) (by kernel_rfl) (by kernel_rfl) (fun _ _ _ h=>h) (Or.inl ⟨by rfl,?_⟩) hC ?_
      rotate_left
      ·(intro w hSw;(try dsimp only at hSw);go_simp;(try with_reducible rfl))
      (try simp only[Act.put,List.setIfInBounds_toArray,List.set_cons_zero,List.set_cons_succ])
      refine takeC (i:=9) (d:=some 72) (v:=?_) rfl rfl (by kernel_rfl) (by kernel_rfl) (by kernel_rfl) (by kernel_rfl) (fun _ _ _ h=>h) (Or.inl ⟨by rfl,?_⟩) hC ?_
      rotate_left
      ·(intro w hSw;(try dsimp only at hSw);go_simp;(try with_reducible rfl))
      (try simp only[Act.put,List.setIfInBounds_toArray,List.set_cons_zero,List.set_cons_succ])
      refine takeC (i:=10) (d:=some 73) (v:=?_) rfl rfl (by kernel_rfl) (by kernel_rfl) (by kernel_rfl) (by kernel_rfl) (fun _ _ _ h=>h) (Or.inl ⟨by rfl,?_⟩) hC ?_
      rotate_left
      ·(intro w hSw;(try dsimp only at hSw);go_simp;(try with_reducible rfl))
      (try simp only[Act.put,List.setIfInBounds_toArray,List.set_cons_zero,List.set_cons_succ])
      refine takeC (i:=11) (d:=some 74) (v:=?_) rfl rfl (by kernel_rfl) (by kernel_rfl) (by kernel_rfl) (by kernel_rfl) (fun _ _ _ h=>h) (Or.inl ⟨by rfl,?_⟩) hC ?_
      rotate_left
      ·(intro w hSw;(try dsimp only at hSw);go_simp;(try with_reducible rfl))
      (try simp only[Act.put,List.setIfInBounds_toArray,List.set_cons_zero,List.set_cons_succ])
      refine takeC (i:=12) (d:=some 75) (v:=?_) rfl rfl (by kernel_rfl) (by kernel_rfl) (by kernel_rfl) (by kernel_rfl) (fun _ _ _ h=>h) (Or.inl ⟨by rfl,?_⟩) hC ?_
      rotate_left
      ·(intro w hSw;(try dsimp only at hSw);go_simp;(try with_reducible rfl))
      (try simp only[Act.put,List.setIfInBounds_toArray,List.set_cons_zero,List.set_cons_succ])
      refine takeC (i:=13) (d:=some 76) (v:=?_) rfl rfl (by kernel_rfl) (by kernel_rfl) (by kernel_rfl) (by kernel_rfl) (fun _ _ _ h=>h) (Or.inl ⟨by rfl,?_⟩) hC ?_
      rotate_left
      ·(intro w hSw;(try dsimp only at hSw);go_simp;(try with_reducible rfl))
      (try simp only[Act.put,List.setIfInBounds_toArray,List.set_cons_zero,List.set_cons_succ])
      refine takeC (i:=14) (d:=some 77) (v:=?_) rfl rfl (by kernel_rfl) (by kernel_rfl) (by kernel_rfl) (by kernel_rfl) (fun _ _ _ h=>h) (Or.inl ⟨by rfl,?_⟩) hC ?_
      rotate_left
      ·(intro w hSw;(try dsimp only at hSw);go_simp;(try with_reducible rfl))
      (try simp only[Act.put,List.setIfInBounds_toArray,List.set_cons_zero,List.set_cons_succ])
      refine takeC (i:=15) (d:=some 78) (v:=?_) rfl rfl (by kernel_rfl) (by kernel_rfl) (by kernel_rfl) (by kernel_rfl) (fun _ _ _ h=>h) (Or.inl ⟨by rfl,?_⟩) hC ?_
      rotate_left
      ·(intro w hSw;(try dsimp only at hSw);go_simp;(try with_reducible rfl))
      (try simp only[Act.put,List.setIfInBounds_toArray,List.set_cons_zero,List.set_cons_succ])
      refine takeC (i:=16) (d:=some 79) (v:=?_) rfl rfl (by kernel_rfl) (by kernel_rfl) (by kernel_rfl) (by kernel_rfl) (fun _ _ _ h=>h) (Or.inl ⟨by rfl,?_⟩) hC ?_
      rotate_left
      ·(intro w hSw;(try dsimp only at hSw);go_simp;(try with_reducible rfl))
      (try simp only[Act.put,List.setIfInBounds_toArray,List.set_cons_zero,List.set_cons_succ])
      refine takeC (i:=17) (d:=some 80) (v:=?_) rfl rfl (by kernel_rfl) (by kernel_rfl) (by kernel_rfl) (by kernel_rfl) (fun _ _ _ h=>h) (Or.inl ⟨by rfl,?_⟩) hC ?_
      rotate_left
      ·(intro w hSw;(try dsimp only at hSw);go_simp;(try with_reducible rfl))
      (try simp only[Act.put,List.setIfInBounds_toArray,List.set_cons_zero,List.set_cons_succ])
      refine takeC (i:=18) (d:=some 81) (v:=?_) rfl rfl (by kernel_rfl) (by kernel_rfl) (by kernel_rfl) (by kernel_rfl) (fun _ _ _ h=>h) (Or.inl ⟨by rfl,?_⟩) hC ?_
      rotate_left
      ·(intro w hSw;(try dsimp only at hSw);go_simp;(try with_reducible rfl))
      (try simp only[Act.put,List.setIfInBounds_toArray,List.set_cons_zero,List.set_cons_succ])
      refine oneR (i:=19) (by kernel_rfl) rfl (fun K hK=>?_);go_simp;have hb8:Below W.heap.size W (W.drew.alloc (.cells #[.string rs,.bool yr,.slice yA yn yc] 95)):=((Below.refl _ _).drew).alloc (Nat.le_refl _) _;have hN8:=hNd1H.out.below hb8;have hC8:(W.drew.alloc (.cells #[.string rs,.bool yr,.slice yA yn yc] 95)).cell? ⟨g0,n1*3+2,none⟩=some (.slice xA xn xc)∧(W.drew.alloc (.cells #[.string rs,.bool yr,.slice yA yn yc] 95)).cell? ⟨b,off+k*3+1,none⟩=some (.bool yr)∧(W.drew.alloc (.cells #[.string rs,.bool yr,.slice yA yn yc] 95)).cell? ⟨b,off+k*3+2,none⟩=some (.slice yA yn yc):=⟨keepC hb8 z2,keepC hb8 e1,keepC hb8 e2⟩;refine hK.out _ _ ⟨fun _ _ _=>trivial,fun _ _=>hC8⟩ ?_;clear hK K
      (try simp only[Act.put,List.setIfInBounds_toArray,List.set_cons_zero,List.set_cons_succ])
      obtain⟨fl,hfo,hfm,hfk⟩:=(hN8.each n1 _ _ hxDH.out huYH.out).sub;have hfo:Own RFile 95 (W.drew.alloc (.cells #[.string rs,.bool yr,.slice yA yn yc] 95)) W0.heap.size (.slice xA xn xc) fl:=hfo;have hfln:=hfo.len;have hokz:RFile.ok W0 (⟨rs,yr,⟨yA,yn,yc,yl⟩⟩:File):=⟨hrzH.out,trivial,hyokH.out.2.2⟩;have hnew:=slAt_new (R:=RFile) W.drew 95 (⟨rs,yr,⟨yA,yn,yc,yl⟩⟩:File) (RFile.mono _ _ _ (hNd1H.out.bel.drew) hokz);have hxn1:xn≤1000:=by
       have h1:(fl.map tfOf).length=xn:=by rw[List.length_map];exact hfln
       have h2:=sub_len ((l.take k).map tfOf) _ (List.mem_of_getElem? huYH.out);rw[List.length_map,List.length_take]at h2;rw[hfm]at h1;omega
      obtain⟨hb8H,hN8H,hfoH,hfmH,hfkH,hokzH,hnewH,hflnH⟩:=hq2 hb8 (hq2 hN8 (hq2 hfo (hqb hfm hfk hokz hnew (Lib.hid hfln))));clear hb8 hN8 hfo hfm hfk hokz hnew hfln;refine oneR (i:=20) (by kernel_rfl) rfl (fun K hK=>?_);refine step_app1g (R:=RFile) (base:=W0.heap.size) (v:=.slice xA xn xc) (l:=fl) ?g1 (.tmp 69) (.tmp 82) 22 ?g2 Tryz.underlying22 elem_FileT (by decide) ?g3 hfoH.out W.heap.size (⟨rs,yr,⟨yA,yn,yc,yl⟩⟩:File) ?g4 hnewH.out (fun w' hg z hz ho=>RFile.mono _ _ _ (hN8H.out.bel.grown hg hN8H.out.bel.size fun q hq=>(hfoH.out.1.lt q hq).1) ((List.mem_append.1 hz).elim (fun h=>hfkH.out z h) (fun h=>by rw[List.mem_singleton]at h;rw[h];exact hokzH.out))) ?a4 ?a5 ?a6 (xn+1) ?a7 ?_
      case g1=>rfl
      case g2=>rfl
      case g3=>rfl
      case g4=>rfl
      case a4=>rw[hflnH.out];unfold maxLen;omega
      case a5=>rw[hflnH.out];omega
      case a6=>exact hN8H.out.bel.size
      case a7=>rw[hflnH.out]
      intro A9 c9 w9 hown9 hg9 hd9;have hF:=hN8H.out.put hxDH.out huYH.out holdH.out.1 hown9 hfmH.out hfkH.out hokzH.out hg9 (fun q hq=>(hd9 q hq).imp id fun h=>h);have hob:∀ q,(Value.slice xA xn xc).ownBlock=some q→W0.heap.size≤q:=fun q hq=>(hfoH.out.1.lt q hq).1;have hC9:w9.cell? ⟨g0,n1*3+2,none⟩=some (.slice xA xn xc)∧w9.cell? ⟨b,off+k*3+1,none⟩=some (.bool yr)∧w9.cell? ⟨b,off+k*3+2,none⟩=some (.slice yA yn yc):=⟨cell_grown hg9 hC8.1 (fun e=>hN8H.out.dis2 n1 _ g0 hxDH.out e.symm rfl),cell_grown hg9 hC8.2.1 (fun e=>by have h8:W0.heap.size≤b:=hob _ e.symm;have:=hbW0H.out;omega),cell_grown hg9 hC8.2.2 (fun e=>by have h8:W0.heap.size≤b:=hob _ e.symm;have:=hbW0H.out;omega)⟩;have f9:=own_fz hF.own (n1*3+2);rw[World.frozen?_setCell]at f9;clear hob hown9 hg9 hd9;have R:NlRel W0 b off l C (.slice (some ⟨g0,0,none⟩) (n1+1) c) (.int .i64 ((k:Int)+1)) (w9.setCell ⟨g0,n1*3+2,none⟩ (.slice A9 (xn+1) c9)):=by
       refine⟨k+1,some ⟨g0,0,none⟩,(n1+1),c,D.set (n1) ⟨xnm,none,A9,xn+1,c9⟩,by omega,by go_num,rfl,by omega,?_⟩;have et:cutF (tfOf (⟨yp,yr,⟨yA,yn,yc,yl⟩⟩:File)) r=tfOf (⟨rs,yr,⟨yA,yn,yc,yl⟩⟩:File):=by unfold cutF tfOf;simp only;rw[hrlH.out]
       rw[hgrH.out];rw[addN_old (f:=tfOf (⟨yp,yr,⟨yA,yn,yc,yl⟩⟩:File)) hc2H.out _ u (by rw[List.getLast?_eq_getElem?,hYn];exact huYH.out) holdH.out.1 holdH.out.2,hYn,et];exact hF
      clear hF;have RH:=Lib.hid R;clear R;refine hK.out _ _ ⟨fun _ _ _=>trivial,fun _ _=>hC9⟩ ?_;clear hK K
      (try simp only[Act.put,List.setIfInBounds_toArray,List.set_cons_zero,List.set_cons_succ])
      clear hC hC8;have hC:=hC9;refine oneR (i:=21) (by kernel_rfl) rfl (fun K hK=>?_);go_simp;refine hK.out _ _ ⟨fun _ _ _=>trivial,fun _ h=>h⟩ ?_;clear hK K
      (try simp only[Act.put,List.setIfInBounds_toArray,List.set_cons_zero,List.set_cons_succ])
      refine oneR (i:=22) (by kernel_rfl) rfl (fun K hK=>?_);go_simp;refine hK.out _ _ ⟨fun _ _ _=>trivial,fun _ h=>h⟩ ?_;clear hK K
      (try simp only[Act.put,List.setIfInBounds_toArray,List.set_cons_zero,List.set_cons_succ])
      refine oneR (i:=23) (by kernel_rfl) rfl (fun K hK=>?_);go_simp;refine hK.out _ _ ⟨fun h=>absurd rfl h,fun h=>absurd rfl h⟩ ?_;clear hK K
      (try simp only[Act.put,List.setIfInBounds_toArray,List.set_cons_zero,List.set_cons_succ])
      refine doneR (by kernel_rfl) ?_ _;clear hC hC9 z2 e1 e2;go_wp2;refine⟨?rel,?measure⟩
      case measure=>(simp[intOf];omega)
      case rel=>first | exact RH.out | exact⟨rfl,RH.out⟩
     ·have hnl2:∀ x,(grp ((l.take k).map tfOf)).getLast? = some x→¬ (x.file=none∧x.name=(cutP (tfOf (⟨yp,yr,⟨yA,yn,yc,yl⟩⟩:File)).path).1):=fun x' hx'=>by
       rw[List.getLast?_eq_getElem?,hYn]at hx';have hx':(grp ((l.take k).map tfOf))[n1]? = some x':=hx';rw[huY]at hx';injection hx' with hx';subst hx';exact hold
      have j6:(0:Int)≤(n1:Int)+1:=by omega
      have j7:(n1:Int)+1<((n1+1+1:Nat):Int):=by omega
      have j8:((n1:Int)+1).toNat=n1+1:=by omega
      have j9:(n1:Int)+1<(n1:Int)+1+1:=by omega
      by_cases hnmx:x.name=nm
      ·have huf:∃ f,u.file=some f:=by
        cases hu:u.file with
        | some f=>exact⟨f,rfl⟩
        | none=>exact absurd ⟨hu,by rw[← hNc.name,hnmx,hnlH.out]⟩ hold
       obtain⟨f,hf⟩:=huf;obtain⟨i9,z9,_,_,hptr⟩:=hNc.file f hf;obtain⟨xnm,xpt,xA,xn,xc⟩:=x;simp only at hptr hnmx z0 z1 z2;subst hptr hnmx;have q1:(xnm.toList==xnm.toList)=true:=by simp
       clear z2 hf;obtain⟨hNcH,hxDH,huYH,holdH,hnl2H⟩:=hqb hNc hxD huY hold (Lib.hid hnl2);clear hNc hxD huY hold hnl2;have hb2:Below W.heap.size W (W.alloc (.cells #[.string xnm,.pointer none,.slice none 0 0] 105)):=(Below.refl _ _).alloc (Nat.le_refl _) _;have hNd2:=hNd1H.out.below hb2;have hnew0:SlAt (RNV C) (W.alloc (.cells #[.string xnm,.pointer none,.slice none 0 0] 105)) (some ⟨W.heap.size,0,none⟩) 1 [⟨xnm,none,none,0,0⟩]:=slAt_new (R:=RNV C) W 105 ⟨xnm,none,none,0,0⟩ hnCH.out;obtain⟨hb2H,hNd2H,hnew0H⟩:=hq2 hb2 (hq2 hNd2 (Lib.hid hnew0));clear hb2 hNd2 hnew0;go_wp2_with (at_builtin;go_loud (refine wpList_app rfl (.tmp 56) (.tmp 59) 100 rfl Tryz.underlying100 elem_Node (by show 0<3;decide) rfl hNd2H.out.own (some ⟨W.heap.size,0,none⟩) 1 1 [⟨xnm,none,none,0,0⟩] rfl hnew0H.out ?nn ?ok ?c1 ?c2 ?c3 ((n1+1)+1) ?c4 ?_))
       case nn=>intro h;cases h
       case ok=>exact fun _ _ _ _ h=>h
       case c1=>rw[hDn];unfold maxLen;omega
       case c2=>rw[hDn];omega
       case c3=>exact hNd2H.out.bel.size
       case c4=>rw[hDn]
       intro A5 c5 w5 hown5 hg5 hat5 hb5;clear z0 z1 q1;have hNd5:=hNd2H.out.push (x:=⟨xnm,none,none,0,0⟩) (y:=⟨(cutP yp.data.toList).1,none,[]⟩) hown5 hg5 (by simpa using hat5) ⟨rfl,rfl,rfl⟩ hnlH.out (fun f hf=>by cases hf) (fun _=>rfl) rfl;have hxD5:(D ++ [(⟨xnm,none,none,0,0⟩:NV)])[(n1+1)]? = some ⟨xnm,none,none,0,0⟩:=by rw[List.getElem?_append_right (by omega),hDn,Nat.sub_self];rfl
       have huY5:(grp ((l.take k).map tfOf) ++ [(⟨(cutP yp.data.toList).1,none,[]⟩:TN)])[(n1+1)]? = some ⟨(cutP yp.data.toList).1,none,[]⟩:=by rw[List.getElem?_append_right (by omega),hYn,Nat.sub_self];rfl
       obtain⟨g5,hA5⟩:=own_form hown5 (by omega);subst hA5;have hslo5:=hown5.slAt;have z2:w5.cell? ⟨g5,(n1+1)*3+2,none⟩=some (.slice none 0 0):=by have:=(hslo5.2.1 (by omega));obtain⟨b',o',hA,hc⟩:=this;injection hA with hA;injection hA with h1 h2 _;subst h1 h2;have:=hc (n1+1) _ hxD5 2 _ rfl;simpa[RNV]using this
       have e1:=(hb5.cell (p:=⟨b,off+k*3+1,none⟩) hbW0H.out).trans (keepC hb2H.out e1);have e2:=(hb5.cell (p:=⟨b,off+k*3+2,none⟩) hbW0H.out).trans (keepC hb2H.out e2);clear hslo5 hg5 hat5 hb5 hown5;obtain⟨hNd5H,hxD5H,huY5H⟩:=hq2 hNd5 (hq2 hxD5 (Lib.hid huY5));clear hNd5 hxD5 huY5;go_wp2_with fail;refine startR (R:=Rk (fun _=>True) (fun w'=>w'.cell? ⟨g5,(n1+1)*3+2,none⟩=some (.slice none 0 0)∧w'.cell? ⟨b,off+k*3+1,none⟩=some (.bool yr)∧w'.cell? ⟨b,off+k*3+2,none⟩=some (.slice yA yn yc)) 23 23) (by kernel_rfl) ?_;have hC:w5.drew.cell? ⟨g5,(n1+1)*3+2,none⟩=some (.slice none 0 0)∧w5.drew.cell? ⟨b,off+k*3+1,none⟩=some (.bool yr)∧w5.drew.cell? ⟨b,off+k*3+2,none⟩=some (.slice yA yn yc):=⟨z2,e1,e2⟩;refine takeC (i:=0) (d:=some 63) (v:=?_) rfl rfl (by kernel_rfl) (by kernel_rfl) (by kernel_rfl) (by kernel_rfl) (fun _ _ _ h=>h) (Or.inl ⟨by rfl,?_⟩) hC ?_
       rotate_left
       ·(intro w hSw;(try dsimp only at hSw);go_simp;(try with_reducible rfl))
       (try simp only[Act.put,List.setIfInBounds_toArray,List.set_cons_zero,List.set_cons_succ])
       refine takeC (i:=1) (d:=some 64) (v:=?_) rfl rfl (by kernel_rfl) (by kernel_rfl) (by kernel_rfl) (by kernel_rfl) (fun _ _ _ h=>h) (Or.inl ⟨by rfl,?_⟩) hC ?_
       rotate_left
       ·(intro w hSw;(try dsimp only at hSw);go_simp;(try with_reducible rfl))
       (try simp only[Act.put,List.setIfInBounds_toArray,List.set_cons_zero,List.set_cons_succ])
       refine takeC (i:=2) (d:=some 65) (v:=?_) rfl rfl (by kernel_rfl) (by kernel_rfl) (by kernel_rfl) (by kernel_rfl) (fun _ _ _ h=>h) (Or.inl ⟨by rfl,?_⟩) hC ?_
       rotate_left
       ·(intro w hSw;(try dsimp only at hSw);go_simp;(try with_reducible rfl))
       (try simp only[Act.put,List.setIfInBounds_toArray,List.set_cons_zero,List.set_cons_succ])
       refine takeC (i:=3) (d:=some 66) (v:=?_) rfl rfl (by kernel_rfl) (by kernel_rfl) (by kernel_rfl) (by kernel_rfl) (fun _ _ _ h=>h) (Or.inl ⟨by rfl,?_⟩) hC ?_
       rotate_left
       ·(intro w hSw;(try dsimp only at hSw);go_simp;(try with_reducible rfl))
       (try simp only[Act.put,List.setIfInBounds_toArray,List.set_cons_zero,List.set_cons_succ])
       refine takeC (i:=4) (d:=some 67) (v:=?_) rfl rfl (by kernel_rfl) (by kernel_rfl) (by kernel_rfl) (by kernel_rfl) (fun _ _ _ h=>h) (Or.inl ⟨by rfl,?_⟩) hC ?_
       rotate_left
       ·(intro w hSw;(try dsimp only at hSw);go_simp;(try with_reducible rfl))
       (try simp only[Act.put,List.setIfInBounds_toArray,List.set_cons_zero,List.set_cons_succ])
       refine takeC (i:=5) (d:=some 68) (v:=?_) rfl rfl (by kernel_rfl) (by kernel_rfl) (by kernel_rfl) (by kernel_rfl) (fun _ _ _ h=>h) (Or.inl ⟨by rfl,?_⟩) hC ?_
       rotate_left
       ·(intro w hSw;(try dsimp only at hSw);go_simp;(try with_reducible rfl))
       (try simp only[Act.put,List.setIfInBounds_toArray,List.set_cons_zero,List.set_cons_succ])
       refine takeC (i:=6) (d:=some 69) (v:=?_) rfl rfl (by kernel_rfl) (by kernel_rfl) (by kernel_rfl) (by kernel_rfl) (fun _ _ _ h=>h) (Or.inl ⟨by rfl,?_⟩) hC ?_
       rotate_left
       ·(intro w hSw;(try dsimp only at hSw);go_simp;(try with_reducible rfl))
       (try simp only[Act.put,List.setIfInBounds_toArray,List.set_cons_zero,List.set_cons_succ])
       refine takeC (i:=7) (d:=some 70) (v:=?_) rfl rfl (by kernel_rfl) (by kernel_rfl) (by kernel_rfl) (by kernel_rfl) (fun _ _ _ h=>h) (Or.inl ⟨by rfl,?_⟩) hC ?_
       rotate_left
       ·(intro w hSw;(try dsimp only at hSw);go_simp;(try with_reducible rfl))
       (try simp only[Act.put,List.setIfInBounds_toArray,List.set_cons_zero,List.set_cons_succ])
       refine takeC (i:=8) (d:=some 71) (v:=?_) rfl rfl (by kernel_rfl) (by kernel_rfl) (by kernel_rfl) (by kernel_rfl) (fun _ _ _ h=>h) (Or.inl ⟨by rfl,?_⟩) hC ?_
       rotate_left
       ·(intro w hSw;(try dsimp only at hSw);go_simp;(try with_reducible rfl))
       (try simp only[Act.put,List.setIfInBounds_toArray,List.set_cons_zero,List.set_cons_succ])
       refine takeC (i:=9) (d:=some 72) (v:=?_) rfl rfl (by kernel_rfl) (by kernel_rfl) (by kernel_rfl) (by kernel_rfl) (fun _ _ _ h=>h) (Or.inl ⟨by rfl,?_⟩) hC ?_
       rotate_left
       ·(intro w hSw;(try dsimp only at hSw);go_simp;(try with_reducible rfl))
       (try simp only[Act.put,List.setIfInBounds_toArray,List.set_cons_zero,List.set_cons_succ])
       refine takeC (i:=10) (d:=some 73) (v:=?_) rfl rfl (by kernel_rfl) (by kernel_rfl) (by kernel_rfl) (by kernel_rfl) (fun _ _ _ h=>h) (Or.inl ⟨by rfl,?_⟩) hC ?_
       rotate_left
       ·(intro w hSw;(try dsimp only at hSw);go_simp;(try with_reducible rfl))
       (try simp only[Act.put,List.setIfInBounds_toArray,List.set_cons_zero,List.set_cons_succ])
       refine takeC (i:=11) (d:=some 74) (v:=?_) rfl rfl (by kernel_rfl) (by kernel_rfl) (by kernel_rfl) (by kernel_rfl) (fun _ _ _ h=>h) (Or.inl ⟨by rfl,?_⟩) hC ?_
       rotate_left
       ·(intro w hSw;(try dsimp only at hSw);go_simp;(try with_reducible rfl))
       (try simp only[Act.put,List.setIfInBounds_toArray,List.set_cons_zero,List.set_cons_succ])
       refine takeC (i:=12) (d:=some 75) (v:=?_) rfl rfl (by kernel_rfl) (by kernel_rfl) (by kernel_rfl) (by kernel_rfl) (fun _ _ _ h=>h) (Or.inl ⟨by rfl,?_⟩) hC ?_
       rotate_left
       ·(intro w hSw;(try dsimp only at hSw);go_simp;(try with_reducible rfl))
       (try simp only[Act.put,List.setIfInBounds_toArray,List.set_cons_zero,List.set_cons_succ])
       refine takeC (i:=13) (d:=some 76) (v:=?_) rfl rfl (by kernel_rfl) (by kernel_rfl) (by kernel_rfl) (by kernel_rfl) (fun _ _ _ h=>h) (Or.inl ⟨by rfl,?_⟩) hC ?_
       rotate_left
       ·(intro w hSw;(try dsimp only at hSw);go_simp;(try with_reducible rfl))
       (try simp only[Act.put,List.setIfInBounds_toArray,List.set_cons_zero,List.set_cons_succ])
       refine takeC (i:=14) (d:=some 77) (v:=?_) rfl rfl (by kernel_rfl) (by kernel_rfl) (by kernel_rfl) (by kernel_rfl) (fun _ _ _ h=>h) (Or.inl ⟨by rfl,?_⟩) hC ?_
       rotate_left
       ·(intro w hSw;(try dsimp only at hSw);go_simp;(try with_reducible rfl))
       (try simp only[Act.put,List.setIfInBounds_toArray,List.set_cons_zero,List.set_cons_succ])
       refine takeC (i:=15) (d:=some 78) (v:=?_) rfl rfl (by kernel_rfl) (by kernel_rfl) (by kernel_rfl) (by kernel_rfl) (fun _ _ _ h=>h) (Or.inl ⟨by rfl,?_⟩) hC ?_
       rotate_left
       ·(intro w hSw;(try dsimp only at hSw);go_simp;(try with_reducible rfl))
       (try simp only[Act.put,List.setIfInBounds_toArray,List.set_cons_zero,List.set_cons_succ])
       refine takeC (i:=16) (d:=some 79) (v:=?_) rfl rfl (by kernel_rfl) (by kernel_rfl) (by kernel_rfl) (by kernel_rfl) (fun _ _ _ h=>h) (Or.inl ⟨by rfl,?_⟩) hC ?_
       rotate_left
       ·(intro w hSw;(try dsimp only at hSw);go_simp;(try with_reducible rfl))
       (try simp only[Act.put,List.setIfInBounds_toArray,List.set_cons_zero,List.set_cons_succ])
       refine takeC (i:=17) (d:=some 80) (v:=?_) rfl rfl (by kernel_rfl) (by kernel_rfl) (by kernel_rfl) (by kernel_rfl) (fun _ _ _ h=>h) (Or.inl ⟨by rfl,?_⟩) hC ?_
       rotate_left
       ·(intro w hSw;(try dsimp only at hSw);go_simp;(try with_reducible rfl))
       (try simp only[Act.put,List.setIfInBounds_toArray,List.set_cons_zero,List.set_cons_succ])
       refine takeC (i:=18) (d:=some 81) (v:=?_) rfl rfl (by kernel_rfl) (by kernel_rfl) (by kernel_rfl) (by kernel_rfl) (fun _ _ _ h=>h) (Or.inl ⟨by rfl,?_⟩) hC ?_
       rotate_left
       ·(intro w hSw;(try dsimp only at hSw);go_simp;(try with_reducible rfl))
       (try simp only[Act.put,List.setIfInBounds_toArray,List.set_cons_zero,List.set_cons_succ])
       refine oneR (i:=19) (by kernel_rfl) rfl (fun K hK=>?_);go_simp;have hb8:Below w5.heap.size w5 (w5.drew.alloc (.cells #[.string rs,.bool yr,.slice yA yn yc] 95)):=((Below.refl _ _).drew).alloc (Nat.le_refl _) _;have hN8:=hNd5H.out.below hb8;have hC8:(w5.drew.alloc (.cells #[.string rs,.bool yr,.slice yA yn yc] 95)).cell? ⟨g5,(n1+1)*3+2,none⟩=some (.slice none 0 0)∧(w5.drew.alloc (.cells #[.string rs,.bool yr,.slice yA yn yc] 95)).cell? ⟨b,off+k*3+1,none⟩=some (.bool yr)∧(w5.drew.alloc (.cells #[.string rs,.bool yr,.slice yA yn yc] 95)).cell? ⟨b,off+k*3+2,none⟩=some (.slice yA yn yc):=⟨keepC hb8 z2,keepC hb8 e1,keepC hb8 e2⟩;refine hK.out _ _ ⟨fun _ _ _=>trivial,fun _ _=>hC8⟩ ?_;clear hK K
       (try simp only[Act.put,List.setIfInBounds_toArray,List.set_cons_zero,List.set_cons_succ])
       obtain⟨fl,hfo,hfm,hfk⟩:=(hN8.each (n1+1) _ _ hxD5H.out huY5H.out).sub;have hfo:Own RFile 95 (w5.drew.alloc (.cells #[.string rs,.bool yr,.slice yA yn yc] 95)) W0.heap.size (.slice none 0 0) fl:=hfo;have hfln:=hfo.len;have hokz:RFile.ok W0 (⟨rs,yr,⟨yA,yn,yc,yl⟩⟩:File):=⟨hrzH.out,trivial,hyokH.out.2.2⟩;have hnew:=slAt_new (R:=RFile) w5.drew 95 (⟨rs,yr,⟨yA,yn,yc,yl⟩⟩:File) (RFile.mono _ _ _ (hNd5H.out.bel.drew) hokz);have hxn1:0≤1000:=by
        omega
       obtain⟨hb8H,hN8H,hfoH,hfmH,hfkH,hokzH,hnewH,hflnH⟩:=hq2 hb8 (hq2 hN8 (hq2 hfo (hqb hfm hfk hokz hnew (Lib.hid hfln))));clear hb8 hN8 hfo hfm hfk hokz hnew hfln;refine oneR (i:=20) (by kernel_rfl) rfl (fun K hK=>?_);refine step_app1g (R:=RFile) (base:=W0.heap.size) (v:=.slice none 0 0) (l:=fl) ?g1 (.tmp 69) (.tmp 82) 22 ?g2 Tryz.underlying22 elem_FileT (by decide) ?g3 hfoH.out w5.heap.size (⟨rs,yr,⟨yA,yn,yc,yl⟩⟩:File) ?g4 hnewH.out (fun w' hg z hz ho=>RFile.mono _ _ _ (hN8H.out.bel.grown hg hN8H.out.bel.size fun q hq=>(hfoH.out.1.lt q hq).1) ((List.mem_append.1 hz).elim (fun h=>hfkH.out z h) (fun h=>by rw[List.mem_singleton]at h;rw[h];exact hokzH.out))) ?a4 ?a5 ?a6 (0+1) ?a7 ?_
       case g1=>rfl
       case g2=>rfl
       case g3=>rfl
       case g4=>rfl
       case a4=>rw[hflnH.out];unfold maxLen;omega
       case a5=>rw[hflnH.out];omega
       case a6=>exact hN8H.out.bel.size
       case a7=>rw[hflnH.out]
       intro A9 c9 w9 hown9 hg9 hd9;have hF:=hN8H.out.put hxD5H.out huY5H.out rfl hown9 hfmH.out hfkH.out hokzH.out hg9 (fun q hq=>(hd9 q hq).imp id fun h=>h);have hob:∀ q,(Value.slice none 0 0).ownBlock=some q→W0.heap.size≤q:=fun q hq=>(hfoH.out.1.lt q hq).1;have hC9:w9.cell? ⟨g5,(n1+1)*3+2,none⟩=some (.slice none 0 0)∧w9.cell? ⟨b,off+k*3+1,none⟩=some (.bool yr)∧w9.cell? ⟨b,off+k*3+2,none⟩=some (.slice yA yn yc):=⟨cell_grown hg9 hC8.1 (fun e=>hN8H.out.dis2 (n1+1) _ g5 hxD5H.out e.symm rfl),cell_grown hg9 hC8.2.1 (fun e=>by have h8:W0.heap.size≤b:=hob _ e.symm;have:=hbW0H.out;omega),cell_grown hg9 hC8.2.2 (fun e=>by have h8:W0.heap.size≤b:=hob _ e.symm;have:=hbW0H.out;omega)⟩;have f9:=own_fz hF.own ((n1+1)*3+2);rw[World.frozen?_setCell]at f9;clear hob hown9 hg9 hd9;have R:NlRel W0 b off l C (.slice (some ⟨g5,0,none⟩) ((n1+1)+1) c5) (.int .i64 ((k:Int)+1)) (w9.setCell ⟨g5,(n1+1)*3+2,none⟩ (.slice A9 (0+1) c9)):=by
        refine⟨k+1,some ⟨g5,0,none⟩,((n1+1)+1),c5,(D ++ [(⟨xnm,none,none,0,0⟩:NV)]).set ((n1+1)) ⟨xnm,none,A9,0+1,c9⟩,by omega,by go_num,rfl,by omega,?_⟩;have et:cutF (tfOf (⟨yp,yr,⟨yA,yn,yc,yl⟩⟩:File)) r=tfOf (⟨rs,yr,⟨yA,yn,yc,yl⟩⟩:File):=by unfold cutF tfOf;simp only;rw[hrlH.out]
        rw[hgrH.out];rw[addN_new (f:=tfOf (⟨yp,yr,⟨yA,yn,yc,yl⟩⟩:File)) hc2H.out _ (hnl2H.out)];have es:(grp ((l.take k).map tfOf) ++ [(⟨(cutP yp.data.toList).1,none,[]⟩:TN)]).set (n1+1) ⟨(cutP yp.data.toList).1,none,[] ++ [tfOf (⟨rs,yr,⟨yA,yn,yc,yl⟩⟩:File)]⟩=grp ((l.take k).map tfOf) ++ [⟨(cutP yp.data.toList).1,none,[cutF (tfOf (⟨yp,yr,⟨yA,yn,yc,yl⟩⟩:File)) r]⟩]:=by
         rw[List.set_append_right _ _ (by omega),hYn,Nat.sub_self,et];rfl
        have es:=es.symm;rw[show (cutP (tfOf (⟨yp,yr,⟨yA,yn,yc,yl⟩⟩:File)).path).1=(cutP yp.data.toList).1 from rfl,es];exact hF
       clear hF;have RH:=Lib.hid R;clear R;refine hK.out _ _ ⟨fun _ _ _=>trivial,fun _ _=>hC9⟩ ?_;clear hK K
       (try simp only[Act.put,List.setIfInBounds_toArray,List.set_cons_zero,List.set_cons_succ])
       clear hC hC8;have hC:=hC9;refine oneR (i:=21) (by kernel_rfl) rfl (fun K hK=>?_);go_simp;refine hK.out _ _ ⟨fun _ _ _=>trivial,fun _ h=>h⟩ ?_;clear hK K
       (try simp only[Act.put,List.setIfInBounds_toArray,List.set_cons_zero,List.set_cons_succ])
       refine oneR (i:=22) (by kernel_rfl) rfl (fun K hK=>?_);go_simp;refine hK.out _ _ ⟨fun _ _ _=>trivial,fun _ h=>h⟩ ?_;clear hK K
       (try simp only[Act.put,List.setIfInBounds_toArray,List.set_cons_zero,List.set_cons_succ])
       refine oneR (i:=23) (by kernel_rfl) rfl (fun K hK=>?_);go_simp;refine hK.out _ _ ⟨fun h=>absurd rfl h,fun h=>absurd rfl h⟩ ?_;clear hK K
       (try simp only[Act.put,List.setIfInBounds_toArray,List.set_cons_zero,List.set_cons_succ])
       refine doneR (by kernel_rfl) ?_ _;clear hC hC9 z2 e1 e2;go_wp2;refine⟨?rel,?measure⟩
       case measure=>(simp[intOf];omega)
       case rel=>first | exact RH.out | exact⟨rfl,RH.out⟩
      ·have q1:(x.name.toList==nm.toList)=false:=by rw[beq_data];exact decide_eq_false hnmx
       obtain⟨xnm,xpt,xA,xn,xc⟩:=x;simp only at hnmx z0 z1 z2 q1;clear z2;obtain⟨hNcH,hxDH,huYH,holdH,hnl2H⟩:=hqb hNc hxD huY hold (Lib.hid hnl2);clear hNc hxD huY hold hnl2;have hb2:Below W.heap.size W (W.alloc (.cells #[.string nm,.pointer none,.slice none 0 0] 105)):=(Below.refl _ _).alloc (Nat.le_refl _) _;have hNd2:=hNd1H.out.below hb2;have hnew0:SlAt (RNV C) (W.alloc (.cells #[.string nm,.pointer none,.slice none 0 0] 105)) (some ⟨W.heap.size,0,none⟩) 1 [⟨nm,none,none,0,0⟩]:=slAt_new (R:=RNV C) W 105 ⟨nm,none,none,0,0⟩ hnCH.out;obtain⟨hb2H,hNd2H,hnew0H⟩:=hq2 hb2 (hq2 hNd2 (Lib.hid hnew0));clear hb2 hNd2 hnew0;go_wp2_with (at_builtin;go_loud (refine wpList_app rfl (.tmp 56) (.tmp 59) 100 rfl Tryz.underlying100 elem_Node (by show 0<3;decide) rfl hNd2H.out.own (some ⟨W.heap.size,0,none⟩) 1 1 [⟨nm,none,none,0,0⟩] rfl hnew0H.out ?nn ?ok ?c1 ?c2 ?c3 ((n1+1)+1) ?c4 ?_))
       case nn=>intro h;cases h
       case ok=>exact fun _ _ _ _ h=>h
       case c1=>rw[hDn];unfold maxLen;omega
       case c2=>rw[hDn];omega
       case c3=>exact hNd2H.out.bel.size
       case c4=>rw[hDn]
       intro A5 c5 w5 hown5 hg5 hat5 hb5;clear z0 z1 q1;have hNd5:=hNd2H.out.push (x:=⟨nm,none,none,0,0⟩) (y:=⟨(cutP yp.data.toList).1,none,[]⟩) hown5 hg5 (by simpa using hat5) ⟨rfl,rfl,rfl⟩ hnlH.out (fun f hf=>by cases hf) (fun _=>rfl) rfl;have hxD5:(D ++ [(⟨nm,none,none,0,0⟩:NV)])[(n1+1)]? = some ⟨nm,none,none,0,0⟩:=by rw[List.getElem?_append_right (by omega),hDn,Nat.sub_self];rfl
       have huY5:(grp ((l.take k).map tfOf) ++ [(⟨(cutP yp.data.toList).1,none,[]⟩:TN)])[(n1+1)]? = some ⟨(cutP yp.data.toList).1,none,[]⟩:=by rw[List.getElem?_append_right (by omega),hYn,Nat.sub_self];rfl
       obtain⟨g5,hA5⟩:=own_form hown5 (by omega);subst hA5;have hslo5:=hown5.slAt;have z2:w5.cell? ⟨g5,(n1+1)*3+2,none⟩=some (.slice none 0 0):=by have:=(hslo5.2.1 (by omega));obtain⟨b',o',hA,hc⟩:=this;injection hA with hA;injection hA with h1 h2 _;subst h1 h2;have:=hc (n1+1) _ hxD5 2 _ rfl;simpa[RNV]using this
       have e1:=(hb5.cell (p:=⟨b,off+k*3+1,none⟩) hbW0H.out).trans (keepC hb2H.out e1);have e2:=(hb5.cell (p:=⟨b,off+k*3+2,none⟩) hbW0H.out).trans (keepC hb2H.out e2);clear hslo5 hg5 hat5 hb5 hown5;obtain⟨hNd5H,hxD5H,huY5H⟩:=hq2 hNd5 (hq2 hxD5 (Lib.hid huY5));clear hNd5 hxD5 huY5;go_wp2_with fail;refine startR (R:=Rk (fun _=>True) (fun w'=>w'.cell? ⟨g5,(n1+1)*3+2,none⟩=some (.slice none 0 0)∧w'.cell? ⟨b,off+k*3+1,none⟩=some (.bool yr)∧w'.cell? ⟨b,off+k*3+2,none⟩=some (.slice yA yn yc)) 23 23) (by kernel_rfl) ?_;have hC:w5.drew.cell? ⟨g5,(n1+1)*3+2,none⟩=some (.slice none 0 0)∧w5.drew.cell? ⟨b,off+k*3+1,none⟩=some (.bool yr)∧w5.drew.cell? ⟨b,off+k*3+2,none⟩=some (.slice yA yn yc):=⟨z2,e1,e2⟩;refine takeC (i:=0) (d:=some 63) (v:=?_) rfl rfl (by kernel_rfl) (by kernel_rfl) (by kernel_rfl) (by kernel_rfl) (fun _ _ _ h=>h) (Or.inl ⟨by rfl,?_⟩) hC ?_
       rotate_left
       ·(intro w hSw;(try dsimp only at hSw);go_simp;(try with_reducible rfl))
       (try simp only[Act.put,List.setIfInBounds_toArray,List.set_cons_zero,List.set_cons_succ])
       refine takeC (i:=1) (d:=some 64) (v:=?_) rfl rfl (by kernel_rfl) (by kernel_rfl) (by kernel_rfl) (by kernel_rfl) (fun _ _ _ h=>h) (Or.inl ⟨by rfl,?_⟩) hC ?_
       rotate_left
       ·(intro w hSw;(try dsimp only at hSw);go_simp;(try with_reducible rfl))
       (try simp only[Act.put,List.setIfInBounds_toArray,List.set_cons_zero,List.set_cons_succ])
       refine takeC (i:=2) (d:=some 65) (v:=?_) rfl rfl (by kernel_rfl) (by kernel_rfl) (by kernel_rfl) (by kernel_rfl) (fun _ _ _ h=>h) (Or.inl ⟨by rfl,?_⟩) hC ?_
       rotate_left
       ·(intro w hSw;(try dsimp only at hSw);go_simp;(try with_reducible rfl))
       (try simp only[Act.put,List.setIfInBounds_toArray,List.set_cons_zero,List.set_cons_succ])
       refine takeC (i:=3) (d:=some 66) (v:=?_) rfl rfl (by kernel_rfl) (by kernel_rfl) (by kernel_rfl) (by kernel_rfl) (fun _ _ _ h=>h) (Or.inl ⟨by rfl,?_⟩) hC ?_
       rotate_left
       ·(intro w hSw;(try dsimp only at hSw);go_simp;(try with_reducible rfl))
       (try simp only[Act.put,List.setIfInBounds_toArray,List.set_cons_zero,List.set_cons_succ])
       refine takeC (i:=4) (d:=some 67) (v:=?_) rfl rfl (by kernel_rfl) (by kernel_rfl) (by kernel_rfl) (by kernel_rfl) (fun _ _ _ h=>h) (Or.inl ⟨by rfl,?_⟩) hC ?_
       rotate_left
       ·(intro w hSw;(try dsimp only at hSw);go_simp;(try with_reducible rfl))
       (try simp only[Act.put,List.setIfInBounds_toArray,List.set_cons_zero,List.set_cons_succ])
       refine takeC (i:=5) (d:=some 68) (v:=?_) rfl rfl (by kernel_rfl) (by kernel_rfl) (by kernel_rfl) (by kernel_rfl) (fun _ _ _ h=>h) (Or.inl ⟨by rfl,?_⟩) hC ?_
       rotate_left
       ·(intro w hSw;(try dsimp only at hSw);go_simp;(try with_reducible rfl))
       (try simp only[Act.put,List.setIfInBounds_toArray,List.set_cons_zero,List.set_cons_succ])
       refine takeC (i:=6) (d:=some 69) (v:=?_) rfl rfl (by kernel_rfl) (by kernel_rfl) (by kernel_rfl) (by kernel_rfl) (fun _ _ _ h=>h) (Or.inl ⟨by rfl,?_⟩) hC ?_
       rotate_left
       ·(intro w hSw;(try dsimp only at hSw);go_simp;(try with_reducible rfl))
       (try simp only[Act.put,List.setIfInBounds_toArray,List.set_cons_zero,List.set_cons_succ])
       refine takeC (i:=7) (d:=some 70) (v:=?_) rfl rfl (by kernel_rfl) (by kernel_rfl) (by kernel_rfl) (by kernel_rfl) (fun _ _ _ h=>h) (Or.inl ⟨by rfl,?_⟩) hC ?_
       rotate_left
       ·(intro w hSw;(try dsimp only at hSw);go_simp;(try with_reducible rfl))
       (try simp only[Act.put,List.setIfInBounds_toArray,List.set_cons_zero,List.set_cons_succ])
       refine takeC (i:=8) (d:=some 71) (v:=?_) rfl rfl (by kernel_rfl) (by kernel_rfl) (by kernel_rfl) (by kernel_rfl) (fun _ _ _ h=>h) (Or.inl ⟨by rfl,?_⟩) hC ?_
       rotate_left
       ·(intro w hSw;(try dsimp only at hSw);go_simp;(try with_reducible rfl))
       (try simp only[Act.put,List.setIfInBounds_toArray,List.set_cons_zero,List.set_cons_succ])
       refine takeC (i:=9) (d:=some 72) (v:=?_) rfl rfl (by kernel_rfl) (by kernel_rfl) (by kernel_rfl) (by kernel_rfl) (fun _ _ _ h=>h) (Or.inl ⟨by rfl,?_⟩) hC ?_
       rotate_left
       ·(intro w hSw;(try dsimp only at hSw);go_simp;(try with_reducible rfl))
       (try simp only[Act.put,List.setIfInBounds_toArray,List.set_cons_zero,List.set_cons_succ])
       refine takeC (i:=10) (d:=some 73) (v:=?_) rfl rfl (by kernel_rfl) (by kernel_rfl) (by kernel_rfl) (by kernel_rfl) (fun _ _ _ h=>h) (Or.inl ⟨by rfl,?_⟩) hC ?_
       rotate_left
       ·(intro w hSw;(try dsimp only at hSw);go_simp;(try with_reducible rfl))
       (try simp only[Act.put,List.setIfInBounds_toArray,List.set_cons_zero,List.set_cons_succ])
       refine takeC (i:=11) (d:=some 74) (v:=?_) rfl rfl (by kernel_rfl) (by kernel_rfl) (by kernel_rfl) (by kernel_rfl) (fun _ _ _ h=>h) (Or.inl ⟨by rfl,?_⟩) hC ?_
       rotate_left
       ·(intro w hSw;(try dsimp only at hSw);go_simp;(try with_reducible rfl))
       (try simp only[Act.put,List.setIfInBounds_toArray,List.set_cons_zero,List.set_cons_succ])
       refine takeC (i:=12) (d:=some 75) (v:=?_) rfl rfl (by kernel_rfl) (by kernel_rfl) (by kernel_rfl) (by kernel_rfl) (fun _ _ _ h=>h) (Or.inl ⟨by rfl,?_⟩) hC ?_
       rotate_left
       ·(intro w hSw;(try dsimp only at hSw);go_simp;(try with_reducible rfl))
       (try simp only[Act.put,List.setIfInBounds_toArray,List.set_cons_zero,List.set_cons_succ])
       refine takeC (i:=13) (d:=some 76) (v:=?_) rfl rfl (by kernel_rfl) (by kernel_rfl) (by kernel_rfl) (by kernel_rfl) (fun _ _ _ h=>h) (Or.inl ⟨by rfl,?_⟩) hC ?_
       rotate_left
       ·(intro w hSw;(try dsimp only at hSw);go_simp;(try with_reducible rfl))
       (try simp only[Act.put,List.setIfInBounds_toArray,List.set_cons_zero,List.set_cons_succ])
       refine takeC (i:=14) (d:=some 77) (v:=?_) rfl rfl (by kernel_rfl) (by kernel_rfl) (by kernel_rfl) (by kernel_rfl) (fun _ _ _ h=>h) (Or.inl ⟨by rfl,?_⟩) hC ?_
       rotate_left
       ·(intro w hSw;(try dsimp only at hSw);go_simp;(try with_reducible rfl))
       (try simp only[Act.put,List.setIfInBounds_toArray,List.set_cons_zero,List.set_cons_succ])
       refine takeC (i:=15) (d:=some 78) (v:=?_) rfl rfl (by kernel_rfl) (by kernel_rfl) (by kernel_rfl) (by kernel_rfl) (fun _ _ _ h=>h) (Or.inl ⟨by rfl,?_⟩) hC ?_
       rotate_left
       ·(intro w hSw;(try dsimp only at hSw);go_simp;(try with_reducible rfl))
       (try simp only[Act.put,List.setIfInBounds_toArray,List.set_cons_zero,List.set_cons_succ])
       refine takeC (i:=16) (d:=some 79) (v:=?_) rfl rfl (by kernel_rfl) (by kernel_rfl) (by kernel_rfl) (by kernel_rfl) (fun _ _ _ h=>h) (Or.inl ⟨by rfl,?_⟩) hC ?_
       rotate_left
       ·(intro w hSw;(try dsimp only at hSw);go_simp;(try with_reducible rfl))
       (try simp only[Act.put,List.setIfInBounds_toArray,List.set_cons_zero,List.set_cons_succ])
       refine takeC (i:=17) (d:=some 80) (v:=?_) rfl rfl (by kernel_rfl) (by kernel_rfl) (by kernel_rfl) (by kernel_rfl) (fun _ _ _ h=>h) (Or.inl ⟨by rfl,?_⟩) hC ?_
       rotate_left
       ·(intro w hSw;(try dsimp only at hSw);go_simp;(try with_reducible rfl))
       (try simp only[Act.put,List.setIfInBounds_toArray,List.set_cons_zero,List.set_cons_succ])
       refine takeC (i:=18) (d:=some 81) (v:=?_) rfl rfl (by kernel_rfl) (by kernel_rfl) (by kernel_rfl) (by kernel_rfl) (fun _ _ _ h=>h) (Or.inl ⟨by rfl,?_⟩) hC ?_
       rotate_left
       ·(intro w hSw;(try dsimp only at hSw);go_simp;(try with_reducible rfl))
       (try simp only[Act.put,List.setIfInBounds_toArray,List.set_cons_zero,List.set_cons_succ])
       refine oneR (i:=19) (by kernel_rfl) rfl (fun K hK=>?_);go_simp;have hb8:Below w5.heap.size w5 (w5.drew.alloc (.cells #[.string rs,.bool yr,.slice yA yn yc] 95)):=((Below.refl _ _).drew).alloc (Nat.le_refl _) _;have hN8:=hNd5H.out.below hb8;have hC8:(w5.drew.alloc (.cells #[.string rs,.bool yr,.slice yA yn yc] 95)).cell? ⟨g5,(n1+1)*3+2,none⟩=some (.slice none 0 0)∧(w5.drew.alloc (.cells #[.string rs,.bool yr,.slice yA yn yc] 95)).cell? ⟨b,off+k*3+1,none⟩=some (.bool yr)∧(w5.drew.alloc (.cells #[.string rs,.bool yr,.slice yA yn yc] 95)).cell? ⟨b,off+k*3+2,none⟩=some (.slice yA yn yc):=⟨keepC hb8 z2,keepC hb8 e1,keepC hb8 e2⟩;refine hK.out _ _ ⟨fun _ _ _=>trivial,fun _ _=>hC8⟩ ?_;clear hK K
       (try simp only[Act.put,List.setIfInBounds_toArray,List.set_cons_zero,List.set_cons_succ])
       obtain⟨fl,hfo,hfm,hfk⟩:=(hN8.each (n1+1) _ _ hxD5H.out huY5H.out).sub;have hfo:Own RFile 95 (w5.drew.alloc (.cells #[.string rs,.bool yr,.slice yA yn yc] 95)) W0.heap.size (.slice none 0 0) fl:=hfo;have hfln:=hfo.len;have hokz:RFile.ok W0 (⟨rs,yr,⟨yA,yn,yc,yl⟩⟩:File):=⟨hrzH.out,trivial,hyokH.out.2.2⟩;have hnew:=slAt_new (R:=RFile) w5.drew 95 (⟨rs,yr,⟨yA,yn,yc,yl⟩⟩:File) (RFile.mono _ _ _ (hNd5H.out.bel.drew) hokz);have hxn1:0≤1000:=by
        omega
       obtain⟨hb8H,hN8H,hfoH,hfmH,hfkH,hokzH,hnewH,hflnH⟩:=hq2 hb8 (hq2 hN8 (hq2 hfo (hqb hfm hfk hokz hnew (Lib.hid hfln))));clear hb8 hN8 hfo hfm hfk hokz hnew hfln;refine oneR (i:=20) (by kernel_rfl) rfl (fun K hK=>?_);refine step_app1g (R:=RFile) (base:=W0.heap.size) (v:=.slice none 0 0) (l:=fl) ?g1 (.tmp 69) (.tmp 82) 22 ?g2 Tryz.underlying22 elem_FileT (by decide) ?g3 hfoH.out w5.heap.size (⟨rs,yr,⟨yA,yn,yc,yl⟩⟩:File) ?g4 hnewH.out (fun w' hg z hz ho=>RFile.mono _ _ _ (hN8H.out.bel.grown hg hN8H.out.bel.size fun q hq=>(hfoH.out.1.lt q hq).1) ((List.mem_append.1 hz).elim (fun h=>hfkH.out z h) (fun h=>by rw[List.mem_singleton]at h;rw[h];exact hokzH.out))) ?a4 ?a5 ?a6 (0+1) ?a7 ?_
       case g1=>rfl
       case g2=>rfl
       case g3=>rfl
       case g4=>rfl
       case a4=>rw[hflnH.out];unfold maxLen;omega
       case a5=>rw[hflnH.out];omega
       case a6=>exact hN8H.out.bel.size
       case a7=>rw[hflnH.out]
       intro A9 c9 w9 hown9 hg9 hd9;have hF:=hN8H.out.put hxD5H.out huY5H.out rfl hown9 hfmH.out hfkH.out hokzH.out hg9 (fun q hq=>(hd9 q hq).imp id fun h=>h);have hob:∀ q,(Value.slice none 0 0).ownBlock=some q→W0.heap.size≤q:=fun q hq=>(hfoH.out.1.lt q hq).1;have hC9:w9.cell? ⟨g5,(n1+1)*3+2,none⟩=some (.slice none 0 0)∧w9.cell? ⟨b,off+k*3+1,none⟩=some (.bool yr)∧w9.cell? ⟨b,off+k*3+2,none⟩=some (.slice yA yn yc):=⟨cell_grown hg9 hC8.1 (fun e=>hN8H.out.dis2 (n1+1) _ g5 hxD5H.out e.symm rfl),cell_grown hg9 hC8.2.1 (fun e=>by have h8:W0.heap.size≤b:=hob _ e.symm;have:=hbW0H.out;omega),cell_grown hg9 hC8.2.2 (fun e=>by have h8:W0.heap.size≤b:=hob _ e.symm;have:=hbW0H.out;omega)⟩;have f9:=own_fz hF.own ((n1+1)*3+2);rw[World.frozen?_setCell]at f9;clear hob hown9 hg9 hd9;have R:NlRel W0 b off l C (.slice (some ⟨g5,0,none⟩) ((n1+1)+1) c5) (.int .i64 ((k:Int)+1)) (w9.setCell ⟨g5,(n1+1)*3+2,none⟩ (.slice A9 (0+1) c9)):=by
        refine⟨k+1,some ⟨g5,0,none⟩,((n1+1)+1),c5,(D ++ [(⟨nm,none,none,0,0⟩:NV)]).set ((n1+1)) ⟨nm,none,A9,0+1,c9⟩,by omega,by go_num,rfl,by omega,?_⟩;have et:cutF (tfOf (⟨yp,yr,⟨yA,yn,yc,yl⟩⟩:File)) r=tfOf (⟨rs,yr,⟨yA,yn,yc,yl⟩⟩:File):=by unfold cutF tfOf;simp only;rw[hrlH.out]
        rw[hgrH.out];rw[addN_new (f:=tfOf (⟨yp,yr,⟨yA,yn,yc,yl⟩⟩:File)) hc2H.out _ (hnl2H.out)];have es:(grp ((l.take k).map tfOf) ++ [(⟨(cutP yp.data.toList).1,none,[]⟩:TN)]).set (n1+1) ⟨(cutP yp.data.toList).1,none,[] ++ [tfOf (⟨rs,yr,⟨yA,yn,yc,yl⟩⟩:File)]⟩=grp ((l.take k).map tfOf) ++ [⟨(cutP yp.data.toList).1,none,[cutF (tfOf (⟨yp,yr,⟨yA,yn,yc,yl⟩⟩:File)) r]⟩]:=by
         rw[List.set_append_right _ _ (by omega),hYn,Nat.sub_self,et];rfl
        have es:=es.symm;rw[show (cutP (tfOf (⟨yp,yr,⟨yA,yn,yc,yl⟩⟩:File)).path).1=(cutP yp.data.toList).1 from rfl,es];exact hF
       clear hF;have RH:=Lib.hid R;clear R;refine hK.out _ _ ⟨fun _ _ _=>trivial,fun _ _=>hC9⟩ ?_;clear hK K
       (try simp only[Act.put,List.setIfInBounds_toArray,List.set_cons_zero,List.set_cons_succ])
       clear hC hC8;have hC:=hC9;refine oneR (i:=21) (by kernel_rfl) rfl (fun K hK=>?_);go_simp;refine hK.out _ _ ⟨fun _ _ _=>trivial,fun _ h=>h⟩ ?_;clear hK K
       (try simp only[Act.put,List.setIfInBounds_toArray,List.set_cons_zero,List.set_cons_succ])
       refine oneR (i:=22) (by kernel_rfl) rfl (fun K hK=>?_);go_simp;refine hK.out _ _ ⟨fun _ _ _=>trivial,fun _ h=>h⟩ ?_;clear hK K
       (try simp only[Act.put,List.setIfInBounds_toArray,List.set_cons_zero,List.set_cons_succ])
       refine oneR (i:=23) (by kernel_rfl) rfl (fun K hK=>?_);go_simp;refine hK.out _ _ ⟨fun h=>absurd rfl h,fun h=>absurd rfl h⟩ ?_;clear hK K
       (try simp only[Act.put,List.setIfInBounds_toArray,List.set_cons_zero,List.set_cons_succ])
       refine doneR (by kernel_rfl) ?_ _;clear hC hC9 z2 e1 e2;go_wp2;refine⟨?rel,?measure⟩
       case measure=>(simp[intOf];omega)
       case rel=>first | exact RH.out | exact⟨rfl,RH.out⟩
  ·obtain rfl:k=m:=by omega
   rw[List.take_of_length_le (by omega)]at hNd;have hE:=hend'H.out A n c D wr hnk hNd;obtain⟨hNdH,hEH⟩:=hq2 hNd (Lib.hid hE);clear hNd hE;go_wp2_with fail;refine hEH.out.mono ?_;rintro e w1 ⟨rfl,hZ⟩;have hZH:=Lib.hid hZ;clear hZ;go_wp2_with fail;exact hZH.out
end Go.Proofs.YtpdjjjiknijpkaaGreatDoor.C10