/-
 Several texts of mine as one, without what is not wanted here: XAside.
-/
import Derived.Test.YtcdpdaloceengaaGreatDoorKrDC10
set_option linter.unusedVariables false
set_option linter.unusedSimpArgs false
set_option maxRecDepth 100000
set_option maxHeartbeats 8000000
namespace Go.Proofs.YtcdpdaloceengaaGreatDoor.C10
open Go.RowKit Go.Maps Go.Deep
def valP (o:Option Nat):Value:=.pointer (o.map fun b=>⟨b,0,none⟩)
theorem injP:InjV valP:=fun a b h=>by
 unfold valP at h;injection h with h
 cases a <;> cases b <;> simp at h ⊢
 exact h
theorem zeroP (w:World):(zeroValue 54).run Tryz.prog w = .ok (valP none) w:=by kernel_rfl
def ptrs (fam:ByteArray→Option Ent):ByteArray→Option (Option Nat):=fun s=>(fam s).map (fun e=>some e.b)
theorem ptrs_upd (fam:ByteArray→Option Ent) (t:ByteArray) (e:Ent):ptrs (upd fam t e)=upd (ptrs fam) t (some e.b):=by
 funext s
 unfold ptrs upd
 by_cases h:s=t
 ·rw[if_pos h,if_pos h];rfl
 ·rw[if_neg h,if_neg h]
theorem ptrs_same (fam:ByteArray→Option Ent) (t:ByteArray) (e e':Ent) (h:fam t=some e) (hb:e'.b=e.b):ptrs (upd fam t e')=ptrs fam:=by
 rw[ptrs_upd]
 funext s
 unfold upd ptrs
 by_cases hs:s=t
 ·rw[if_pos hs,hs,h,hb];rfl
 ·rw[if_neg hs]
def AsRel (l:List TestRun) (many window good at_:Int) (M:Nat) (w0:World) (i:Value) (wr:World):Prop :=
 ∃ (k:Nat) (fam:ByteArray→Option Ent) (cM:Nat),k≤cntAt l at_∧i = .int .i64 k∧TMap KB valP wr M (ptrs fam) cM∧cM≤k∧Fam wr w0.heap.size M (tl (l.take k)) (hstK many window good l k) k fam∧Below w0.heap.size w0 wr
theorem mem_taken (l:List TestRun) (many window good:Int) (k:Nat) (s:ByteArray) (h:hstK many window good l k s=none):tl (l.take k) s=fun _=>none :=
 tl_none _ _ (fun he=>by have:=(hstK_mem many window good l k s).1 he;rw[h]at this;cases this)
theorem elem_StrA:Elem Tryz.prog 9 RStr.size 16:=elem_of (z:=.string ByteArray.empty) (by kernel_rfl) (by decide)
theorem nodup_dat {L:List ByteArray} (h:L.Nodup):(dat L).Nodup:=by
 unfold dat;refine List.pairwise_map.2 (h.imp fun {a b} hne e=>hne ?_);rw[← bsOf_data a,← bsOf_data b,e]
def RgRel (fam:ByteArray→Option Ent) (M cM r:Nat) (W3:World) (v:Value) (wr:World):Prop :=
 ∃ (left:ByteArray→Bool) (cnt:Nat) (L:List ByteArray) (A:Option Addr) (n cap:Nat),v = .slice A n cap∧TRange KB valP wr M r cM (ptrs fam) left cnt∧Own RStr 9 wr (r+1) v L∧L.Nodup ∧
  (∀ s,s.size≤maxLen→(s∈L↔left s=false∧∃ e,fam s=some e∧e.x.aside=true))∧L.length+cnt≤cM∧Below W3.heap.size W3 wr∧r+1≤wr.heap.size
theorem aside_ok (A:Option Addr) (len cap:Nat) (l:List TestRun) (many window good at_:Int) (w:World) (hm:MaxLenAt w) (hl:SlAt RTestRun w A len l) (hh:histF l=0) (i1:inR 1 100 many=true) (i2:inR 1 1000000000 window=true) (i3:inR 1 100 good=true) (i4:inR 0 1000000000 at_=true) :
  Calls Tryz.prog 7 #[.slice A len cap,.int .i64 many,.int .i64 window,.int .i64 good,.int .i64 at_] w fun e w'=>∃ A' n' c' L,e = .returned (.tuple #[.slice A' n' c',.int .i64 0])∧SlAt RStr w' A' n' L∧AsideAns l many window good at_ 0 L∧n'≤3000∧Below w.heap.size w w':=by
 have hll:=hl.1;have hmk:=@run_makeMap Tryz.prog;have hok:∀ r∈l,r.test.size≤maxLen∧r.key.size≤maxLen:=fun r hr=>⟨(hl.2.2 r hr).1,(hl.2.2 r hr).2.1⟩;obtain⟨hl3,hats⟩:=histF_ok hh;have hcl:=cntAt_le l at_;have j1:=inR_true i1;have j2:=inR_true i2;have j3:=inR_true i3;have j4:=inR_true i4;obtain⟨hmH,hlH,hhH,hokH,hatsH⟩:=hqb hm hl hh hok (Lib.hid hats);clear hm hl hh hok hats;go_enter Tryz.func7,Tryz.ntmps7;go_wp2_with fail;refine(hist_any A len cap l _ hmH.out hlH.out 0 hhH.out).mono ?_;rintro e w1 ⟨rfl,hw1⟩;have hw1H:=Lib.hid hw1;clear hw1;go_wp2_with (go_at_call 12;refine(within_p _ _ _ _).mono ?_;rintro e wz ⟨rfl,rfl⟩);obtain⟨w1,rfl⟩:∃ W,W=wz:=⟨_,rfl⟩;obtain⟨M,hM⟩:∃ M,w1.heap.size=M:=⟨_,rfl⟩;have hbm:=hw1H.out.alloc hw1H.out.size (.map #[] 0);have hmm:=TMap.made w1 KB valP;rw[hM]at hmm;rw[hM];obtain⟨Wm,hWm⟩:∃ X,w1.alloc (.map #[] 0)=X:=⟨_,rfl⟩;rw[hWm]at hbm hmm ⊢;have hWs:Wm.heap.size=M+1:=by rw[← hWm,← hM];simp
 have hwM:w.heap.size≤M:=by rw[← hM];exact hw1H.out.size
 clear hM hWm;obtain⟨hbmH,hmmH⟩:=hq2 hbm (Lib.hid hmm);clear hbm hmm
 go_loopw [45] (fun i wr=>AsRel l many window good at_ M w i wr) (fun i _=>len-(intOf i).toNat)
 case atStart=>exact⟨0,fun _=>none,0,Nat.zero_le _,rfl,hmmH.out,Nat.le_refl _,⟨(fun _ _ h=>nomatch h),fun _=>rfl,(fun _ _ _ _ h=>nomatch h),(fun _ _ h=>nomatch h),(fun _ _ h=>nomatch h),(fun _ _ h=>nomatch h)⟩,hbmH.out⟩
 case round =>
  obtain⟨k,fam,cM,hk,rfl,hmap,hcM,hfam,hb⟩:=hrel;obtain⟨wa,rfl⟩:∃ W,W=wr:=⟨_,rfl⟩;have hbs:=hb.size;have hMw:M<wa.heap.size:=hmap.lt;have hcM3:cM≤3000:=by omega
  by_cases hlt:k<len
  ·obtain⟨b0,off,hA,_⟩:=hlH.out.2.1 (by omega);subst hA;obtain⟨x,hx⟩:∃ x,l[k]? = some x:=⟨l[k]'(by omega),List.getElem?_eq_getElem _⟩;obtain⟨c0,c1,c2,c3,c4⟩:=cells_TestRun (hlH.out.below hb) hx;have hat:=hatsH.out x (List.mem_of_getElem? hx);obtain⟨hgd,hgk⟩:=hokH.out x (List.mem_of_getElem? hx);obtain⟨te,ke,ta,ps,se⟩:=x;simp only at c0 c1 c2 c3 c4 hat hgd hgk;have hbc:Below wa.heap.size wa (wa.alloc (.cells #[.string te,.string ke,.int .i64 ta,.bool ps,.int .i64 se] 39)):=(Below.refl _ _).alloc (Nat.le_refl _) _;have hmapc:=hmap.below hbc hMw;have hfamc:=hfam.below hbc;have hba:=hb.trans (hbc.mono hbs)
   by_cases hcut:ta≤at_
   ·have hkc:k<cntAt l at_:=by
     rcases Nat.lt_or_ge k (cntAt l at_) with h | h
     ·exact h
     ·have:=cntAt_end (at_:=at_) hx (by omega);simp only at this;omega
    have htk:l.take (k+1)=l.take k ++ [⟨te,ke,ta,ps,se⟩]:=by rw[List.take_add_one,hx];rfl
    have hhs:=hstK_succ (many:=many) (window:=window) (good:=good) hx;simp only at hhs;obtain⟨p,q,hpq⟩:∃ p q,tal (l.take k) (te,ke)=(p,q):=⟨_,_,rfl⟩;obtain⟨t1,t2,t3⟩:=tal_nonneg (l.take k) (te,ke);rw[hpq]at t1 t2 t3 hhs;simp only[List.length_take]at t1 t2 t3;have hts:=tl_same (l.take k) ⟨te,ke,ta,ps,se⟩;simp only at hts;rw[hpq,← htk]at hts;have hto:∀ s,s≠te→tl (l.take (k+1)) s=tl (l.take k) s:=fun s hs=>by rw[htk];exact tl_other _ _ hs
    have hgk0:=tl_get (l.take k) te ke;rw[hpq]at hgk0
    cases hfe:fam te with
    | some e =>
     have he:=hfamc.he te e hfe;have hst:hstK many window good l k te=some e.x:=by rw[← hfam.st te,hfe];rfl
     obtain⟨g1,g2,g3⟩:=hstK_bound many window good l k te e.x hst;have hce:=hfam.le te e hfe;have hlk:(Instr.lookup 53 (.map (some M)) (.string te) false).run Tryz.prog (wa.alloc (.cells #[.string te,.string ke,.int .i64 ta,.bool ps,.int .i64 se] 39)) = .ok (.pointer (some ⟨e.b,0,none⟩)) (wa.alloc (.cells #[.string te,.string ke,.int .i64 ta,.bool ps,.int .i64 se] 39)):=by
      have:=(hmapc.look (t:=53) Tryz.underlying53 (zeroP _) injP (x:=te) hgd).1;rw[show ptrs fam te=some (some e.b) by unfold ptrs;rw[hfe];rfl]at this;exact this
     rw[hst,Option.getD_some]at hhs;have hp:0≤p∧p≤3000:=by omega
     have hq:0≤q∧q≤3000:=by omega
     have hgs:0≤e.x.good∧e.x.good≤3000:=by omega
     have hbas:=hba.size;clear t1 t2 t3 g2 g3;obtain⟨hxH,hatH,hgdH,hgkH,hbcH,hmapcH,hfamcH,hbaH,htkH,hhsH,hpqH,htsH,htoH,hgk0H,hstH,hmapH,hfamH,hbH,hfeH,heH,hpH,hqH,hgsH,hceH,g1H,hbasH⟩:=hq2 hx (hqc hat hgd hgk hbc hmapc hfamc hba htk (hqc hhs hpq hts hto hgk0 hst hmap hfam (hqc hb hfe he hp hq hgs hce g1 (Lib.hid hbas))));clear hx hat hgd hgk hbc hmapc hfamc hba htk hhs hpq hts hto hgk0 hst hmap hfam hb hfe he hp hq hgs hce g1 hbas;go_wp2_with fail;refine(see_any _ w.heap.size e.b e.mu e.c e.v (tl (l.take k) te) e.x ⟨te,ke,ta,ps,se⟩ many window good heH.out hbasH.out hgkH.out hatH.out j1 j2 j3 p q hgk0H.out hpH.out hqH.out hgsH.out (by have:=g1H.out;omega) (by have:=hceH.out;omega)).mono ?_;rintro e' w6 ⟨rfl,v',c',he6,hc6,hv6,hon⟩;simp only at he6 hc6 hv6;rw[htsH.out]at he6;obtain⟨X,hX⟩:∃ X,stepH many window good (shakenB (p,q) ps) ⟨te,ke,ta,ps,se⟩ e.x=X:=⟨_,rfl⟩;rw[hX]at he6;have hhs2:=hhsH.out;rw[hX]at hhs2;have hge:=hfamH.out.ge te e hfeH.out;have hMf:=hfamH.out.out te e hfeH.out;have hfoot:∀ n,foot ⟨e.b,e.mu,v',c',X⟩ n→n<(wa.alloc (.cells #[.string te,.string ke,.int .i64 ta,.bool ps,.int .i64 se] 39)).heap.size→foot e n:=by
      rintro n (h | h | h) hn
      ·exact .inl h
      ·exact .inr (.inl h)
      ·exact .inr (.inr (hv6 n h hn))
     have hge6:∀ n,foot ⟨e.b,e.mu,v',c',X⟩ n→w.heap.size≤n:=fun n h=>by
      rcases Nat.lt_or_ge n (wa.alloc (.cells #[.string te,.string ke,.int .i64 ta,.bool ps,.int .i64 se] 39)).heap.size with hn | hn
      ·exact hge n (hfoot n h hn)
      ·have:=hbasH.out;omega
     have hfam6:=hfamcH.out.put te ⟨e.b,e.mu,v',c',X⟩ (foot e) hon hfoot (fun s e2 hs he2 n h1 h2=>hfamH.out.dis s te e2 e he2 hfeH.out hs n h1 h2) hMf hmapcH.out.lt he6 (fun s hs=>htoH.out s hs) (by have:=hceH.out;simp only;omega) hge6;rw[← hhs2]at hfam6;have hb6:=hbaH.out.trans (only_below hon hge hbasH.out);have hmap6:TMap KB valP w6 M (ptrs (upd fam te ⟨e.b,e.mu,v',c',X⟩)) cM:=by
      rw[ptrs_same fam te e ⟨e.b,e.mu,v',c',X⟩ hfeH.out rfl];exact tmap_only hmapcH.out hon hMf
     have R:AsRel l many window good at_ M w (.int .i64 (k+1)) w6:=⟨k+1,_,cM,hkc,by go_num,hmap6,by omega,hfam6,hb6⟩;clear he6 hc6 hv6 hon hfoot hge6 hfam6 hb6 hmap6 hge hMf hX hhs2;have RH:=Lib.hid R;clear R;go_wp2;refine⟨?rel,?measure⟩
     case measure=>(simp[intOf];omega)
     case rel=>first | exact RH.out | exact⟨rfl,RH.out⟩
    | none =>
     have hst:hstK many window good l k te=none:=by rw[← hfam.st te,hfe];rfl
     have htl:=mem_taken l many window good k te hst;have hlk:(Instr.lookup 53 (.map (some M)) (.string te) false).run Tryz.prog (wa.alloc (.cells #[.string te,.string ke,.int .i64 ta,.bool ps,.int .i64 se] 39)) = .ok (.pointer none) (wa.alloc (.cells #[.string te,.string ke,.int .i64 ta,.bool ps,.int .i64 se] 39)):=by
      have:=(hmapc.look (t:=53) Tryz.underlying53 (zeroP _) injP (x:=te) hgd).1;rw[show ptrs fam te=none by unfold ptrs;rw[hfe];rfl]at this;exact this
     obtain⟨hxH,hatH,hgdH,hgkH,hbcH,hmapcH,hfamcH,hbaH,htkH,hhsH,hpqH,htsH,htoH,hgk0H,hstH,htlH,hmapH,hfamH,hbH,hfeH⟩:=hq2 hx (hq2 hat (hq2 hgd (hqc hgk hbc hmapc hfamc hba htk hhs hpq (hqc hts hto hgk0 hst htl hmap hfam hb (Lib.hid hfe)))));clear hx hat hgd hgk hbc hmapc hfamc hba htk hhs hpq hts hto hgk0 hst htl hmap hfam hb hfe;have hmE:=(hmapcH.out.alloc (.map #[] 0)).alloc (.cells #[.map (some (wa.heap.size+1)),.slice none 0 0,.bool false,.int .i64 0] 58);have hg1:(wa.alloc (.cells #[.string te,.string ke,.int .i64 ta,.bool ps,.int .i64 se] 39)).grownBy ((wa.alloc (.cells #[.string te,.string ke,.int .i64 ta,.bool ps,.int .i64 se] 39)).alloc (.map #[] 0)) none:=World.grownBy_alloc _ _ _;have hg2:=World.grownBy_alloc ((wa.alloc (.cells #[.string te,.string ke,.int .i64 ta,.bool ps,.int .i64 se] 39)).alloc (.map #[] 0)) (.cells #[.map (some (wa.heap.size+1)),.slice none 0 0,.bool false,.int .i64 0] 58) none;have hcc:=fun j=>cell_new wa #[.string te,.string ke,.int .i64 ta,.bool ps,.int .i64 se] 39 j;have hMne:∀ j:Nat,some (wa.heap.size+j)≠some M:=fun j e=>by injection e;omega
     have hX5:∀ w5,(((wa.alloc (.cells #[.string te,.string ke,.int .i64 ta,.bool ps,.int .i64 se] 39)).alloc (.map #[] 0)).alloc (.cells #[.map (some (wa.heap.size+1)),.slice none 0 0,.bool false,.int .i64 0] 58)).grownBy w5 (some M)→∀ j,w5.cell? ⟨wa.heap.size,j,none⟩=(#[Value.string te,.string ke,.int .i64 ta,.bool ps,.int .i64 se]:Array Value)[j]?:=fun w5 hg5 j=>by
      rw[World.cell?_of_block (a:=⟨wa.heap.size,j,none⟩) (hg5.block wa.heap.size (by simp;omega) (hMne 0)),World.cell?_alloc_lt _ _ _ (by simp;omega),World.cell?_alloc_lt _ _ _ (by simp)];exact hcc j
     have hpB:0≤p∧p≤3000:=by omega
     have hqB:0≤q∧q≤3000:=by omega
     clear t1 t2 t3;obtain⟨hmEH,hg1H,hg2H,hX5H,hMneH⟩:=hqb hmE hg1 hg2 hX5 (Lib.hid hMne);clear hmE hg1 hg2 hX5 hMne;clear hcc;go_wp2_with (at_mapUpdate;go_loud (refine wpList_tstore rfl (.tmp 58) (.tmp 60) (.tmp 63) 53 rfl Tryz.underlying53 injP rfl hmEH.out (by simp only[maxLen];omega) te rfl hgdH.out (some (wa.heap.size+1+1)) rfl ?_);intro w5 hm5 hg5;have hlk5:(Instr.lookup 53 (.map (some M)) (.string te) false).run Tryz.prog w5 = .ok (.pointer (some ⟨wa.heap.size+1+1,0,none⟩)) w5:=(by have:=(hm5.look (t:=53) Tryz.underlying53 (zeroP w5) injP (x:=te) hgdH.out).1;rw[show upd (ptrs fam) te (some (wa.heap.size+1+1)) te=some (some (wa.heap.size+1+1)) from if_pos rfl]at this;exact this);have x0:=hX5H.out w5 hg5 0;have x1:=hX5H.out w5 hg5 1;have x2:=hX5H.out w5 hg5 2;have x3:=hX5H.out w5 hg5 3;have x4:=hX5H.out w5 hg5 4;simp only[List.getElem?_toArray,List.getElem?_cons_succ,List.getElem?_cons_zero]at x0 x1 x2 x3 x4;have hm5H:=Lib.hid hm5;clear hm5;have hg5H:=Lib.hid hg5;clear hg5);have heE:HeAt (((wa.alloc (.cells #[.string te,.string ke,.int .i64 ta,.bool ps,.int .i64 se] 39)).alloc (.map #[] 0)).alloc (.cells #[.map (some (wa.heap.size+1)),.slice none 0 0,.bool false,.int .i64 0] 58)) w.heap.size (wa.heap.size+1+1) (tl (l.take k) te) hst0 (wa.heap.size+1) (.slice none 0 0) 0:=by
      have hn:=cell_new ((wa.alloc (.cells #[.string te,.string ke,.int .i64 ta,.bool ps,.int .i64 se] 39)).alloc (.map #[] 0)) #[.map (some (wa.heap.size+1)),.slice none 0 0,.bool false,.int .i64 0] 58;have hmm:=(TMap.made (wa.alloc (.cells #[.string te,.string ke,.int .i64 ta,.bool ps,.int .i64 se] 39)) KB valT).alloc (.cells #[.map (some (wa.heap.size+1)),.slice none 0 0,.bool false,.int .i64 0] 58);simp only[World.size_alloc]at hn hmm;refine⟨hn 0,hn 1,hn 2,hn 3,fun j=>?_,by rw[htlH.out];exact hmm,Own.nil _ _,by omega,by simp[Value.ownBlock],by simp[Value.ownBlock]⟩;have:=World.frozen?_alloc_new ((wa.alloc (.cells #[.string te,.string ke,.int .i64 ta,.bool ps,.int .i64 se] 39)).alloc (.map #[] 0)) #[.map (some (wa.heap.size+1)),.slice none 0 0,.bool false,.int .i64 0] 58 j
      simpa[World.size_alloc]using this
     have hg5:=hg5H.out;have honM:Only (fun n=>n=M) (((wa.alloc (.cells #[.string te,.string ke,.int .i64 ta,.bool ps,.int .i64 se] 39)).alloc (.map #[] 0)).alloc (.cells #[.map (some (wa.heap.size+1)),.slice none 0 0,.bool false,.int .i64 0] 58)) w5:=⟨hg5.os,hg5.tape,hg5.output,hg5.size,fun n hn hne=>hg5.block n hn (fun e=>hne (by injection e))⟩;have he5:=heE.only honM (fun n hn hM=>by subst hM;rcases hn with h | h | h <;> first | omega | cases h);have hbE:Below (wa.alloc (.cells #[.string te,.string ke,.int .i64 ta,.bool ps,.int .i64 se] 39)).heap.size (wa.alloc (.cells #[.string te,.string ke,.int .i64 ta,.bool ps,.int .i64 se] 39)) (((wa.alloc (.cells #[.string te,.string ke,.int .i64 ta,.bool ps,.int .i64 se] 39)).alloc (.map #[] 0)).alloc (.cells #[.map (some (wa.heap.size+1)),.slice none 0 0,.bool false,.int .i64 0] 58)):=((Below.refl _ _).alloc (Nat.le_refl _) _).alloc (by simp) _;have hfam5:=(hfamcH.out.below hbE).grownM hg5;have hbE2:=hbaH.out.trans (hbE.mono hbaH.out.size);have hb5:=hbE2.trans (grown_below hg5 hwM hbE2.size);have hs5:wa.heap.size+1+1<w5.heap.size:=by have:=hg5.size;simp at this;omega
     have hb5s:=hb5.size;have hwas:w.heap.size≤wa.heap.size:=hbH.out.size;have hp:0≤p∧p≤3000:=hpB;have hq:0≤q∧q≤3000:=hqB;have hhs:=hhsH.out;rw[hstH.out,Option.getD_none]at hhs;refine(see_any _ w.heap.size (wa.heap.size+1+1) (wa.heap.size+1) 0 (.slice none 0 0) (tl (l.take k) te) hst0 ⟨te,ke,ta,ps,se⟩ many window good he5 hb5s hgkH.out hatH.out j1 j2 j3 p q hgk0H.out hp hq (by simp[hst0]) (by simp[hst0]) (by omega)).mono ?_;rintro e' w6 ⟨rfl,v',c',he6,hc6,hv6,hon⟩;simp only at he6 hc6 hv6;rw[htsH.out]at he6;obtain⟨X,hX⟩:∃ X,stepH many window good (shakenB (p,q) ps) ⟨te,ke,ta,ps,se⟩ hst0=X:=⟨_,rfl⟩;rw[hX]at he6 hhs;have hMl:=hm5H.out.lt;have hfoot:∀ n,foot ⟨wa.heap.size+1+1,wa.heap.size+1,v',c',X⟩ n→n<w5.heap.size→(n=wa.heap.size+1+1∨n=wa.heap.size+1∨(Value.slice none 0 0).ownBlock=some n):=by
      rintro n (h | h | h) hn
      ·exact .inl h
      ·exact .inr (.inl h)
      ·exact .inr (.inr (hv6 n h hn))
     have hF:∀ n,(n=wa.heap.size+1+1∨n=wa.heap.size+1∨(Value.slice none 0 0).ownBlock=some n)→wa.heap.size<n:=by
      rintro n (h | h | h)
      ·omega
      ·omega
      ·cases h
     have hge6:∀ n,foot ⟨wa.heap.size+1+1,wa.heap.size+1,v',c',X⟩ n→w.heap.size≤n:=fun n h=>by
      rcases Nat.lt_or_ge n w5.heap.size with hn | hn
      ·have:=hF n (hfoot n h hn);omega
      ·omega
     have hfam6:=hfam5.put te ⟨wa.heap.size+1+1,wa.heap.size+1,v',c',X⟩ _ hon hfoot (fun s e2 hs he2 n h1 h2=>by have h3:=(hfamH.out.he s e2 he2).foot_lt n h1;have h4:=hF n h2;omega) (fun h=>by have:=hF M h;omega) hMl he6 (fun s hs=>htoH.out s hs) (by simp only;omega) hge6;rw[← hhs]at hfam6;have hb6:=hb5.trans (only_below hon (fun n h=>by have:=hF n h;omega) hb5s);have hmap6:TMap KB valP w6 M (ptrs (upd fam te ⟨wa.heap.size+1+1,wa.heap.size+1,v',c',X⟩)) (if (ptrs fam te).isSome=true then cM else cM+1):=by
      rw[ptrs_upd];exact tmap_only hm5H.out hon (fun h=>by have:=hF M h;omega)
     have hle:=ite_le_succ ((ptrs fam te).isSome=true) cM;have R:AsRel l many window good at_ M w (.int .i64 (k+1)) w6:=⟨k+1,_,_,hkc,by go_num,hmap6,by omega,hfam6,hb6⟩;clear he6 hc6 hv6 hon hfoot hge6 hfam6 hb6 hmap6 hF hX hhs hle he5 heE honM hbE hfam5 hbE2 hb5 hg5 x0 x1 x2 x3 x4 hlk5 hlk;have RH:=Lib.hid R;clear R;go_wp2;refine⟨?rel,?measure⟩
     case measure=>(simp[intOf];omega)
     case rel=>first | exact RH.out | exact⟨rfl,RH.out⟩
   ·have hkc:k=cntAt l at_:=by
     rcases Nat.lt_or_ge k (cntAt l at_) with h | h
     ·obtain⟨r,hr,h2⟩:=cntAt_in h;rw[hx]at hr;injection hr with hr;subst hr;exact absurd h2 hcut
     ·omega
    have hmb:=hmapc;have hfam:=hfamc;have hbb:=hba;have hMwb:=hmb.lt;have hgt:at_<ta:=by omega
    have hgd2:decide (at_<ta)=true:=decide_eq_true hgt;clear hmap hmapc hfamc hba hbc hb hcut hk;obtain⟨hxH,hatH,hgdH,hgkH,hfamH,hbbH,hkcH⟩:=hq2 hx (hq2 hat (hqb hgd hgk hfam hbb (Lib.hid hkc)));clear hx hat hgd hgk hfam hbb hkc;have hzz:(wa.alloc (.cells #[.string te,.string ke,.int .i64 ta,.bool ps,.int .i64 se] 39)).heap.size=(wa.heap.size+1):=by first | rfl | simp
    have hz1:(wa.alloc (.cells #[.string te,.string ke,.int .i64 ta,.bool ps,.int .i64 se] 39)).heap.size≤(wa.heap.size+1):=by rw[hzz];exact Nat.le_refl _
    have hz2:(wa.heap.size+1)≤(wa.alloc (.cells #[.string te,.string ke,.int .i64 ta,.bool ps,.int .i64 se] 39)).heap.size:=by rw[hzz];exact Nat.le_refl _
    have hzzH:=Lib.hid hzz;clear hzz;go_wp2_with (at_range;go_loud (refine wpList_trange rfl (.tmp 74) 53 rfl Tryz.underlying53 rfl hmb ?_);intro w3 hr3 hg3 hs3;have hr3H:=Lib.hid hr3;clear hr3;have hg3H:=Lib.hid hg3;clear hg3)
    try go_frame
    try simp only[World.size_alloc]
    go_loopw [16] (fun v wr=>RgRel fam M cM (wa.heap.size+1) (wa.alloc (.cells #[.string te,.string ke,.int .i64 ta,.bool ps,.int .i64 se] 39)) v wr) (fun v wr=>wr.rangeLeft M (wa.heap.size+1))
    case atStart =>
     have hr3:TRange KB valP w3 M (wa.heap.size+1) cM (ptrs fam) (fun x=>(ptrs fam x).isSome) cM:=by first | exact hr3H.out | (have h:=hr3H.out;rw[hzzH.out]at h;exact h)
     refine⟨_,cM,[],none,0,0,rfl,hr3,Own.nil _ _,List.nodup_nil,fun s hs=>⟨fun h=>(by cases h),?_⟩,by simp,(Below.refl _ _).grown hg3H.out (Nat.le_refl _) (fun k hk=>by cases hk),by omega⟩;rintro⟨h1,e,h2,_⟩;unfold ptrs at h1;rw[h2]at h1
     cases h1
    case round =>
     obtain⟨left,cnt,L,A3,n3,cap3,rfl,hr,hown,hnd,hmem,hcn,hb3,hsz3⟩:=hrel;have hrl:=hr.left_eq;have hn3:=hown.len;have hb3s:=hb3.size;obtain⟨hrH,hownH,hndH,hmemH,hb3H,hrlH⟩:=hq2 hr (hqb hown hnd hmem hb3 (Lib.hid hrl));clear hr hown hnd hmem hb3 hrl;go_wp2_with (at_next;go_loud (refine wpList_tnext rfl (.tmp 75) rfl rfl injP hrH.out ?_ ?_))
     ·intro hc0 hl0;have hl0H:=Lib.hid hl0;clear hl0;go_wp2_with fail;refine(sort_own A3 n3 cap3 L wr _ hownH.out (by omega)).mono ?_;rintro e w4 ⟨rfl,hown4,hg4⟩;have hb4:Below (wa.alloc (.cells #[.string te,.string ke,.int .i64 ta,.bool ps,.int .i64 se] 39)).heap.size (wa.alloc (.cells #[.string te,.string ke,.int .i64 ta,.bool ps,.int .i64 se] 39)) w4:=hb3H.out.trans ((Below.refl _ _).grown hg4 hb3s (fun k hk=>by have:=(hownH.out.1.lt k hk).1;omega));have hsl:=hown4.slAt;have hans:AsideAns l many window good at_ 0 (sortB L):=by
       rw[AsideAns,if_pos rfl];refine⟨rising_sorted (nodup_dat hndH.out),fun s=>?_⟩;rw[mem_sortB]
       constructor
       ·intro h;obtain⟨_,e,h1,h2⟩:=(hmemH.out s (hownH.out.2 s h)).1 h;refine⟨e.x,?_,h2⟩;rw[← hkcH.out,← hfamH.out.st s,h1];rfl
       ·rintro⟨x,h1,h2⟩;rw[← hkcH.out]at h1;have h3:=hfamH.out.st s;rw[h1]at h3;obtain⟨e,he,rfl⟩:=Option.map_eq_some_iff.1 h3;have hs:s.size≤maxLen:=by
         obtain⟨r,hr,rfl⟩:=(hstK_mem many window good l k s).2 (by rw[h1];rfl);exact(hokH.out r ((List.take_subset _ _) hr)).1
        exact(hmemH.out s hs).2 ⟨hl0H.out s hs,e,he,h2⟩
      have hbz:=hbbH.out.trans (hb4.mono hbbH.out.size);clear hown4 hg4 hb4;obtain⟨hslH,hansH,hbzH⟩:=hq2 hsl (hq2 hans (Lib.hid hbz));clear hsl hans hbz;go_wp2
      go_ret2
      exact⟨A3,n3,cap3,sortB L,rfl,hslH.out,hansH.out,by omega,hbzH.out⟩
     ·intro tn y w4 cnt4 hgood hleft hf hr4 hlt4 hg4 hs4 hen;obtain⟨e,hfe,rfl⟩:∃ e,fam tn=some e∧some e.b=y:=by
       unfold ptrs at hf;exact Option.map_eq_some_iff.1 hf
      replace hen:(Instr.entry (.pointer (some ⟨(wa.heap.size+1),0,none⟩))).run Tryz.prog w4 = .ok (.tuple #[.string tn,.pointer (some ⟨e.b,0,none⟩)]) w4:=hen;have hgd:tn.size≤maxLen:=hgood;have hb4:Below (wa.alloc (.cells #[.string te,.string ke,.int .i64 ta,.bool ps,.int .i64 se] 39)).heap.size (wa.alloc (.cells #[.string te,.string ke,.int .i64 ta,.bool ps,.int .i64 se] 39)) w4:=hb3H.out.trans (grown_below hg4 (by omega) hb3s);have he4:=(hfamH.out.he tn e hfe).below hb4;have ca:=he4.c2;have hown4:Own RStr 9 w4 ((wa.heap.size+1)+1) (.slice A3 n3 cap3) L:=hownH.out.kept hg4 (by
       cases hv:(Value.slice A3 n3 cap3).ownBlock with
       | none=>exact .inl rfl
       | some g=>exact .inr (fun e=>by injection e with e;have:=(hownH.out.1.lt g hv).1;omega)) (fun _ _ h=>h)
      have hleft2:∀ s,s.size≤maxLen→((left s && !decide (s=tn))=false↔left s=false∨s=tn):=fun s hs=>by cases hL:left s <;> by_cases e0:s=tn <;> simp[e0]
      have hnL:tn ∉ L:=fun h=>by have:=((hmemH.out tn hgd).1 h).1;rw[hleft]at this;cases this
      have hs4g:=hg4.size;obtain⟨aw,haw⟩:∃ b,e.x.aside=b:=⟨_,rfl⟩;rw[haw]at ca;clear he4 hgood hf hleft hg4 hs4;have hlr:w4.rangeLeft M (wa.heap.size+1)<wr.rangeLeft M (wa.heap.size+1):=by rw[hr4.left_eq,hrlH.out];exact hlt4
      cases aw
      ·have R:RgRel fam M cM (wa.heap.size+1) (wa.alloc (.cells #[.string te,.string ke,.int .i64 ta,.bool ps,.int .i64 se] 39)) (.slice A3 n3 cap3) w4:=by
        refine⟨_,cnt4,L,A3,n3,cap3,rfl,hr4,hown4,hndH.out,fun s hs=>?_,by omega,hb4,by omega⟩;rw[hmemH.out s hs,hleft2 s hs]
        constructor
        ·rintro⟨h1,h2⟩;exact⟨.inl h1,h2⟩
        ·rintro⟨h1 | h1,e',h2,h3⟩
         ·exact⟨h1,e',h2,h3⟩
         ·subst h1;rw[hfe]at h2;injection h2 with h2;subst h2;rw[haw]at h3;cases h3
       obtain⟨hr4H,hfeH,hb4H,hown4H,hleft2H,hnLH,hawH,RH,hlrH⟩:=hqc hr4 hfe hb4 hown4 hleft2 hnL haw R (Lib.hid hlr);clear hr4 hfe hb4 hown4 hleft2 hnL haw R hlr;go_wp2;refine⟨?rel,?measure⟩
       case measure=>exact hlrH.out
       case rel=>first | exact RH.out | exact⟨rfl,RH.out⟩
      ·have hr5:=hr4.alloc (.cells #[.string tn] 9);have hown5:=hown4.alloc (.cells #[.string tn] 9);have hb5:Below (wa.alloc (.cells #[.string te,.string ke,.int .i64 ta,.bool ps,.int .i64 se] 39)).heap.size (wa.alloc (.cells #[.string te,.string ke,.int .i64 ta,.bool ps,.int .i64 se] 39)) (w4.alloc (.cells #[.string tn] 9)):=hb4.alloc hb4.size _;have hltb:=hr4.lt;obtain⟨hr4H,hr5H,hfeH,hb4H,hb5H,hown4H,hown5H,hleft2H,hnLH,hawH,hlrH,hgdH⟩:=hq2 hr4 (hq2 hr5 (hq2 hfe (hqc hb4 hb5 hown4 hown5 hleft2 hnL haw hlr (Lib.hid hgd))));clear hr4 hr5 hfe hb4 hb5 hown4 hown5 hleft2 hnL haw hlr hgd;go_wp2_with (at_builtin;go_loud (refine wpList_app rfl (.tmp 85) (.tmp 87) 23 rfl Tryz.underlying23 elem_StrA (by decide) rfl hown5H.out (some ⟨w4.heap.size,0,none⟩) 1 1 [tn] rfl (slAt_new _ _ _ hgdH.out) ?nn ?ok ?c1 ?c2 ?c3 (n3+1) ?c4 ?_))
       case nn=>intro h;cases h
       case ok=>exact fun _ _ _ _ h=>h
       case c1=>rw[hn3];simp[maxLen] <;> omega
       case c2=>rw[hn3];omega
       case c3=>simp <;> omega
       case c4=>omega
       intro A' c' w8 hown8 hg8 hat8 hb8;have hr8:=hr5H.out.kept hg8 (fun e=>by have:=(hown5H.out.1.lt M e.symm).1;have:=hMwb;omega) (fun e=>by have:=(hown5H.out.1.lt _ e.symm).1;omega);have R:RgRel fam M cM (wa.heap.size+1) (wa.alloc (.cells #[.string te,.string ke,.int .i64 ta,.bool ps,.int .i64 se] 39)) (.slice A' (n3+1) c') w8:=by
        refine⟨_,cnt4,L ++ [tn],A',n3+1,c',rfl,hr8,hown8,?_,fun s hs=>?_,?_,hb5H.out.trans (hb8.mono (by omega)),by have:=hg8.size;simp at this;omega⟩
        ·rw[List.nodup_append];refine⟨hndH.out,by simp,fun a ha b hb=>?_⟩;rw[List.mem_singleton]at hb;subst hb;rintro rfl;exact hnLH.out ha
        ·rw[List.mem_append,List.mem_singleton,hmemH.out s hs,hleft2H.out s hs]
         constructor
         ·rintro(⟨h1,h2⟩ | rfl)
          ·exact⟨.inl h1,h2⟩
          ·exact⟨.inr rfl,e,hfeH.out,hawH.out⟩
         ·rintro⟨h1 | h1,h2⟩
          ·exact .inl ⟨h1,h2⟩
          ·exact .inr h1
        ·rw[List.length_append,List.length_singleton];omega
       have hlr8:w8.rangeLeft M (wa.heap.size+1)<wr.rangeLeft M (wa.heap.size+1):=by rw[hr8.left_eq,hrlH.out];exact hlt4
       clear hg8 hat8 hb8 hown8 hr8;obtain⟨RH,hlr8H⟩:=hq2 R (Lib.hid hlr8);clear R hlr8;go_wp2;refine⟨?rel,?measure⟩
       case measure=>exact hlr8H.out
       case rel=>first | exact RH.out | exact⟨rfl,RH.out⟩
  ·have hkc:k=cntAt l at_:=by omega
   have hmb:=hmap;have hbb:=hb;have hMwb:=hMw;clear hmap hb hk;obtain⟨hfamH,hbbH,hkcH⟩:=hq2 hfam (hq2 hbb (Lib.hid hkc));clear hfam hbb hkc;have hzz:wa.heap.size=wa.heap.size:=by first | rfl | simp
   have hz1:wa.heap.size≤wa.heap.size:=by rw[hzz];exact Nat.le_refl _
   have hz2:wa.heap.size≤wa.heap.size:=by rw[hzz];exact Nat.le_refl _
   have hzzH:=Lib.hid hzz;clear hzz;go_wp2_with (at_range;go_loud (refine wpList_trange rfl (.tmp 74) 53 rfl Tryz.underlying53 rfl hmb ?_);intro w3 hr3 hg3 hs3;have hr3H:=Lib.hid hr3;clear hr3;have hg3H:=Lib.hid hg3;clear hg3)
   try go_frame
   try simp only[World.size_alloc]
   go_loopw [16] (fun v wr=>RgRel fam M cM wa.heap.size wa v wr) (fun v wr=>wr.rangeLeft M wa.heap.size)
   case atStart =>
    have hr3:TRange KB valP w3 M wa.heap.size cM (ptrs fam) (fun x=>(ptrs fam x).isSome) cM:=by first | exact hr3H.out | (have h:=hr3H.out;rw[hzzH.out]at h;exact h)
    refine⟨_,cM,[],none,0,0,rfl,hr3,Own.nil _ _,List.nodup_nil,fun s hs=>⟨fun h=>(by cases h),?_⟩,by simp,(Below.refl _ _).grown hg3H.out (Nat.le_refl _) (fun k hk=>by cases hk),by omega⟩;rintro⟨h1,e,h2,_⟩;unfold ptrs at h1;rw[h2]at h1
    cases h1
   case round =>
    obtain⟨left,cnt,L,A3,n3,cap3,rfl,hr,hown,hnd,hmem,hcn,hb3,hsz3⟩:=hrel;have hrl:=hr.left_eq;have hn3:=hown.len;have hb3s:=hb3.size;obtain⟨hrH,hownH,hndH,hmemH,hb3H,hrlH⟩:=hq2 hr (hqb hown hnd hmem hb3 (Lib.hid hrl));clear hr hown hnd hmem hb3 hrl;go_wp2_with (at_next;go_loud (refine wpList_tnext rfl (.tmp 75) rfl rfl injP hrH.out ?_ ?_))
    ·intro hc0 hl0;have hl0H:=Lib.hid hl0;clear hl0;go_wp2_with fail;refine(sort_own A3 n3 cap3 L wr _ hownH.out (by omega)).mono ?_;rintro e w4 ⟨rfl,hown4,hg4⟩;have hb4:Below wa.heap.size wa w4:=hb3H.out.trans ((Below.refl _ _).grown hg4 hb3s (fun k hk=>by have:=(hownH.out.1.lt k hk).1;omega));have hsl:=hown4.slAt;have hans:AsideAns l many window good at_ 0 (sortB L):=by
      rw[AsideAns,if_pos rfl];refine⟨rising_sorted (nodup_dat hndH.out),fun s=>?_⟩;rw[mem_sortB]
      constructor
      ·intro h;obtain⟨_,e,h1,h2⟩:=(hmemH.out s (hownH.out.2 s h)).1 h;refine⟨e.x,?_,h2⟩;rw[← hkcH.out,← hfamH.out.st s,h1];rfl
      ·rintro⟨x,h1,h2⟩;rw[← hkcH.out]at h1;have h3:=hfamH.out.st s;rw[h1]at h3;obtain⟨e,he,rfl⟩:=Option.map_eq_some_iff.1 h3;have hs:s.size≤maxLen:=by
        obtain⟨r,hr,rfl⟩:=(hstK_mem many window good l k s).2 (by rw[h1];rfl);exact(hokH.out r ((List.take_subset _ _) hr)).1
       exact(hmemH.out s hs).2 ⟨hl0H.out s hs,e,he,h2⟩
     have hbz:=hbbH.out.trans (hb4.mono hbbH.out.size);clear hown4 hg4 hb4;obtain⟨hslH,hansH,hbzH⟩:=hq2 hsl (hq2 hans (Lib.hid hbz));clear hsl hans hbz;go_wp2
     go_ret2
     exact⟨A3,n3,cap3,sortB L,rfl,hslH.out,hansH.out,by omega,hbzH.out⟩
    ·intro tn y w4 cnt4 hgood hleft hf hr4 hlt4 hg4 hs4 hen;obtain⟨e,hfe,rfl⟩:∃ e,fam tn=some e∧some e.b=y:=by
      unfold ptrs at hf;exact Option.map_eq_some_iff.1 hf
     replace hen:(Instr.entry (.pointer (some ⟨wa.heap.size,0,none⟩))).run Tryz.prog w4 = .ok (.tuple #[.string tn,.pointer (some ⟨e.b,0,none⟩)]) w4:=hen;have hgd:tn.size≤maxLen:=hgood;have hb4:Below wa.heap.size wa w4:=hb3H.out.trans (grown_below hg4 (by omega) hb3s);have he4:=(hfamH.out.he tn e hfe).below hb4;have ca:=he4.c2;have hown4:Own RStr 9 w4 (wa.heap.size+1) (.slice A3 n3 cap3) L:=hownH.out.kept hg4 (by
      cases hv:(Value.slice A3 n3 cap3).ownBlock with
      | none=>exact .inl rfl
      | some g=>exact .inr (fun e=>by injection e with e;have:=(hownH.out.1.lt g hv).1;omega)) (fun _ _ h=>h)
     have hleft2:∀ s,s.size≤maxLen→((left s && !decide (s=tn))=false↔left s=false∨s=tn):=fun s hs=>by cases hL:left s <;> by_cases e0:s=tn <;> simp[e0]
     have hnL:tn ∉ L:=fun h=>by have:=((hmemH.out tn hgd).1 h).1;rw[hleft]at this;cases this
     have hs4g:=hg4.size;obtain⟨aw,haw⟩:∃ b,e.x.aside=b:=⟨_,rfl⟩;rw[haw]at ca;clear he4 hgood hf hleft hg4 hs4;have hlr:w4.rangeLeft M wa.heap.size<wr.rangeLeft M wa.heap.size:=by rw[hr4.left_eq,hrlH.out];exact hlt4
     cases aw
     ·have R:RgRel fam M cM wa.heap.size wa (.slice A3 n3 cap3) w4:=by
       refine⟨_,cnt4,L,A3,n3,cap3,rfl,hr4,hown4,hndH.out,fun s hs=>?_,by omega,hb4,by omega⟩;rw[hmemH.out s hs,hleft2 s hs]
       constructor
       ·rintro⟨h1,h2⟩;exact⟨.inl h1,h2⟩
       ·rintro⟨h1 | h1,e',h2,h3⟩
        ·exact⟨h1,e',h2,h3⟩
        ·subst h1;rw[hfe]at h2;injection h2 with h2;subst h2;rw[haw]at h3;cases h3
      obtain⟨hr4H,hfeH,hb4H,hown4H,hleft2H,hnLH,hawH,RH,hlrH⟩:=hqc hr4 hfe hb4 hown4 hleft2 hnL haw R (Lib.hid hlr);clear hr4 hfe hb4 hown4 hleft2 hnL haw R hlr;go_wp2;refine⟨?rel,?measure⟩
      case measure=>exact hlrH.out
      case rel=>first | exact RH.out | exact⟨rfl,RH.out⟩
     ·have hr5:=hr4.alloc (.cells #[.string tn] 9);have hown5:=hown4.alloc (.cells #[.string tn] 9);have hb5:Below wa.heap.size wa (w4.alloc (.cells #[.string tn] 9)):=hb4.alloc hb4.size _;have hltb:=hr4.lt;obtain⟨hr4H,hr5H,hfeH,hb4H,hb5H,hown4H,hown5H,hleft2H,hnLH,hawH,hlrH,hgdH⟩:=hq2 hr4 (hq2 hr5 (hq2 hfe (hqc hb4 hb5 hown4 hown5 hleft2 hnL haw hlr (Lib.hid hgd))));clear hr4 hr5 hfe hb4 hb5 hown4 hown5 hleft2 hnL haw hlr hgd;go_wp2_with (at_builtin;go_loud (refine wpList_app rfl (.tmp 85) (.tmp 87) 23 rfl Tryz.underlying23 elem_StrA (by decide) rfl hown5H.out (some ⟨w4.heap.size,0,none⟩) 1 1 [tn] rfl (slAt_new _ _ _ hgdH.out) ?nn ?ok ?c1 ?c2 ?c3 (n3+1) ?c4 ?_))
      case nn=>intro h;cases h
      case ok=>exact fun _ _ _ _ h=>h
      case c1=>rw[hn3];simp[maxLen] <;> omega
      case c2=>rw[hn3];omega
      case c3=>simp <;> omega
      case c4=>omega
      intro A' c' w8 hown8 hg8 hat8 hb8;have hr8:=hr5H.out.kept hg8 (fun e=>by have:=(hown5H.out.1.lt M e.symm).1;have:=hMwb;omega) (fun e=>by have:=(hown5H.out.1.lt _ e.symm).1;omega);have R:RgRel fam M cM wa.heap.size wa (.slice A' (n3+1) c') w8:=by
       refine⟨_,cnt4,L ++ [tn],A',n3+1,c',rfl,hr8,hown8,?_,fun s hs=>?_,?_,hb5H.out.trans (hb8.mono (by omega)),by have:=hg8.size;simp at this;omega⟩
       ·rw[List.nodup_append];refine⟨hndH.out,by simp,fun a ha b hb=>?_⟩;rw[List.mem_singleton]at hb;subst hb;rintro rfl;exact hnLH.out ha
       ·rw[List.mem_append,List.mem_singleton,hmemH.out s hs,hleft2H.out s hs]
        constructor
        ·rintro(⟨h1,h2⟩ | rfl)
         ·exact⟨.inl h1,h2⟩
         ·exact⟨.inr rfl,e,hfeH.out,hawH.out⟩
        ·rintro⟨h1 | h1,h2⟩
         ·exact .inl ⟨h1,h2⟩
         ·exact .inr h1
       ·rw[List.length_append,List.length_singleton];omega
      have hlr8:w8.rangeLeft M wa.heap.size<wr.rangeLeft M wa.heap.size:=by rw[hr8.left_eq,hrlH.out];exact hlt4
      clear hg8 hat8 hb8 hown8 hr8;obtain⟨RH,hlr8H⟩:=hq2 R (Lib.hid hlr8);clear R hlr8;go_wp2;refine⟨?rel,?measure⟩
      case measure=>exact hlr8H.out
      case rel=>first | exact RH.out | exact⟨rfl,RH.out⟩
def AsideOut (l:List TestRun) (many window good at_ c:Int) (w:World) (e:Ending) (w':World):Prop :=
 ∃ A' n' c' L,e = .returned (.tuple #[.slice A' n' c',.int .i64 c])∧SlAt RStr w' A' n' L∧AsideAns l many window good at_ c L∧n'≤3000∧Below w.heap.size w w'
theorem aside_nil (l:List TestRun) (many window good at_ c:Int) (w w':World) (hc:c≠0) (hb:Below w.heap.size w w'):AsideOut l many window good at_ c w (.returned (.tuple #[.slice none 0 0,.int .i64 c])) w' :=
 ⟨none,0,0,[],rfl,⟨rfl,fun h=>by omega,fun x hx=>by cases hx⟩,by rw[AsideAns,if_neg hc],by omega,hb⟩
theorem aside_any (A:Option Addr) (len cap:Nat) (l:List TestRun) (many window good at_:Int) (w:World) (hm:MaxLenAt w) (hl:SlAt RTestRun w A len l) (c:Int) (hF:asideF l many window good at_=c) :
  Calls Tryz.prog 7 #[.slice A len cap,.int .i64 many,.int .i64 window,.int .i64 good,.int .i64 at_] w (AsideOut l many window good at_ c w):=by
 unfold asideF at hF
 by_cases hh:histF l=0
 ·rw[if_pos hh]at hF
  by_cases h4:inR 1 100 many=true∧inR 1 1000000000 window=true∧inR 1 100 good=true∧inR 0 1000000000 at_=true
  ·rw[if_pos h4]at hF;subst hF;exact aside_ok A len cap l many window good at_ w hm hl hh h4.1 h4.2.1 h4.2.2.1 h4.2.2.2
  ·rw[if_neg h4]at hF;subst hF;obtain⟨hmH,hlH,hhH⟩:=hq2 hm (hq2 hl (Lib.hid hh));clear hm hl hh
   by_cases i1:inR 1 100 many=true
   ·by_cases i2:inR 1 1000000000 window=true
    ·by_cases i3:inR 1 100 good=true
     ·have i4:inR 0 1000000000 at_=false:=by
       cases h:inR 0 1000000000 at_
       ·rfl
       ·exact absurd ⟨i1,i2,i3,h⟩ h4
      clear h4;go_enter Tryz.func7,Tryz.ntmps7;go_wp2_with fail;refine(hist_any A len cap l _ hmH.out hlH.out 0 hhH.out).mono ?_;rintro e w1 ⟨rfl,hw1⟩;have hw1H:=Lib.hid hw1;clear hw1;go_wp2_with (go_at_call 12;refine(within_p _ _ _ _).mono ?_;rintro e wz ⟨rfl,rfl⟩)
      go_ret2
      exact aside_nil _ _ _ _ _ _ _ _ (by decide) hw1H.out
     ·have i3:inR 1 100 good=false:=by simpa using i3
      clear h4;go_enter Tryz.func7,Tryz.ntmps7;go_wp2_with fail;refine(hist_any A len cap l _ hmH.out hlH.out 0 hhH.out).mono ?_;rintro e w1 ⟨rfl,hw1⟩;have hw1H:=Lib.hid hw1;clear hw1;go_wp2_with (go_at_call 12;refine(within_p _ _ _ _).mono ?_;rintro e wz ⟨rfl,rfl⟩)
      go_ret2
      exact aside_nil _ _ _ _ _ _ _ _ (by decide) hw1H.out
    ·have i2:inR 1 1000000000 window=false:=by simpa using i2
     clear h4;go_enter Tryz.func7,Tryz.ntmps7;go_wp2_with fail;refine(hist_any A len cap l _ hmH.out hlH.out 0 hhH.out).mono ?_;rintro e w1 ⟨rfl,hw1⟩;have hw1H:=Lib.hid hw1;clear hw1;go_wp2_with (go_at_call 12;refine(within_p _ _ _ _).mono ?_;rintro e wz ⟨rfl,rfl⟩)
     go_ret2
     exact aside_nil _ _ _ _ _ _ _ _ (by decide) hw1H.out
   ·have i1:inR 1 100 many=false:=by simpa using i1
    clear h4;go_enter Tryz.func7,Tryz.ntmps7;go_wp2_with fail;refine(hist_any A len cap l _ hmH.out hlH.out 0 hhH.out).mono ?_;rintro e w1 ⟨rfl,hw1⟩;have hw1H:=Lib.hid hw1;clear hw1;go_wp2_with (go_at_call 12;refine(within_p _ _ _ _).mono ?_;rintro e wz ⟨rfl,rfl⟩)
    go_ret2
    exact aside_nil _ _ _ _ _ _ _ _ (by decide) hw1H.out
 ·rw[if_neg hh]at hF;obtain⟨d,hd⟩:∃ d,histF l=d:=⟨_,rfl⟩;rw[hd]at hF hh;subst hF;have hh1:(d != 0)=true:=by simpa using hh
  obtain⟨hmH,hlH,hdH,hhH⟩:=hq2 hm (hq2 hl (hq2 hd (Lib.hid hh)));clear hm hl hd hh;go_enter Tryz.func7,Tryz.ntmps7;go_wp2_with fail;refine(hist_any A len cap l _ hmH.out hlH.out d hdH.out).mono ?_;rintro e w1 ⟨rfl,hw1⟩;have hw1H:=Lib.hid hw1;clear hw1;go_wp2
  go_ret2
  exact aside_nil _ _ _ _ _ _ _ _ hhH.out hw1H.out
end Go.Proofs.YtcdpdaloceengaaGreatDoor.C10