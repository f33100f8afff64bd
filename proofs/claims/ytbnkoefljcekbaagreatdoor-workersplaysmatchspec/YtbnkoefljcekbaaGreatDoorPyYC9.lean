/-
 Several texts of mine as one, without what is not wanted here: XFmH, XFmI.
-/
import Derived.Test.YtbnkoefljcekbaaGreatDoorPyXC9
set_option linter.unusedVariables false
set_option linter.unusedSimpArgs false
set_option maxRecDepth 100000
set_option maxHeartbeats 8000000
namespace Go.Proofs.YtbnkoefljcekbaaGreatDoor.C9
open Go.ChangeShapes Go.WideShapes Go.Deep Go.RowKit Go.Maps
section
variable {X:FX} {K:KD Tryz.prog 71 Loss} {rv ov:Value} {s s':PS} {w0 W W':World}
theorem FC.congr (h:FC X K rv ov s w0 W) (h1:s'.now=s.now) (h2:s'.done=s.done) (h3:s'.lost=s.lost) (h4:s'.last=s.last) (h5:s'.begun=s.begun) (h6:s'.out=s.out):FC X K rv ov s' w0 W :=
 ⟨by rw[h1];exact h.blk,h.crit,by rw[h2];exact h.done,by rw[h3];exact h.lost,by rw[h4];exact h.last,by rw[h5];exact h.begun,h.map,by rw[h6];exact h.out,h.nd,h.ge,h.lt,h.apart,h.base,h.bel⟩
theorem FA.farG (h:FA X K rv ov s w0 W) {row:Option Nat} (hg:W.grownBy W' row) (hb:∀ b,row=some b→b ∉ X.bl∧ov.ownBlock≠some b∧rv.ownBlock≠some b∧X.base≤b):FA X K rv ov s w0 W' :=
 ⟨h.core.far hg (fun b e=>⟨(hb b e).1,(hb b e).2.1,(hb b e).2.2.2⟩),own_kp h.runs hg (fun c hc e=>(hb c e).2.2.1 hc) (fun x _ hx=>grun_ok_any _ _ x hx),h.rap,h.rov⟩
theorem FA.sorted (h:FA X K rv ov s w0 W) (hg:W.grownBy W' rv.ownBlock) {P:List RR} (ho:Own RGRun 144 W' X.base rv (P.map (gr X.F))):FA X K rv ov { s with runs:=P } w0 W' :=
 ⟨(h.mid hg).congr rfl rfl rfl rfl rfl rfl,ho,h.rap,h.rov⟩
end
theorem tmap_heap {P:Program} {k:TypeId} {κ α:Type} {K:KD P k κ} {val:α→Value} {w w':World} {b c:Nat} {f:κ→Option α} (h:TMap K val w b f c) (hb:w'.heap[b]? = w.heap[b]?):TMap K val w' b f c:=by
 obtain⟨D,⟨es,clock,he,r⟩,r2⟩:=h;exact⟨D,⟨es,clock,hb.trans he,r⟩,r2⟩
theorem cand_iff {F:FP} {t:Int} {r:RR} (hg:going r=true) (h0:0≤t):cand F t r=((F.endAt r.worker r.work r.from_).getD (-1)==t):=by
 unfold cand;rw[hg,Bool.true_and,Bool.eq_iff_iff,beq_iff_eq,beq_iff_eq]
 cases h:F.endAt r.worker r.work r.from_ with
 | none=>simp;omega
 | some a=>simp
theorem byF_same {F:FP} {t:Int} {P:List RR} {k:Nat} {r:RR} (hr:P[k]? = some r) (h:cand F t r=false∨∃ v,byF F t P k (r.work:Int)=some v) (i:Int):byF F t P (k+1) i=byF F t P k i:=by
 rw[byF_succ hr]
 cases hb:byF F t P k i with
 | some v=>rfl
 | none =>
  simp only
  rcases h with h | ⟨v,h⟩
  ·rw[h];simp
  ·by_cases e:(r.work:Int)=i
   ·subst e;rw[h]at hb;cases hb
   ·have:((r.work:Int)==i)=false:=by simpa using e
    rw[this];simp
theorem byF_put {F:FP} {t:Int} {P:List RR} {k:Nat} {r:RR} (hr:P[k]? = some r) (h:cand F t r=true) (hn:byF F t P k (r.work:Int)=none) (i:Int):upd (byF F t P k) (r.work:Int) (r.worker:Int) i=byF F t P (k+1) i:=by
 rw[byF_succ hr];unfold upd
 by_cases e:i=(r.work:Int)
 ·subst e;rw[if_pos rfl,hn];simp[h]
 ·rw[if_neg e];have:((r.work:Int)==i)=false:=by simpa using fun h=>e h.symm
  cases hb:byF F t P k i with
  | some v=>rfl
  | none=>simp[this]
theorem grown_drewN {a b:World} {row:Option Nat} (h:a.grownBy b row) (q:Nat):a.grownBy (b.drewN q) row:=⟨h.os,h.tape,h.output,h.size,h.block⟩
def FnI (X:FX) (K:KD Tryz.prog 71 Loss) (rv:Value) (s:PS) (w0:World) (rb qb pb mk c:Nat) (k:Nat) (W:World):Prop :=
 ∃ ov',FC X K rv ov' (fnS X.F s k) w0 W∧ov'.ownBlock≠some rb∧ov'.ownBlock≠some qb∧ov'.ownBlock≠some pb∧ov'.ownBlock≠some mk∧W.cell? ⟨qb,0,none⟩=some (.map (some mk))∧W.cell? ⟨pb,0,none⟩=some (.pointer (some ⟨X.f,0,none⟩))∧TMap KI (fun n:Int=>Value.int .i64 n) W mk (byF X.F s.now s.runs s.runs.length) c∧rb<W.heap.size
theorem fn_del {X:FX} {K:KD Tryz.prog 71 Loss} {rv:Value} {s:PS} {w0:World} {rb qb pb mk c:Nat} (hS:FS X s w0) (hso:s.runs.Pairwise fun a b=>a.worker≤b.worker) (hdi:s.runs.Pairwise fun a b=>a.work=b.work→a.worker≠b.worker) (hlen:s.out.length+s.runs.length≤900000)
  (nb:rb ∉ X.bl∧qb ∉ X.bl∧pb ∉ X.bl∧mk ∉ X.bl) (hrb:X.base≤rb) (nrb:rb≠qb∧rb≠pb∧rb≠mk) :
  DelP 114 #[.pointer (some ⟨qb,0,none⟩),.pointer (some ⟨pb,0,none⟩)] (fun x=>hasDone X.F s.now s.runs x.work.toNat) (s.runs.map (gr X.F)) rb (FnI X K rv s w0 rb qb pb mk c):=by
 obtain⟨b1,b2,b3,b4⟩:=nb;obtain⟨r1,r2,r3⟩:=nrb;refine⟨fun k W W' h hg=>?_,fun k x W0 W hx hI hW=>?_⟩
 ·obtain⟨ov',h1,h2,h3,h4,h5,h6,h7,h8,h9⟩:=h;refine⟨ov',h1.far hg (fun b hb=>by injection hb with hb;subst hb;exact⟨b1,h2,hrb⟩),h2,h3,h4,h5,hg.cell h6 (by simp;omega),hg.cell h7 (by simp;omega),h8.kept hg (by simp;omega),Nat.lt_of_lt_of_le h9 hg.size⟩
 ·obtain⟨ov',h1,h2,h3,h4,h5,h6,h7,h8,hrl0⟩:=hI;rw[List.getElem?_map]at hx;obtain⟨r,hr,rfl⟩:=Option.map_eq_some_iff.1 hx;have hsz:=hW.size;have hq0:=cell?_lt h6;have hp0:=cell?_lt h7;have hm0:=h8.lt;have hf2:=fin2_any (h1.below hW) hS hr hso hdi hlen ⟨b2,b3⟩ (keepC hW h6) (keepC hW h7) (h8.below hW h8.lt);refine hf2.mono ?_;rintro e w' ⟨rfl,ov2,k1,k2,k3,k4⟩;have hne:∀ b,b<W0.heap.size→ov'.ownBlock≠some b→ov2.ownBlock≠some b:=fun b hb hn e=>by
   rcases k2 b e with h | h
   ·exact hn h
   ·omega
  have hkp:∀ b,b<W0.heap.size→b ∉ X.bl→ov'.ownBlock≠some b→w'.heap[b]? = W.heap[b]?:=fun b hb h1 h2=>k4 b (by omega) h1 h2;refine⟨by rw[show (gr X.F r).work.toNat=r.work from rfl],⟨ov2,k1,hne rb hrl0 h2,hne qb hq0 h3,hne pb hp0 h4,hne mk hm0 h5,?_,?_,?_,by omega⟩,k3,fun b hb hlt=>?_⟩
  ·exact(World.cell?_of_block (a:=⟨qb,0,none⟩) (hkp qb hq0 b2 h3)).trans (keepC hW h6)
  ·exact(World.cell?_of_block (a:=⟨pb,0,none⟩) (hkp pb hp0 b3 h4)).trans (keepC hW h7)
  ·exact tmap_heap (h8.below hW h8.lt) (hkp mk hm0 b4 h5)
  ·rcases hb with rfl | hb
   ·exact k4 b (by omega) b1 h2
   ·refine k4 b hlt (fun hm=>?_) (fun e=>?_)
    ·have:=h1.lt b hm;omega
    ·have:=(h1.out.1.lt b e).2;omega
def FiRel (F:FP) (t:Int) (P:List RR) (mk:Nat) (W4:World) (i:Value) (wr:World):Prop :=
 ∃ j c:Nat,j≤P.length∧i = .int .i64 j∧c≤j∧TMap KI (fun n:Int=>Value.int .i64 n) wr mk (byF F t P j) c∧W4.grownBy wr (some mk)
def FinAns (X:FX) (K:KD Tryz.prog 71 Loss) (s:PS) (w0:World) (e:Ending) (w':World):Prop :=
 e = .returned (.tuple #[])∧∃ (rs:List RR) (rv' ov':Value),rs.Perm s.runs∧FA X K rv' ov' (finP X.F { s with runs:=rs }) w0 w'
theorem finish_any {X:FX} {K:KD Tryz.prog 71 Loss} {rv ov:Value} {s:PS} {w0 w:World} (hA:FA X K rv ov s w0 w) (hS:FS X s w0) (hdi:s.runs.Pairwise fun a b=>a.work=b.work→a.worker≠b.worker) (hlen:s.out.length+s.runs.length≤900000) :
  Calls Tryz.prog 69 #[.pointer (some ⟨X.f,0,none⟩)] w (FinAns X K s w0):=by
 obtain⟨A,cap,hrv⟩:=hA.runs.form;obtain⟨n,hn⟩:∃ n,(s.runs.map (gr X.F)).length=n:=⟨_,rfl⟩;rw[hn]at hrv;subst hrv;have hn9:n≤900000:=by rw[← hn,List.length_map];omega
 have hba:=(Below.refl w.heap.size w).alloc (Nat.le_refl _) (.cells #[.pointer (some ⟨X.f,0,none⟩)] 54);have b0:=Boxed.new w 54 (.pointer (some ⟨X.f,0,none⟩));have hA1:=hA.below hba;have hnew:=hA.new;have c8:=(hA1.core.blk 8 _ rfl).1;have c8w:=(hA.core.blk 8 _ rfl).1;have hfl:=cell?_lt c8w;have hst:=sortG_any A n cap X.F s.runs _ X.base hA1.runs (by omega);obtain⟨pb,hpb⟩:∃ b,w.heap.size=b:=⟨_,rfl⟩;rw[hpb]at b0 hnew;obtain⟨hAH,hSH,hdiH,hnH,hbaH,b0H,hA1H,hnewH,hstH,hpbH⟩:=hq2 hA (hqc hS hdi hn hba b0 hA1 hnew hst (Lib.hid hpb));clear hA hS hdi hn hba b0 hA1 hnew hst hpb;go_enter Tryz.func69,Tryz.ntmps69;go_wp2_with fail;rw[hpbH.out];refine hstH.out.mono ?_;rintro e w2 ⟨rfl,P,hperm,hso,hO2,hg2⟩;have hA2:=hA1H.out.sorted hg2 hO2;have q2:w2.cell? ⟨pb,0,none⟩=some (.pointer (some ⟨X.f,0,none⟩)):=hg2.cell b0H.out.cell (fun e=>hnewH.out.2.2.1 e.symm);have hplt:=cell?_lt q2;have c8:=(hA2.core.blk 8 _ rfl).1;have hpo:ov.ownBlock≠some pb:=hnewH.out.2.1;have hPl:P.length=n:=by have:=hnH.out;rw[List.length_map]at this;rw[← this];exact hperm.length_eq
 have hSP:FS X { s with runs:=P } w0:=⟨hSH.out.ok,hSH.out.F,hSH.out.ws,hSH.out.xs,hSH.out.ls,hSH.out.t0,hSH.out.t1,fun r hr=>hSH.out.rn r (hperm.mem_iff.1 hr)⟩;have hdiP:P.Pairwise fun a b=>a.work=b.work→a.worker≠b.worker:=hperm.symm.pairwise hdiH.out (fun {a b} (h:a.work=b.work→a.worker≠b.worker) h1 h2=>h h1.symm h2.symm);have hnew2:=hA2.new;have hlt2:=hA2.core.lt;have hba2:Below w2.heap.size w2 ((w2.alloc (.map #[] 0)).alloc (.cells #[.map (some w2.heap.size)] 146)):=((Below.refl _ _).alloc (Nat.le_refl _) _).alloc (by simp) _;have hA4:=hA2.below hba2;have hm4:=(TMap.made w2 KI (fun n:Int=>Value.int .i64 n)).alloc (.cells #[.map (some w2.heap.size)] 146);have hq4:=Boxed.new (w2.alloc (.map #[] 0)) 146 (.map (some w2.heap.size));rw[World.size_alloc]at hq4;have hq4:=hq4.cell;have hp4:=keepC hba2 q2;clear hg2 hO2 hA1H hstH b0H hbaH c8w;have hc4:=(hA4.core.blk 8 _ rfl).1;obtain⟨W4,hW4⟩:∃ Y,(w2.alloc (.map #[] 0)).alloc (.cells #[.map (some w2.heap.size)] 146)=Y:=⟨_,rfl⟩;have hz4:W4.heap.size=w2.heap.size+2:=by rw[← hW4];simp
 have hp4L:=hp4;have hc4L:=hc4;rw[hW4]at hA4 hm4 hq4 hp4 hba2 hc4;have hmkA:w2.heap.size ∉ X.bl∧ov.ownBlock≠some w2.heap.size∧(Value.slice A n cap).ownBlock≠some w2.heap.size∧X.base≤w2.heap.size:=hA2.new;have hqbA:w2.heap.size+1 ∉ X.bl∧ov.ownBlock≠some (w2.heap.size+1)∧(Value.slice A n cap).ownBlock≠some (w2.heap.size+1) :=
  ⟨fun hm=>by have:=hA2.core.lt _ hm;omega,fun e=>by have:=hA2.own_lt.2 _ e;omega,fun e=>by have:=hA2.own_lt.1 _ e;omega⟩
 have hpbA:pb ∉ X.bl∧(Value.slice A n cap).ownBlock≠some pb:=⟨hnewH.out.1,hnewH.out.2.2.1⟩;have hst4:FiRel X.F s.now P w2.heap.size W4 (.int .i64 0) W4:=⟨0,0,Nat.zero_le _,rfl,Nat.le_refl _,hm4.congr (fun x _=>by unfold byF;simp),World.grownBy.refl _ _⟩;clear hm4 hnew2;obtain⟨mk,hmk⟩:∃ b,w2.heap.size=b:=⟨_,rfl⟩;rw[hmk]at hq4 hz4 hmkA hqbA hst4 hplt;obtain⟨hpermH,hsoH,hA2H,hPlH,hSPH,hdiPH,hlt2H,hba2H,hA4H,hq4H,hp4H,hpoH,hst4H,hmkH,hc4H,hmkAH,hqbAH,hpbAH,hz4H⟩:=hq2 hperm (hq2 hso (hqc hA2 hPl hSP hdiP hlt2 hba2 hA4 hq4 (hqc hp4 hpo hst4 hmk hc4 hmkA hqbA hpbA (Lib.hid hz4))));clear hperm hso hA2 hPl hSP hdiP hlt2 hba2 hA4 hq4 hp4 hpo hst4 hmk hc4 hmkA hqbA hpbA hz4;have hW4H:=Lib.hid hW4;clear hW4;have hmkM:=@run_makeMap Tryz.prog;go_wp2_with fail;clear hmkM hp4L hc4L;have e4:=hW4H.out;rw[hmkH.out]at e4;simp only[hmkH.out];rw[e4];clear e4
 go_loopw [18] (fun i wr=>FiRel X.F s.now P mk W4 i wr) (fun i _=>n-(intOf i).toNat)
 case atStart=>exact hst4H.out
 case round =>
  clear hst4H;obtain⟨j,c,hj,rfl,hcj,hm,hg⟩:=hrel;have hPl:=hPlH.out;have hAr:=hA4H.out.farG hg (fun b hb=>by injection hb with hb;subst hb;exact hmkAH.out);have hqr:=hg.cell hq4H.out (by simp);have hpr:=hg.cell hp4H.out (by simp;have:=hz4H.out;omega);have c7:=(hAr.core.blk 7 _ rfl).1;have c8r:=(hAr.core.blk 8 _ rfl).1
  by_cases hlt:j<n
  ·obtain⟨g,cur,hA9,_⟩:=own_block hAr.runs (by omega);subst hA9;obtain⟨r,hr⟩:∃ r,P[j]? = some r:=⟨P[j]'(by omega),List.getElem?_eq_getElem _⟩;obtain⟨hgr,_,hkW,hiX,hf0,hf1⟩:=hSPH.out.rn r (List.mem_of_getElem? hr);obtain⟨d0,d1,d2,d3⟩:=cells_GRun hAr.runs.slAt (x:=gr X.F r) (by rw[List.getElem?_map,hr];rfl);rw[Nat.zero_add]at d0 d1 d2 d3;have hcd:=cand_iff (F:=X.F) (t:=s.now) hgr hSH.out.t0;obtain⟨n1,n2,n3,n4,n5,n6⟩:=hSH.out.nW;have e0:(gr X.F r).work=(r.work:Int):=rfl;have e1:(gr X.F r).worker=(r.worker:Int):=rfl;have e3:(gr X.F r).end_=(X.F.endAt r.worker r.work r.from_).getD (-1):=rfl;have hgood:KI.good (r.work:Int):=ki_good (by omega) (by omega);have hsame:=byF_same (F:=X.F) (t:=s.now) hr;have hput:=byF_put (F:=X.F) (t:=s.now) hr;obtain⟨ed,hed⟩:∃ e,(X.F.endAt r.worker r.work r.from_).getD (-1)=e:=⟨_,rfl⟩;obtain⟨fr,hfr⟩:∃ e,(gr X.F r).from_=e:=⟨_,rfl⟩;rw[hed]at hcd e3;rw[e0]at d0;rw[e1]at d1;rw[hfr]at d2;rw[e3]at d3;obtain⟨iw,hiw⟩:∃ q,r.work=q:=⟨_,rfl⟩;obtain⟨ik,hik⟩:∃ q,r.worker=q:=⟨_,rfl⟩;rw[hiw]at d0 hsame hput hgood;rw[hik]at d1 hput;have hgl:=own_lt hAr.runs;have hmlt:=hm.lt;have hbx:=(Below.refl wr.heap.size wr).alloc (Nat.le_refl _) (.cells #[.int .i64 iw,.int .i64 ik,.int .i64 fr,.int .i64 ed] 144);have hma:=hm.alloc (.cells #[.int .i64 iw,.int .i64 ik,.int .i64 fr,.int .i64 ed] 144);have hga:W4.grownBy (wr.alloc (.cells #[.int .i64 iw,.int .i64 ik,.int .i64 fr,.int .i64 ed] 144)) (some mk):=grown_trans hg (below_g hbx |> fun h=>⟨h.os,h.tape,h.output,h.size,fun k hk _=>h.block k hk (by simp)⟩)
   have hlk:=(hma.look (t:=146) (e:=3) Tryz.underlying146 (z0:=(0:Int)) (Tryz.zeroValue3 _) injInt (x:=(iw:Int)) hgood).2;rw[show KI.val (iw:Int)=Value.int .i64 (iw:Int) from rfl]at hlk;have hqa:=keepC hbx hqr;have hpa:=keepC hbx hpr;have c7a:=keepC hbx c7;obtain⟨bo,hbo⟩:∃ o,byF X.F s.now P j (iw:Int)=o:=⟨_,rfl⟩;rw[hbo]at hlk;have hn1:j+1≤P.length:=by omega
   have Rsame:cand X.F s.now r=false∨(∃ v,bo=some v)→∀ nq,FiRel X.F s.now P mk W4 (.int .i64 ((j:Int)+1)) ((wr.alloc (.cells #[.int .i64 iw,.int .i64 ik,.int .i64 fr,.int .i64 ed] 144)).drewN nq):=fun h nq =>
    ⟨j+1,c,hn1,by go_num,by omega,(hma.congr (fun x _=>(hsame (by rw[hbo];exact h) x).symm)).kept (row:=none) ⟨rfl,rfl,rfl,Nat.le_refl _,fun _ _ _=>rfl⟩ (by simp),grown_trans hga ⟨rfl,rfl,rfl,Nat.le_refl _,fun _ _ _=>rfl⟩⟩
   clear hsame
   cases bo with
   | some v =>
    have R:=Rsame (.inr ⟨v,rfl⟩);simp only[Option.getD_some,Option.isSome_some]at hlk;clear Rsame hput hcd e0 e1 e3 hma hga hbx hg hm hAr;obtain⟨hrH,RH,hedH,hfrH,hiwH,hikH,hboH,hPlH⟩:=hq2 hr (hq2 R (hq2 hed (hqb hfr hiw hik hbo (Lib.hid hPl))));clear hr R hed hfr hiw hik hbo hPl;go_wp2_with fail
    by_cases hc:ed=s.now
    ·have hc':(ed==s.now)=true:=by simpa using hc
     clear hc
     go_quiet (fail)
     go_wp2;refine⟨?rel,?measure⟩
     case measure=>(simp[intOf];omega)
     case rel=>first | exact(RH.out _) | exact⟨rfl,(RH.out _)⟩
    ·have hc':(ed==s.now)=false:=by simpa using hc
     go_quiet (fail)
     go_wp2;refine⟨?rel,?measure⟩
     case measure=>(simp[intOf];omega)
     case rel=>first | exact(RH.out _) | exact⟨rfl,(RH.out _)⟩
   | none =>
    simp only[Option.getD_none,Option.isSome_none]at hlk
    by_cases hc:ed=s.now
    ·have hc':(ed==s.now)=true:=by simpa using hc
     rw[hc']at hcd;have hmN:∀ q,TMap KI (fun n:Int=>Value.int .i64 n) ((wr.alloc (.cells #[.int .i64 iw,.int .i64 ik,.int .i64 fr,.int .i64 ed] 144)).drewN q) mk (byF X.F s.now P j) c:=fun q=>hma.kept (row:=none) ⟨rfl,rfl,rfl,Nat.le_refl _,fun _ _ _=>rfl⟩ (by simp);have R:∀ q w6,TMap KI (fun n:Int=>Value.int .i64 n) w6 mk (upd (byF X.F s.now P j) (iw:Int) (ik:Int)) (if (byF X.F s.now P j (iw:Int)).isSome then c else c+1)→((wr.alloc (.cells #[.int .i64 iw,.int .i64 ik,.int .i64 fr,.int .i64 ed] 144)).drewN q).grownBy w6 (some mk)→FiRel X.F s.now P mk W4 (.int .i64 ((j:Int)+1)) w6:=by
      intro q w6 h1 h2;refine⟨j+1,_,hn1,by go_num,?_,h1.congr (fun x _=>hput hcd hbo x),grown_trans (grown_drewN hga q) h2⟩;have:=ite_le_succ ((byF X.F s.now P j (iw:Int)).isSome=true) c;omega
     have hcM:c<maxLen:=by unfold maxLen;omega
     clear hc Rsame hput e0 e1 e3 hma hga hbx hg hm hAr hcd;obtain⟨hrH,RH,hedH,hfrH,hiwH,hikH,hboH,hPlH,hmNH,hgoodH⟩:=hq2 hr (hqc R hed hfr hiw hik hbo hPl hmN (Lib.hid hgood));clear hr R hed hfr hiw hik hbo hPl hmN hgood;go_wp2_with fail
     go_quiet (fail)
     go_wp2_with (at_mapUpdate;go_loud (refine wpList_tstore rfl (.tmp 40) (.tmp 42) (.tmp 44) 146 rfl Tryz.underlying146 injInt rfl (hmNH.out _) hcM (iw:Int) rfl hgoodH.out (ik:Int) rfl ?_);intro w6 hm6 hg6;have R6:=RH.out _ w6 hm6 hg6;have R6H:=Lib.hid R6;clear hm6 hg6 R6);refine⟨?rel,?measure⟩
     case measure=>(simp[intOf];omega)
     case rel=>first | exact R6H.out | exact⟨rfl,R6H.out⟩
    ·have hc':(ed==s.now)=false:=by simpa using hc
     rw[hc']at hcd;have R:=Rsame (.inl hcd);clear hc Rsame hput hcd e0 e1 e3 hma hga hbx hg hm hAr;obtain⟨hrH,RH,hedH,hfrH,hiwH,hikH,hboH,hPlH⟩:=hq2 hr (hq2 R (hq2 hed (hqb hfr hiw hik hbo (Lib.hid hPl))));clear hr R hed hfr hiw hik hbo hPl;go_wp2_with fail
     go_quiet (fail)
     go_wp2;refine⟨?rel,?measure⟩
     case measure=>(simp[intOf];omega)
     case rel=>first | exact(RH.out _) | exact⟨rfl,(RH.out _)⟩
  ·obtain rfl:j=P.length:=by omega
   obtain⟨m1,m2,m3,m4⟩:=hmkAH.out;obtain⟨u1,u2,u3⟩:=hqbAH.out;obtain⟨v1,v2⟩:=hpbAH.out;have eg:∀ args w,(callFunc 114 args).run Tryz.prog w = .ok (.enter 114 args) w:=enters_of Tryz.func114 (by kernel_rfl) rfl;have hlenP:({ s with runs:=P }:PS).out.length+({ s with runs:=P }:PS).runs.length≤900000:=by show s.out.length+P.length≤900000;rw[hpermH.out.length_eq];exact hlen
   have hI0:∀ rb,ov.ownBlock≠some rb→rb<wr.heap.size→FnI X K (.slice A n cap) { s with runs:=P } w0 rb (mk+1) pb mk c 0 wr:=fun rb hrb hlt9 =>
    ⟨ov,by rw[fnS_zero];exact hAr.core,hrb,u2,hpoH.out,m2,hqr,hpr,hm,hlt9⟩
   have hF0:(fun w':World=>w'.cell? ⟨pb,0,none⟩=some (.pointer (some ⟨X.f,0,none⟩))∧w'.cell? ⟨X.f,8,none⟩=some (.slice A n cap)) wr:=⟨hpr,c8r⟩;have f8:=(hAr.core.blk 8 _ rfl).2
   rcases hAr.runs.1.2 with ⟨hv,h0⟩ | ⟨g,cap',cur,hv,hgb,_⟩
   ·injection hv with x1 x2 x3;subst x1 x3;have hP0:P = []:=by cases P with
     | nil=>rfl
     | cons a b=>simp at h0
    subst hP0;have hfn:=fnS_all X.F { s with runs:=[] };rw[show ({ s with runs:=[] }:PS).runs.length=0 from rfl,fnS_zero]at hfn;have R:∀ W,Below wr.heap.size wr W→FinAns X K s w0 (.returned (.tuple #[])) (W.setCell ⟨X.f,8,none⟩ (.slice none 0 0)):=by
     intro W hW;refine⟨rfl,[],.slice none 0 0,ov,hpermH.out,?_⟩;rw[← hfn];exact⟨(hAr.core.below hW).setRuns _ _,Own.nil _ _,(fun b _ e=>by cases e),fun b e=>by cases e⟩
    have hn0:n=0:=by simpa using hPl.symm
    subst hn0;clear hI0 hm hg hAr hlenP hfn hqr c7 c8r hcj hj hlt h0 hlen hPl;obtain⟨RH,hF0H⟩:=hq2 R (Lib.hid hF0);clear R hF0;have hF:=hF0H.out;have hC:True:=trivial;go_wp2_with fail;refine startR (R:=Rk (fun w':World=>w'.cell? ⟨pb,0,none⟩=some (.pointer (some ⟨X.f,0,none⟩))∧w'.cell? ⟨X.f,8,none⟩=some (.slice none 0 0)) (fun _=>True) 9 9) (by kernel_rfl) ?_;refine tfS [(0,46),(1,47),(2,48),(3,49),(4,50),(5,51)] ?_;(iterate 6 (refine tfL (v:=?_) (hy:=Or.inl ⟨by rfl,?_⟩) (hS:=hF) (h:=?_);rotate_left;(· (intro w hSw;(try dsimp only at hSw);go_simp;(try with_reducible rfl)));(try simp only[Act.put,List.setIfInBounds_toArray,List.set_cons_zero,List.set_cons_succ])));refine tfE ?_;refine oneR (i:=6) (by kernel_rfl) rfl (fun K hK=>?_);go_simp;go_at_call 113;refine(deleteG_nil _ _ _).mono ?_;rintro e w5 ⟨rfl,rfl⟩;refine hK.out _ _ ⟨fun _ _ _=>hF,fun _ _=>trivial⟩ ?_;clear hK K
    (try simp only[Act.put,List.setIfInBounds_toArray,List.set_cons_zero,List.set_cons_succ])
    refine oneR (i:=7) (by kernel_rfl) rfl (fun K hK=>?_);go_simp;refine hK.out _ _ ⟨fun _ _ _=>hF,fun _ _=>trivial⟩ ?_;clear hK K
    (try simp only[Act.put,List.setIfInBounds_toArray,List.set_cons_zero,List.set_cons_succ])
    refine oneR (i:=8) (by kernel_rfl) rfl (fun K hK=>?_);go_simp;refine hK.out _ _ ⟨fun _ _ _=>hF,fun _ _=>trivial⟩ ?_;clear hK K
    (try simp only[Act.put,List.setIfInBounds_toArray,List.set_cons_zero,List.set_cons_succ])
    refine oneR (i:=9) (by kernel_rfl) rfl (fun K hK=>?_);go_simp;refine hK.out _ _ ⟨fun h=>absurd rfl h,fun h=>absurd rfl h⟩ ?_;clear hK K
    (try simp only[Act.put,List.setIfInBounds_toArray,List.set_cons_zero,List.set_cons_succ])
    refine doneR (by kernel_rfl) ?_ _;clear hF f8 hpr;go_wp2
    go_end0
    exact RH.out _ (Below.refl _ _).drew
   ·injection hv with x1 x2 x3;subst x1 x3;clear x2;have hgo:ov.ownBlock≠some g:=hAr.rov g rfl;have hgbl:g ∉ X.bl:=fun hm=>hAr.rap g hm rfl;have hgne:g≠mk+1∧g≠pb∧g≠mk:=⟨fun e=>u3 (by rw[e];rfl),fun e=>v2 (by rw[e];rfl),fun e=>m3 (by rw[e];rfl)⟩;have hgl:=own_lt hAr.runs;have hmg:mk≠g:=fun e=>hgne.2.2 e.symm;have hdp:=fn_del (K:=K) (rv:=.slice (some ⟨g,0,none⟩) n cap) (c:=c) hSPH.out hsoH.out hdiPH.out hlenP ⟨hgbl,u1,v1,m1⟩ hgb hgne;have hdl:=deleteG_any 114 _ eg _ X.base g n cap (P.map (gr X.F)) _ wr.drew hdp (own_same hAr.runs rfl (fun y _ hy=>grun_okW _ _ y hy)) (hdp.stab _ _ _ (hI0 g hgo hgl) ⟨rfl,rfl,rfl,Nat.le_refl _,fun _ _ _=>rfl⟩) (by omega);have hfl2:(P.map (gr X.F)).filter (fun x=>!hasDone X.F s.now P x.work.toNat)=(P.filter fun r=>!hasDone X.F s.now P r.work).map (gr X.F):=by rw[List.filter_map];rfl
    have R:∀ (k:Nat) (w5:World),Own RGRun 144 w5 X.base (.slice (some ⟨g,0,none⟩) k cap) ((P.map (gr X.F)).filter fun x=>!hasDone X.F s.now P x.work.toNat)→FnI X K (.slice (some ⟨g,0,none⟩) n cap) { s with runs:=P } w0 g (mk+1) pb mk c n w5 →
      FinAns X K s w0 (.returned (.tuple #[])) (w5.setCell ⟨X.f,8,none⟩ (.slice (some ⟨g,0,none⟩) k cap)):=by
     intro k w5 hO hI;obtain⟨ov',h1,h2,_,_,_,h6,h7,h8,_⟩:=hI;refine⟨rfl,P,.slice (some ⟨g,0,none⟩) k cap,ov',hpermH.out,?_⟩;have hfn:=fnS_all X.F { s with runs:=P };rw[show ({ s with runs:=P }:PS).runs.length=n from hPl]at hfn;rw[← hfn];rw[hfl2]at hO;refine⟨h1.setRuns _ _,own_kp hO (grown_setc w5 ⟨X.f,8,none⟩ _) (fun b hb e=>?_) (fun x _ hx=>grun_ok_any _ _ x hx),fun b hb e=>?_,fun b hb e=>?_⟩
     ·injection hb with hb;injection e with e;have e':X.f=b:=e;have hb':g=b:=hb;exact hgbl (by rw[hb',← e'];exact h1.memf.1)
     ·injection e with e;exact hgbl (by rw[show g=b from e];exact hb)
     ·injection hb with hb;exact h2 (by rw[e,← hb])
    have hfr:∀ w5,FnI X K (.slice (some ⟨g,0,none⟩) n cap) { s with runs:=P } w0 g (mk+1) pb mk c n w5→(w5.cell? ⟨pb,0,none⟩=some (.pointer (some ⟨X.f,0,none⟩))∧w5.cell? ⟨X.f,8,none⟩=some (.slice (some ⟨g,0,none⟩) n cap))∧w5.frozen? ⟨X.f,8,none⟩=false:=by
     rintro w5 ⟨ov',h1,_,_,_,_,_,h7,_,_⟩;exact⟨⟨h7,(h1.blk 8 _ rfl).1⟩,(h1.blk 8 _ rfl).2⟩
    have hnj:n=P.length:=hPl.symm;clear hI0 hm hg hAr hlenP hqr c7 c8r hcj hj hlt hlen hPl hdp hfl2;subst hnj;obtain⟨RH,hF0H,hdlH,hfrH,hgneH⟩:=hqb R hF0 hdl hfr (Lib.hid hgne);clear R hF0 hdl hfr hgne;have hF:=hF0H.out;have hC:True:=trivial;go_wp2_with fail;refine startR (R:=Rk (fun w':World=>w'.cell? ⟨pb,0,none⟩=some (.pointer (some ⟨X.f,0,none⟩))∧w'.cell? ⟨X.f,8,none⟩=some (.slice (some ⟨g,0,none⟩) P.length cap)) (fun _=>True) 9 9) (by kernel_rfl) ?_;refine tfS [(0,46),(1,47),(2,48),(3,49),(4,50),(5,51)] ?_;(iterate 6 (refine tfL (v:=?_) (hy:=Or.inl ⟨by rfl,?_⟩) (hS:=hF) (h:=?_);rotate_left;(· (intro w hSw;(try dsimp only at hSw);go_simp;(try with_reducible rfl)));(try simp only[Act.put,List.setIfInBounds_toArray,List.set_cons_zero,List.set_cons_succ])));refine tfE ?_;refine oneR (i:=6) (by kernel_rfl) rfl (fun K hK=>?_);go_simp;go_at_call 113;refine hdlH.out.mono ?_;rintro e w5 ⟨k,hk,rfl,hO5,hI5⟩;obtain⟨hF5,f85⟩:=hfrH.out w5 hI5;have R5:=RH.out k w5 hO5 hI5;clear hO5 hI5 hF f8 hpr;have R5H:=Lib.hid R5;clear R5;refine hK.out _ _ ⟨fun _ _ _=>hF5,fun _ _=>trivial⟩ ?_;clear hK K
    (try simp only[Act.put,List.setIfInBounds_toArray,List.set_cons_zero,List.set_cons_succ])
    refine oneR (i:=7) (by kernel_rfl) rfl (fun K hK=>?_);go_simp;refine hK.out _ _ ⟨fun _ _ _=>hF5,fun _ _=>trivial⟩ ?_;clear hK K
    (try simp only[Act.put,List.setIfInBounds_toArray,List.set_cons_zero,List.set_cons_succ])
    refine oneR (i:=8) (by kernel_rfl) rfl (fun K hK=>?_);go_simp;refine hK.out _ _ ⟨fun _ _ _=>hF5,fun _ _=>trivial⟩ ?_;clear hK K
    (try simp only[Act.put,List.setIfInBounds_toArray,List.set_cons_zero,List.set_cons_succ])
    refine oneR (i:=9) (by kernel_rfl) rfl (fun K hK=>?_);go_simp;refine hK.out _ _ ⟨fun h=>absurd rfl h,fun h=>absurd rfl h⟩ ?_;clear hK K
    (try simp only[Act.put,List.setIfInBounds_toArray,List.set_cons_zero,List.set_cons_succ])
    refine doneR (by kernel_rfl) ?_ _;clear hF5 f85;go_wp2
    go_end0
    exact R5H.out
/-! ### plain -/
section
variable {F:FP}
def lsS (F:FP) (s:PS) (k:Nat):PS :=
 { s with out:=s.out++((s.runs.take k).filter fun r=>goes F r.worker s.now).map (loseRun F s.now),lost:=fun j=>s.lost j+(lostNow F s.now (s.runs.take k) j:Nat),last:=fun j=>if lostNow F s.now (s.runs.take k) j=0 then s.last j else s.now }
theorem lostNow_succ {t:Int} {P:List RR} {k:Nat} {r:RR} (hr:P[k]? = some r) (j:Nat):lostNow F t (P.take (k+1)) j=lostNow F t (P.take k) j+if (r.work==j&&(going r&&goes F r.worker t))=true then 1 else 0:=by
 unfold lostNow;rw[List.take_add_one,hr,Option.toList_some,List.countP_append,List.countP_singleton]
theorem lsS_zero (F:FP) (s:PS):lsS F s 0=s:=by
 unfold lsS lostNow;simp
theorem lsS_all (F:FP) (s:PS):{ lsS F s s.runs.length with runs:=s.runs.filter fun r=>!goes F r.worker s.now }=loseP F s:=by
 unfold lsS loseP;simp only[List.take_length]
theorem lsS_no {s:PS} {k:Nat} {r:RR} (hr:s.runs[k]? = some r) (h:goes F r.worker s.now=false):lsS F s (k+1)=lsS F s k:=by
 have hd:∀ j,lostNow F s.now (s.runs.take (k+1)) j=lostNow F s.now (s.runs.take k) j:=fun j=>by rw[lostNow_succ hr,h];simp
 unfold lsS;simp only[hd];rw[List.take_add_one,hr,Option.toList_some,List.filter_append,List.filter_cons_of_neg (by simp[h]),List.filter_nil,List.append_nil]
theorem lsS_yes {s:PS} {k:Nat} {r:RR} (hr:s.runs[k]? = some r) (hg:going r=true) (h:goes F r.worker s.now=true) :
  lsS F s (k+1)=clS { lsS F s k with lost:=fun j=>if j=r.work then (lsS F s k).lost r.work+1 else (lsS F s k).lost j } r 2:=by
 have hd:∀ j,lostNow F s.now (s.runs.take (k+1)) j=lostNow F s.now (s.runs.take k) j+if j=r.work then 1 else 0:=fun j=>by
  rw[lostNow_succ hr,hg,h]
  by_cases e:j=r.work
  ·subst e;simp
  ·have:(r.work==j)=false:=by simpa using fun h=>e h.symm
   rw[if_neg e,this];simp
 rw[clS_n _ r (by decide) rfl];unfold lsS;simp only[hd];rw[List.take_add_one,hr,Option.toList_some,List.filter_append,List.filter_cons_of_pos (p:=fun r:RR=>goes F r.worker s.now) h,List.filter_nil,List.map_append,List.map_singleton,loseRun_yes (by rw[hg,h];rfl)];simp only[List.append_assoc]
 congr 1
 ·funext j
  by_cases e:j=r.work
  ·subst e;simp;omega
  ·rw[if_neg e,if_neg e];simp
 ·funext j
  by_cases e:j=r.work
  ·subst e;simp
  ·rw[if_neg e,if_neg e];simp
end
theorem FS.goesV {X:FX} {s:PS} {w0:World} (h:FS X s w0) {k:Nat} {y:Worker} (hy:X.x.workers.l[k]? = some y) (t:Int):goes X.F k t=(y.to_==t||decide ((⟨y.name,t⟩:Loss)∈X.x.lost.l)):=by
 obtain⟨o,e⟩:=h.F;unfold goes;rw[e];simp only[fpOf];rw[wkOf_get hy]
theorem lose1_any {X:FX} {rv ov:Value} {s:PS} {w0 W:World} {k pb:Nat} {r:RR} (hC:FC X KLo rv ov (lsS X.F s k) w0 W) (hS:FS X s w0) (hr:s.runs[k]? = some r) (hlen:s.out.length+s.runs.length≤900000) (hlo:0≤(lsS X.F s k).lost r.work∧(lsS X.F s k).lost r.work≤900000)
  (hpb:pb ∉ X.bl) (q2:W.cell? ⟨pb,0,none⟩=some (.pointer (some ⟨X.f,0,none⟩))) :
  Calls Tryz.prog 116 #[.agg (gvals (gr X.F r)),.pointer (some ⟨pb,0,none⟩)] W (StepAns X KLo rv ov (goes X.F r.worker s.now) (lsS X.F s (k+1)) w0 W):=by
 obtain⟨n1,n2,n3,n4,n5,n6⟩:=hS.nW;obtain⟨hg,_,hkW,hiX,hf0,hf1⟩:=hS.rn r (List.mem_of_getElem? hr);obtain⟨ed,hed⟩:∃ e,(X.F.endAt r.worker r.work r.from_).getD (-1)=e:=⟨_,rfl⟩;rw[gr_agg,hed];obtain⟨y,hy⟩:∃ y,X.x.workers.l[r.worker]? = some y:=⟨X.x.workers.l[r.worker]'(by omega),List.getElem?_eq_getElem _⟩;have hgv:=hS.goesV hy s.now;obtain⟨by_,oy,hYA,_⟩:=(hS.ws.1).2.1 (by omega);have hba:=(Below.refl W.heap.size W).alloc (Nat.le_refl _) (.cells #[.int .i64 r.work,.int .i64 r.worker,.int .i64 r.from_,.int .i64 ed] 144);obtain⟨W1,hW1⟩:∃ Y,W.alloc (.cells #[.int .i64 r.work,.int .i64 r.worker,.int .i64 r.from_,.int .i64 ed] 144)=Y:=⟨_,rfl⟩;rw[hW1]at hba;have hC1:=hC.below hba;have hws1:=hS.ws.1.below hC1.bel;rw[hYA]at hws1;obtain⟨d0,d1,d2,d3,d4,d5,d6⟩:=cells_Worker hws1 hy;have c0:=(hC1.blk 0 _ rfl).1;rw[hYA]at c0;have g0:W1.cell? ⟨W.heap.size,0,none⟩=some (.int .i64 r.work):=by rw[← hW1];exact cell_new _ _ _ 0
 have g1:W1.cell? ⟨W.heap.size,1,none⟩=some (.int .i64 r.worker):=by rw[← hW1];exact cell_new _ _ _ 1
 have g2:W1.cell? ⟨W.heap.size,2,none⟩=some (.int .i64 r.from_):=by rw[← hW1];exact cell_new _ _ _ 2
 have g3:W1.cell? ⟨W.heap.size,3,none⟩=some (.int .i64 ed):=by rw[← hW1];exact cell_new _ _ _ 3
 have q1:=keepC hba q2;obtain⟨iw,hiw⟩:∃ q,r.work=q:=⟨_,rfl⟩;obtain⟨ik,hik⟩:∃ q,r.worker=q:=⟨_,rfl⟩;obtain⟨ifr,hifr⟩:∃ q,r.from_=q:=⟨_,rfl⟩;rw[hiw]at g0 hW1;rw[hik]at g1 hW1 d0 d1 d2 d3 d4 d5 d6;rw[hifr]at g2 hW1;have hik2:ik<X.x.workers.n:=by omega
 rw[hiw,hik,hifr];obtain⟨rb,hrb⟩:∃ b,W.heap.size=b:=⟨_,rfl⟩;have hltr:W.heap.size<W1.heap.size:=cell?_lt g0;rw[hrb]at g0 g1 g2 g3 hltr;have hp1:=cell?_lt q1;have hf1':=cell?_lt c0;have hb1:=cell?_lt d0;have hr1:=cell?_lt g0;simp only at hp1 hf1' hb1 hr1;obtain⟨Q,hQ⟩:∃ Q,StepAns X KLo rv ov (goes X.F ik s.now) (lsS X.F s (k+1)) w0 W=Q:=⟨_,rfl⟩;rw[hQ];obtain⟨hCH,hSH,hrH,hedH,hgvH,hbaH,hC1H,hws1H,hyH,hYAH,hiwH,hikH,hifrH,hrbH,hloH,hpbH,hW1H,n1H,n2H,n3H,n4H,hQH⟩:=hq2 hC (hqb hS hr hed hgv (hqc hba hC1 hws1 hy hYA hiw hik hifr (hqc hrb hlo hpb hW1 n1 n2 n3 n4 (Lib.hid hQ))));clear hC hS hr hed hgv hba hC1 hws1 hy hYA hiw hik hifr hrb hlo hpb hW1 n1 n2 n3 n4 hQ;go_enter Tryz.func116,Tryz.ntmps116;go_wp2_with fail;rw[hW1H.out,hrbH.out]
 go_region
 obtain⟨W2,hW2⟩:∃ Y,(W1.alloc (.cells #[.string y.name,.slice y.has.A y.has.n y.has.cap,.int .i64 y.slots,.int .i64 y.speed,.int .i64 y.from_,.int .i64 y.to_,.slice y.stands.A y.stands.n y.stands.cap] 84)).drew=Y:=⟨_,rfl⟩;have hb12:Below W1.heap.size W1 W2:=by rw[← hW2];exact((Below.refl _ _).alloc (Nat.le_refl _) _).drew
 have hC2:=hC1H.out.below hb12;have v0:W2.cell? ⟨W1.heap.size,0,none⟩=some (.string y.name):=by rw[← hW2];exact cell_new W1 _ _ 0
 have v5:W2.cell? ⟨W1.heap.size,5,none⟩=some (.int .i64 y.to_):=by rw[← hW2];exact cell_new W1 _ _ 5
 obtain⟨vb,hvb⟩:∃ b,W1.heap.size=b:=⟨_,rfl⟩;rw[hW2];rw[hvb]at v0 v5 ⊢;have g0:=keepC hb12 g0;have g1:=keepC hb12 g1;have g2:=keepC hb12 g2;have g3:=keepC hb12 g3;have q1:=keepC hb12 q1;have c7:W2.cell? ⟨X.f,7,none⟩=some (.int .i64 s.now):=(hC2.blk 7 _ rfl).1;have c6:=(hC2.blk 6 _ rfl).1;have c10:=(hC2.blk 10 _ rfl).1;rw[show X.N=X.x.works.n from rfl]at c10;obtain⟨m0,m1⟩:=hC2.lost iw (by show iw<X.x.works.n;have:=n2H.out;have:=hiwH.out;omega);have hyo:=(hws1H.out.2.2 y (List.mem_of_getElem? hyH.out)).1;have t0:=hSH.out.t0;have t1:=hSH.out.t1;have hlk:=(hC2.map.below (Below.refl _ _).drew hC2.map.lt).look (t:=57) (e:=4) Tryz.underlying57 (z0:=false) (Tryz.zeroValue4 _) injBool (x:=(⟨y.name,s.now⟩:Loss)) ⟨hyo,by simp[Lit.wf,IntKind.min,IntKind.max,IntKind.signed,IntKind.bits];omega⟩;have hlk:=hlk.1;rw[show KLo.val (⟨y.name,s.now⟩:Loss) = .agg #[.string y.name,.int .i64 s.now] from rfl]at hlk;obtain⟨lb,hlb⟩:∃ b,decide ((⟨y.name,s.now⟩:Loss)∈X.x.lost.l)=b:=⟨_,rfl⟩;have hlb2:(if (⟨y.name,s.now⟩:Loss)∈X.x.lost.l then some true else none).getD false=lb:=by
  rw[← hlb];split <;> simp[*]
 rw[hlb2]at hlk;have hgv:=hgvH.out;rw[hikH.out,hlb]at hgv;have hiN:iw<X.x.works.n:=by have:=n2H.out;have:=hiwH.out;omega
 have hlo:=hloH.out;rw[hiwH.out]at hlo;have hpb:=hpbH.out;have hLn:X.lb<W2.heap.size:=hC2.lt _ hC2.memf.2.2.2.2.1;have hrbn:rb ∉ X.bl:=by rw[← hrbH.out];exact fun hm=>Nat.lt_irrefl _ (hCH.out.lt _ hm)
 obtain⟨lv,hlv⟩:∃ v,(lsS X.F s k).lost iw=v:=⟨_,rfl⟩;rw[hlv]at m0 hlo;have hrl:rb≠X.lb:=fun e=>hrbn (by rw[e];exact hC2.memf.2.2.2.2.1);have hpl:pb≠X.lb:=fun e=>hpb (by rw[e];exact hC2.memf.2.2.2.2.1);have hb02:=hbaH.out.trans (hb12.mono hbaH.out.size);clear c0 d0 d1 d2 d3 d4 d5 d6 hp1 hf1' hb1 hr1 hbaH hlb2
 cases hgw:goes X.F ik s.now
 ·rw[hgw]at hgv;have h1:(y.to_==s.now)=false∧lb=false:=by
   cases h1:(y.to_==s.now) <;> cases lb <;> simp[h1]at hgv ⊢
  obtain⟨h1,rfl⟩:=h1;have h2:(y.to_ != s.now)=true:=by unfold bne;rw[h1];rfl
  have R:Q (.returned (.bool false)) W2.drew:=by
   rw[← hQH.out];exact⟨by rw[hgw],ov,by rw[lsS_no hrH.out (by rw[hikH.out];exact hgw)];exact hC2.below (Below.refl _ _).drew,fun b hb=>.inl hb,hb02.size,fun b hb _ _=>hb02.block b hb⟩
  clear hgv hgw hC2 hb12 hb02;obtain⟨RH,hlvH,hlbH,hvbH,hW2H⟩:=hqb R hlv hlb hvb (Lib.hid hW2);clear R hlv hlb hvb hW2;go_wp2_with fail
  go_region
  go_wp2;exact RH.out
 ·rw[hgw]at hgv;have hCl:=(hC2.setLost iw (lv+1));obtain⟨s9,hs9⟩:∃ s9,{ lsS X.F s k with lost:=fun j=>if j=iw then lv+1 else (lsS X.F s k).lost j }=s9:=⟨_,rfl⟩;have hfn:lsS X.F s (k+1)=clS s9 r 2:=by
   have:=lsS_yes (F:=X.F) hrH.out hg (by rw[hikH.out];exact hgw);rw[hiwH.out,hlv]at this;rw[this,hs9]
  have hSk:FS X (lsS X.F s k) w0:=hSH.out.congr rfl rfl;have hS9:FS X s9 w0:=hSk.congr (by rw[← hs9]) (by rw[← hs9]);have ho9:s9.out.length≤900000:=by
   rw[← hs9];show (s.out++_).length≤_;rw[List.length_append,List.length_map];have:=List.length_filter_le (fun r:RR=>goes X.F r.worker s.now) (s.runs.take k);rw[List.length_take]at this;omega
  rw[hs9]at hCl;have hcl:=fun W3 (h:FC X KLo rv ov s9 w0 W3)=>close_any h hS9 r hkW hiX hf0 (by omega) 2 (by omega) (by omega) ho9 ed;have R:∀ W3 w5,Below W2.heap.size (W2.setCell ⟨X.lb,iw,none⟩ (.int .i64 (lv+1))) W3→ClAns X KLo rv ov (clS s9 r 2) w0 W3 (.returned (.tuple #[])) w5→Q (.returned (.bool true)) w5:=by
   rintro W3 w5 h23 ⟨_,ov',h5,h6,h7,h8⟩;rw[← hQH.out,hfn,hgw];have z2:=hb02.size;have z3:=h23.size;simp only[World.size_setCell]at z3;refine⟨rfl,ov',h5,fun b hb=>?_,by omega,fun b a1 a2 a3=>?_⟩
   ·rcases h6 b hb with h | h
    ·exact .inl h
    ·right;omega
   ·rw[h8 b (by omega) a2 a3,h23.block b (by omega),(grown_setc W2 ⟨X.lb,iw,none⟩ _).block b (by omega) (fun e=>a2 (by injection e with e;rw[e];exact hC2.memf.2.2.2.2.1))];exact hb02.block b a1
  have hF:∀ W3,Below W2.heap.size (W2.setCell ⟨X.lb,iw,none⟩ (.int .i64 (lv+1))) W3→FC X KLo rv ov s9 w0 W3:=fun W3 h=>hCl.below (by simpa using h);rw[hiwH.out,hikH.out,hifrH.out]at hcl;clear hgw hb12 hfn hSk hS9 ho9 hCl
  by_cases hto:y.to_=s.now
  ·have h2:(y.to_ != s.now)=false:=by simpa using hto
   clear hgv hto hlk;obtain⟨RH,hlvH,hlbH,hvbH,hW2H,hb02H,hclH,hFH,hC2H⟩:=hqc R hlv hlb hvb hW2 hb02 hcl hF (Lib.hid hC2);clear R hlv hlb hvb hW2 hb02 hcl hF hC2;go_wp2_with fail
   go_region
   go_wp2_with fail
   go_region
   go_wp2_with fail;have hz:=hclH.out _ (hFH.out _ ((Below.refl W2.heap.size (W2.setCell ⟨X.lb,iw,none⟩ (.int .i64 (lv+1)))).drew.drew));clear hclH hFH;refine hz.mono ?_;clear hz;rintro e w5 h5;have h50:e = .returned (.tuple #[]):=h5.1;subst h50;have R5:=RH.out _ w5 ((Below.refl _ _).drew.drew) h5;clear h5;have R5H:=Lib.hid R5;clear R5;go_wp2;exact R5H.out
  ·have h2:(y.to_ != s.now)=true:=by simpa using hto
   have hlb1:lb=true:=by
    have h1:(y.to_==s.now)=false:=by simpa using hto
    rw[h1]at hgv;simpa using hgv.symm
   subst hlb1;clear hgv hto;obtain⟨RH,hlvH,hlbH,hvbH,hW2H,hb02H,hclH,hFH,hC2H⟩:=hqc R hlv hlb hvb hW2 hb02 hcl hF (Lib.hid hC2);clear R hlv hlb hvb hW2 hb02 hcl hF hC2;go_wp2_with fail
   go_region
   go_wp2_with fail
   go_region
   go_wp2_with fail;have hz:=hclH.out _ (hFH.out _ ((Below.refl W2.heap.size (W2.setCell ⟨X.lb,iw,none⟩ (.int .i64 (lv+1)))).drew.drew));clear hclH hFH;refine hz.mono ?_;clear hz;rintro e w5 h5;have h50:e = .returned (.tuple #[]):=h5.1;subst h50;have R5:=RH.out _ w5 ((Below.refl _ _).drew.drew) h5;clear h5;have R5H:=Lib.hid R5;clear R5;go_wp2;exact R5H.out
end Go.Proofs.YtbnkoefljcekbaaGreatDoor.C9