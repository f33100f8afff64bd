/-
 Several texts of mine as one, without what is not wanted here: XTrD, XR1D, XR1G, XExD, XElO, XInsN.
-/
import Derived.Test.YtpdjjjiknijpkaaGreatDoorTvGc
import Derived.Shelf.Spec.SlicesInsertGrow
set_option linter.unusedVariables false
set_option linter.unusedSimpArgs false
set_option maxRecDepth 100000
set_option maxHeartbeats 8000000
namespace Go.Proofs.YtpdjjjiknijpkaaGreatDoor
theorem lineX_len (rec:List TFi→Byt) (x:TN):(lineX rec x).length≤x.name.length+25:=by
 unfold lineX
 split
 ·simp only[List.length_append,List.length_singleton,dgB_len,sFile,List.length_cons,List.length_nil];omega
 ·simp only[List.length_append,List.length_singleton,dgB_len,sDir,List.length_cons,List.length_nil];omega
theorem flat_len (rec:List TFi→Byt) (B:Nat):∀ (Y:List TN),(∀ y∈Y,y.name.length≤B)→(Y.flatMap (lineX rec)).length≤(B+25)*Y.length
 | [],_=>by simp
 | y::Y,h=>by
  have ih:=flat_len rec B Y fun z hz=>h z (List.mem_cons_of_mem _ hz);have h1:=lineX_len rec y;have h2:=h y List.mem_cons_self;rw[List.flatMap_cons,List.length_append,List.length_cons,Nat.mul_succ];omega
theorem TD_len (P:PartT) (N:Nat) (l:List TFi) (h:WF P l) (hp:∀ f∈l,f.path.length≤N) (hc:l.length≤1000) (hN:N≤1000:=by omega):(TD N l).length≤2000000:=by
 cases N with
 | zero=>exact Nat.zero_le _
 | succ N =>
  have h1:=flat_len (TD N) 1001 (nodesS l) fun y hy=>Nat.le_trans (name_len (nodesS_mem.1 hy) hp) (by omega);have h2:(nodesS l).length≤l.length:=by rw[(nodesS_perm l).length_eq];exact grp_count l
  have h3:(1001+25)*(nodesS l).length≤1026*1000:=Nat.mul_le_mul (by omega) (by omega);show ((nodesS l).flatMap (lineX (TD N))).length≤_;omega
end Go.Proofs.YtpdjjjiknijpkaaGreatDoor
namespace Go.Proofs.YtpdjjjiknijpkaaGreatDoor
open Go.RowKit
theorem cut_of_node {l:List TFi} {y:TN} (hy:y∈grp l) {f:TFi} (hf:f∈filesN y):(cutP f.path).1=y.name∧((cutP f.path).2=none↔∃ g,y.file=some g):=by
 have ho:=grp_ok l y hy;unfold filesN at hf
 cases h:y.file with
 | some g =>
  rw[h]at hf;obtain rfl:=List.mem_singleton.1 hf;have e:=(ho.file f h).1;rw[e,cutP_whole _ ho.name];exact⟨rfl,fun _=>⟨f,rfl⟩,fun _=>rfl⟩
 | none =>
  rw[h]at hf;obtain⟨g,hg,rfl⟩:=List.mem_map.1 hf;have e:(backF y.name g).path=y.name++47::g.path:=rfl;rw[e,cutP_app _ _ ho.name];exact⟨rfl,⟨(fun h=>by cases h),(fun ⟨_,h⟩=>by cases h)⟩⟩
theorem filesN_ne {l:List TFi} {y:TN} (hy:y∈grp l):filesN y≠[]:=by
 unfold filesN
 cases h:y.file with
 | some g=>simp
 | none=>simp only[ne_eq,List.map_eq_nil_iff];exact(grp_ok l y hy).dir h
theorem mem_names {l:List TFi} {s:Byt}:(∃ y∈nodesS l,y.name=s)↔∃ f∈l,(cutP f.path).1=s:=by
 constructor
 ·rintro⟨y,hy,rfl⟩;have hy:=nodesS_mem.1 hy;obtain⟨f,hf⟩:=List.exists_mem_of_ne_nil _ (filesN_ne hy);exact⟨f,(node_sub hy).subset hf,(cut_of_node hy hf).1⟩
 ·rintro⟨f,hf,rfl⟩;have h:=grp_files l;rw[← h]at hf;obtain⟨y,hy,hfy⟩:=List.mem_flatMap.1 hf;exact⟨y,nodesS_mem.2 hy,(cut_of_node hy hfy).1.symm⟩
theorem rise_uniq {a b:List Byt} (ha:a.Pairwise (· < ·)) (hb:b.Pairwise (· < ·)) (hm:∀ s,s∈a↔s∈b):a=b:=by
 have na:a.Nodup:=ha.imp fun h e=>by subst e;exact blt_irrefl _ h
 have nb:b.Nodup:=hb.imp fun h e=>by subst e;exact blt_irrefl _ h
 have hp:a.Perm b:=(List.perm_ext_iff_of_nodup na nb).2 hm;exact List.Perm.eq_of_pairwise (le:=fun x y:Byt=>x<y) (fun x y _ _ h1 h2=>absurd (List.lt_trans h1 h2) (blt_irrefl _)) ha hb hp
structure NmS (l:List TFi) (O:List Byt):Prop where
 ord:O.Pairwise (· < ·)
 mem:∀ s,s∈O↔∃ f∈l,(cutP f.path).1=s
theorem NmS.nil:NmS [] []:=⟨.nil,fun s=>⟨(fun h=>by cases h),(fun ⟨_,h,_⟩=>by cases h)⟩⟩
theorem NmS.old {l:List TFi} {O:List Byt} (h:NmS l O) {f:TFi} (hf:(cutP f.path).1∈O):NmS (l ++ [f]) O:=by
 refine⟨h.ord,fun s=>⟨fun hs=>?_,?_⟩⟩
 ·obtain⟨g,hg,e⟩:=(h.mem s).1 hs;exact⟨g,List.mem_append_left _ hg,e⟩
 ·rintro⟨g,hg,rfl⟩
  rcases List.mem_append.1 hg with hg | hg
  ·exact(h.mem _).2 ⟨g,hg,rfl⟩
  ·obtain rfl:=List.mem_singleton.1 hg;exact hf
theorem NmS.put {l:List TFi} {O:List Byt} (h:NmS l O) {f:TFi} {k:Nat} (h1:∀ (j:Nat) s,j<k→O[j]? = some s→s<(cutP f.path).1) (h2:∀ s,O[k]? = some s→(cutP f.path).1<s):NmS (l ++ [f]) (O.take k ++ [(cutP f.path).1]++O.drop k):=by
 have hpw:=List.pairwise_iff_getElem.1 h.ord;have e:O.take k++O.drop k=O:=List.take_append_drop k O;have ho:=h.ord;rw[← e]at ho;obtain⟨p1,p2,p3⟩:=List.pairwise_append.1 ho;have q1:∀ s∈O.take k,s<(cutP f.path).1:=fun s hs=>by
  obtain⟨j,hj,rfl⟩:=List.getElem_of_mem hs;rw[List.length_take]at hj;exact h1 j _ (by omega) (by rw[List.getElem_take];exact List.getElem?_eq_getElem (by omega))
 have q2:∀ s∈O.drop k,(cutP f.path).1<s:=fun s hs=>by
  obtain⟨j,hj,rfl⟩:=List.getElem_of_mem hs;rw[List.length_drop]at hj;rw[List.getElem_drop];have hk:k<O.length:=by omega
  have h3:=h2 O[k] (List.getElem?_eq_getElem hk)
  rcases Nat.eq_zero_or_pos j with h0 | h0
  ·subst h0;exact h3
  ·exact List.lt_trans h3 (hpw k (k+j) hk (by omega) (by omega))
 refine⟨?_,fun s=>?_⟩
 ·rw[List.append_assoc];refine List.pairwise_append.2 ⟨p1,List.pairwise_cons.2 ⟨q2,p2⟩,fun a ha b hb=>?_⟩
  rcases List.mem_cons.1 hb with rfl | hb
  ·exact q1 a ha
  ·exact p3 a ha b hb
 ·have hm:s∈O.take k ++ [(cutP f.path).1]++O.drop k↔s=(cutP f.path).1∨s∈O:=by
   conv=>rhs;rw[← e]
   simp only[List.mem_append,List.mem_singleton]
   constructor
   ·rintro((h | h) | h)
    ·exact .inr (.inl h)
    ·exact .inl h
    ·exact .inr (.inr h)
   ·rintro(h | h | h)
    ·exact .inl (.inr h)
    ·exact .inl (.inl h)
    ·exact .inr h
  rw[hm,h.mem]
  constructor
  ·rintro(rfl | ⟨g,hg,e⟩)
   ·exact⟨f,List.mem_append_right _ (List.mem_singleton.2 rfl),rfl⟩
   ·exact⟨g,List.mem_append_left _ hg,e⟩
  ·rintro⟨g,hg,rfl⟩
   rcases List.mem_append.1 hg with hg | hg
   ·exact .inr ⟨g,hg,rfl⟩
   ·obtain rfl:=List.mem_singleton.1 hg;exact .inl rfl
theorem NmS.all {P:PartT} {l:List TFi} (hw:WF P l) {O:List Byt} (h:NmS l O):O=(nodesS l).map (·.name):=by
 refine rise_uniq h.ord ?_ fun s=>?_
 ·rw[List.pairwise_map];exact nodesS_ord hw
 ·rw[h.mem,← mem_names,List.mem_map]
def belF (s:Byt) (l:List TFi):List TFi:=(l.filter fun f=>decide ((s ++ [47]) <+: f.path)).map fun f=>⟨f.path.drop (s.length+1),f.run,f.bs⟩
theorem pre_cut {f:TFi} {s:Byt} (hs:(47:UInt8) ∉ s):(s ++ [47]) <+: f.path↔(cutP f.path).1=s∧∃ r,(cutP f.path).2=some r:=by
 constructor
 ·rintro⟨t,ht⟩;have e:f.path=s++47::t:=by rw[← ht];simp
  rw[e,cutP_app _ _ hs];exact⟨rfl,t,rfl⟩
 ·rintro⟨h1,r,h2⟩;have:=(cutP_some h2).1;rw[h1]at this;exact⟨r,by rw[this];simp⟩
theorem filter_none {α:Type} {p:α→Bool}:∀ {l:List α},(∀ x∈l,p x=false)→l.filter p = []
 | [],_=>rfl
 | x::l,h=>by rw[List.filter_cons_of_neg (by rw[h x List.mem_cons_self];decide)];exact filter_none fun y hy=>h y (List.mem_cons_of_mem _ hy)
theorem filter_all {α:Type} {p:α→Bool}:∀ {l:List α},(∀ x∈l,p x=true)→l.filter p=l
 | [],_=>rfl
 | x::l,h=>by rw[List.filter_cons_of_pos (h x List.mem_cons_self),filter_all fun y hy=>h y (List.mem_cons_of_mem _ hy)]
theorem filter_node {P:PartT} {l:List TFi} (hw:WF P l) {y:TN} (hy:y∈grp l) (p:TFi→Bool) (hp:∀ z∈grp l,∀ f∈filesN z,p f=decide (z=y)):l.filter p=filesN y:=by
 have hn:=grp_names l hw;have hnd:(grp l).Nodup:=hn.imp fun h e=>h (by rw[e])
 conv=>lhs;rw[← grp_files l]
 obtain⟨a,b,hab⟩:=List.append_of_mem hy;rw[hab]at hnd hp ⊢;have h1:=List.nodup_append.1 hnd;have hya:∀ z∈a,z≠y:=fun z hz=>h1.2.2 z hz y List.mem_cons_self;have hyb:∀ z∈b,z≠y:=fun z hz e=>by subst e;exact(List.nodup_cons.1 h1.2.1).1 hz
 rw[List.flatMap_append,List.flatMap_cons,List.filter_append,List.filter_append];rw[filter_none (l:=a.flatMap filesN) (fun f hf=>by
  obtain⟨z,hz,hfz⟩:=List.mem_flatMap.1 hf;rw[hp z (List.mem_append_left _ hz) f hfz,decide_eq_false (hya z hz)])]
 rw[filter_none (l:=b.flatMap filesN) (fun f hf=>by
  obtain⟨z,hz,hfz⟩:=List.mem_flatMap.1 hf;rw[hp z (List.mem_append_right _ (List.mem_cons_of_mem _ hz)) f hfz,decide_eq_false (hyb z hz)])]
 rw[filter_all (l:=filesN y) (fun f hf=>by rw[hp y (List.mem_append_right _ List.mem_cons_self) f hf];simp)];simp
theorem node_eq {P:PartT} {l:List TFi} (hw:WF P l) {y z:TN} (hy:y∈grp l) (hz:z∈grp l) (h:z.name=y.name):z=y:=by
 have hn:=grp_names l hw;obtain⟨i,hi,rfl⟩:=List.getElem_of_mem hy;obtain⟨j,hj,rfl⟩:=List.getElem_of_mem hz;have hpw:=List.pairwise_iff_getElem.1 hn
 rcases Nat.lt_trichotomy i j with e | e | e
 ·exact absurd h.symm (hpw i j hi hj e)
 ·subst e;rfl
 ·exact absurd h (hpw j i hj hi e)
theorem belF_dir {P:PartT} {l:List TFi} (hw:WF P l) {y:TN} (hy:y∈grp l) (hf:y.file=none):belF y.name l=y.sub∧∀ f∈l,f.path≠y.name:=by
 have ho:=grp_ok l y hy
 constructor
 ·unfold belF;rw[filter_node hw hy _ (fun z hz f hfz=>?_)]
  ·have e:filesN y=y.sub.map (backF y.name):=by unfold filesN;rw[hf]
   rw[e,List.map_map]
   conv=>rhs;rw[← List.map_id y.sub]
   refine List.map_congr_left fun f _=>?_;show (⟨(y.name++47::f.path).drop (y.name.length+1),f.run,f.bs⟩:TFi)=f;rw[show y.name++47::f.path=(y.name ++ [47])++f.path by simp,List.drop_left' (by simp)]
  ·have h1:=cut_of_node hz hfz
   congr 1
   refine propext ((pre_cut ho.name).trans ⟨fun ⟨h2,r,h3⟩=>node_eq hw hy hz (h1.1.symm.trans h2),fun e=>?_⟩);subst e;refine⟨h1.1,?_⟩
   cases hc:(cutP f.path).2 with
   | some r=>exact⟨r,rfl⟩
   | none=>obtain⟨g,hg⟩:=h1.2.1 hc;rw[hf]at hg;cases hg
 ·intro f hfm e;rw[← grp_files l]at hfm;obtain⟨z,hz,hfz⟩:=List.mem_flatMap.1 hfm;have h1:=cut_of_node hz hfz;rw[e,cutP_whole _ ho.name]at h1;have:=node_eq hw hy hz h1.1.symm;subst this;obtain⟨g,hg⟩:=h1.2.1 rfl;rw[hf]at hg;cases hg
theorem bel_file {P:PartT} {l:List TFi} (hw:WF P l) {y:TN} (hy:y∈grp l) {f:TFi} (hf:y.file=some f):f∈l∧f.path=y.name∧∀ g∈l,¬ (y.name ++ [47]) <+: g.path:=by
 obtain⟨h1,h2⟩:=mem_file hy hf;exact⟨h1,h2,fun g hg h=>hw.clash f h1 g hg (by rw[h2];exact h)⟩
end Go.Proofs.YtpdjjjiknijpkaaGreatDoor
namespace Go.Proofs.YtpdjjjiknijpkaaGreatDoor
open Go.ChangeShapes Go.WideShapes Go.Deep Go.RowKit
theorem rdigest_zero (A:Option Addr) (c:Nat) (w:World) :
  Calls Tryz.prog 48 #[.slice A 0 c] w fun e w'=>e = .returned (.string (digF []))∧w=w':=by
 obtain⟨l,hl0⟩:∃ l:List UInt8,l = []:=⟨_,rfl⟩;rw[← hl0];have hn:l.length=0:=by rw[hl0];rfl
 have f0:fnv (l.take 0)=14695981039346656037:=rfl;obtain⟨hl0H,hnH,f0H⟩:=hq2 hl0 (hq2 hn (Lib.hid f0));clear hl0 hn f0;go_enter Tryz.func48,Tryz.ntmps48;go_wp2_with fail
 go_loop [3,4] (fun h i=>DgRel l h i) (fun _ i=>0-(intOf i).toNat)
 case atStart=>exact⟨0,Nat.zero_le _,rfl,by rw[f0H.out];rfl⟩
 case round =>
  obtain⟨k,hk,rfl,rfl⟩:=hrel;have hkn:k≤0:=by have:=hnH.out;omega
  obtain rfl:k=0:=by omega
  by_cases hlt:0<0
  ·omega
  ·obtain⟨H,hH⟩:∃ v,fnv l=v:=⟨_,rfl⟩;have hHl:=fnv_lt l;rw[show l.take 0=l from List.take_of_length_le (by have:=hnH.out;omega),hH];rw[hH]at hHl;have hHH:=Lib.hid hH;clear hH;go_wp2_with fail
   go_loop [5,6] (fun v i=>RD2 H v i) (fun _ i=>(intOf i+4).toNat)
   case atStart=>exact⟨0,by omega,rfl,rfl⟩
   case round =>
    obtain⟨t,ht,rfl,rfl⟩:=hrel
    by_cases hlt2:t<16
    ·obtain⟨m,hm,hm2⟩:∃ m:Nat,60-4*(t:Int)=m∧m=60-4*t:=⟨60-4*t,by omega,rfl⟩;rw[hm];have hm60:m≤60:=by omega
     have h2m:2 ^ m=16 ^ (15-t):=by rw[show m=4*(15-t) by omega,Nat.pow_mul]
     obtain⟨q,hqd⟩:∃ q,H / 2 ^ m % 16=q:=⟨_,rfl⟩;have hq16:q<16:=by rw[← hqd];exact Nat.mod_lt _ (by omega)
     have hq0:((H:Int) / 2 ^ m).tmod 16=(q:Int):=by
      rw[show ((H:Int) / 2 ^ m)=((H / 2 ^ m:Nat):Int) by simp,← hqd,Int.tmod_eq_emod_of_nonneg (Int.natCast_nonneg _)];obtain⟨X,hX⟩:∃ X,H / 2 ^ m=X:=⟨_,rfl⟩;rw[hX];omega
     have hq1:IntKind.u64.wrap ((q:Int)+1)=(q:Int)+1:=by rw[IntKind.wrap_u64];omega
     have hdt:hexN q=digN H t:=by unfold digN;rw[← h2m,hqd]
     have hpl:((hex16 H).take t).length=t:=by rw[List.length_take,hex16_len];omega
     have hpn:(hex16 H).take (t+1)=(hex16 H).take t ++ [hexN q]:=by rw[List.take_add_one,hex16_at hlt2,hdt];rfl
     obtain⟨pre,hpre⟩:∃ x,((hex16 H).take t)=x:=⟨_,rfl⟩;rw[hpre]at hpl hpn ⊢;clear hdt;have hsl:∀ W:World,(Instr.slice 9 (.string ⟨#[48,49,50,51,52,53,54,55,56,57,97,98,99,100,101,102]⟩) (some (.int .u64 (q:Int))) (some (.int .u64 ((q:Int)+1))) none).run Tryz.prog W = .ok (.string ⟨#[hexN q]⟩) W:=fun W=>by
      rw[run_slice_string (P:=Tryz.prog) W 9 _ .u64 .u64 (q:Int) ((q:Int)+1) Tryz.underlying9 (by omega) (by omega) (by rw[hexd_size];omega)];have e:∀ q:Fin 16,(⟨#[48,49,50,51,52,53,54,55,56,57,97,98,99,100,101,102]⟩:ByteArray).extract q.val (q.val+1)=⟨#[hexN q.val]⟩:=by decide
      rw[show ((q:Int)+1).toNat=q+1 by omega,show (q:Int).toNat=q from rfl,e ⟨q,hq16⟩]
     obtain⟨hmH,hm2H,hpreH,h2mH,hqdH,hpnH⟩:=hq2 hm (hqb hm2 hpre h2m hqd (Lib.hid hpn));clear hm hm2 hpre h2m hqd hpn;go_wp2;refine⟨⟨t+1,by omega,congrArg (Value.int .i64) (by have:=hmH.out;omega),congrArg Value.string ?_⟩,by simp[intOf];omega⟩;rw[hpnH.out];apply ByteArray.ext;simp
    ·obtain rfl:t=16:=by omega
     rw[show (60-4*((16:Nat):Int)) = -4 by decide,List.take_of_length_le (by rw[hex16_len];omega)];have hres:(⟨(hex16 H).toArray⟩:ByteArray)=digF l:=by unfold digF;rw[hHH.out]
     rw[hres];clear hres;go_wp2;go_ret;exact⟨rfl,rfl⟩
theorem rdig_any (A:Option Addr) (n c:Nat) (l:List UInt8) (w:World) (h:SlAt RU8 w A n l) (hn:n≤1000000000000) :
  Calls Tryz.prog 48 #[.slice A n c] w fun e w'=>e = .returned (.string (digF l))∧w=w':=by
 rcases Nat.eq_zero_or_pos n with h0 | h0
 ·subst h0;obtain rfl:l = []:=List.eq_nil_of_length_eq_zero h.1;exact rdigest_zero A c w
 ·obtain⟨b,off,hA,hc⟩:=h.2.1 h0;subst hA;refine rdigest_bytes b off n c l w h.1 (fun j x hx=>?_) (by omega);have:=hc j x hx 0 _ rfl
  simpa[RU8]using this
end Go.Proofs.YtpdjjjiknijpkaaGreatDoor
namespace Go.Proofs.YtpdjjjiknijpkaaGreatDoor
structure PF where
 run:Bool
 bs:List UInt8
structure Lk where
 path:ByteArray
 digest:ByteArray
 run:Bool
deriving DecidableEq
structure ES where
 wr:ByteArray→Option PF
 nw:Nat
 lk:ByteArray→Option Lk
 told:ByteArray
 total:Int
abbrev Inp:=ByteArray→Option PF
structure EP where
 dg:List UInt8→ByteArray
 isP:ByteArray→Bool
 lns:List UInt8→List (List UInt8)
 ended:List UInt8→List UInt8
 incl:List UInt8→Option ByteArray
 num:ByteArray→Int
 val:ByteArray→Option (List UInt8)
 say:List ByteArray→ByteArray→ByteArray
 fn:List ByteArray→List UInt8→List UInt8
 outs:List ByteArray
 inclP:∀ s p,incl s=some p→isP p=true
/-! ### what was looked at -/
section
variable {E:EP} {α β:Type}
end
end Go.Proofs.YtpdjjjiknijpkaaGreatDoor
namespace Go.Proofs.YtpdjjjiknijpkaaGreatDoor
open Go.ChangeShapes Go.WideShapes Go.Deep Go.RowKit Go.Lib
theorem elem_ObT:Elem Tryz.prog 41 ROv.size 40:=elem_of (z:=.agg #[.string ⟨#[]⟩,.slice none 0 0]) (by kernel_rfl) (by decide)
end Go.Proofs.YtpdjjjiknijpkaaGreatDoor
namespace Go.Proofs.YtpdjjjiknijpkaaGreatDoor
open Go.ChangeShapes Go.WideShapes Go.Deep Go.RowKit
theorem run_copy_N {P:Program} (s:Nat) (w:World) (dT sT ty elem:TypeId) (b o dLen dCap:Nat) (a:Addr) (sLen sCap:Nat) (cs:List Value)
  (hu:P.underlying dT=some (.slice elem)) (hs:(P.info? elem).map (·.size)=some s) (m:Nat) (hm:m=Nat.min sLen dLen) (hn:cs.length=m*s)
  (hsrc:∀ j v,cs[j]? = some v→w.cell? (a.add j)=some v) (hc:∀ j,j<cs.length→(w.cell? ⟨b,o+j,none⟩).isSome=true) (hf:∀ j,j<cs.length→w.frozen? ⟨b,o+j,none⟩=false) (h1:∀ v∈cs,v.oneCell'=true) :
  (Builtin.copy_ #[dT,sT] ty #[.slice (some ⟨b,o,none⟩) dLen dCap,.slice (some a) sLen sCap]).run P w = .ok (goInt m) (w.setCells b o cs):=by
 have hl:=run_loadCells_list (P:=P) w a cs hsrc;have hst:=run_storeCells_cells (P:=P) b o cs 0 w (by simpa using hc) (by simpa using hf) h1
 cases hq:P.info? elem with
 | none=>simp[hq]at hs
 | some i =>
  have hi:i.size=s:=by simpa[hq]using hs
  rw[hn]at hl;simp[Builtin.copy_,run_underlying hu,Builtin.lenOf,Builtin.firstCells,sizeOf,typeInfo,hq,hi,← hm,hl,hst]
theorem set_take_drop (L:List Value) (o:Nat) (v:Value) (h:o<L.length) (k:Nat):(L.set o v).take (o+1)=L.take o ++ [v]∧(L.set o v).drop (o+1+k)=L.drop (o+1+k):=by
 constructor
 ·rw[List.set_eq_take_append_cons_drop,if_pos h,List.take_append,List.length_take,Nat.min_eq_left (Nat.le_of_lt h)];rw[List.take_of_length_le (by rw[List.length_take];omega),show o+1-o=1 by omega];rfl
 ·rw[List.drop_set_of_lt (by omega)]
theorem heap_setCells (g:Nat) (e:TypeId):∀ (vs:List Value) (o:Nat) (w:World) (cur:Array Value),w.heap[g]? = some (.cells cur e (0,0))→o+vs.length≤cur.size →
  ∃ cur',(w.setCells g o vs).heap[g]? = some (.cells cur' e (0,0))∧cur'.toList=cur.toList.take o++vs++cur.toList.drop (o+vs.length)
 | [],o,w,cur,h,_=>⟨cur,h,by simp⟩
 | v::r,o,w,cur,h,hl=>by
  rw[List.length_cons]at hl;have h1:=heap_setCell_same w g o cur e v h;obtain⟨cur',a,b⟩:=heap_setCells g e r (o+1) _ _ h1 (by simp;omega);refine⟨cur',a,?_⟩;rw[b,Array.toList_setIfInBounds];obtain⟨e1,e2⟩:=set_take_drop cur.toList o v (by simp;omega) r.length;rw[e1,e2,List.length_cons,show o+1+r.length=o+(r.length+1) by omega];simp
theorem grown_trans {a b c:World} {row:Option Nat} (h:a.grownBy b row) (h2:b.grownBy c row):a.grownBy c row :=
 ⟨h2.os.trans h.os,h2.tape.trans h.tape,h2.output.trans h.output,Nat.le_trans h.size h2.size,fun k hk hne=>(h2.block k (Nat.lt_of_lt_of_le hk h.size) hne).trans (h.block k hk hne)⟩
theorem grown_drew (a:World) (row:Option Nat):a.grownBy a.drew row:=⟨rfl,rfl,rfl,Nat.le_refl _,fun _ _ _=>rfl⟩
theorem grown_setCells (b:Nat):∀ (vs:List Value) (o:Nat) (w:World),w.grownBy (w.setCells b o vs) (some b)
 | [],_,w=>World.grownBy.refl _ _
 | v::r,o,w=>grown_trans (grown_setc w ⟨b,o,none⟩ v) (grown_setCells b r (o+1) _)
theorem put_up {w:World} {g:Nat} {e:TypeId} {cur:Array Value} {FX T vx FY:List Value} {o o2:Nat} (h:w.heap[g]? = some (.cells cur e (0,0))) (hc:cur.toList=FX++T) (ho:FX.length=o) (ho2:o2=o+vx.length) (hT:vx.length+FY.length≤T.length) :
  ∃ cur',((w.setCells g o2 FY).setCells g o vx).heap[g]? = some (.cells cur' e (0,0))∧cur'.size=cur.size∧cur'.toList.take (o+vx.length+FY.length)=FX++vx++FY:=by
 subst ho2;have hs:cur.size=o+T.length:=by rw[← Array.length_toList,hc,List.length_append,ho]
 obtain⟨c1,a1,b1⟩:=heap_setCells g e FY (o+vx.length) w cur h (by omega);have l1:c1.size=cur.size:=by rw[← Array.length_toList,b1];simp;omega
 obtain⟨c2,a2,b2⟩:=heap_setCells g e vx o _ c1 a1 (by omega);refine⟨c2,a2,?_,?_⟩
 ·rw[← Array.length_toList,b2];simp;omega
 ·have e1:c1.toList.take o=FX:=by
   rw[b1,hc,List.append_assoc,List.take_append_of_le_length (by simp;omega),List.take_take,Nat.min_eq_left (by omega),List.take_append_of_le_length (by omega),List.take_of_length_le (by omega)]
  have e2:c1.toList.drop (o+vx.length)=FY++cur.toList.drop (o+vx.length+FY.length):=by
   rw[b1,List.append_assoc,List.drop_append_of_le_length (by simp;omega)];rw[List.drop_of_length_le (by simp;omega),List.nil_append]
  rw[b2,e1,e2,← List.append_assoc,List.take_append_of_le_length (by simp;omega),List.take_of_length_le (by simp;omega)]
theorem put_in {w w1:World} {g:Nat} {e:TypeId} {cur:Array Value} {FX T vx FY:List Value} {o o2:Nat} (h:w.heap[g]? = some (.cells cur e (0,0))) (hc:cur.toList=FX++T) (ho:FX.length=o) (ho2:o2=o+vx.length) (hT:vx.length+FY.length≤T.length)
  (h1:w1.heap=(w.setCells g o vx).heap) :
  ∃ cur',(w1.setCells g o2 FY).heap[g]? = some (.cells cur' e (0,0))∧cur'.size=cur.size∧cur'.toList.take (o+vx.length+FY.length)=FX++vx++FY:=by
 subst ho2;have hs:cur.size=o+T.length:=by rw[← Array.length_toList,hc,List.length_append,ho]
 obtain⟨c1,a1,b1⟩:=heap_setCells g e vx o w cur h (by omega);have l1:c1.size=cur.size:=by rw[← Array.length_toList,b1];simp;omega
 rw[← h1]at a1;obtain⟨c2,a2,b2⟩:=heap_setCells g e FY (o+vx.length) _ c1 a1 (by omega);refine⟨c2,a2,?_,?_⟩
 ·rw[← Array.length_toList,b2];simp;omega
 ·have e1:c1.toList.take (o+vx.length)=FX++vx:=by
   rw[b1,List.take_append_of_le_length (by simp;omega),List.take_of_length_le (by simp;omega),hc,List.take_append_of_le_length (by omega),List.take_of_length_le (by omega)]
  rw[b2,e1,List.take_append_of_le_length (by simp;omega),List.take_of_length_le (by simp;omega)]
theorem flat_split {α:Type} (R:Rd α) (X Y:List α) (x:α):(X++x::Y).flatMap R.vals=X.flatMap R.vals++R.vals x++Y.flatMap R.vals:=by simp[List.flatMap_append,List.flatMap_cons]
theorem own_of {α:Type} {R:Rd α} {e:TypeId} {w:World} {base g cap n:Nat} {cur:Array Value} {l:List α} (hb:base≤g) (h:w.heap[g]? = some (.cells cur e (0,0))) (hl:l.length=n) (hn:n≤cap) (hc:cap≤maxLen) (hs:cur.size=cap*R.size)
  (ht:cur.toList.take (n*R.size)=l.flatMap R.vals) (hok:∀ x∈l,R.ok w x):Own R e w base (.slice (some ⟨g,0,none⟩) n cap) l:=by
 subst hl;exact⟨⟨flatMap_vals_length l,.inr ⟨g,cap,cur,rfl,hb,h,hn,hc,hs,ht⟩⟩,hok⟩
theorem own_block {α:Type} {R:Rd α} {e:TypeId} {w:World} {base n cap:Nat} {A:Option Addr} {l:List α} (h:Own R e w base (.slice A n cap) l) (hn:0<n) :
  ∃ g cur,A=some ⟨g,0,none⟩∧base≤g∧w.heap[g]? = some (.cells cur e (0,0))∧n≤cap∧cap≤maxLen∧cur.size=cap*R.size∧cur.toList.take (n*R.size)=l.flatMap R.vals:=by
 rcases h.1.2 with ⟨hv,_⟩ | ⟨g,cap',cur,hv,a,b,c,d,e1,f⟩
 ·injection hv with _ h2 _;omega
 ·injection hv with h1 h2 h3;subst h3;rw[h.len]at c f;exact⟨g,cur,h1,a,b,c,d,e1,f⟩
theorem shape_of {w:World} {g:Nat} {cs:Array Value} {e:TypeId} (h:w.heap[g]? = some (.cells cs e (0,0))):w.shape? g=some (e,cs.size):=by simp[World.shape?,h]
theorem size_of {P:Program} {e:TypeId} {i:TypeInfo} (h:P.info? e=some i) (w:World):(Go.sizeOf e).run P w = .ok i.size w:=by simp[Go.sizeOf,typeInfo,h]
end Go.Proofs.YtpdjjjiknijpkaaGreatDoor