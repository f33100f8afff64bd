/-
 Several texts of mine as one, without what is not wanted here: XInsO.
-/
import Derived.Test.YtpdjjjiknijpkaaGreatDoorTvGe
set_option linter.unusedVariables false
set_option linter.unusedSimpArgs false
set_option maxRecDepth 100000
set_option maxHeartbeats 8000000
namespace Go.Proofs.YtpdjjjiknijpkaaGreatDoor
open Go.ChangeShapes Go.WideShapes Go.Deep Go.RowKit
theorem info_TCOb:(Tryz.prog.info? 41).map (fun i=>(i.zero,i.size,i.bytes))=some (some (.agg #[.string ByteArray.empty,.slice none 0 0]),2,40):=by kernel_rfl
theorem elem_TestCaseOb:Elem Tryz.prog 41 ROv.size 40:=elem_of info_TCOb (by decide)
theorem hov_TCOb (w:World) (g vb lb cb o kB:Nat) (hne:vb≠g) (csv cur:Array Value) (hv:w.heap[vb]? = some (.cells csv 41 (0,0))) (hg:w.heap[g]? = some (.cells cur 41 (0,0))) (hk:cur.size≠0) :
  (callFunc 171 #[.slice (some ⟨vb,0,none⟩) 1 1,.slice (some ⟨g,o,none⟩) lb cb]).run Tryz.prog w = .ok (.value (.bool false)) w:=by
 obtain⟨i0,hi0,hz0,hzs,hzb⟩:=info_parts info_TCOb;rw[run_callFunc_extern Tryz.func171 (by kernel_rfl) (by kernel_rfl) (by kernel_rfl) (e:=Extern.SlicesOverlaps.overlaps #[24,24] #[4]) (by kernel_rfl),
  Lib.run_overlaps_apart w 24 4 41 Tryz.underlying24 i0.size (size_of hi0) ⟨vb,0,none⟩ ⟨g,o,none⟩ 1 1 lb cb hne _ _ _ _ (shape_of hv) (shape_of hg) hk (frozen_of_row w vb 0 csv _ hv) (frozen_of_row w vb _ csv _ hv)]
 rfl
def InsAnsOb (base n:Nat) (v:Value) (l:List ObT) (w:World) (e:Ending) (w':World):Prop :=
 ∃ A' c',e = .returned (.slice A' (n+1) c')∧Own ROv 41 w' base (.slice A' (n+1) c') l∧w.grownBy w' v.ownBlock∧(Value.ownBlock (.slice A' (n+1) c')=v.ownBlock∨Value.ownBlock (.slice A' (n+1) c')=some w.heap.size)
theorem cells_rowOb {w:World} {g j:Nat} {cur:Array Value} {e:TypeId} (h:w.heap[g]? = some (.cells cur e (0,0))) (hj:j<cur.size):(w.cell? ⟨g,j,none⟩).isSome=true:=by
 rw[cell_of_row w g j cur e (0,0) h,Array.getElem?_eq_getElem hj];rfl
theorem ins_shiftOb (base g n cap i vb:Nat) (X Y:List ObT) (x:ObT) (w:World) (hX:X.length=i) (hY:0<Y.length) (hown:Own ROv 41 w base (.slice (some ⟨g,0,none⟩) n cap) (X++Y))
  (hv:w.heap[vb]? = some (.cells (ROv.vals x).toArray 41 (0,0))) (hok:ROv.ok w x) (hne:vb≠g) (hb:base≤g) (hroom:n+1≤cap) (hn:n≤1000000) :
  Calls Tryz.prog 159 #[.slice (some ⟨g,0,none⟩) n cap,.int .i64 i,.slice (some ⟨vb,0,none⟩) 1 1] w (InsAnsOb base n (.slice (some ⟨g,0,none⟩) n cap) (X++x::Y) w):=by
 have hl:=hown.len;rw[List.length_append]at hl;obtain⟨g',cur,hg',_,hcur,hnc,hcm,hcs,htk⟩:=own_block hown (by omega);obtain rfl:g=g':=by injection hg' with h;injection h
 have hcs:cur.size=cap*2:=hcs;have htk:cur.toList.take (n*2)=X.flatMap ROv.vals++Y.flatMap ROv.vals:=by rw[← List.flatMap_append];exact htk
 obtain⟨FX,hFX⟩:∃ F,X.flatMap ROv.vals=F:=⟨_,rfl⟩;obtain⟨FY,hFY⟩:∃ F,Y.flatMap ROv.vals=F:=⟨_,rfl⟩;have lX:FX.length=i*2:=by rw[← hFX,flatMap_vals_length,hX];rfl
 have lY:FY.length=(n-i)*2:=by rw[← hFY,flatMap_vals_length];show _*2=_;congr 1;omega
 have hcm2:cap≤9223372036854775807:=hcm;rw[hFX,hFY]at htk;have hget:∀ j v,FY[j]? = some v→w.cell? ⟨g,i*2+j,none⟩=some v:=fun j v hj=>by
  have hjl:=(List.getElem?_eq_some_iff.1 hj).1;rw[cell_of_row w g _ cur _ (0,0) hcur];have:(cur.toList.take (n*2))[i*2+j]? = some v:=by rw[htk,List.getElem?_append_right (by omega),lX,Nat.add_sub_cancel_left];exact hj
  rw[List.getElem?_take_of_lt (by omega)]at this
  simpa using this
 obtain⟨cur2,hcur2,hcs2,htk2⟩:=put_up (w:=w.drew) (vx:=ROv.vals x) (FY:=FY) (T:=cur.toList.drop (i*2)) (o:=i*2) (o2:=(i+1)*2) hcur (by
  have:cur.toList.take (i*2)=FX:=by
   have:=congrArg (List.take (i*2)) htk;rw[List.take_take,Nat.min_eq_left (by omega),List.take_append_of_le_length (by omega),List.take_of_length_le (l:=FX) (by omega)]at this;exact this
  rw[← this,List.take_append_drop]) lX (by rw[ROv.len];show _=i*2+2;omega) (by rw[ROv.len,lY,List.length_drop,Array.length_toList,hcs];show 2+_≤_;omega)
 have hans:InsAnsOb base n (.slice (some ⟨g,0,none⟩) n cap) (X++x::Y) w (.returned (.slice (some ⟨g,0,none⟩) (n+1) cap)) ((w.drew.setCells g ((i+1)*2) FY).setCells g (i*2) (ROv.vals x)):=by
  have hgr:w.grownBy ((w.drew.setCells g ((i+1)*2) FY).setCells g (i*2) (ROv.vals x)) (some g):=grown_trans (grown_trans (grown_drew w _) (grown_setCells g _ _ _)) (grown_setCells g _ _ _);refine⟨_,_,rfl,own_of hb hcur2 (by rw[List.length_append,List.length_cons];omega) hroom hcm (by rw[hcs2,hcs];rfl) ?_ (fun y hy=>?_),hgr,.inl rfl⟩
  ·rw[flat_split,hFX,hFY];have e:i*2+(ROv.vals x).length+FY.length=(n+1)*ROv.size:=by rw[ROv.len,lY];show i*2+2+_=(n+1)*2;omega
   rw[← e];exact htk2
  ·have h1:ROv.ok w y:=by
    rcases List.mem_append.1 hy with hy | hy
    ·exact hown.2 y (List.mem_append.2 (.inl hy))
    ·rcases List.mem_cons.1 hy with rfl | hy
     ·exact hok
     ·exact hown.2 y (List.mem_append.2 (.inr hy))
   exact h1
 have hsz:(Tryz.prog.info? 41).map (·.size)=some 2:=by
  obtain⟨i0,hi0,h0,h1,h2⟩:=info_parts info_TCOb;rw[hi0];simp[h1]
 have hov:=fun lb cb=>hov_TCOb w g vb lb cb ((i+1)*2) cap hne _ cur hv hcur (by omega);have h1Y:∀ v∈FY,v.oneCell'=true:=fun v hv=>by rw[← hFY]at hv;obtain⟨y,_,hy⟩:=List.mem_flatMap.1 hv;exact ROv.one y v hy
 have hcp1:∀ ty dc sc,(Builtin.copy_ #[24,24] ty #[.slice (some ⟨g,(i+1)*2,none⟩) (n-i) dc,.slice (some ⟨g,i*2,none⟩) (n+1-i) sc]).run Tryz.prog w.drew = .ok (goInt ((n-i:Nat):Int)) (w.drew.setCells g ((i+1)*2) FY):=fun ty dc sc =>
  run_copy_N 2 w.drew _ _ ty 41 g ((i+1)*2) (n-i) dc ⟨g,i*2,none⟩ (n+1-i) sc FY Tryz.underlying24 hsz (n-i) (by simp only[Nat.min_def];split <;> omega) lY
   (fun j v hj=>by rw[Addr.add_lit];exact hget j v hj)
   (fun j hj=>cells_rowOb (w:=w.drew) hcur (by omega)) (fun j hj=>frozen_of_row w.drew g _ cur _ hcur) h1Y
 obtain⟨W1,hW1⟩:∃ W1,W1=w.drew.setCells g ((i+1)*2) FY:=⟨_,rfl⟩;obtain⟨c1,hc1,hc1l⟩:=heap_setCells g 41 FY ((i+1)*2) w.drew cur hcur (by omega);rw[← hW1]at hc1;have hc1s:c1.size=cur.size:=by rw[← Array.length_toList,hc1l];simp;omega
 have hv1:∀ j v,(ROv.vals x)[j]? = some v→W1.cell? ⟨vb,j,none⟩=some v:=fun j v hj=>by
  rw[hW1,World.cell?_setCells_out g _ _ _ _ (fun h _=>absurd h hne)];show w.cell? _=_;rw[cell_of_row w vb _ _ _ (0,0) hv];simpa using hj
 have hcp2:∀ (W:World),(∀ x,W.cell? x=W1.cell? x)→(∀ x,W.frozen? x=W1.frozen? x)→∀ ty dc,(Builtin.copy_ #[24,24] ty #[.slice (some ⟨g,i*2,none⟩) (n+1-i) dc,.slice (some ⟨vb,0,none⟩) 1 1]).run Tryz.prog W = .ok (goInt 1) (W.setCells g (i*2) (ROv.vals x)):=fun W hWc hWf ty dc =>
  run_copy_N 2 W _ _ ty 41 g (i*2) (n+1-i) dc ⟨vb,0,none⟩ 1 1 (ROv.vals x) Tryz.underlying24 hsz 1 (by simp only[Nat.min_def];split <;> omega) rfl
   (fun j v hj=>by rw[Addr.add_lit,Nat.zero_add,hWc];exact hv1 j v hj)
   (fun j hj=>by rw[hWc];refine cells_rowOb hc1 ?_;have:j<2:=hj;omega) (fun j hj=>by rw[hWf];exact frozen_of_row W1 g _ c1 _ hc1) (fun v hv=>ROv.one x v hv)
 rw[← hW1]at hcp1 hans;have hz2:¬ ((i:Int)=(n:Int)):=by omega
 have hz3:((i:Int)==(n:Int))=false:=by simpa using hz2
 have hgt:¬ ((cap:Int)<(n:Int)+1):=by omega
 have hw1:IntKind.i64.wrap ((i:Int)+1)=(i:Int)+1:=by rw[IntKind.wrap_i64];omega
 have hb1:(0:Int)≤(i:Int)+1:=by omega
 have hin:i≤n:=by omega
 have htn:((i:Int)+1).toNat=i+1:=by omega
 have hb2:¬ (cap=i+1):=by omega
 have hb3:(i:Int)≤(n:Int)+1:=by omega
 have hb4:¬ (cap=i):=by omega
 have htn2:((n:Int)+1).toNat=n+1:=by omega
 have mixed:Tryz.prog.follows .mixedOrders=true:=by kernel_rfl
 clear hget hcur2 hcs2 htk2 hc1 hc1l hc1s hv1 h1Y htk hown hok;obtain⟨hansH,hFXH,hFYH,lXH,lYH⟩:=hqb hans hFX hFY lX (Lib.hid lY);clear hans hFX hFY lX lY;go_enter Tryz.func159,Tryz.ntmps159;go_wp2_with (simp only[hov])
 go_region_law_o (refine step_copy_runI rfl _ _ 24 24 rfl _ _ (by simp[Act.eval,Act.put]) (by simp[Act.eval,Act.put]) (hcp1 _ _ _) ?_)
 go_wp2_with (at_builtin;refine wpList_copy_runI _ rfl _ _ 24 24 rfl _ _ rfl rfl (hcp2 _ (fun _=>rfl) (fun _=>rfl) _ _) ?_);go_ret;have hfin:=hansH.out;rw[hW1]at hfin;exact hfin
theorem mem_okOb {X Y:List ObT} {x:ObT} {w w':World} (h:∀ y∈X++Y,ROv.ok w y) (hx:ROv.ok w x):∀ y∈X++x::Y,ROv.ok w' y:=fun y hy=>by
 have h1:ROv.ok w y:=by
  rcases List.mem_append.1 hy with hy | hy
  ·exact h y (List.mem_append.2 (.inl hy))
  ·rcases List.mem_cons.1 hy with rfl | hy
   ·exact hx
   ·exact h y (List.mem_append.2 (.inr hy))
 exact h1
theorem ins_growOb (base g n cap i vb:Nat) (X Y:List ObT) (x:ObT) (w:World) (hX:X.length=i) (hY:0<Y.length) (hown:Own ROv 41 w base (.slice (some ⟨g,0,none⟩) n cap) (X++Y))
  (hv:w.heap[vb]? = some (.cells (ROv.vals x).toArray 41 (0,0))) (hok:ROv.ok w x) (hne:vb≠g) (hb:base≤w.heap.size) (hroom:cap<n+1) (hn:n≤1000000) :
  Calls Tryz.prog 159 #[.slice (some ⟨g,0,none⟩) n cap,.int .i64 i,.slice (some ⟨vb,0,none⟩) 1 1] w (InsAnsOb base n (.slice (some ⟨g,0,none⟩) n cap) (X++x::Y) w):=by
 have hl:=hown.len;rw[List.length_append]at hl;obtain⟨g',cur,hg',_,hcur,hnc,hcm,hcs,htk⟩:=own_block hown (by omega);obtain rfl:g=g':=by injection hg' with h;injection h
 obtain rfl:cap=n:=by omega
 have hcs:cur.size=cap*2:=hcs;have htk:cur.toList.take (cap*2)=X.flatMap ROv.vals++Y.flatMap ROv.vals:=by rw[← List.flatMap_append];exact htk
 obtain⟨FX,hFX⟩:∃ F,X.flatMap ROv.vals=F:=⟨_,rfl⟩;obtain⟨FY,hFY⟩:∃ F,Y.flatMap ROv.vals=F:=⟨_,rfl⟩;have lX:FX.length=i*2:=by rw[← hFX,flatMap_vals_length,hX];rfl
 have lY:FY.length=(cap-i)*2:=by rw[← hFY,flatMap_vals_length];show _*2=_;congr 1;omega
 rw[hFX,hFY]at htk;obtain⟨i0,hi0,hz0,hzs,hzb⟩:=info_parts info_TCOb;have hsz:(Tryz.prog.info? 41).map (·.size)=some 2:=by rw[hi0];simp[hzs]
 have hgw:g<w.heap.size:=(Array.getElem?_eq_some_iff.1 hcur).1;have hvw:vb<w.heap.size:=(Array.getElem?_eq_some_iff.1 hv).1;have hget:∀ j v,(FX++FY)[j]? = some v→w.cell? ⟨g,j,none⟩=some v:=fun j v hj=>by
  have hjl:=(List.getElem?_eq_some_iff.1 hj).1;rw[List.length_append]at hjl;rw[cell_of_row w g _ cur _ (0,0) hcur];rw[← htk,List.getElem?_take_of_lt (by omega)]at hj
  simpa using hj
 have hkk:(cap:Int)+1-(i:Int)=((cap+1-i:Nat):Int):=by omega
 have hik:i+(cap+1-i)=cap+1:=by omega
 have hold:(Builtin.firstCells i0.size i (.slice (some ⟨g,0,none⟩) i cap)).run Tryz.prog w.drew = .ok FX.toArray w.drew:=by
  rw[hzs];exact run_firstCells_some w.drew 2 i ⟨g,0,none⟩ i cap FX lX (fun j v hj=>by
   rw[Addr.add_lit,Nat.zero_add];exact hget j v (by rw[List.getElem?_append_left (List.getElem?_eq_some_iff.1 hj).1];exact hj))
 obtain⟨G,hG⟩:∃ G,G=grownCap w (cap+1) cap 41:=⟨_,rfl⟩;obtain⟨ROW,hROW⟩:∃ ROW:Array Value,ROW=FX.toArray++Builtin.zeroCells (Value.agg #[.string ByteArray.empty,.slice none 0 0]).cells (cap+1-i)++Builtin.zeroCells (Value.agg #[.string ByteArray.empty,.slice none 0 0]).cells (G-(cap+1)):=⟨_,rfl⟩;have hGn:cap+1≤G:=by rw[hG];exact grownCap_ge w _ _ _
 have hGm:G≤maxLen:=by
  rw[hG];exact grownCap_le_maxLen w (cap+1) cap _ (by unfold maxLen;omega)
 have hG63:G≤9223372036854775807:=by unfold maxLen at hGm;omega
 have hrz:∀ ty,(Builtin.append_ #[24,3] ty #[.slice (some ⟨g,0,none⟩) i cap,.int .i64 ((cap:Int)+1-(i:Int))]).run Tryz.prog w =
   .ok (.slice (some ⟨w.heap.size,0,none⟩) (cap+1) G) (w.drew.alloc (.cells ROW 41)):=fun ty=>by
  have h:=Lib.run_append_grow_zeros (P:=Tryz.prog) w 24 3 ty 41 i0 _ .i64 .i64 Tryz.underlying24 Tryz.underlying3 hi0 hz0 (some ⟨g,0,none⟩) i cap FX hold (cap+1-i) (by omega) (by omega) (by omega) (by omega) (by rw[hzb];omega) (by rw[hzb,hik];exact growslice_fits (by omega) (by omega));rw[hik]at h;rw[hkk,hG,hROW,hG];exact h
 have hzc:∀ k,(Builtin.zeroCells (Value.agg #[.string ByteArray.empty,.slice none 0 0]).cells k).size=k*2:=fun k=>by simp[Builtin.zeroCells,Value.cells]
 have hRs:ROW.size=G*2:=by
  rw[hROW,Array.size_append,Array.size_append,hzc,hzc];have:FX.toArray.size=i*2:=lX;rw[this];omega
 obtain⟨T,hT⟩:∃ T,ROW.toList=FX++T:=⟨_,by rw[hROW];simp only[Array.toList_append,List.append_assoc];rfl⟩;have lT:T.length=G*2-i*2:=by
  have:=congrArg List.length hT;rw[List.length_append,lX,Array.length_toList,hRs]at this;omega
 obtain⟨W1,hW1⟩:∃ W1,W1=w.drew.alloc (.cells ROW 41):=⟨_,rfl⟩;rw[← hW1]at hrz;have hN:W1.heap[w.heap.size]? = some (.cells ROW 41 (0,0)):=by rw[hW1];exact heap_alloc_new w.drew _
 have hgr0:w.grownBy W1 none:=by rw[hW1];exact grown_trans (grown_drew w none) (World.grownBy_alloc _ _ none)
 have hvx:∀ W:World,W.heap[vb]? = W1.heap[vb]?→∀ j v,(ROv.vals x)[j]? = some v→W.cell? ⟨vb,j,none⟩=some v:=fun W hW j v hj=>by
  have h1:W.heap[vb]? = some (.cells (ROv.vals x).toArray 41 (0,0)):=by rw[hW,hgr0.block vb hvw (by simp)];exact hv
  rw[cell_of_row W vb _ _ _ (0,0) h1];simpa using hj
 have hcpA:∀ (W:World),(∀ x,W.cell? x=W1.cell? x)→(∀ x,W.frozen? x=W1.frozen? x)→∀ ty dc,(Builtin.copy_ #[24,24] ty #[.slice (some ⟨w.heap.size,i*2,none⟩) (cap+1-i) dc,.slice (some ⟨vb,0,none⟩) 1 1]).run Tryz.prog W = .ok (goInt 1) (W.setCells w.heap.size (i*2) (ROv.vals x)):=fun W hWc hWf ty dc =>
  run_copy_N 2 W _ _ ty 41 w.heap.size (i*2) (cap+1-i) dc ⟨vb,0,none⟩ 1 1 (ROv.vals x) Tryz.underlying24 hsz 1 (by simp only[Nat.min_def];split <;> omega) rfl
   (fun j v hj=>by rw[Addr.add_lit,Nat.zero_add,hWc];exact hvx W1 rfl j v hj)
   (fun j hj=>by rw[hWc];refine cells_rowOb hN ?_;have:j<2:=hj;omega) (fun j hj=>by rw[hWf];exact frozen_of_row W1 _ _ ROW _ hN) (fun v hv=>ROv.one x v hv)
 obtain⟨c1,hc1,hc1l⟩:=heap_setCells w.heap.size 41 (ROv.vals x) (i*2) W1 ROW hN (by rw[ROv.len,hRs];show i*2+2≤_;omega);have hc1s:c1.size=ROW.size:=by rw[← Array.length_toList,hc1l];simp only[List.length_append,List.length_take,List.length_drop,Array.length_toList,ROv.len];have:ROv.size=2:=rfl;omega
 have h1Y:∀ v∈FY,v.oneCell'=true:=fun v hv=>by rw[← hFY]at hv;obtain⟨y,_,hy⟩:=List.mem_flatMap.1 hv;exact ROv.one y v hy
 have hgN:g≠w.heap.size:=by omega
 have hcpB:∀ (W:World),(∀ y,W.cell? y=(W1.setCells w.heap.size (i*2) (ROv.vals x)).cell? y)→(∀ y,W.frozen? y=(W1.setCells w.heap.size (i*2) (ROv.vals x)).frozen? y)→∀ ty dc sc,(Builtin.copy_ #[24,24] ty #[.slice (some ⟨w.heap.size,(i+1)*2,none⟩) (cap-i) dc,.slice (some ⟨g,i*2,none⟩) (cap-i) sc]).run Tryz.prog W = .ok (goInt ((cap-i:Nat):Int)) (W.setCells w.heap.size ((i+1)*2) FY):=fun W hWc hWf ty dc sc =>
  run_copy_N 2 W _ _ ty 41 w.heap.size ((i+1)*2) (cap-i) dc ⟨g,i*2,none⟩ (cap-i) sc FY Tryz.underlying24 hsz (cap-i) (by simp only[Nat.min_def];split <;> omega) lY
   (fun j v hj=>by
    rw[Addr.add_lit,hWc,World.cell?_setCells_out _ _ _ _ _ (fun h _=>absurd h hgN)];have:W1.cell? ⟨g,i*2+j,none⟩=w.cell? ⟨g,i*2+j,none⟩:=World.cell?_of_block (a:=⟨g,i*2+j,none⟩) (hgr0.block g hgw (by simp));rw[this];exact hget _ v (by rw[List.getElem?_append_right (by omega),lX,Nat.add_sub_cancel_left];exact hj))
   (fun j hj=>by rw[hWc];exact cells_rowOb hc1 (by omega))
   (fun j hj=>by rw[hWf];exact frozen_of_row _ _ _ c1 _ hc1) h1Y
 have hans:∀ W2:World,W2.heap=(W1.setCells w.heap.size (i*2) (ROv.vals x)).heap→W2.os=W1.os→W2.tape=W1.tape→W2.output=W1.output→InsAnsOb base cap (.slice (some ⟨g,0,none⟩) cap cap) (X++x::Y) w (.returned (.slice (some ⟨w.heap.size,0,none⟩) (cap+1) G)) (W2.setCells w.heap.size ((i+1)*2) FY):=fun W2 e1 e2 e3 e4=>by
  obtain⟨c2,hc2,hc2s,hc2t⟩:=put_in (w:=W1) (w1:=W2) (vx:=ROv.vals x) (FY:=FY) (o2:=(i+1)*2) hN hT lX (by rw[ROv.len];show _=i*2+2;omega) (by rw[ROv.len,lY,lT];show 2+_≤_;omega) e1;have hg2:w.grownBy (W2.setCells w.heap.size ((i+1)*2) FY) none:=by
   have h1:=grown_setCells w.heap.size (ROv.vals x) (i*2) W1;have h2:=grown_setCells w.heap.size FY ((i+1)*2) W2;refine⟨h2.os.trans (e2.trans hgr0.os),h2.tape.trans (e3.trans hgr0.tape),h2.output.trans (e4.trans hgr0.output),?_,fun k hk _=>?_⟩
   ·have a:=h2.size;have b:=h1.size;have c:=hgr0.size;rw[e1]at a;omega
   ·have hk1:k<W1.heap.size:=Nat.lt_of_lt_of_le hk hgr0.size;have hk2:k<W2.heap.size:=by rw[e1];exact Nat.lt_of_lt_of_le hk1 h1.size
    rw[h2.block k hk2 (fun e=>by injection e with e;omega),e1,h1.block k hk1 (fun e=>by injection e with e;omega),hgr0.block k hk (by simp)]
  refine⟨_,_,rfl,own_of hb hc2 (by rw[List.length_append,List.length_cons];omega) hGn hGm (by rw[hc2s,hRs];rfl) ?_ (mem_okOb (w:=w) hown.2 hok),⟨hg2.os,hg2.tape,hg2.output,hg2.size,fun k hk _=>hg2.block k hk (by simp)⟩,.inr rfl⟩;rw[flat_split,hFX,hFY];have e:i*2+(ROv.vals x).length+FY.length=(cap+1)*ROv.size:=by rw[ROv.len,lY];show i*2+2+_=(cap+1)*2;omega
  rw[← e];exact hc2t
 have hE1:∀ y,((w.alloc (.cells ROW 41)).drew).cell? y=W1.cell? y:=fun y=>by rw[hW1];rfl
 have hE2:∀ y,((w.alloc (.cells ROW 41)).drew).frozen? y=W1.frozen? y:=fun y=>by rw[hW1];rfl
 have hF1:∀ y,(((w.alloc (.cells ROW 41)).drew.setCells w.heap.size (i*2) (ROv.vals x)).drew).cell? y=(W1.setCells w.heap.size (i*2) (ROv.vals x)).cell? y:=fun y=>by rw[hW1];rfl
 have hF2:∀ y,(((w.alloc (.cells ROW 41)).drew.setCells w.heap.size (i*2) (ROv.vals x)).drew).frozen? y=(W1.setCells w.heap.size (i*2) (ROv.vals x)).frozen? y:=fun y=>by rw[hW1];rfl
 have hz2:¬ ((i:Int)=(cap:Int)):=by omega
 have hz3:((i:Int)==(cap:Int))=false:=by simpa using hz2
 have hw1:IntKind.i64.wrap ((i:Int)+1)=(i:Int)+1:=by rw[IntKind.wrap_i64];omega
 have hb1:(0:Int)≤(i:Int)+1:=by omega
 have hin:i≤cap:=by omega
 have htn:((i:Int)+1).toNat=i+1:=by omega
 have hGi:¬ (G=i):=by omega
 have hGim:¬ (G=i+1):=by omega
 have hci:¬ (cap=i):=by omega
 have hb3:(i:Int)≤(cap:Int):=by omega
 have mixed:Tryz.prog.follows .mixedOrders=true:=by kernel_rfl
 clear hkk hik hold hROW hG hT lT hget hc1 hc1l hc1s h1Y hvx hown hok htk hgr0 hN hcur;obtain⟨hansH,hFXH,hFYH,lXH,lYH,hRsH,hzcH⟩:=hq2 hans (hq2 hFX (hqb hFY lX lY hRs (Lib.hid hzc)));clear hans hFX hFY lX lY hRs hzc;go_enter Tryz.func159,Tryz.ntmps159;go_wp2_with (first
  | (at_builtin;refine Lib.wpList_append_run _ rfl _ _ _ _ rfl _ _ rfl rfl _ _ (hrz _) ?_)
  | (at_builtin;refine wpList_copy_runI _ rfl _ _ 24 24 rfl _ _ rfl rfl (hcpA _ (fun _=>rfl) (fun _=>rfl) _ _) ?_)
  | (at_builtin;refine wpList_copy_runI _ rfl _ _ 24 24 rfl _ _ rfl rfl (hcpA _ hE1 hE2 _ _) ?_)
  | (at_builtin;refine wpList_copy_runI _ rfl _ _ 24 24 rfl _ _ rfl rfl (hcpB _ (fun _=>rfl) (fun _=>rfl) _ _ _) ?_))
 go_region_law_o (refine step_copy_runI rfl _ _ 24 24 rfl _ _ (by simp[Act.eval,Act.put]) (by simp[Act.eval,Act.put]) (hcpB _ hF1 hF2 _ _ _) ?_)
 go_wp2;go_ret;have hfin:=hansH.out ((w.alloc (.cells ROW 41)).drew.setCells w.heap.size (i*2) (ROv.vals x)).drew (by rw[hW1];rfl) (by rw[hW1];exact(grown_setCells _ _ _ _).os) (by rw[hW1];exact(grown_setCells _ _ _ _).tape) (by rw[hW1];exact(grown_setCells _ _ _ _).output);exact hfin
theorem ins_endOb (base n cap vb:Nat) (A:Option Addr) (X:List ObT) (x:ObT) (w:World) (hown:Own ROv 41 w base (.slice A n cap) X)
  (hv:w.heap[vb]? = some (.cells (ROv.vals x).toArray 41 (0,0))) (hok:ROv.ok w x) (hb:base≤w.heap.size) (hn:n≤1000000) :
  Calls Tryz.prog 159 #[.slice A n cap,.int .i64 n,.slice (some ⟨vb,0,none⟩) 1 1] w (InsAnsOb base n (.slice A n cap) (X ++ [x]) w):=by
 have hl:=hown.len;have hcl:=hown.cap_le;have hx:SlAt ROv w (some ⟨vb,0,none⟩) 1 [x]:=by
  refine⟨rfl,fun _=>⟨_,_,rfl,fun i y hy j u hu=>?_⟩,fun y hy=>by rw[List.mem_singleton.1 hy];exact hok⟩
  cases i with
  | zero =>
   simp at hy;subst hy;rw[cell_of_row w vb _ _ _ (0,0) hv]
   simpa using hu
  | succ i=>simp at hy
 have hsl:=hown.slAt.2.1;obtain⟨b0,o0,hA⟩ | hA:(∃ b0 o0,A=some ⟨b0,o0,none⟩)∨A=none:=by
  cases A with
  | none=>exact .inr rfl
  | some a =>
   rcases hown.1.2 with ⟨hv,_⟩ | ⟨g,cap',cur,hv,_⟩
   ·cases hv
   ·injection hv with h1 _ _;exact .inl ⟨g,0,h1⟩
 ·subst hA;clear hsl
  by_cases hcn:cap=n
  ·subst hcn;obtain⟨hownH,hxH,hokH,hvH,hlH⟩:=hqb hown hx hok hv (Lib.hid hl);clear hown hx hok hv hl;go_enter Tryz.func159,Tryz.ntmps159;go_wp2_with (at_builtin;refine wpList_app rfl (.tmp 23) (.tmp 24) 24 rfl Tryz.underlying24 elem_TestCaseOb (by decide) rfl hownH.out (some ⟨vb,0,none⟩) 1 1 [x] rfl hxH.out (fun h=>by cases h) (fun _ _ _ _ h=>h) (by have:=hlH.out;unfold maxLen;omega) (by have:=hlH.out;omega) hb (cap+1) (by have:=hlH.out;omega) ?_;intro A' c' w' hq hg hat hbl);go_ret;exact⟨_,_,rfl,hq,hg,hat⟩
  ·have hcn2:¬ (cap:Int)=(n:Int):=by omega
   obtain⟨hownH,hxH,hokH,hvH,hlH⟩:=hqb hown hx hok hv (Lib.hid hl);clear hown hx hok hv hl;go_enter Tryz.func159,Tryz.ntmps159;go_wp2_with (at_builtin;refine wpList_app rfl (.tmp 23) (.tmp 24) 24 rfl Tryz.underlying24 elem_TestCaseOb (by decide) rfl hownH.out (some ⟨vb,0,none⟩) 1 1 [x] rfl hxH.out (fun h=>by cases h) (fun _ _ _ _ h=>h) (by have:=hlH.out;unfold maxLen;omega) (by have:=hlH.out;omega) hb (n+1) (by have:=hlH.out;omega) ?_;intro A' c' w' hq hg hat hbl);go_ret;exact⟨_,_,rfl,hq,hg,hat⟩
 ·subst hA;obtain rfl:n=0:=by
   rcases Nat.eq_zero_or_pos n with h | h
   ·exact h
   ·obtain⟨_,_,h,_⟩:=hsl h;cases h
  obtain rfl:cap=0:=by
   rcases hown.1.2 with ⟨hv,_⟩ | ⟨g,cap',cur,hv,_⟩
   ·injection hv
   ·cases hv
  clear hsl;obtain⟨hownH,hxH,hokH,hvH,hlH⟩:=hqb hown hx hok hv (Lib.hid hl);clear hown hx hok hv hl;go_enter Tryz.func159,Tryz.ntmps159;go_wp2_with (at_builtin;refine wpList_app rfl (.tmp 23) (.tmp 24) 24 rfl Tryz.underlying24 elem_TestCaseOb (by decide) rfl hownH.out (some ⟨vb,0,none⟩) 1 1 [x] rfl hxH.out (fun h=>by cases h) (fun _ _ _ _ h=>h) (by have:=hlH.out;unfold maxLen;omega) (by have:=hlH.out;omega) hb (0+1) (by have:=hlH.out;omega) ?_;intro A' c' w' hq hg hat hbl);go_ret;exact⟨_,_,rfl,hq,hg,hat⟩
theorem ins_anyOb (base n cap i vb:Nat) (A:Option Addr) (X Y:List ObT) (x:ObT) (w:World) (hX:X.length=i) (hown:Own ROv 41 w base (.slice A n cap) (X++Y))
  (hv:w.heap[vb]? = some (.cells (ROv.vals x).toArray 41 (0,0))) (hok:ROv.ok w x) (hne:∀ g,(Value.slice A n cap).ownBlock=some g→vb≠g) (hb:base≤w.heap.size) (hn:n≤1000000) :
  Calls Tryz.prog 159 #[.slice A n cap,.int .i64 i,.slice (some ⟨vb,0,none⟩) 1 1] w (InsAnsOb base n (.slice A n cap) (X++x::Y) w):=by
 have hl:=hown.len;rw[List.length_append]at hl
 rcases Nat.eq_zero_or_pos Y.length with h0 | h0
 ·obtain rfl:Y = []:=List.eq_nil_of_length_eq_zero h0;rw[List.append_nil]at hown;have:i=n:=by simp at hl;omega
  subst this;exact ins_endOb base i cap vb A X x w hown hv hok hb hn
 ·obtain⟨g,cur,rfl,hbg,_⟩:=own_block hown (by omega)
  by_cases hroom:n+1≤cap
  ·exact ins_shiftOb base g n cap i vb X Y x w hX h0 hown hv hok (hne g rfl) hbg hroom hn
  ·exact ins_growOb base g n cap i vb X Y x w hX h0 hown hv hok (hne g rfl) hb (by omega) hn
end Go.Proofs.YtpdjjjiknijpkaaGreatDoor