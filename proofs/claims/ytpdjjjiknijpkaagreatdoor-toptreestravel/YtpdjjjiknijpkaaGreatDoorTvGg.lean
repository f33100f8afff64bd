/-
 Several texts of mine as one, without what is not wanted here: XInsP, XEqB, XEqT, XSrO.
-/
import Derived.Test.YtpdjjjiknijpkaaGreatDoorTvGe
import Derived.Test.YtpdjjjiknijpkaaGreatDoorTvGd
import Derived.Shelf.SlSortCmp.NoneTotal
import Derived.Lib.OwnBridge
set_option linter.unusedVariables false
set_option linter.unusedSimpArgs false
set_option maxRecDepth 100000
set_option maxHeartbeats 8000000
namespace Go.Proofs.YtpdjjjiknijpkaaGreatDoor
open Go.ChangeShapes Go.WideShapes Go.Deep Go.RowKit
theorem info_TCPa:(Tryz.prog.info? 125).map (fun i=>(i.zero,i.size,i.bytes))=some (some (.agg #[.string ByteArray.empty,.int .i64 0,.slice none 0 0]),3,48):=by kernel_rfl
theorem elem_TestCasePa:Elem Tryz.prog 125 RPv.size 48:=elem_of info_TCPa (by decide)
theorem hov_TCPa (w:World) (g vb lb cb o kB:Nat) (hne:vb≠g) (csv cur:Array Value) (hv:w.heap[vb]? = some (.cells csv 125 (0,0))) (hg:w.heap[g]? = some (.cells cur 125 (0,0))) (hk:cur.size≠0) :
  (callFunc 160 #[.slice (some ⟨vb,0,none⟩) 1 1,.slice (some ⟨g,o,none⟩) lb cb]).run Tryz.prog w = .ok (.value (.bool false)) w:=by
 obtain⟨i0,hi0,hz0,hzs,hzb⟩:=info_parts info_TCPa;rw[run_callFunc_extern Tryz.func160 (by kernel_rfl) (by kernel_rfl) (by kernel_rfl) (e:=Extern.SlicesOverlaps.overlaps #[30,30] #[4]) (by kernel_rfl),
  Lib.run_overlaps_apart w 30 4 125 Tryz.underlying30 i0.size (size_of hi0) ⟨vb,0,none⟩ ⟨g,o,none⟩ 1 1 lb cb hne _ _ _ _ (shape_of hv) (shape_of hg) hk (frozen_of_row w vb 0 csv _ hv) (frozen_of_row w vb _ csv _ hv)]
 rfl
def InsAnsPa (base n:Nat) (v:Value) (l:List PaT) (w:World) (e:Ending) (w':World):Prop :=
 ∃ A' c',e = .returned (.slice A' (n+1) c')∧Own RPv 125 w' base (.slice A' (n+1) c') l∧w.grownBy w' v.ownBlock∧(Value.ownBlock (.slice A' (n+1) c')=v.ownBlock∨Value.ownBlock (.slice A' (n+1) c')=some w.heap.size)
theorem cells_rowPa {w:World} {g j:Nat} {cur:Array Value} {e:TypeId} (h:w.heap[g]? = some (.cells cur e (0,0))) (hj:j<cur.size):(w.cell? ⟨g,j,none⟩).isSome=true:=by
 rw[cell_of_row w g j cur e (0,0) h,Array.getElem?_eq_getElem hj];rfl
theorem ins_shiftPa (base g n cap i vb:Nat) (X Y:List PaT) (x:PaT) (w:World) (hX:X.length=i) (hY:0<Y.length) (hown:Own RPv 125 w base (.slice (some ⟨g,0,none⟩) n cap) (X++Y))
  (hv:w.heap[vb]? = some (.cells (RPv.vals x).toArray 125 (0,0))) (hok:RPv.ok w x) (hne:vb≠g) (hb:base≤g) (hroom:n+1≤cap) (hn:n≤1000000) :
  Calls Tryz.prog 138 #[.slice (some ⟨g,0,none⟩) n cap,.int .i64 i,.slice (some ⟨vb,0,none⟩) 1 1] w (InsAnsPa base n (.slice (some ⟨g,0,none⟩) n cap) (X++x::Y) w):=by
 have hl:=hown.len;rw[List.length_append]at hl;obtain⟨g',cur,hg',_,hcur,hnc,hcm,hcs,htk⟩:=own_block hown (by omega);obtain rfl:g=g':=by injection hg' with h;injection h
 have hcs:cur.size=cap*3:=hcs;have htk:cur.toList.take (n*3)=X.flatMap RPv.vals++Y.flatMap RPv.vals:=by rw[← List.flatMap_append];exact htk
 obtain⟨FX,hFX⟩:∃ F,X.flatMap RPv.vals=F:=⟨_,rfl⟩;obtain⟨FY,hFY⟩:∃ F,Y.flatMap RPv.vals=F:=⟨_,rfl⟩;have lX:FX.length=i*3:=by rw[← hFX,flatMap_vals_length,hX];rfl
 have lY:FY.length=(n-i)*3:=by rw[← hFY,flatMap_vals_length];show _*3=_;congr 1;omega
 have hcm2:cap≤9223372036854775807:=hcm;rw[hFX,hFY]at htk;have hget:∀ j v,FY[j]? = some v→w.cell? ⟨g,i*3+j,none⟩=some v:=fun j v hj=>by
  have hjl:=(List.getElem?_eq_some_iff.1 hj).1;rw[cell_of_row w g _ cur _ (0,0) hcur];have:(cur.toList.take (n*3))[i*3+j]? = some v:=by rw[htk,List.getElem?_append_right (by omega),lX,Nat.add_sub_cancel_left];exact hj
  rw[List.getElem?_take_of_lt (by omega)]at this
  simpa using this
 obtain⟨cur2,hcur2,hcs2,htk2⟩:=put_up (w:=w.drew) (vx:=RPv.vals x) (FY:=FY) (T:=cur.toList.drop (i*3)) (o:=i*3) (o2:=(i+1)*3) hcur (by
  have:cur.toList.take (i*3)=FX:=by
   have:=congrArg (List.take (i*3)) htk;rw[List.take_take,Nat.min_eq_left (by omega),List.take_append_of_le_length (by omega),List.take_of_length_le (l:=FX) (by omega)]at this;exact this
  rw[← this,List.take_append_drop]) lX (by rw[RPv.len];show _=i*3+3;omega) (by rw[RPv.len,lY,List.length_drop,Array.length_toList,hcs];show 3+_≤_;omega)
 have hans:InsAnsPa base n (.slice (some ⟨g,0,none⟩) n cap) (X++x::Y) w (.returned (.slice (some ⟨g,0,none⟩) (n+1) cap)) ((w.drew.setCells g ((i+1)*3) FY).setCells g (i*3) (RPv.vals x)):=by
  have hgr:w.grownBy ((w.drew.setCells g ((i+1)*3) FY).setCells g (i*3) (RPv.vals x)) (some g):=grown_trans (grown_trans (grown_drew w _) (grown_setCells g _ _ _)) (grown_setCells g _ _ _);refine⟨_,_,rfl,own_of hb hcur2 (by rw[List.length_append,List.length_cons];omega) hroom hcm (by rw[hcs2,hcs];rfl) ?_ (fun y hy=>?_),hgr,.inl rfl⟩
  ·rw[flat_split,hFX,hFY];have e:i*3+(RPv.vals x).length+FY.length=(n+1)*RPv.size:=by rw[RPv.len,lY];show i*3+3+_=(n+1)*3;omega
   rw[← e];exact htk2
  ·have h1:RPv.ok w y:=by
    rcases List.mem_append.1 hy with hy | hy
    ·exact hown.2 y (List.mem_append.2 (.inl hy))
    ·rcases List.mem_cons.1 hy with rfl | hy
     ·exact hok
     ·exact hown.2 y (List.mem_append.2 (.inr hy))
   exact h1
 have hsz:(Tryz.prog.info? 125).map (·.size)=some 3:=by
  obtain⟨i0,hi0,h0,h1,h2⟩:=info_parts info_TCPa;rw[hi0];simp[h1]
 have hov:=fun lb cb=>hov_TCPa w g vb lb cb ((i+1)*3) cap hne _ cur hv hcur (by omega);have h1Y:∀ v∈FY,v.oneCell'=true:=fun v hv=>by rw[← hFY]at hv;obtain⟨y,_,hy⟩:=List.mem_flatMap.1 hv;exact RPv.one y v hy
 have hcp1:∀ ty dc sc,(Builtin.copy_ #[30,30] ty #[.slice (some ⟨g,(i+1)*3,none⟩) (n-i) dc,.slice (some ⟨g,i*3,none⟩) (n+1-i) sc]).run Tryz.prog w.drew = .ok (goInt ((n-i:Nat):Int)) (w.drew.setCells g ((i+1)*3) FY):=fun ty dc sc =>
  run_copy_N 3 w.drew _ _ ty 125 g ((i+1)*3) (n-i) dc ⟨g,i*3,none⟩ (n+1-i) sc FY Tryz.underlying30 hsz (n-i) (by simp only[Nat.min_def];split <;> omega) lY
   (fun j v hj=>by rw[Addr.add_lit];exact hget j v hj)
   (fun j hj=>cells_rowPa (w:=w.drew) hcur (by omega)) (fun j hj=>frozen_of_row w.drew g _ cur _ hcur) h1Y
 obtain⟨W1,hW1⟩:∃ W1,W1=w.drew.setCells g ((i+1)*3) FY:=⟨_,rfl⟩;obtain⟨c1,hc1,hc1l⟩:=heap_setCells g 125 FY ((i+1)*3) w.drew cur hcur (by omega);rw[← hW1]at hc1;have hc1s:c1.size=cur.size:=by rw[← Array.length_toList,hc1l];simp;omega
 have hv1:∀ j v,(RPv.vals x)[j]? = some v→W1.cell? ⟨vb,j,none⟩=some v:=fun j v hj=>by
  rw[hW1,World.cell?_setCells_out g _ _ _ _ (fun h _=>absurd h hne)];show w.cell? _=_;rw[cell_of_row w vb _ _ _ (0,0) hv];simpa using hj
 have hcp2:∀ (W:World),(∀ x,W.cell? x=W1.cell? x)→(∀ x,W.frozen? x=W1.frozen? x)→∀ ty dc,(Builtin.copy_ #[30,30] ty #[.slice (some ⟨g,i*3,none⟩) (n+1-i) dc,.slice (some ⟨vb,0,none⟩) 1 1]).run Tryz.prog W = .ok (goInt 1) (W.setCells g (i*3) (RPv.vals x)):=fun W hWc hWf ty dc =>
  run_copy_N 3 W _ _ ty 125 g (i*3) (n+1-i) dc ⟨vb,0,none⟩ 1 1 (RPv.vals x) Tryz.underlying30 hsz 1 (by simp only[Nat.min_def];split <;> omega) rfl
   (fun j v hj=>by rw[Addr.add_lit,Nat.zero_add,hWc];exact hv1 j v hj)
   (fun j hj=>by rw[hWc];refine cells_rowPa hc1 ?_;have:j<3:=hj;omega) (fun j hj=>by rw[hWf];exact frozen_of_row W1 g _ c1 _ hc1) (fun v hv=>RPv.one x v hv)
 rw[← hW1]at hcp1 hans;have hz2:¬ ((i:Int)=(n:Int)):=by omega
 have hz3:((i:Int)==(n:Int))=false:=by simpa using hz2
 have hgt:¬ ((cap:Int)<(n:Int)+1):=by omega
 have hw1:IntKind.i64.wrap ((i:Int)+1)=(i:Int)+1:=by rw[IntKind.wrap_i64];omega
 have hb1:(0:Int)≤(i:Int)+1:=by omega
 have hin:i≤n:=by omega
 have htn:((i:Int)+1).toNat=i+1:=by omega
 have hb2:¬ (cap=i+1):=by omega
 have hb3:(i:Int)≤(n:Int)+1:=by omega
 have hb4:¬ (cap=i):=by omega
 have htn2:((n:Int)+1).toNat=n+1:=by omega
 have mixed:Tryz.prog.follows .mixedOrders=true:=by kernel_rfl
 clear hget hcur2 hcs2 htk2 hc1 hc1l hc1s hv1 h1Y htk hown hok;obtain⟨hansH,hFXH,hFYH,lXH,lYH⟩:=hqb hans hFX hFY lX (Lib.hid lY);clear hans hFX hFY lX lY;go_enter Tryz.func138,Tryz.ntmps138;go_wp2_with (simp only[hov])
 go_region_law_o (refine step_copy_runI rfl _ _ 30 30 rfl _ _ (by simp[Act.eval,Act.put]) (by simp[Act.eval,Act.put]) (hcp1 _ _ _) ?_)
 go_wp2_with (at_builtin;refine wpList_copy_runI _ rfl _ _ 30 30 rfl _ _ rfl rfl (hcp2 _ (fun _=>rfl) (fun _=>rfl) _ _) ?_);go_ret;have hfin:=hansH.out;rw[hW1]at hfin;exact hfin
theorem mem_okPa {X Y:List PaT} {x:PaT} {w w':World} (h:∀ y∈X++Y,RPv.ok w y) (hx:RPv.ok w x):∀ y∈X++x::Y,RPv.ok w' y:=fun y hy=>by
 have h1:RPv.ok w y:=by
  rcases List.mem_append.1 hy with hy | hy
  ·exact h y (List.mem_append.2 (.inl hy))
  ·rcases List.mem_cons.1 hy with rfl | hy
   ·exact hx
   ·exact h y (List.mem_append.2 (.inr hy))
 exact h1
theorem ins_growPa (base g n cap i vb:Nat) (X Y:List PaT) (x:PaT) (w:World) (hX:X.length=i) (hY:0<Y.length) (hown:Own RPv 125 w base (.slice (some ⟨g,0,none⟩) n cap) (X++Y))
  (hv:w.heap[vb]? = some (.cells (RPv.vals x).toArray 125 (0,0))) (hok:RPv.ok w x) (hne:vb≠g) (hb:base≤w.heap.size) (hroom:cap<n+1) (hn:n≤1000000) :
  Calls Tryz.prog 138 #[.slice (some ⟨g,0,none⟩) n cap,.int .i64 i,.slice (some ⟨vb,0,none⟩) 1 1] w (InsAnsPa base n (.slice (some ⟨g,0,none⟩) n cap) (X++x::Y) w):=by
 have hl:=hown.len;rw[List.length_append]at hl;obtain⟨g',cur,hg',_,hcur,hnc,hcm,hcs,htk⟩:=own_block hown (by omega);obtain rfl:g=g':=by injection hg' with h;injection h
 obtain rfl:cap=n:=by omega
 have hcs:cur.size=cap*3:=hcs;have htk:cur.toList.take (cap*3)=X.flatMap RPv.vals++Y.flatMap RPv.vals:=by rw[← List.flatMap_append];exact htk
 obtain⟨FX,hFX⟩:∃ F,X.flatMap RPv.vals=F:=⟨_,rfl⟩;obtain⟨FY,hFY⟩:∃ F,Y.flatMap RPv.vals=F:=⟨_,rfl⟩;have lX:FX.length=i*3:=by rw[← hFX,flatMap_vals_length,hX];rfl
 have lY:FY.length=(cap-i)*3:=by rw[← hFY,flatMap_vals_length];show _*3=_;congr 1;omega
 rw[hFX,hFY]at htk;obtain⟨i0,hi0,hz0,hzs,hzb⟩:=info_parts info_TCPa;have hsz:(Tryz.prog.info? 125).map (·.size)=some 3:=by rw[hi0];simp[hzs]
 have hgw:g<w.heap.size:=(Array.getElem?_eq_some_iff.1 hcur).1;have hvw:vb<w.heap.size:=(Array.getElem?_eq_some_iff.1 hv).1;have hget:∀ j v,(FX++FY)[j]? = some v→w.cell? ⟨g,j,none⟩=some v:=fun j v hj=>by
  have hjl:=(List.getElem?_eq_some_iff.1 hj).1;rw[List.length_append]at hjl;rw[cell_of_row w g _ cur _ (0,0) hcur];rw[← htk,List.getElem?_take_of_lt (by omega)]at hj
  simpa using hj
 have hkk:(cap:Int)+1-(i:Int)=((cap+1-i:Nat):Int):=by omega
 have hik:i+(cap+1-i)=cap+1:=by omega
 have hold:(Builtin.firstCells i0.size i (.slice (some ⟨g,0,none⟩) i cap)).run Tryz.prog w.drew = .ok FX.toArray w.drew:=by
  rw[hzs];exact run_firstCells_some w.drew 3 i ⟨g,0,none⟩ i cap FX lX (fun j v hj=>by
   rw[Addr.add_lit,Nat.zero_add];exact hget j v (by rw[List.getElem?_append_left (List.getElem?_eq_some_iff.1 hj).1];exact hj))
 obtain⟨G,hG⟩:∃ G,G=grownCap w (cap+1) cap 125:=⟨_,rfl⟩;obtain⟨ROW,hROW⟩:∃ ROW:Array Value,ROW=FX.toArray++Builtin.zeroCells (Value.agg #[.string ByteArray.empty,.int .i64 0,.slice none 0 0]).cells (cap+1-i)++Builtin.zeroCells (Value.agg #[.string ByteArray.empty,.int .i64 0,.slice none 0 0]).cells (G-(cap+1)):=⟨_,rfl⟩;have hGn:cap+1≤G:=by rw[hG];exact grownCap_ge w _ _ _
 have hGm:G≤maxLen:=by
  rw[hG];exact grownCap_le_maxLen w (cap+1) cap _ (by unfold maxLen;omega)
 have hG63:G≤9223372036854775807:=by unfold maxLen at hGm;omega
 have hrz:∀ ty,(Builtin.append_ #[30,3] ty #[.slice (some ⟨g,0,none⟩) i cap,.int .i64 ((cap:Int)+1-(i:Int))]).run Tryz.prog w =
   .ok (.slice (some ⟨w.heap.size,0,none⟩) (cap+1) G) (w.drew.alloc (.cells ROW 125)):=fun ty=>by
  have h:=Lib.run_append_grow_zeros (P:=Tryz.prog) w 30 3 ty 125 i0 _ .i64 .i64 Tryz.underlying30 Tryz.underlying3 hi0 hz0 (some ⟨g,0,none⟩) i cap FX hold (cap+1-i) (by omega) (by omega) (by omega) (by omega) (by rw[hzb];omega) (by rw[hzb,hik];exact growslice_fits (by omega) (by omega));rw[hik]at h;rw[hkk,hG,hROW,hG];exact h
 have hzc:∀ k,(Builtin.zeroCells (Value.agg #[.string ByteArray.empty,.int .i64 0,.slice none 0 0]).cells k).size=k*3:=fun k=>by simp[Builtin.zeroCells,Value.cells]
 have hRs:ROW.size=G*3:=by
  rw[hROW,Array.size_append,Array.size_append,hzc,hzc];have:FX.toArray.size=i*3:=lX;rw[this];omega
 obtain⟨T,hT⟩:∃ T,ROW.toList=FX++T:=⟨_,by rw[hROW];simp only[Array.toList_append,List.append_assoc];rfl⟩;have lT:T.length=G*3-i*3:=by
  have:=congrArg List.length hT;rw[List.length_append,lX,Array.length_toList,hRs]at this;omega
 obtain⟨W1,hW1⟩:∃ W1,W1=w.drew.alloc (.cells ROW 125):=⟨_,rfl⟩;rw[← hW1]at hrz;have hN:W1.heap[w.heap.size]? = some (.cells ROW 125 (0,0)):=by rw[hW1];exact heap_alloc_new w.drew _
 have hgr0:w.grownBy W1 none:=by rw[hW1];exact grown_trans (grown_drew w none) (World.grownBy_alloc _ _ none)
 have hvx:∀ W:World,W.heap[vb]? = W1.heap[vb]?→∀ j v,(RPv.vals x)[j]? = some v→W.cell? ⟨vb,j,none⟩=some v:=fun W hW j v hj=>by
  have h1:W.heap[vb]? = some (.cells (RPv.vals x).toArray 125 (0,0)):=by rw[hW,hgr0.block vb hvw (by simp)];exact hv
  rw[cell_of_row W vb _ _ _ (0,0) h1];simpa using hj
 have hcpA:∀ (W:World),(∀ x,W.cell? x=W1.cell? x)→(∀ x,W.frozen? x=W1.frozen? x)→∀ ty dc,(Builtin.copy_ #[30,30] ty #[.slice (some ⟨w.heap.size,i*3,none⟩) (cap+1-i) dc,.slice (some ⟨vb,0,none⟩) 1 1]).run Tryz.prog W = .ok (goInt 1) (W.setCells w.heap.size (i*3) (RPv.vals x)):=fun W hWc hWf ty dc =>
  run_copy_N 3 W _ _ ty 125 w.heap.size (i*3) (cap+1-i) dc ⟨vb,0,none⟩ 1 1 (RPv.vals x) Tryz.underlying30 hsz 1 (by simp only[Nat.min_def];split <;> omega) rfl
   (fun j v hj=>by rw[Addr.add_lit,Nat.zero_add,hWc];exact hvx W1 rfl j v hj)
   (fun j hj=>by rw[hWc];refine cells_rowPa hN ?_;have:j<3:=hj;omega) (fun j hj=>by rw[hWf];exact frozen_of_row W1 _ _ ROW _ hN) (fun v hv=>RPv.one x v hv)
 obtain⟨c1,hc1,hc1l⟩:=heap_setCells w.heap.size 125 (RPv.vals x) (i*3) W1 ROW hN (by rw[RPv.len,hRs];show i*3+3≤_;omega);have hc1s:c1.size=ROW.size:=by rw[← Array.length_toList,hc1l];simp only[List.length_append,List.length_take,List.length_drop,Array.length_toList,RPv.len];have:RPv.size=3:=rfl;omega
 have h1Y:∀ v∈FY,v.oneCell'=true:=fun v hv=>by rw[← hFY]at hv;obtain⟨y,_,hy⟩:=List.mem_flatMap.1 hv;exact RPv.one y v hy
 have hgN:g≠w.heap.size:=by omega
 have hcpB:∀ (W:World),(∀ y,W.cell? y=(W1.setCells w.heap.size (i*3) (RPv.vals x)).cell? y)→(∀ y,W.frozen? y=(W1.setCells w.heap.size (i*3) (RPv.vals x)).frozen? y)→∀ ty dc sc,(Builtin.copy_ #[30,30] ty #[.slice (some ⟨w.heap.size,(i+1)*3,none⟩) (cap-i) dc,.slice (some ⟨g,i*3,none⟩) (cap-i) sc]).run Tryz.prog W = .ok (goInt ((cap-i:Nat):Int)) (W.setCells w.heap.size ((i+1)*3) FY):=fun W hWc hWf ty dc sc =>
  run_copy_N 3 W _ _ ty 125 w.heap.size ((i+1)*3) (cap-i) dc ⟨g,i*3,none⟩ (cap-i) sc FY Tryz.underlying30 hsz (cap-i) (by simp only[Nat.min_def];split <;> omega) lY
   (fun j v hj=>by
    rw[Addr.add_lit,hWc,World.cell?_setCells_out _ _ _ _ _ (fun h _=>absurd h hgN)];have:W1.cell? ⟨g,i*3+j,none⟩=w.cell? ⟨g,i*3+j,none⟩:=World.cell?_of_block (a:=⟨g,i*3+j,none⟩) (hgr0.block g hgw (by simp));rw[this];exact hget _ v (by rw[List.getElem?_append_right (by omega),lX,Nat.add_sub_cancel_left];exact hj))
   (fun j hj=>by rw[hWc];exact cells_rowPa hc1 (by omega))
   (fun j hj=>by rw[hWf];exact frozen_of_row _ _ _ c1 _ hc1) h1Y
 have hans:∀ W2:World,W2.heap=(W1.setCells w.heap.size (i*3) (RPv.vals x)).heap→W2.os=W1.os→W2.tape=W1.tape→W2.output=W1.output→InsAnsPa base cap (.slice (some ⟨g,0,none⟩) cap cap) (X++x::Y) w (.returned (.slice (some ⟨w.heap.size,0,none⟩) (cap+1) G)) (W2.setCells w.heap.size ((i+1)*3) FY):=fun W2 e1 e2 e3 e4=>by
  obtain⟨c2,hc2,hc2s,hc2t⟩:=put_in (w:=W1) (w1:=W2) (vx:=RPv.vals x) (FY:=FY) (o2:=(i+1)*3) hN hT lX (by rw[RPv.len];show _=i*3+3;omega) (by rw[RPv.len,lY,lT];show 3+_≤_;omega) e1;have hg2:w.grownBy (W2.setCells w.heap.size ((i+1)*3) FY) none:=by
   have h1:=grown_setCells w.heap.size (RPv.vals x) (i*3) W1;have h2:=grown_setCells w.heap.size FY ((i+1)*3) W2;refine⟨h2.os.trans (e2.trans hgr0.os),h2.tape.trans (e3.trans hgr0.tape),h2.output.trans (e4.trans hgr0.output),?_,fun k hk _=>?_⟩
   ·have a:=h2.size;have b:=h1.size;have c:=hgr0.size;rw[e1]at a;omega
   ·have hk1:k<W1.heap.size:=Nat.lt_of_lt_of_le hk hgr0.size;have hk2:k<W2.heap.size:=by rw[e1];exact Nat.lt_of_lt_of_le hk1 h1.size
    rw[h2.block k hk2 (fun e=>by injection e with e;omega),e1,h1.block k hk1 (fun e=>by injection e with e;omega),hgr0.block k hk (by simp)]
  refine⟨_,_,rfl,own_of hb hc2 (by rw[List.length_append,List.length_cons];omega) hGn hGm (by rw[hc2s,hRs];rfl) ?_ (mem_okPa (w:=w) hown.2 hok),⟨hg2.os,hg2.tape,hg2.output,hg2.size,fun k hk _=>hg2.block k hk (by simp)⟩,.inr rfl⟩;rw[flat_split,hFX,hFY];have e:i*3+(RPv.vals x).length+FY.length=(cap+1)*RPv.size:=by rw[RPv.len,lY];show i*3+3+_=(cap+1)*3;omega
  rw[← e];exact hc2t
 have hE1:∀ y,((w.alloc (.cells ROW 125)).drew).cell? y=W1.cell? y:=fun y=>by rw[hW1];rfl
 have hE2:∀ y,((w.alloc (.cells ROW 125)).drew).frozen? y=W1.frozen? y:=fun y=>by rw[hW1];rfl
 have hF1:∀ y,(((w.alloc (.cells ROW 125)).drew.setCells w.heap.size (i*3) (RPv.vals x)).drew).cell? y=(W1.setCells w.heap.size (i*3) (RPv.vals x)).cell? y:=fun y=>by rw[hW1];rfl
 have hF2:∀ y,(((w.alloc (.cells ROW 125)).drew.setCells w.heap.size (i*3) (RPv.vals x)).drew).frozen? y=(W1.setCells w.heap.size (i*3) (RPv.vals x)).frozen? y:=fun y=>by rw[hW1];rfl
 have hz2:¬ ((i:Int)=(cap:Int)):=by omega
 have hz3:((i:Int)==(cap:Int))=false:=by simpa using hz2
 have hw1:IntKind.i64.wrap ((i:Int)+1)=(i:Int)+1:=by rw[IntKind.wrap_i64];omega
 have hb1:(0:Int)≤(i:Int)+1:=by omega
 have hin:i≤cap:=by omega
 have htn:((i:Int)+1).toNat=i+1:=by omega
 have hGi:¬ (G=i):=by omega
 have hGim:¬ (G=i+1):=by omega
 have hci:¬ (cap=i):=by omega
 have hb3:(i:Int)≤(cap:Int):=by omega
 have mixed:Tryz.prog.follows .mixedOrders=true:=by kernel_rfl
 clear hkk hik hold hROW hG hT lT hget hc1 hc1l hc1s h1Y hvx hown hok htk hgr0 hN hcur;obtain⟨hansH,hFXH,hFYH,lXH,lYH,hRsH,hzcH⟩:=hq2 hans (hq2 hFX (hqb hFY lX lY hRs (Lib.hid hzc)));clear hans hFX hFY lX lY hRs hzc;go_enter Tryz.func138,Tryz.ntmps138;go_wp2_with (first
  | (at_builtin;refine Lib.wpList_append_run _ rfl _ _ _ _ rfl _ _ rfl rfl _ _ (hrz _) ?_)
  | (at_builtin;refine wpList_copy_runI _ rfl _ _ 30 30 rfl _ _ rfl rfl (hcpA _ (fun _=>rfl) (fun _=>rfl) _ _) ?_)
  | (at_builtin;refine wpList_copy_runI _ rfl _ _ 30 30 rfl _ _ rfl rfl (hcpA _ hE1 hE2 _ _) ?_)
  | (at_builtin;refine wpList_copy_runI _ rfl _ _ 30 30 rfl _ _ rfl rfl (hcpB _ (fun _=>rfl) (fun _=>rfl) _ _ _) ?_))
 go_region_law_o (refine step_copy_runI rfl _ _ 30 30 rfl _ _ (by simp[Act.eval,Act.put]) (by simp[Act.eval,Act.put]) (hcpB _ hF1 hF2 _ _ _) ?_)
 go_wp2;go_ret;have hfin:=hansH.out ((w.alloc (.cells ROW 125)).drew.setCells w.heap.size (i*3) (RPv.vals x)).drew (by rw[hW1];rfl) (by rw[hW1];exact(grown_setCells _ _ _ _).os) (by rw[hW1];exact(grown_setCells _ _ _ _).tape) (by rw[hW1];exact(grown_setCells _ _ _ _).output);exact hfin
theorem ins_endPa (base n cap vb:Nat) (A:Option Addr) (X:List PaT) (x:PaT) (w:World) (hown:Own RPv 125 w base (.slice A n cap) X)
  (hv:w.heap[vb]? = some (.cells (RPv.vals x).toArray 125 (0,0))) (hok:RPv.ok w x) (hb:base≤w.heap.size) (hn:n≤1000000) :
  Calls Tryz.prog 138 #[.slice A n cap,.int .i64 n,.slice (some ⟨vb,0,none⟩) 1 1] w (InsAnsPa base n (.slice A n cap) (X ++ [x]) w):=by
 have hl:=hown.len;have hcl:=hown.cap_le;have hx:SlAt RPv w (some ⟨vb,0,none⟩) 1 [x]:=by
  refine⟨rfl,fun _=>⟨_,_,rfl,fun i y hy j u hu=>?_⟩,fun y hy=>by rw[List.mem_singleton.1 hy];exact hok⟩
  cases i with
  | zero =>
   simp at hy;subst hy;rw[cell_of_row w vb _ _ _ (0,0) hv]
   simpa using hu
  | succ i=>simp at hy
 have hsl:=hown.slAt.2.1;obtain⟨b0,o0,hA⟩ | hA:(∃ b0 o0,A=some ⟨b0,o0,none⟩)∨A=none:=by
  cases A with
  | none=>exact .inr rfl
  | some a =>
   rcases hown.1.2 with ⟨hv,_⟩ | ⟨g,cap',cur,hv,_⟩
   ·cases hv
   ·injection hv with h1 _ _;exact .inl ⟨g,0,h1⟩
 ·subst hA;clear hsl
  by_cases hcn:cap=n
  ·subst hcn;obtain⟨hownH,hxH,hokH,hvH,hlH⟩:=hqb hown hx hok hv (Lib.hid hl);clear hown hx hok hv hl;go_enter Tryz.func138,Tryz.ntmps138;go_wp2_with (at_builtin;refine wpList_app rfl (.tmp 23) (.tmp 24) 30 rfl Tryz.underlying30 elem_TestCasePa (by decide) rfl hownH.out (some ⟨vb,0,none⟩) 1 1 [x] rfl hxH.out (fun h=>by cases h) (fun _ _ _ _ h=>h) (by have:=hlH.out;unfold maxLen;omega) (by have:=hlH.out;omega) hb (cap+1) (by have:=hlH.out;omega) ?_;intro A' c' w' hq hg hat hbl);go_ret;exact⟨_,_,rfl,hq,hg,hat⟩
  ·have hcn2:¬ (cap:Int)=(n:Int):=by omega
   obtain⟨hownH,hxH,hokH,hvH,hlH⟩:=hqb hown hx hok hv (Lib.hid hl);clear hown hx hok hv hl;go_enter Tryz.func138,Tryz.ntmps138;go_wp2_with (at_builtin;refine wpList_app rfl (.tmp 23) (.tmp 24) 30 rfl Tryz.underlying30 elem_TestCasePa (by decide) rfl hownH.out (some ⟨vb,0,none⟩) 1 1 [x] rfl hxH.out (fun h=>by cases h) (fun _ _ _ _ h=>h) (by have:=hlH.out;unfold maxLen;omega) (by have:=hlH.out;omega) hb (n+1) (by have:=hlH.out;omega) ?_;intro A' c' w' hq hg hat hbl);go_ret;exact⟨_,_,rfl,hq,hg,hat⟩
 ·subst hA;obtain rfl:n=0:=by
   rcases Nat.eq_zero_or_pos n with h | h
   ·exact h
   ·obtain⟨_,_,h,_⟩:=hsl h;cases h
  obtain rfl:cap=0:=by
   rcases hown.1.2 with ⟨hv,_⟩ | ⟨g,cap',cur,hv,_⟩
   ·injection hv
   ·cases hv
  clear hsl;obtain⟨hownH,hxH,hokH,hvH,hlH⟩:=hqb hown hx hok hv (Lib.hid hl);clear hown hx hok hv hl;go_enter Tryz.func138,Tryz.ntmps138;go_wp2_with (at_builtin;refine wpList_app rfl (.tmp 23) (.tmp 24) 30 rfl Tryz.underlying30 elem_TestCasePa (by decide) rfl hownH.out (some ⟨vb,0,none⟩) 1 1 [x] rfl hxH.out (fun h=>by cases h) (fun _ _ _ _ h=>h) (by have:=hlH.out;unfold maxLen;omega) (by have:=hlH.out;omega) hb (0+1) (by have:=hlH.out;omega) ?_;intro A' c' w' hq hg hat hbl);go_ret;exact⟨_,_,rfl,hq,hg,hat⟩
theorem ins_anyPa (base n cap i vb:Nat) (A:Option Addr) (X Y:List PaT) (x:PaT) (w:World) (hX:X.length=i) (hown:Own RPv 125 w base (.slice A n cap) (X++Y))
  (hv:w.heap[vb]? = some (.cells (RPv.vals x).toArray 125 (0,0))) (hok:RPv.ok w x) (hne:∀ g,(Value.slice A n cap).ownBlock=some g→vb≠g) (hb:base≤w.heap.size) (hn:n≤1000000) :
  Calls Tryz.prog 138 #[.slice A n cap,.int .i64 i,.slice (some ⟨vb,0,none⟩) 1 1] w (InsAnsPa base n (.slice A n cap) (X++x::Y) w):=by
 have hl:=hown.len;rw[List.length_append]at hl
 rcases Nat.eq_zero_or_pos Y.length with h0 | h0
 ·obtain rfl:Y = []:=List.eq_nil_of_length_eq_zero h0;rw[List.append_nil]at hown;have:i=n:=by simp at hl;omega
  subst this;exact ins_endPa base i cap vb A X x w hown hv hok hb hn
 ·obtain⟨g,cur,rfl,hbg,_⟩:=own_block hown (by omega)
  by_cases hroom:n+1≤cap
  ·exact ins_shiftPa base g n cap i vb X Y x w hX h0 hown hv hok (hne g rfl) hbg hroom hn
  ·exact ins_growPa base g n cap i vb X Y x w hX h0 hown hv hok (hne g rfl) hb (by omega) hn
def natU (l:List UInt8):List Int:=l.map fun c=>((c.toNat:Nat):Int)
theorem natU_len (l:List UInt8):(natU l).length=l.length:=by simp[natU]
theorem natU_of (l:List UInt8):Lib.bytesOf (natU l)=l:=by
 unfold Lib.bytesOf natU;rw[List.map_map]
 conv=>rhs;rw[← List.map_id l]
 apply List.map_congr_left;intro c _;simp
theorem natU_get {w:World} {b off n:Nat} {l:List UInt8} (h:SlAt RU8 w (some ⟨b,off,none⟩) n l) (i:Nat) (hi:i<n):w.cell? ⟨b,off+i,none⟩=some (.int .u8 ((natU l).getD i 0)):=by
 have hl:=h.1;have:=cell_U8 h (List.getElem?_eq_getElem (show i<l.length by omega));rw[this,List.getD_eq_getElem?_getD];unfold natU;rw[List.getElem?_map,List.getElem?_eq_getElem (show i<l.length by omega)];rfl
theorem bytesIn_of {w:World} {A:Option Addr} {n:Nat} {l:List UInt8} (h:SlAt RU8 w A n l):Lib.BytesIn w A n (natU l):=by
 rcases Nat.eq_zero_or_pos n with h0 | h0
 ·subst h0;obtain rfl:l = []:=List.eq_nil_of_length_eq_zero h.1;exact Lib.BytesIn.nil _ _ _
 ·obtain⟨b,off,rfl,hc⟩:=h.2.1 h0;exact Lib.BytesIn.of_cells (fun i hi=>by rw[Addr.add_lit];exact natU_get h i hi)
theorem eqB_any (A1 A2:Option Addr) (n1 c1 n2 c2:Nat) (l1 l2:List UInt8) (w:World) (h1:SlAt RU8 w A1 n1 l1) (h2:SlAt RU8 w A2 n2 l2) :
  Calls Tryz.prog 49 #[.slice A1 n1 c1,.slice A2 n2 c2] w fun e w'=>e = .returned (.bool (l1==l2))∧w=w':=by
 have:=Tryz.bytes_Equal_all A1 A2 n1 c1 n2 c2 (natU l1) (natU l2) w (by rw[natU_len,h1.1]) (by rw[natU_len,h2.1]) (bytesIn_of h1) (bytesIn_of h2);rw[natU_of,natU_of]at this;exact this.mono fun e w' ⟨h,k⟩=>⟨h,k.symm⟩
end Go.Proofs.YtpdjjjiknijpkaaGreatDoor
namespace Go.Proofs.YtpdjjjiknijpkaaGreatDoor
open Go.ChangeShapes Go.WideShapes Go.Deep Go.RowKit Go.Sort
section
variable {α:Type} {R:Rd α} {e:TypeId} {w w':World} {base g n cap:Nat} {l:List α}
theorem own_open (h:Own R e w base (.slice (some ⟨g,0,none⟩) n cap) l):∃ cur,base≤g∧w.heap[g]? = some (.cells cur e (0,0))∧n≤cap∧cap≤maxLen∧cur.size=cap*R.size∧cur.toList.take (n*R.size)=l.flatMap R.vals∧l.length=n:=by
 have hl:=h.len
 rcases h.1.2 with ⟨hv,_⟩ | ⟨g',cap',cur,hv,a,b,c,d,e1,f⟩
 ·cases hv
 ·injection hv with h1 h2 h3;injection h1 with h1;injection h1 with h1;subst h1 h3;rw[hl]at c f;exact⟨cur,a,b,c,d,e1,f,hl⟩
theorem own_make {cur:Array Value} (a:base≤g) (b:w.heap[g]? = some (.cells cur e (0,0))) (c:n≤cap) (d:cap≤maxLen) (e1:cur.size=cap*R.size) (f:cur.toList.take (n*R.size)=l.flatMap R.vals) (hl:l.length=n) (hok:∀ x∈l,R.ok w x) :
  Own R e w base (.slice (some ⟨g,0,none⟩) n cap) l:=by
 subst hl;exact⟨⟨flatMap_vals_length l,.inr ⟨g,cap,cur,rfl,a,b,c,d,e1,f⟩⟩,hok⟩
variable [Inhabited α]
theorem flat_toList (l:List α):(flatK R.vals R.size l.toArray).toList=l.flatMap R.vals:=by
 apply List.ext_getElem?;intro t
 by_cases ht:t<l.length*R.size
 ·have hs:0<R.size:=by
   rcases Nat.eq_zero_or_pos R.size with h | h
   ·rw[h]at ht;simp at ht
   ·exact h
  have hi:t / R.size<l.length:=Nat.div_lt_of_lt_mul (by rw[Nat.mul_comm];exact ht);have hj:t % R.size<R.size:=Nat.mod_lt _ hs;have hte:t=t / R.size*R.size+t % R.size:=by rw[Nat.mul_comm];exact(Nat.div_add_mod t R.size).symm
  have hv:(R.vals (l[t / R.size]'hi))[t % R.size]? = some ((R.vals (l[t / R.size]'hi))[t % R.size]'(by rw[R.len];exact hj)):=List.getElem?_eq_getElem _;have hg:=flatMap_vals_get l (t / R.size) (t % R.size) _ _ (List.getElem?_eq_getElem hi) hv;rw[← hte]at hg;rw[hg];have h1:(flatK R.vals R.size l.toArray).toList[t]? = some ((flatK R.vals R.size l.toArray)[t]!):=by
   rw[Array.getElem?_toList,Array.getElem?_eq_getElem (by simpa using ht),getElem!_pos _ _ (by simpa using ht)]
  rw[h1,get_flatK _ _ _ _ (by simpa using ht)]
  congr 1
  simp only[List.getElem!_toArray];rw[getElem!_pos l _ hi,getElem!_pos (R.vals (l[t / R.size]'hi)) _ (by rw[R.len];exact hj)]
 ·rw[List.getElem?_eq_none (by simp;omega),List.getElem?_eq_none (by rw[flatMap_vals_length];omega)]
theorem holdsK_of_own (h:Own R e w base (.slice (some ⟨g,0,none⟩) n cap) l):HoldsK R.vals R.size w g 0 l.toArray:=by
 obtain⟨cur,a,b,c,d,e1,f,hl⟩:=own_open h;intro j hj;have hj':j<n*R.size:=by rw[← hl];simpa using hj
 have hnc:n*R.size≤cap*R.size:=Nat.mul_le_mul_right _ c;refine⟨?_,by simp[World.frozen?,b]⟩;have e2:(cur.toList.take (n*R.size))[j]? = (flatK R.vals R.size l.toArray).toList[j]?:=by rw[f,flat_toList]
 rw[List.getElem?_take,if_pos hj',Array.getElem?_toList,Array.getElem?_toList]at e2;simp only[World.cell?,b,Nat.zero_add,Option.isSome_none,Bool.false_eq_true,if_false];rw[e2,Array.getElem?_eq_getElem hj,getElem!_pos (flatK R.vals R.size l.toArray) j hj];rfl
theorem heap_sortK (d:Array α) (m:Nat) (os:Array Obj) (k:Nat) (hk:k<w.heap.size) (hne:k≠g):(sortWorldK R.vals R.size w g 0 m d os).heap[k]? = w.heap[k]?:=by
 unfold sortWorldK putRowK putRow mapBlock grow Sort.ahead;simp only;rw[Array.getElem?_append_left (by simpa using hk),Array.getElem?_modify,if_neg (Ne.symm hne)]
theorem grown_sortK (d:Array α) (m:Nat) (os:Array Obj):w.grownBy (sortWorldK R.vals R.size w g 0 m d os) (some g) :=
 ⟨rfl,rfl,rfl,by unfold sortWorldK putRowK putRow mapBlock grow Sort.ahead;simp,fun k hk hne=>heap_sortK d m os k hk (fun e=>hne (by rw[e]))⟩
theorem own_sortK (h:Own R e w base (.slice (some ⟨g,0,none⟩) n cap) l) (l':List α) (hl':l'.length=n) (m:Nat) (os:Array Obj) (hok:∀ x∈l',R.ok (sortWorldK R.vals R.size w g 0 m l'.toArray os) x) :
  Own R e (sortWorldK R.vals R.size w g 0 m l'.toArray os) base (.slice (some ⟨g,0,none⟩) n cap) l':=by
 obtain⟨cur,a,b,c,d,e1,f,hl⟩:=own_open h;have hnc:n*R.size≤cap*R.size:=Nat.mul_le_mul_right _ c;have hg:g<w.heap.size:=(h.1.lt g rfl).2;have hcur:(sortWorldK R.vals R.size w g 0 m l'.toArray os).heap[g]? = some (.cells (putCells id 0 (flatK R.vals R.size l'.toArray) cur) e (0,0)):=by
  unfold sortWorldK putRowK putRow mapBlock grow Sort.ahead;simp only;rw[Array.getElem?_append_left (by simpa using hg),Array.getElem?_modify,if_pos rfl,b];rfl
 refine own_make a hcur c d (by simpa[putCells]using e1) ?_ hl' hok;rw[← flat_toList];apply List.ext_getElem?;intro j;rw[List.getElem?_take,Array.getElem?_toList,Array.getElem?_toList];have hsz:(flatK R.vals R.size l'.toArray).size=n*R.size:=by simp[hl']
 by_cases hj:j<n*R.size
 ·have hjc:j<cur.size:=by omega
  simp only[if_pos hj,putCells,Array.getElem?_mapIdx,Array.getElem?_eq_getElem hjc,Option.map_some];rw[if_pos (by omega),Array.getElem?_eq_getElem (by omega),Nat.sub_zero,getElem!_pos (flatK R.vals R.size l'.toArray) j (by omega)];rfl
 ·rw[if_neg hj,Array.getElem?_eq_none (by omega)]
theorem perm_of_in {d d':Array α} (h:PermIn 0 d.size d d'):d'.toList.Perm d.toList∧d'.size=d.size:=by
 obtain⟨h1,_,h3⟩:=h;refine⟨?_,h1⟩;have e1:d.extract 0 d.size=d:=by simp
 have e2:d'.extract 0 d.size=d':=by rw[← h1];simp
 rw[e1,e2]at h3;exact h3
theorem sorted_of_in {lt:α→α→Bool} {d:Array α} {n:Nat} (hn:d.size=n) (h:SortedIn lt 0 n d):d.toList.Pairwise fun x y=>lt y x=false:=by
 rw[List.pairwise_iff_getElem];intro i j hi hj hij;have:=h i j (Nat.zero_le _) hij (by rw[← hn];simpa using hj);rw[getElem!_pos d j (by simpa using hj),getElem!_pos d i (by simpa using hi)]at this
 simpa using this
end
theorem cmpK_le {a b c:ByteArray} (h1:cmpS a b≤0) (h2:cmpS b c≤0):cmpS a c≤0:=by
 rcases cmpS_range a b with e | e | e
 ·rcases cmpS_range b c with f | f | f
  ·rw[cmpS_trans e f];omega
  ·rw[cmpS_zero]at f;subst f;omega
  ·omega
 ·rw[cmpS_zero]at e;subst e;exact h2
 ·omega
theorem swoK {α:Type} (key:α→ByteArray):SWO (ltOf fun a b=>cmpS (key a) (key b)) where
 irrefl x:=by
  show decide (cmpS (key x) (key x)<0)=false;rw[(cmpS_zero _ _).2 rfl];rfl
 trans x y z h1 h2:=by
  have h1:decide (cmpS (key x) (key y)<0)=true:=h1;have h2:decide (cmpS (key y) (key z)<0)=true:=h2;show decide (cmpS (key x) (key z)<0)=true;simp only[decide_eq_true_eq]at *;have e1:cmpS (key x) (key y) = -1:=by rcases cmpS_range (key x) (key y) with e | e | e <;> omega
  have e2:cmpS (key y) (key z) = -1:=by rcases cmpS_range (key y) (key z) with e | e | e <;> omega
  rw[cmpS_trans e1 e2];omega
 ntrans x y z h1 h2:=by
  have h1:decide (cmpS (key x) (key y)<0)=false:=h1;have h2:decide (cmpS (key y) (key z)<0)=false:=h2;show decide (cmpS (key x) (key z)<0)=false;simp only[decide_eq_false_iff_not]at *;have a:cmpS (key y) (key x)≤0:=by rw[cmpS_swap];omega
  have b:cmpS (key z) (key y)≤0:=by rw[cmpS_swap];omega
  have:=cmpK_le b a;rw[cmpS_swap]at this;omega
end Go.Proofs.YtpdjjjiknijpkaaGreatDoor