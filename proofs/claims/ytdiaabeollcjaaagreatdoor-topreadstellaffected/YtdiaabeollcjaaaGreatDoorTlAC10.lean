/-
 Several texts of mine as one, without what is not wanted here: XIn, XBlkT, XKp, XExW, XWord, XWordP, XPart, XPath, XSortS.
-/
import Derived.Deep.QuietTactic
import Derived.BigQuiet
import Derived.Test.YtdiaabeollcjaaaGreatDoorTlGb
import Derived.Test.YtdiaabeollcjaaaGreatDoorTlShelf
import Derived.Shelf.Strings.SlTrimAscii
import Derived.Sort.OwnSorted
import Derived.Sort.KeysCollected
import Derived.Lib.OwnBridge
import Derived.Lib.SlicesCompact
set_option linter.unusedVariables false
set_option linter.unusedSimpArgs false
set_option maxRecDepth 100000
set_option maxHeartbeats 8000000
namespace Go.Proofs.YtdiaabeollcjaaaGreatDoor.C10
open Go.RowKit
theorem bel_drewN {B:Nat} {a w:World} (h:Below B a w) (n:Nat):Below B a (w.drewN n):=h.trans ⟨rfl,rfl,rfl,Nat.le_refl _,fun _ _=>rfl⟩
def inR (lo hi n:Int):Bool:=decide (lo≤n)&&decide (n≤hi)
theorem inR_true {lo hi n:Int} (h:inR lo hi n=true):lo≤n∧n≤hi:=by simpa[inR]using h
theorem within_p (n lo hi:Int) (w:World) :
  Calls Tryz.prog 44 #[.int .i64 n,.int .i64 lo,.int .i64 hi] w fun e w'=>e = .returned (.bool (inR lo hi n))∧w'=w:=by
 unfold inR
 by_cases h1:lo≤n
 ·by_cases h2:n≤hi
  ·go_enter Tryz.func44,Tryz.ntmps44;go_wp2;go_ret
   first | (simp;done) | (simp;omega) | (exact⟨by simp;omega,rfl⟩)
  ·go_enter Tryz.func44,Tryz.ntmps44;go_wp2;go_ret
   first | (simp;done) | (simp;omega) | (exact⟨by simp;omega,rfl⟩)
 ·go_enter Tryz.func44,Tryz.ntmps44;go_wp2;go_ret
  first | (simp;done) | (simp;omega) | (exact⟨by simp;omega,rfl⟩)
end Go.Proofs.YtdiaabeollcjaaaGreatDoor.C10
namespace Go.Proofs.YtdiaabeollcjaaaGreatDoor.C10
open Go.ChangeShapes Go.WideShapes Go.Deep Go.RowKit Go.Maps
def Blk (w:World) (b:Nat) (vs:List Value):Prop:=∀ j v,vs[j]? = some v→w.cell? ⟨b,j,none⟩=some v∧w.frozen? ⟨b,j,none⟩=false
theorem Blk.keep {w w':World} {b:Nat} {vs:List Value} (h:Blk w b vs) (hb:w'.heap[b]? = w.heap[b]?):Blk w' b vs:=fun j v hj =>
 ⟨(World.cell?_of_block (a:=⟨b,j,none⟩) hb).trans (h j v hj).1,(World.frozen?_of_block (a:=⟨b,j,none⟩) hb).trans (h j v hj).2⟩
theorem Blk.lt {w:World} {b:Nat} {vs:List Value} (h:Blk w b vs) (hv:vs≠[]):b<w.heap.size:=by
 cases vs with
 | nil=>exact absurd rfl hv
 | cons v vs=>exact cell?_lt (h 0 v rfl).1
theorem Blk.set {w:World} {b k:Nat} {vs:List Value} (h:Blk w b vs) (hk:k<vs.length) (u:Value):Blk (w.setCell ⟨b,k,none⟩ u) b (vs.set k u):=by
 intro j v hj;rw[List.getElem?_set]at hj
 by_cases e:k=j
 ·subst e;rw[if_pos rfl,if_pos hk]at hj;injection hj with hj;subst hj;obtain⟨c,f⟩:=h k vs[k] (List.getElem?_eq_getElem hk);exact⟨World.cell?_setCell_same' _ _ _ (by rw[c];rfl),by rw[World.frozen?_setCell];exact f⟩
 ·rw[if_neg e]at hj;obtain⟨c,f⟩:=h j v hj;exact⟨by rw[World.cell?_setCell_other _ _ _ _ (by simp <;> omega)];exact c,by rw[World.frozen?_setCell];exact f⟩
theorem keepC {W w':World} {a:Addr} {v:Value} (hb:Below W.heap.size W w') (h:W.cell? a=some v):w'.cell? a=some v:=(hb.cell (cell?_lt h)).trans h
theorem blk_new (w:World) (vs:List Value) (T:TypeId):Blk (w.alloc (.cells vs.toArray T)) w.heap.size vs:=fun j v hj=>by
 have:(w.alloc (.cells vs.toArray T)).cell? ⟨w.heap.size,j,none⟩=vs.toArray[j]?:=by simp[go_sem]
 rw[this];exact⟨by simpa using hj,by simp[go_sem]⟩
theorem blk_below {w w':World} {b:Nat} {vs:List Value} (h:Blk w b vs) (hv:vs≠[]) (hb:Below w.heap.size w w'):Blk w' b vs:=h.keep (hb.block b (h.lt hv))
structure Kp (S:Nat→Prop) (w w':World):Prop where
 os:w'.os=w.os
 tape:w'.tape=w.tape
 output:w'.output=w.output
 size:w.heap.size≤w'.heap.size
 block:∀ k,k<w.heap.size→¬ S k→w'.heap[k]? = w.heap[k]?
section
variable {S:Nat→Prop} {w w' w'':World}
theorem Kp.refl (S:Nat→Prop) (w:World):Kp S w w:=⟨rfl,rfl,rfl,Nat.le_refl _,fun _ _ _=>rfl⟩
theorem Kp.trans (h:Kp S w w') (k:Kp S w' w''):Kp S w w'' :=
 ⟨k.os.trans h.os,k.tape.trans h.tape,k.output.trans h.output,Nat.le_trans h.size k.size,fun i hi hs=>(k.block i (Nat.lt_of_lt_of_le hi h.size) hs).trans (h.block i hi hs)⟩
theorem Kp.mono {S':Nat→Prop} (h:Kp S w w') (hs:∀ k,k<w.heap.size→S k→S' k):Kp S' w w':=⟨h.os,h.tape,h.output,h.size,fun k hk hn=>h.block k hk fun e=>hn (hs k hk e)⟩
theorem Kp.old {S':Nat→Prop} (h:Kp S w w') (k:Kp S' w' w'') (hs:∀ i,i<w.heap.size→S' i→S i):Kp S w w'' :=
 ⟨k.os.trans h.os,k.tape.trans h.tape,k.output.trans h.output,Nat.le_trans h.size k.size,fun i hi hn=>(k.block i (Nat.lt_of_lt_of_le hi h.size) fun e=>hn (hs i hi e)).trans (h.block i hi hn)⟩
theorem Kp.of_below (h:Below w.heap.size w w'):Kp S w w':=⟨h.os,h.tape,h.output,h.size,fun k hk _=>h.block k hk⟩
theorem Kp.of_grown {row:Option Nat} (h:w.grownBy w' row) (hs:∀ k,row=some k→S k):Kp S w w':=⟨h.os,h.tape,h.output,h.size,fun k hk hn=>h.block k hk fun e=>hn (hs k e.symm)⟩
theorem Kp.drew (h:Kp S w w'):Kp S w w'.drew:=⟨h.os,h.tape,h.output,h.size,h.block⟩
theorem Kp.alloc (h:Kp S w w') (o:Obj):Kp S w (w'.alloc o):=h.trans (Kp.of_below ((Below.refl _ _).alloc (Nat.le_refl _) o))
theorem Kp.setCell (h:Kp S w w') {a:Addr} (ha:w.heap.size≤a.block∨S a.block) (u:Value):Kp S w (w'.setCell a u):=by
 have hg:=grown_setc w' a u;refine⟨hg.os.trans h.os,hg.tape.trans h.tape,hg.output.trans h.output,Nat.le_trans h.size hg.size,fun k hk hn=>(hg.block k (Nat.lt_of_lt_of_le hk h.size) fun e=>?_).trans (h.block k hk hn)⟩;injection e with e;subst e
 rcases ha with ha | ha
 ·omega
 ·exact hn ha
theorem Kp.below {B:Nat} (h:Kp S w w') (hB:B≤w.heap.size) (hs:∀ k,S k→B≤k):Below B w w':=⟨h.os,h.tape,h.output,h.size,fun k hk=>h.block k (Nat.lt_of_lt_of_le hk hB) fun e=>by have:=hs k e;omega⟩
theorem Kp.cell (h:Kp S w w') {a:Addr} {v:Value} (hc:w.cell? a=some v) (hs:¬ S a.block):w'.cell? a=some v:=(World.cell?_of_block (w:=w) (h.block a.block (cell?_lt hc) hs)).trans hc
theorem Kp.slAt {α:Type} {R:Rd α} {A:Option Addr} {n:Nat} {l:List α} (h:Kp S w w') (hl:SlAt R w A n l) (hs:0<n→∀ ad,A=some ad→¬ S ad.block) (hok:∀ x,R.ok w x→R.ok w' x):SlAt R w' A n l:=by
 refine⟨hl.1,fun hn=>?_,fun x hx=>hok x (hl.2.2 x hx)⟩;obtain⟨b,off,hA,hc⟩:=hl.2.1 hn;exact⟨b,off,hA,fun i x hx j v hv=>h.cell (hc i x hx j v hv) (show ¬ S b from hs hn ⟨b,off,none⟩ hA)⟩
theorem Kp.blk {b:Nat} {vs:List Value} (h:Kp S w w') (hb:Blk w b vs) (hv:vs≠[]) (hs:¬ S b):Blk w' b vs:=hb.keep (h.block b (hb.lt hv) hs)
theorem Kp.tmap {P:Program} {k:TypeId} {κ α:Type} {K:KD P k κ} {val:α→Value} {b c:Nat} {f:κ→Option α} (h:Kp S w w') (hm:TMap K val w b f c) (hs:¬ S b):TMap K val w' b f c:=by
 obtain⟨D,⟨es,clock,he,r⟩,r2⟩:=hm;have hlt:b<w.heap.size:=by
  rcases Nat.lt_or_ge b w.heap.size with hl | hg
  ·exact hl
  ·rw[Array.getElem?_eq_none hg]at he;cases he
 exact⟨D,⟨es,clock,(h.block b hlt hs).trans he,r⟩,r2⟩
theorem Kp.own {α:Type} {R:Rd α} {e:TypeId} {base:Nat} {v:Value} {l:List α} (h:Kp S w w') (ho:Own R e w base v l) (hs:∀ b,v.ownBlock=some b→¬ S b) (hok:∀ x,R.ok w x→R.ok w' x):Own R e w' base v l:=by
 rcases ho.1.2 with hn | ⟨g,cap,cur,rfl,hb,hgg,rest⟩
 ·exact⟨⟨ho.1.1,.inl hn⟩,fun x hx=>hok x (ho.2 x hx)⟩
 ·refine⟨⟨ho.1.1,.inr ⟨g,cap,cur,rfl,hb,?_,rest⟩⟩,fun x hx=>hok x (ho.2 x hx)⟩;rw[h.block g (Array.getElem?_eq_some_iff.1 hgg).1 (hs g rfl)];exact hgg
end
structure FV where
 path:ByteArray
 run:Bool
 A:Option Addr
 n:Nat
 cap:Nat
def valF (x:FV):Value:=.agg #[.string x.path,.bool x.run,.slice x.A x.n x.cap]
def valL (x:Lk):Value:=.agg #[.string x.path,.string x.digest,.bool x.run]
theorem injF:InjV valF:=fun a b h=>by
 cases a;cases b
 simp[valF]at h;obtain⟨h1,h2,h3,h4,h5⟩:=h;subst h1;subst h2;subst h3;subst h4;subst h5;rfl
theorem injL:InjV valL:=fun a b h=>by
 cases a;cases b
 simp[valL]at h;obtain⟨h1,h2,h3⟩:=h;subst h1;subst h2;subst h3;rfl
noncomputable def KS:KD Tryz.prog 9 ByteArray:=KStr Tryz.underlying9
def fv0:FV:=⟨⟨#[]⟩,false,none,0,0⟩
def lk0:Lk:=⟨⟨#[]⟩,⟨#[]⟩,false⟩
theorem zeroF (w:World):(zeroValue 58).run Tryz.prog w = .ok (valF fv0) w:=by kernel_rfl
theorem zeroL (w:World):(zeroValue 38).run Tryz.prog w = .ok (valL lk0) w:=by kernel_rfl
def WS (n:Nat):Nat→Prop:=fun k=>k=n+1∨k=n+2∨k=n+3
def TS (n T:Nat):Nat→Prop:=fun k=>WS n k∨T≤k
theorem Kp.ts {n:Nat} {w w':World} (h:Kp (WS n) w w') (T:Nat):Kp (TS n T) w w':=h.mono fun _ _ h=>.inl h
def Bts (S:Nat→Prop) (w:World) (A:Option Addr) (n cap:Nat) (l:List UInt8):Prop:=(RSl RU8).ok w ⟨A,n,cap,l⟩∧(0<n→∀ ad,A=some ad→¬ S ad.block)
theorem Bts.kp {S:Nat→Prop} {w w':World} {A:Option Addr} {n cap:Nat} {l:List UInt8} (h:Bts S w A n cap l) (hk:Kp S w w'):Bts S w' A n cap l :=
 ⟨⟨hk.slAt h.1.1 h.2 (fun _ h=>h),h.1.2⟩,h.2⟩
theorem Bts.nil (S:Nat→Prop) (w:World):Bts S w none 0 0 []:=⟨⟨⟨rfl,fun h=>absurd h (Nat.lt_irrefl 0),fun x hx=>by cases hx⟩,Nat.le_refl _,Nat.zero_le _,fun _=>rfl⟩,fun h=>absurd h (Nat.lt_irrefl 0)⟩
theorem Bts.ws {n T:Nat} {w:World} {A:Option Addr} {m cap:Nat} {l:List UInt8} (h:Bts (TS n T) w A m cap l):Bts (WS n) w A m cap l:=⟨h.1,fun h0 ad hA hs=>h.2 h0 ad hA (.inl hs)⟩
structure FileIn (S:Nat→Prop) (w:World) (p:ByteArray) (v:FV) (x:PF):Prop where
 path:v.path=p
 run:v.run=x.run
 bts:Bts S w v.A v.n v.cap x.bs
 len:x.bs.length≤100000
theorem FileIn.kp {S:Nat→Prop} {w w':World} {p:ByteArray} {v:FV} {x:PF} (h:FileIn S w p v x) (hk:Kp S w w'):FileIn S w' p v x:=⟨h.path,h.run,h.bts.kp hk,h.len⟩
def FilesAt (S:Nat→Prop) (w:World) (f:ByteArray→Option FV) (g:ByteArray→Option PF):Prop:=∀ p,(f p=none∧g p=none)∨∃ v x,f p=some v∧g p=some x∧FileIn S w p v x
theorem FilesAt.kp {S:Nat→Prop} {w w':World} {f:ByteArray→Option FV} {g:ByteArray→Option PF} (h:FilesAt S w f g) (hk:Kp S w w'):FilesAt S w' f g:=fun p=>by
 rcases h p with h | ⟨v,x,h1,h2,h3⟩
 ·exact .inl h
 ·exact .inr ⟨v,x,h1,h2,h3.kp hk⟩
def wCells (x:Action) (n:Nat) (told:ByteArray) (total:Int):List Value :=
 [.string x.tool,.slice x.commands.A x.commands.n x.commands.cap,.slice x.vars.A x.vars.n x.vars.cap,.slice x.outputs.A x.outputs.n x.outputs.cap,.slice x.needs.A x.needs.n x.needs.cap,.int .i64 x.time,
  .map (some n),.map (some (n+1)),.map (some (n+2)),.string told,.int .i64 total]
structure WA (W0:World) (n T:Nat) (x:Action) (I:Inp) (s:ES) (cl:Nat) (w:World):Prop where
 blk:Blk w (n+3) (wCells x n s.told s.total)
 fi:∃ f c,TMap KS valF w n f c∧FilesAt (TS n T) w f I
 fo:∃ f,TMap KS valF w (n+1) f s.nw∧FilesAt (TS n T) w f s.wr
 fl:TMap KS valL w (n+2) s.lk cl
 told_:s.told.size≤100000
 base:W0.heap.size≤n
 bel:Below W0.heap.size W0 w
 top:T≤w.heap.size
section
variable {W0:World} {n T:Nat} {x:Action} {I:Inp} {s:ES} {cl:Nat} {w w':World}
theorem WA.lt (h:WA W0 n T x I s cl w):n+4≤w.heap.size:=by have:=h.blk.lt (by simp[wCells]);omega
theorem wS_ge {k:Nat} (h:WS n k):n+1≤k:=by rcases h with h | h | h <;> omega
theorem wS_le {k:Nat} (h:WS n k):k≤n+3:=by rcases h with h | h | h <;> omega
theorem WA.far (h:WA W0 n T x I s cl w) {S:Nat→Prop} (hk:Kp S w w') (hS:∀ k,k<w.heap.size→S k→n+4≤k∧T≤k):WA W0 n T x I s cl w':=by
 have hl:=h.lt;have hT:Kp (TS n T) w w':=hk.mono fun k hl hs=>.inr (hS k hl hs).2;have hn:∀ k,k<n+4→¬ S k:=fun k hk' hs=>by have:=(hS k (by omega) hs).1;omega
 obtain⟨f,c,hf,hf2⟩:=h.fi;obtain⟨g,hg,hg2⟩:=h.fo;refine⟨hk.blk h.blk (by simp[wCells]) (hn _ (by omega)),⟨f,c,hk.tmap hf (hn _ (by omega)),hf2.kp hT⟩,⟨g,hk.tmap hg (hn _ (by omega)),hg2.kp hT⟩,hk.tmap h.fl (hn _ (by omega)),h.told_,h.base,h.bel.trans ?_,Nat.le_trans h.top hk.size⟩;have:=h.base;exact⟨hk.os,hk.tape,hk.output,hk.size,fun k hk'=>hk.block k (by omega) (hn k (by omega))⟩
theorem WA.below (h:WA W0 n T x I s cl w) (hb:Below w.heap.size w w'):WA W0 n T x I s cl w':=h.far (S:=fun _=>False) (Kp.of_below hb) fun _ _ h=>h.elim
theorem WA.cells (h:WA W0 n T x I s cl w):w.cell? ⟨n+3,1,none⟩=some (.slice x.commands.A x.commands.n x.commands.cap)∧w.cell? ⟨n+3,2,none⟩=some (.slice x.vars.A x.vars.n x.vars.cap)∧w.cell? ⟨n+3,3,none⟩=some (.slice x.outputs.A x.outputs.n x.outputs.cap) ∧
  w.cell? ⟨n+3,6,none⟩=some (.map (some n))∧w.cell? ⟨n+3,7,none⟩=some (.map (some (n+1)))∧w.cell? ⟨n+3,8,none⟩=some (.map (some (n+2)))∧w.cell? ⟨n+3,9,none⟩=some (.string s.told)∧w.cell? ⟨n+3,10,none⟩=some (.int .i64 s.total) :=
 ⟨(h.blk 1 _ rfl).1,(h.blk 2 _ rfl).1,(h.blk 3 _ rfl).1,(h.blk 6 _ rfl).1,(h.blk 7 _ rfl).1,(h.blk 8 _ rfl).1,(h.blk 9 _ rfl).1,(h.blk 10 _ rfl).1⟩
theorem WA.look (h:WA W0 n T x I s cl w) {lk':ByteArray→Option Lk} {cl':Nat} (hm:TMap KS valL w' (n+2) lk' cl') (hg:w.grownBy w' (some (n+2))):WA W0 n T x I { s with lk:=lk' } cl' w':=by
 have hl:=h.lt;have hk:Kp (WS n) w w':=Kp.of_grown hg fun k hk=>by injection hk with hk;subst hk;exact .inr (.inl rfl)
 obtain⟨f,c,hf,hf2⟩:=h.fi;obtain⟨g,hg',hg2⟩:=h.fo;exact⟨h.blk.keep (hg.block _ (by omega) (by simp)),⟨f,c,hf.kept hg (by simp),hf2.kp (hk.ts T)⟩,⟨g,hg'.kept hg (by simp),hg2.kp (hk.ts T)⟩,hm,h.told_,h.base,h.bel.trans (hk.below (by have:=h.base;omega) fun k hk=>by have:=wS_ge hk;have:=h.base;omega),Nat.le_trans h.top hk.size⟩
end
end Go.Proofs.YtdiaabeollcjaaaGreatDoor.C10
namespace Go.Proofs.YtdiaabeollcjaaaGreatDoor.C10
open Go.RowKit
theorem str_get {s:ByteArray} {k:Nat} (h:k<s.size):s.data.toList[k]? = some s[k]:=by
 rw[List.getElem?_eq_getElem (by simpa using h)];rfl
theorem all_step {p:UInt8→Bool} {s:ByteArray} {k:Nat} {b:Bool} (h:k<s.size) (hb:b=(s.data.toList.drop k).all p):b=(p s[k]&&(s.data.toList.drop (k+1)).all p):=by
 rw[hb,List.drop_eq_getElem_cons (by simpa using h),List.all_cons];rfl
theorem ret_bool {a b:Bool} (h:a=b):Ending.returned (.bool a) = .returned (.bool b):=by rw[h]
end Go.Proofs.YtdiaabeollcjaaaGreatDoor.C10
namespace Go.Proofs.YtdiaabeollcjaaaGreatDoor.C10
open Go.RowKit Go.Shelf
theorem trim_nil {s:ByteArray} {cs:List UInt8} (h:s.data.toList.all (cs.contains ·)=true):(⟨(Lib.trimS s.data.toList cs).toArray⟩:ByteArray)=⟨#[]⟩:=by
 rw[(trimS_nil _ _).2 h]
theorem trim_some {s:ByteArray} {cs:List UInt8} (h:s.data.toList.all (cs.contains ·)=false):∃ c r,(⟨(Lib.trimS s.data.toList cs).toArray⟩:ByteArray)=⟨(c::r).toArray⟩:=by
 cases hd:Lib.trimS s.data.toList cs with
 | nil=>rw[trimS_nil]at hd;rw[hd]at h;cases h
 | cons c r=>exact⟨c,r,rfl⟩
end Go.Proofs.YtdiaabeollcjaaaGreatDoor.C10
namespace Go.Proofs.YtdiaabeollcjaaaGreatDoor.C10
open Go.RowKit
def pch (b:UInt8):Bool:=decide ((97≤b.toNat∧b.toNat≤122)∨(65≤b.toNat∧b.toNat≤90)∨(48≤b.toNat∧b.toNat≤57)∨b.toNat=46∨b.toNat=95∨b.toNat=45∨b.toNat=43)
def partL (l:List UInt8):Bool:=l.all pch && !(l == []) && !(l == [46]) && !(l == [46,46])
def partB (s:ByteArray):Bool:=partL s.data.toList
theorem idx_ge (x:UInt8):decide (Lib.indexByte [46,95,45,43] x ≥ 0)=decide (x.toNat=46∨x.toNat=95∨x.toNat=45∨x.toNat=43):=by
 have:=byte_all (p:=fun x=>decide (Lib.indexByte [46,95,45,43] x ≥ 0)==decide (x.toNat=46∨x.toNat=95∨x.toNat=45∨x.toNat=43)) (by decide +kernel) x
 simpa using this
theorem idx_byte (x:UInt8) (w:World):Calls Tryz.prog 156 #[.string ⟨#[46,95,45,43]⟩,.int .u8 x.toNat] w fun e w'=>e = .returned (.int .i64 (Lib.indexByte [46,95,45,43] x))∧w'=w:=by
 have:=Tryz.strings_IndexByte ⟨#[46,95,45,43]⟩ x.toNat w
 rwa [show ((x.toNat:Int).toNat.toUInt8)=x by simp,show (⟨#[46,95,45,43]⟩:ByteArray).data.toList = [46,95,45,43] from rfl]at this
def PartRel (s:ByteArray) (b:Bool) (i:Value):Prop:=∃ k:Nat,k≤s.size∧i = .int .i64 k∧b=(s.data.toList.drop k).all pch
theorem inPart_any (x:UInt8) (w:World) (b:Bool) (hb:pch x=b) :
  Calls Tryz.prog 111 #[.int .u8 x.toNat] w fun e w'=>e = .returned (.bool b)∧w'=w:=by
 have hx:x.toNat<256:=x.toNat_lt;have hid:=idx_ge x;unfold pch at hb;obtain⟨c,hc⟩:∃ c,Lib.indexByte [46,95,45,43] x=c:=⟨_,rfl⟩;have hidx:=idx_byte x;rw[hc]at hid hidx;replace hid:(0≤c)↔(x.toNat=46∨x.toNat=95∨x.toNat=45∨x.toNat=43):=decide_eq_decide.1 hid;obtain⟨hcH,hidxH⟩:=hq2 hc (Lib.hid hidx);clear hc hidx;go_enter Tryz.func111,Tryz.ntmps111;go_wp2_with (go_at_call 156;refine(hidxH.out _).mono ?_;rintro e wz ⟨rfl,rfl⟩)
 all_goals first
  | (exfalso;omega)
  | (go_ret;refine⟨ret_bool ?_,rfl⟩;rw[← hb,Bool.eq_iff_iff];simp only[Bool.or_eq_true,decide_eq_true_iff];first | omega | (simp;omega))
theorem part_loop {s:ByteArray} {k:Nat} {b:Bool} (h:k<s.size) (hb:b=(s.data.toList.drop k).all pch):b=(pch s[k]&&(s.data.toList.drop (k+1)).all pch):=all_step h hb
theorem isPart_any (s:ByteArray) (w:World) (hs:s.size≤9223372036854775807) (b:Bool) (hb:partB s=b) :
  Calls Tryz.prog 68 #[.string s] w fun e w'=>e = .returned (.bool b)∧w=w':=by
 obtain⟨a,ha⟩:∃ a,a=s.data.toList.all pch:=⟨_,rfl⟩;unfold partB partL at hb;rw[← ha,← Lib.toList_data s]at hb;obtain⟨haH,hbH⟩:=hq2 ha (Lib.hid hb);clear ha hb;go_enter Tryz.func68,Tryz.ntmps68;go_wp2
 go_loop [6] (fun i=>PartRel s a i) (fun i=>s.size-(intOf i).toNat)
 case atStart=>exact⟨0,Nat.zero_le _,rfl,haH.out⟩
 case round =>
  obtain⟨k,hk,rfl,hr⟩:=hrel;have hrH:=Lib.hid hr;clear hr
  by_cases hlt:k<s.size
  ·have hs:=part_loop hlt hrH.out
   cases hp:pch s[k]
   ·rw[hp,Bool.false_and]at hs;have hb:=hbH.out;rw[hs,Bool.false_and,Bool.false_and,Bool.false_and]at hb;subst hb;clear hs;have hpH:=Lib.hid hp;clear hp;go_wp2_with (go_at_call 111;refine(inPart_any _ _ _ (by exact hpH.out)).mono ?_;rintro e wz ⟨rfl,rfl⟩);go_ret;exact⟨rfl,rfl⟩
   ·rw[hp,Bool.true_and]at hs;have R:PartRel s a (.int .i64 (k+1)):=⟨k+1,by omega,by go_num,hs⟩;clear hs;obtain⟨hpH,RH⟩:=hq2 hp (Lib.hid R);clear hp R;go_wp2_with (go_at_call 111;refine(inPart_any _ _ _ (by exact hpH.out)).mono ?_;rintro e wz ⟨rfl,rfl⟩);refine⟨?rel,?measure⟩
    case measure=>(simp[intOf];omega)
    case rel=>first | exact RH.out | exact⟨rfl,RH.out⟩
  ·have e:s.data.toList.drop k = []:=List.drop_eq_nil_of_le (by simp;omega);have ha2:a=true:=by have:=hrH.out;rw[e]at this;exact this
   clear hrH e;subst ha2;go_wp2
   all_goals (go_ret;refine⟨ret_bool ?_,rfl⟩;rw[← hbH.out];simp[*])
def parts (s:ByteArray):List ByteArray:=Lib.splitB ⟨#[47]⟩ 0 (Lib.countB s ⟨#[47]⟩) s
def pathB (s:ByteArray):Bool:=inR 1 200 s.size&&(parts s).all partB
theorem parts_size {s x:ByteArray} (h:x∈parts s):x.size≤s.size:=splitB_size _ _ _ _ h
theorem parts_len (s:ByteArray):(parts s).length=Lib.countB s ⟨#[47]⟩+1:=Lib.splitB_all _ (by decide) 0 _ s rfl
theorem split_any (s:ByteArray) (w:World) (hm:MaxLenAt w) (hs:s.size<4294967281) :
  Calls Tryz.prog 67 #[.string s,.string ⟨#[47]⟩] w fun e w'=>∃ (A:Option Addr) (n:Nat),e = .returned (.slice A n n)∧SlAt RStr w' A n (parts s)∧Below w.heap.size w w':=by
 obtain⟨m,hm⟩:=hm;refine(Tryz.strings_Split s ⟨#[47]⟩ m w hs hm (by decide)).mono ?_;rintro e w' ⟨rfl,rfl⟩;refine⟨_,_,rfl,⟨parts_len s,fun _=>⟨_,_,rfl,fun i x hx j v hv=>?_⟩,fun x hx=>?_⟩,(Below.refl _ _).alloc (Nat.le_refl _) _⟩
 ·match j,hv with
  | 0,hv =>
   simp only[RStr,List.getElem?_cons_zero,Option.some.injEq]at hv;subst hv;have:((parts s).map Value.string)[i]? = some (.string x):=by rw[List.getElem?_map,hx];rfl
   simp only[RStr,Nat.mul_one,Nat.zero_add,Nat.add_zero];rw[cell_new]
   simpa[parts]using this
  | n+1,hv=>simp[RStr]at hv
 ·have:=parts_size hx;show x.size≤maxLen;unfold maxLen;omega
theorem drop_all {α:Type} {p:α→Bool} {l:List α} {k:Nat} {x:α} (h:l[k]? = some x):(l.drop k).all p=(p x&&(l.drop (k+1)).all p):=by
 rw[drop_cons h,List.all_cons]
def PathRel (l:List ByteArray) (a:Bool) (i:Value):Prop:=∃ k:Nat,k≤l.length∧i = .int .i64 k∧(l.drop k).all partB=a
theorem isPath_any (s:ByteArray) (w:World) (hm:MaxLenAt w) (b:Bool) (hb:pathB s=b) :
  Calls Tryz.prog 38 #[.string s] w fun e w'=>e = .returned (.bool b)∧Below w.heap.size w w':=by
 unfold pathB inR at hb
 by_cases h0:1≤s.size
 ·by_cases h1:s.size≤200
  ·rw[decide_eq_true (by omega),decide_eq_true (by omega),Bool.true_and,Bool.true_and]at hb;obtain⟨hmH,hbH⟩:=hq2 hm (Lib.hid hb);clear hm hb;go_enter Tryz.func38,Tryz.ntmps38;go_wp2_with fail;refine(split_any s _ hmH.out (by omega)).mono ?_;rintro e w1 ⟨A,len,rfl,hl,hb1⟩;have hll:=hl.1;have hlen:len≤4294967281:=by rw[← hll,parts_len];have:=Lib.countB_le ⟨#[47]⟩ (by decide) _ s (Nat.le_refl _);omega
   have hsz:∀ x∈parts s,x.size≤9223372036854775807:=fun x hx=>by have:=parts_size hx;omega
   obtain⟨l,hpl⟩:∃ l,parts s=l:=⟨_,rfl⟩;rw[hpl]at hl hll hsz hbH;obtain⟨hlH,hb1H,hllH,hszH,hplH⟩:=hqb hl hb1 hll hsz (Lib.hid hpl);clear hl hb1 hll hsz hpl;go_wp2
   go_loop [16] (fun i=>PathRel l b i) (fun i=>len-(intOf i).toNat)
   case atStart=>exact⟨0,Nat.zero_le _,rfl,hbH.out⟩
   case round =>
    obtain⟨k,hk,rfl,hr⟩:=hrel;have hkl:k≤len:=by have:=hllH.out;omega
    by_cases hlt:k<len
    ·obtain⟨b0,off,hA,_⟩:=hlH.out.2.1 (by omega);subst hA;obtain⟨x,hx⟩:∃ x,l[k]? = some x:=⟨l[k]'(by have:=hllH.out;omega),List.getElem?_eq_getElem _⟩;have c0:=cell_Str hlH.out hx;have hkl2:k+1≤l.length:=by have:=hllH.out;omega
     have hxs:=hszH.out x (List.mem_of_getElem? hx);rw[drop_all hx]at hr;obtain⟨p,hp⟩:∃ p,partB x=p:=⟨_,rfl⟩;rw[hp]at hr;obtain⟨hxH,hpH⟩:=hq2 hx (Lib.hid hp);clear hx hp
     cases p
     ·rw[Bool.false_and]at hr;subst hr;go_wp2_with (go_at_call 68;refine(isPart_any x _ hxs _ (by exact hpH.out)).mono ?_;rintro e wz ⟨rfl,rfl⟩);go_ret;exact⟨rfl,hb1H.out⟩
     ·rw[Bool.true_and]at hr;have R:PathRel l b (.int .i64 (k+1)):=⟨k+1,hkl2,by go_num,hr⟩;obtain⟨RH,hrH⟩:=hq2 R (Lib.hid hr);clear R hr;go_wp2_with (go_at_call 68;refine(isPart_any x _ hxs _ (by exact hpH.out)).mono ?_;rintro e wz ⟨rfl,rfl⟩);refine⟨?rel,?measure⟩
      case measure=>(simp[intOf];omega)
      case rel=>first | exact RH.out | exact⟨rfl,RH.out⟩
    ·have e:l.drop k = []:=List.drop_eq_nil_of_le (by have:=hllH.out;omega);rw[e]at hr;subst hr;clear e;go_wp2;go_ret;exact⟨rfl,hb1H.out⟩
  ·rw[decide_eq_false (p:=(s.size:Int)≤200) (by omega),Bool.and_false,Bool.false_and]at hb;subst hb;go_enter Tryz.func38,Tryz.ntmps38;go_wp2;go_ret;exact⟨rfl,Below.refl _ _⟩
 ·rw[decide_eq_false (by omega),Bool.false_and,Bool.false_and]at hb;subst hb;go_enter Tryz.func38,Tryz.ntmps38;go_wp2;go_ret;exact⟨rfl,Below.refl _ _⟩
end Go.Proofs.YtdiaabeollcjaaaGreatDoor.C10
namespace Go.Proofs.YtdiaabeollcjaaaGreatDoor.C10
open Go.ChangeShapes Go.WideShapes Go.Deep Go.RowKit Go.Sort
def bsOf (x:List UInt8):ByteArray:=⟨x.toArray⟩
theorem bsOf_data (s:ByteArray):bsOf s.data.toList=s:=by cases s;simp[bsOf]
theorem data_bsOf (x:List UInt8):(bsOf x).data.toList=x:=by simp[bsOf]
def dat (l:List ByteArray):List (List UInt8):=l.map (·.data.toList)
def und (l:List (List UInt8)):List ByteArray:=l.map bsOf
theorem und_dat (l:List ByteArray):und (dat l)=l:=by simp[und,dat,Function.comp_def,bsOf_data]
theorem dat_und (l:List (List UInt8)):dat (und l)=l:=by simp[und,dat,Function.comp_def,data_bsOf]
theorem vals_dat (l:List ByteArray):l.flatMap RStr.vals=(dat l).map encStr:=by
 have h:l.flatMap RStr.vals=l.map Value.string:=by
  induction l with
  | nil=>rfl
  | cons x s ih=>rw[List.flatMap_cons,ih];rfl
 rw[h,dat,Lib.map_encStr]
theorem own_dat {e:TypeId} {w:World} {base:Nat} {v:Value} {l:List ByteArray} (h:Own RStr e w base v l):w.ownsRow base e 1 v l.length ((dat l).map encStr):=by
 have:=h.1
 rwa [vals_dat]at this
theorem own_und {e:TypeId} {w:World} {base n:Nat} {v:Value} {l:List (List UInt8)} (h:w.ownsRow base e 1 v n (l.map encStr)) (hn:n=l.length) (hs:∀ x∈l,x.length≤maxLen):Own RStr e w base v (und l):=by
 subst hn;refine⟨?_,fun x hx=>?_⟩
 ·rw[vals_dat,dat_und,show (und l).length=l.length by simp[und]];exact h
 ·obtain⟨y,hy,rfl⟩:=List.mem_map.1 hx;have:=hs y hy;show y.toArray.size≤maxLen
  simpa using this
def sortB (l:List ByteArray):List ByteArray:=und ((dat l).mergeSort (fun x y=>decide (x≤y)))
def compB (l:List ByteArray):List ByteArray:=und (Lib.compact (dat l))
theorem mem_und {l:List (List UInt8)} {s:ByteArray}:s∈und l↔s.data.toList∈l:=by
 constructor
 ·intro h;obtain⟨y,hy,rfl⟩:=List.mem_map.1 h
  rwa [data_bsOf]
 ·intro h;exact List.mem_map.2 ⟨_,h,bsOf_data s⟩
theorem mem_dat {l:List ByteArray} {x:List UInt8}:x∈dat l↔bsOf x∈l:=by
 constructor
 ·intro h;obtain⟨y,hy,rfl⟩:=List.mem_map.1 h
  rwa [bsOf_data]
 ·intro h;exact List.mem_map.2 ⟨_,h,data_bsOf x⟩
theorem mem_sortB {l:List ByteArray} {s:ByteArray}:s∈sortB l↔s∈l:=by
 rw[sortB,mem_und,List.mem_mergeSort,mem_dat,bsOf_data]
theorem leB_trans:∀ a b c:List UInt8,decide (a≤b)=true→decide (b≤c)=true→decide (a≤c)=true:=fun a b c h1 h2=>by simp only[decide_eq_true_eq]at *;exact List.le_trans h1 h2
theorem leB_total:∀ a b:List UInt8,(decide (a≤b)||decide (b≤a))=true:=fun a b=>by simp only[Bool.or_eq_true,decide_eq_true_eq];exact List.le_total a b
def Rising (l:List ByteArray):Prop:=(dat l).Pairwise (fun a b=>a≤b∧a≠b)
theorem Rising.eq {l l':List ByteArray} (h:Rising l) (h':Rising l') (hm:∀ s,s∈l↔s∈l'):l=l':=by
 have hp:(dat l).Perm (dat l'):=by
  refine(List.perm_ext_iff_of_nodup (h.imp fun h=>h.2) (h'.imp fun h=>h.2)).2 fun x=>?_;rw[mem_dat,mem_dat,hm]
 have he:dat l=dat l':=List.Perm.eq_of_pairwise (le:=fun a b:List UInt8=>a≤b) (fun a b _ _ h1 h2=>List.le_antisymm h1 h2) (h.imp fun h=>h.1) (h'.imp fun h=>h.1) hp;rw[← und_dat l,he,und_dat]
theorem compact_rise (d:Array (List UInt8)) (hs:∀ i j,i≤j→j<d.size→d[i]!≤d[j]!):∀ m,m≤d.size→(Lib.compactUpTo d m).Pairwise (fun a b=>a≤b∧a≠b)∧∀ x,x∈Lib.compactUpTo d m↔∃ j,j<m∧d[j]! = x
 | 0,_=>⟨by simp[Lib.compactUpTo],fun x=>by simp[Lib.compactUpTo]⟩
 | m+1,hm=>by
  obtain⟨h1,h2⟩:=compact_rise d hs m (by omega);rw[Lib.compactUpTo_succ]
  by_cases hk:Lib.keeps d m=true
  ·rw[if_pos hk];refine⟨List.pairwise_append.2 ⟨h1,by simp,fun a ha b hb=>?_⟩,fun x=>?_⟩
   ·simp only[List.mem_singleton]at hb;subst hb;obtain⟨j,hj,rfl⟩:=(h2 a).1 ha;refine⟨hs j m (by omega) (by omega),fun e=>?_⟩;have hk':m=0∨d[m]!≠d[m-1]!:=by simpa[Lib.keeps]using hk
    rcases hk' with h0 | h0
    ·omega
    ·refine h0 (List.le_antisymm ?_ (hs (m-1) m (by omega) (by omega)));rw[← e];exact hs j (m-1) (by omega) (by omega)
   ·rw[List.mem_append,h2,List.mem_singleton]
    constructor
    ·rintro(⟨j,hj,rfl⟩ | rfl)
     ·exact⟨j,by omega,rfl⟩
     ·exact⟨m,by omega,rfl⟩
    ·rintro⟨j,hj,rfl⟩
     by_cases e:j=m
     ·subst e;exact Or.inr rfl
     ·exact Or.inl ⟨j,by omega,rfl⟩
  ·rw[if_neg hk,List.append_nil];have hk':¬ m=0∧d[m]! = d[m-1]!:=by simpa[Lib.keeps]using hk
   refine⟨h1,fun x=>?_⟩;rw[h2]
   constructor
   ·rintro⟨j,hj,rfl⟩;exact⟨j,by omega,rfl⟩
   ·rintro⟨j,hj,rfl⟩
    by_cases e:j=m
    ·subst e;exact⟨j-1,by omega,hk'.2.symm⟩
    ·exact⟨j,by omega,rfl⟩
theorem rising_comp (l:List ByteArray):Rising (compB (sortB l))∧∀ s,s∈compB (sortB l)↔s∈l:=by
 have hp:=List.pairwise_mergeSort leB_trans leB_total (dat l);obtain⟨ss,hss⟩:∃ ss,(dat l).mergeSort (fun x y=>decide (x≤y))=ss:=⟨_,rfl⟩;rw[hss]at hp;have hs:∀ i j,i≤j→j<ss.toArray.size→ss.toArray[i]!≤ss.toArray[j]!:=by
  intro i j hij hj;have hj':j<ss.length:=by simpa using hj
  rw[getElem!_pos _ i (by simp;omega),getElem!_pos _ j hj]
  by_cases e:i=j
  ·subst e;exact List.le_refl _
  ·have:=List.pairwise_iff_getElem.1 hp i j (by omega) hj' (by omega)
   simpa using this
 obtain⟨h1,h2⟩:=compact_rise ss.toArray hs ss.length (by simp);have hd:dat (sortB l)=ss:=by rw[sortB,dat_und,hss]
 refine⟨?_,fun s=>?_⟩
 ·rw[Rising,compB,dat_und,hd];exact h1
 ·rw[compB,mem_und,hd,← mem_sortB (l:=l),sortB,hss,mem_und];show _∈Lib.compactUpTo ss.toArray ss.length↔_;rw[h2]
  constructor
  ·rintro⟨j,hj,e⟩;rw[← e,getElem!_pos _ j (by simpa using hj)];simp
  ·intro h;obtain⟨j,hj,e⟩:=List.getElem_of_mem h;exact⟨j,hj,by rw[getElem!_pos _ j (by simpa using hj)];simpa using e⟩
theorem rising_sorted {ss:List (List UInt8)} (hn:ss.Nodup):Rising (und (ss.mergeSort (fun x y=>decide (x≤y)))):=by
 rw[Rising,dat_und];have hp:=List.pairwise_mergeSort leB_trans leB_total ss;have hnd:(ss.mergeSort (fun x y=>decide (x≤y))).Nodup:=(List.mergeSort_perm ss _).nodup_iff.2 hn;exact(hp.and hnd).imp fun ⟨a,b⟩=>⟨by simpa using a,b⟩
theorem strKeys_spec {H:Type} {P:Program} {k:TypeId} {R:Value→Option (DataW H × List MemPlace)} {w:World} {b n:Nat} {D0:DataW H} (hown:w.ownsMap P k R b n D0) (K:Maps.Keyed P k) (hk:P.underlying k=some .string) :
  (strKeys D0).Nodup∧∀ x,x∈strKeys D0↔Maps.has D0 (.string x)=true:=by
 obtain⟨es,hD,hpw,_⟩:=hown.entries K;obtain⟨es',hD',hko⟩:=hown.keysOf;obtain rfl:es=es':=by rw[hD]at hD';simpa using hD'
 subst hD;have hstr:∀ p∈es,∃ x,p.1 = .string x:=fun p hp=>by
  obtain⟨v,hv⟩:=hko p hp;obtain⟨x,_,hx,_⟩:=Maps.keyOf_str hk hv;exact⟨x,hx⟩
 refine⟨?_,fun x=>?_⟩
 ·show (es.map fun p=>strOf p.1).Nodup;refine List.pairwise_map.2 (hpw.imp_of_mem fun {p q} hp' hq' hne e=>hne ?_);obtain⟨a,ha⟩:=hstr p hp';obtain⟨b,hb⟩:=hstr q hq';rw[ha,hb]at e ⊢;exact congrArg _ e
 ·rw[Maps.has_eq,List.any_eq_true];show x∈(es.map fun p=>strOf p.1)↔_;rw[List.mem_map]
  constructor
  ·rintro⟨p,hp',rfl⟩;obtain⟨a,ha⟩:=hstr p hp';exact⟨p,hp',by rw[ha];simp[Lit.sameKey,strOf]⟩
  ·rintro⟨p,hp',hs⟩;obtain⟨a,ha⟩:=hstr p hp';rw[ha]at hs;exact⟨p,hp',by rw[ha];simpa[Lit.sameKey,strOf]using hs⟩
theorem sort_own (A:Option Addr) (n cap:Nat) (l:List ByteArray) (w:World) (base:Nat) (h:Own RStr 9 w base (.slice A n cap) l) (hn:n≤1000000) :
  Calls Tryz.prog 35 #[.slice A n cap] w fun e w'=>e = .returned (.tuple #[])∧Own RStr 9 w' base (.slice A n cap) (sortB l)∧w.grownBy w' (Value.ownBlock (.slice A n cap)):=by
 have hd:=own_dat h;have hl:=h.len
 rcases hd.2 with ⟨e0,hn0⟩ | ⟨g,cap',cur,e0,hb,hg,h1,h2,h3,h4⟩
 ·injection e0 with e1 e2 e3;subst e1 e2 e3;obtain rfl:l = []:=List.eq_nil_of_length_eq_zero hl;refine(Tryz.slices_Sort_string_none none 0 w).mono ?_;rintro e w' ⟨rfl,rfl⟩;exact⟨rfl,by rw[show sortB [] = [] by simp[sortB,dat,und]];exact h,World.grownBy.refl _ _⟩
 ·injection e0 with e1 e2 e3;subst e1 e3;subst e2;have hdl:(dat l).length=l.length:=by simp[dat]
  have hlt:g<w.heap.size:=(Array.getElem?_eq_some_iff.1 hg).1;have hc:=Tryz.slices_Sort_string g 0 cap (dat l) w (holds_of_block hg (by rw[hdl];simpa using h4)) hlt (by rw[hdl];omega);rw[hdl]at hc;refine hc.mono ?_;rintro e w' ⟨rfl,m,os,rfl⟩;have hr:=ownsRow_sorted (n:=m) (os:=os) (ss:=dat l) (ts:=(dat l).mergeSort fun x y=>decide (x≤y)) (by simp) hb hg (by rw[hdl];exact h1) h2 h3;rw[hdl]at hr;refine⟨rfl,own_und hr (by simp[dat]) (fun x hx=>?_),grownBy_sorted _⟩;have hx:=List.mem_mergeSort.1 hx;rw[mem_dat]at hx;have:=h.2 _ hx;have h5:x.toArray.size≤maxLen:=this
  simpa using h5
theorem comp_own (A:Option Addr) (n cap:Nat) (l:List ByteArray) (w:World) (base:Nat) (h:Own RStr 9 w base (.slice A n cap) l) (hn:n≤1000000) (hbase:base≤w.heap.size) :
  Calls Tryz.prog 143 #[.slice A n cap] w fun e w'=>∃ k,k≤n∧e = .returned (.slice A k cap)∧Own RStr 9 w' base (.slice A k cap) (compB l)∧Below base w w':=by
 have hd:=own_dat h;have hl:=h.len
 rcases hd.2 with ⟨e0,hn0⟩ | ⟨g,cap',cur,e0,hb,hg,h1,h2,h3,h4⟩
 ·injection e0 with e1 e2 e3;subst e1 e2 e3;obtain rfl:l = []:=List.eq_nil_of_length_eq_zero hl;refine(Tryz.slices_Compact_string_empty none 0 w).mono ?_;rintro e w' ⟨rfl,rfl⟩;exact⟨0,Nat.le_refl _,rfl,by rw[show compB [] = [] by rfl];exact h,(Below.refl _ _).mono hbase⟩
 ·injection e0 with e1 e2 e3;subst e1 e3;subst e2;have hdl:(dat l).length=l.length:=by simp[dat]
  have hc:=Tryz.slices_Compact_string g 0 cap (dat l) w (holds_of_block hg (by rw[hdl];simpa using h4)) (by rw[hdl];omega) (by rw[hdl];exact h1);rw[hdl]at hc;refine hc.mono ?_;rintro e w' ⟨rfl,q,rfl⟩;have hk:(Lib.compact (dat l)).length≤l.length:=by have:=Lib.compact_length_le (dat l);omega
  have hr:=Lib.ownsRow_putRow (q:=q) (k:=(Lib.compact (dat l)).length) (zs:=dat l) (ys:=Lib.compact (dat l)++List.replicate (l.length-(Lib.compact (dat l)).length) []) hd (by simp;omega) hk;rw[List.take_left]at hr;refine⟨_,hk,rfl,own_und hr rfl (fun x hx=>?_),Lib.below_putRow ((Below.refl _ _).mono hbase) hb⟩;have hx:bsOf x∈compB l:=by rw[compB,mem_und,data_bsOf];exact hx
  have hsub:∀ s,s∈compB l→s∈l:=by
   intro s hs;rw[compB,mem_und]at hs;obtain⟨j,hj,e⟩:=List.mem_map.1 (show s.data.toList∈((List.range (dat l).length).filter (Lib.keeps (dat l).toArray)).map ((dat l).toArray[·]!) from hs);have hj2:j<(dat l).length:=List.mem_range.1 (List.mem_filter.1 hj).1;have hm:s.data.toList∈dat l:=by rw[← e,getElem!_pos _ j (by simpa using hj2)];simp
   rw[mem_dat,bsOf_data]at hm;exact hm
  have:=h.2 _ (hsub _ hx);have h5:x.toArray.size≤maxLen:=this
  simpa using h5
end Go.Proofs.YtdiaabeollcjaaaGreatDoor.C10