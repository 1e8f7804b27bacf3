/- x -/
import Derived.Test.YtmgaiiffmheabaaGreatDoorMg10
import Derived.Test.YtmgaiiffmheabaaGreatDoorMg21
import Derived.Defers
import Derived.Recover
import Derived.Laws.Concat
import Derived.Shelf.Strings.Split
import Derived.Shelf.Strings.OnBuilder
import Derived.Shelf.Strconv.Itoa3
import Derived.Shelf.LaysM
import Derived.Deep.RegionWith
import Derived.ChangeKeysEq
namespace Go.Proofs.YtmgaiiffmheabaaGreatDoor
open Option renaming some->ϊ,none->ϋ
open Bool renaming true->ό,false->ύ
open Go.Value renaming bool->μ,slice->δ,pointer->π,agg->θ
open Go.IntKind renaming i64->ι,u8->υ,u16->φ,u32->ω,i32->χ,u64->ψ
open _root_.Go.Proofs.Tryz
set_option linter.all false
set_option maxHeartbeats 8000000
open Go.RowKit
set_option maxRecDepth 100000
variable {F:List Nat} {w w' w0 d J I G:World} {s s':RmS} {n pb cap R g b off base:Nat} {n0 a n1 n2:Int} {args L:List ByteArray} {o:Option RmS} {r:List UInt8} {x fm:ByteArray} {ns:List Int} {v:Value} {T:Nat->Tg} {D:Nat->Prop} {Y:Addr}
def Hu (c:CfR) (p:Int) (m:List (Og×zu)):Nat->List (Og×zu)
 | 0=>m
 | i+1=>qx (Hu c p m i) (p,(i:Int)) (uc c)
def Bn {t:TS} {p s0 s1 s2:Int} (h: ¬(vA t p s0 s1 s2).2=0):(vA t p s0 s1 s2).1=t:=by
 unfold vA at h ⊢;split
 ·rename_i d;rw[ϓ d] at h;split
  ·rfl
  ·rename_i G;rw[Ϗ G] at h;split
   ·rfl
   ·rename_i H;rw[Ϗ H] at h;split
    ·rfl
    ·rename_i I;rw[Ϗ I] at h;exact ϧ rfl h
 ·rfl
section
variable {T:Nat->Tg} {w0 w w1 w':World} {k:RmK} {vp vr:Value} {s:RmS} {F:List Nat}
def Mu {t:TS} (h:RmX T w0 w k vp vr s F) (b:jq w' k.tb k.ta k.tc k.td t) (a:jt (λx=>x=k.ta∨x=k.tc) w w'):qI w0 w' k {s with tab:=t} F/\qw F w w':=
 h.table b (a.mono λ_ e=>e.elim ϑ λq=>ϕ (ϑ q))
def V0 (bh:qI w0 w k s F) (aK:xY s.cfg=ό) (p s0 s1 s2:Int):
  Calls prog 38 #[γ k.R,ι p,θ #[ω s0,ω s1,ω s2]] w λe w'=> ∃k',k'.R=k.R/\e= .returned (ι (s.publish p s0 s1 s2).2)/\qI w0 w' k' (s.publish p s0 s1 s2).1 F/\qw F w w':=by
 obtain⟨T,vp,bo,h⟩:=bh;obtain⟨W1,J⟩:=ν (w.alloc (.cells #[ω s0,ω s1,ω s2] 70));have aD:Hid (ql w W1):=κ (by rw[<-J];exact ql.alloc _ _);have aU:Hid (W1.heap[w.heap.size]? =ϊ (.cells #[ω s0,ω s1,ω s2] 70 (0,0))):=κ (by rw[<-J];exact qj w _);have d:=κ (h.on aD.o);have aF:=κ (h.at.stay aD.o);have az:=κ (kF aK);have bf:=β7 d.o.blk;obtain⟨bg,am⟩:=ν (s.closed);rw[am] at bf;have ad:=κ am;clear am aK;cases bg with
 | true=>
  have G:Hid (s.publish p s0 s1 s2=(s,7)):=κ (by unfold RmS.publish;rw[ϓ ad.o]);rw[G.o];clear h
  go_enter func38,ntmps38
  go_upto_region 1 with fail
  (try rw[J])
  clear J;go_wp2;go_ret;exact⟨k,rfl,rfl,d.o.at,aF.o⟩
 | false=>
  have af:=κ (Dw (d.o.tab.more (ql.drewN W1 1)) p s0 s1 s2);unfold kJ at af;obtain⟨aj,an⟩:=ν ((vA s.tab p s0 s1 s2).2);obtain⟨ar,ap⟩:=ν ((vA s.tab p s0 s1 s2).1);rw[an,ap] at af;have aS: ¬(k.R=k.ta∨k.R=k.tc):=by
   obtain⟨_,O,U,_⟩:=d.o.all .table;rintro(e | e)
   ·rw[<-e,(d.o.all .room).1] at O;cases O
   ·rw[<-e,(d.o.all .room).1] at U;cases U
  have aR: ¬(w.heap.size=k.ta∨w.heap.size=k.tc):=by
   obtain⟨_,O,U,_⟩:=h.all .table;have aT:=h.fresh w.heap.size (ϔ _);rintro(e | e)
   ·rw[<-e,aT] at O;cases O
   ·rw[<-e,aT] at U;cases U
  have aX:=λ(x:qz (λb=>b=k.ta∨b=k.tc) W1)=>β11 (x.h.blk d.o.blk aS)
  have aa:=λ(x:qz (λb=>b=k.ta∨b=k.tc) W1)=>x.h.blk aU.o aR
  have ba:=λx=>β0 (aa x);have bb:=λx=>β1 (aa x);have bc:=λx=>β2 (aa x);clear aa
  clear h aS aR;have ae:=κ an;have aB:=κ ap;clear an ap
  go_enter func38,ntmps38
  go_upto_region 1 with fail
  (try rw[J])
  clear J
  go_upto_region 3 with fail
  refine QN (λb=>b=k.ta∨b=k.tc) W1 8 8 [6] ?_
  refine Qs6 ?_
  (refine Ql ?_;intro K H)
  (with_reducible refine af.o.mono ?_)
  rintro e w2 ⟨rfl,aH,ai⟩;have av:Hid (jt (λb=>b=k.ta∨b=k.tc) W1 w2):=κ (((jt.refl _ W1).drewN 1).trans ai);have ac:=κ (Mu (d.o.on (ql.drewN W1 1)) aH ai);have aG:=κ (aF.o.trans ((d.o.at.stay (ql.drewN W1 1)).trans ac.o.2));clear aH ai;refine⟨_,rfl,qi av.o,H _ _ ?_⟩;clear H K aX ba bb bc
  iterate 1 (refine qE rfl rfl (qi av.o) ?_;intro K H;go_big_quiet_op;go_big_quiet_on)
  refine qA ?_;by_cases e0:aj=0
  ·subst e0;have G:Hid (s.publish p s0 s1 s2=({s with tab:=ar,strs:=Hu s.cfg p s.strs 3},0)):=κ (by unfold RmS.publish;rw[Ϗ (by rw[ad.o];decide),ϓ ae.o,aB.o];rfl);go_wp2
   go_loopw [25] (λaq wr=> ∃i:Nat,i<=3/\aq= ι i/\(∃I:RmK,I.R=k.R/\qI w0 wr I {s with tab:=ar,strs:=Hu s.cfg p s.strs i} F)/\qw F w2 wr) (λaq _=>3-(intOf aq).toNat)
   case atStart=>exact⟨0,τ,rfl,⟨k,rfl,ac.o.1⟩,qw.refl _ _⟩
   case round=>
    obtain⟨i,hi,rfl,⟨I,aL,aN⟩,aO⟩:=hrel;have aA:=κ aN;have aC:=κ aO;have Y:=κ aL;clear aN aO aL;by_cases hlt:i<3
    ·have bi:(i:Int)<3:=by omega
     obtain⟨bk,bn,bp,au⟩:=aA.o;have ah:=κ au;have ak:=au.blk;rw[Y.o] at ak;have ax:=κ ak;have aY: ∀y:qt wr,y.w'.cell? ⟨k.R,2,ϋ⟩=ϊ (ι s.cfg.hold):=λy=>qa (qq y.h ax.o) 2 rfl
     have aZ: ∀y:qt wr,y.w'.cell? ⟨k.R,3,ϋ⟩=ϊ (ι s.cfg.wait):=λy=>qa (qq y.h ax.o) 3 rfl
     have bd:=κ (YM s.cfg.hold s.cfg.wait (wr.drewN 1) az.o.2.1);clear au ak
     go_upto_region 9 with fail
     refine Qn wr 16 16 [10] ?_
     refine NC ?_
     (refine Ql ?_;intro K H)
     (with_reducible refine bd.o.mono ?_)
     rintro e w5 ⟨rfl,aI,aQ,aP⟩;have ab:Hid (ql wr w5):=κ ((ql.drewN wr 1).trans aQ);have aV:Hid (xZ w5 wr.heap.size (δ ϋ 0 0) (CU s.cfg.hold s.cfg.wait)):=κ aI;have ag:Hid (wr.heap.size<w5.heap.size):=κ aP;clear aI aQ aP;refine⟨_,rfl,qk ab.o,H _ _ ?_⟩;clear H K aY aZ
     iterate 5 (refine qE rfl rfl (qk ab.o) ?_;intro K H;go_big_quiet_op;go_big_quiet_on)
     refine qA ?_;obtain⟨W6,N⟩:=ν (w5.alloc (.cells #[γ wr.heap.size,ύ,ι 0,ύ,ύ,ι 0,ι 0,ύ] 109));have aE:Hid (ql wr W6):=κ (by rw[<-N];exact ab.o.al _);have aw:Hid (W6.heap[w5.heap.size]? =ϊ (.cells (gK wr.heap.size (uc s.cfg)) 109 (0,0))):=κ (by rw[<-N];exact qj w5 _);have aW:Hid (xZ W6 wr.heap.size (δ ϋ 0 0) (uc s.cfg).buf):=κ (by rw[<-N];exact aV.o.on X6);obtain⟨w9,bj,aM,aJ,_⟩:=(ah.o.stm.more aE.o).update Yr underlying95 (p,(i:Int)) w5.heap.size;have ay:=κ (ah.o.strNew (t:=uc s.cfg) aE.o ⟨S5 ag.o,qn aw.o⟩ ⟨ϔ _,ϗ ag.o (by rw[<-N];exact X6.size)⟩ (λe=>by have:=ag.o;omega) aw.o aW.o (EJ az.o.2.1) rfl aM aJ);unfold gj kO at bj;have ao:=ah.o.blk;rw[Y.o] at ao;have bm:w5.cell? ⟨k.R,13,ϋ⟩=ϊ (.map (ϊ I.MS)):=qa (qq ab.o ao) 13 rfl;clear aM aJ ao
     go_wp2_with ((try rw[N]);fail)
     go_roundw
     case rel=>exact⟨i+1,τ,by go_num,⟨{I with SA:=qx I.SA (p,(i:Int)) w5.heap.size},Y.o,ay.o.1⟩,aC.o.trans ay.o.2⟩
     case measure=>simp[intOf];omega
    ·obtain rfl:i=3:=by omega
     have bi: ¬((3:Nat):Int)<3:=by omega
     go_wp2;go_ret;exact⟨I,Y.o,by rw[G.o];rfl,by rw[G.o];exact aA.o,aG.o.trans aC.o⟩
  ·have bl:(aj != 0)=ό:=by simp[e0]
   have G:Hid (s.publish p s0 s1 s2=(s,aj)):=κ (by unfold RmS.publish;rw[Ϗ (by rw[ad.o];decide),ae.o,Ϗ e0]);have be:Hid (ar=s.tab):=κ (by rw[<-aB.o];exact Bn (by rw[ae.o];exact e0));clear e0;go_wp2;go_ret;exact⟨k,rfl,by rw[G.o];rfl,by rw[G.o];have h:=ac.o.1;rw[be.o] at h;exact h,aG.o⟩
end
def Ie: ∀(w:World) (cs:List Value) (y:RqS),RRq w cs y-> ∀u∈cs,u.oneCell'=ό:=by
 rintro w cs y ⟨v,rfl,⟨G,cap,rfl,_⟩⟩ u d;simp at d;rcases d with rfl | rfl | rfl | rfl<;>rfl
def Em (w:World):je 4 RRq (λ_=>False) (w.alloc (.cells #[] 259)) w.heap.size 259 (δ (ϊ ⟨w.heap.size,0,ϋ⟩) 0 0) []:=
 ⟨⟨[],by simpa using World.ownsRow_lit (e:=259) (size:=4) (base:=w.heap.size) w #[] 0 (ϔ _) (by unfold maxLen;omega) rfl,λi hi=>by simp at hi⟩,λ_ _ h=>h⟩
def Ft (v:Value) (l:List RqS) (w:World) (h:SlP 4 RRq w v l) (H:l.length<=1000000):
  Calls prog 163 #[v] w λe w'=>(∃v',e= .returned v'/\je 4 RRq (λ_=>False) w' w.heap.size 259 v' l)/\ql w w':=by
 obtain⟨ak,hi,ah,ai,aj⟩:=info_parts (P:=prog) (e:=259) (z:= θ #[ι 0,ι 0,ι 0,()]) (size:=4) (bytes:=48) ξ;have I:=κ h;have ac:=κ H;obtain⟨al,cap,rfl,J,N,O,U,d⟩:=h;cases al with
 | none=>
  obtain rfl:cap=0:=d rfl;obtain rfl:l=[]:=Ϡ τ;clear I J N O U d H;have ag:=λw=>Lib.run_eql_slice_nil (P:=prog) w 97 259 ϋ 0 0 0 0 underlying97
  go_enter func163,ntmps163
  go_wp2;go_ret;exact⟨⟨_,rfl,je.nil 4 RRq _ _ _ _⟩,ql.refl _⟩
 | some ad=>
  clear J N O U d H;have ag:=λw=>Lib.run_eql_slice_nil (P:=prog) w 97 259 (ϊ ad) l.length cap 0 0 underlying97
  go_enter func163,ntmps163
  go_wp2_with (at_builtin;refine ym w _ rfl (.tmp 5) (.tmp 6) 97 rfl w.heap.size 259 ak (θ #[ι 0,ι 0,ι 0,()]) 4 48 underlying97 hi ah ai aj rfl ζ Fe Ie _ [] rfl (Em w) _ l rfl I.o X6 (λb G=>by cases G;exact ϔ _) ζ (by have:=ac.o;simp;omega) (ql.alloc w _).size ?_;intro am w2 aa Y af;have ae:=κ aa;have ab:Hid (jt (λb=>(δ (ϊ ⟨w.heap.size,0,ϋ⟩) 0 0).ownBlock=ϊ b) (w.alloc (.cells #[] 259)) w2):=κ (jt.of_grown Y);clear aa Y af)
  go_ret;refine⟨⟨_,rfl,by simpa using ae.o⟩, ?_⟩;exact((jt.of_more (S:=λb=>b=w.heap.size) (ql.alloc w _)).trans (ab.o.mono λb G=>by injection G with e;exact e.symm)).to_more (ql.refl _) (λk e=>by rw[e];exact ϔ _)
section
variable {P:Program} {C:World->Prop} {K:Act->World->Prop} {a:Act} {w:World} {d:Option Tmp} {t:TypeId} {ty:TypeId} {ps:String} {af:Array Edge}
def Xk (h:C (w.alloc (.map #[] 0))/\K (a.put d (.map (ϊ w.heap.size))) (w.alloc (.map #[] 0))):jn P C {dst:=d,op:= .makeMap t ϋ,type:=ty,pos:=ps,after:=af,guard:=ϋ} a w K:=by
 unfold jn execOp;simp only[O7,Sem.run_bind,run_makeMap,Result.andThen_ok,Sem.run_pure];exact h
end
section
variable {C:World->Prop} {K:Act->World->Prop} {a:Act} {w:World} {d:Option Tmp} {ty:TypeId} {ps:String} {af:Array Edge}
def Pr (h:Calls prog 92 #[] w λe w''=> ∃v,e= .returned v/\C w''/\K (a.put d v) w''):jn prog C {dst:=d,op:= .call {callee:= .value (.func 92),args:= #[],argTypes:= #[]},type:=ty,pos:=ps,after:=af,guard:=ϋ} a w K:=by
 unfold jn;go_simp;exact h
def UN (h:Calls prog 93 #[] w λe w''=> ∃v,e= .returned v/\C w''/\K (a.put d v) w''):jn prog C {dst:=d,op:= .call {callee:= .value (.func 93),args:= #[],argTypes:= #[]},type:=ty,pos:=ps,after:=af,guard:=ϋ} a w K:=by
 unfold jn;go_simp;exact h
end
def uP (a:Act) (i:Nat) (v u:Value):(a.put (ϊ i) v).put (ϊ i) u=a.put (ϊ i) u:=by
 simp[Act.put]
def zN (a:Act) {i j:Nat} (v u:Value) (h:i≠j):(a.put (ϊ i) v).put (ϊ j) u=(a.put (ϊ j) u).put (ϊ i) v:=
 Act.put_comm a v u (λG d e=>h (by injection d with d;injection e with e;omega))
def kh (a:Act) (i:Nat) (h:i<a.tmps.size):a.put (ϊ i) (a.tmps.getD i undef)=a:=by
 obtain⟨t,d⟩:=a;have e:t.setIfInBounds i (t.getD i undef)=t:=by
  apply Array.ext
  ·simp
  ·intro j H G;rw[Array.getElem_setIfInBounds];split
   ·rename_i q;subst q;simp[G]
   ·rfl
 show Act.mk (t.setIfInBounds i (t.getD i undef)) d=⟨t,d⟩;rw[e]
structure Xs where
 x42:Value
 x43:Value
 x45:Value
 x47:Value
 x48:Value
 x49:Value
def pA (A:Act) (x:Xs):Act:=(((((A.put (ϊ 42) x.x42).put (ϊ 43) x.x43).put (ϊ 45) x.x45).put (ϊ 47) x.x47).put (ϊ 48) x.x48).put (ϊ 49) x.x49
def L8 (A:Act) (x:Xs) (v:Value):(pA A x).put (ϊ 42) v=pA A {x with x42:=v}:=by
 unfold pA;rw[zN (i:=49) (j:=42) _ x.x49 v ζ,zN (i:=48) (j:=42) _ x.x48 v ζ,zN (i:=47) (j:=42) _ x.x47 v ζ,zN (i:=45) (j:=42) _ x.x45 v ζ,zN (i:=43) (j:=42) _ x.x43 v ζ,uP]
def LZ (A:Act) (x:Xs) (v:Value):(pA A x).put (ϊ 43) v=pA A {x with x43:=v}:=by
 unfold pA;rw[zN (i:=49) (j:=43) _ x.x49 v ζ,zN (i:=48) (j:=43) _ x.x48 v ζ,zN (i:=47) (j:=43) _ x.x47 v ζ,zN (i:=45) (j:=43) _ x.x45 v ζ,uP]
def LY (A:Act) (x:Xs) (v:Value):(pA A x).put (ϊ 45) v=pA A {x with x45:=v}:=by
 unfold pA;rw[zN (i:=49) (j:=45) _ x.x49 v ζ,zN (i:=48) (j:=45) _ x.x48 v ζ,zN (i:=47) (j:=45) _ x.x47 v ζ,uP]
def LW (A:Act) (x:Xs) (v:Value):(pA A x).put (ϊ 47) v=pA A {x with x47:=v}:=by
 unfold pA;rw[zN (i:=49) (j:=47) _ x.x49 v ζ,zN (i:=48) (j:=47) _ x.x48 v ζ,uP]
def LV (A:Act) (x:Xs) (v:Value):(pA A x).put (ϊ 48) v=pA A {x with x48:=v}:=by
 unfold pA;rw[zN (i:=49) (j:=48) _ x.x49 v ζ,uP]
def LU (A:Act) (x:Xs) (v:Value):(pA A x).put (ϊ 49) v=pA A {x with x49:=v}:=by
 unfold pA;rw[uP]
def Bu (A:Act) (x:Xs) (h:50<=A.tmps.size):(pA A x).eval (.tmp 42)=x.x42:=by
 unfold pA;simp[Act.put,Act.eval,Array.getElem?_setIfInBounds,(by omega:42<A.tmps.size)]
structure Yk (wB:World) (d0 d3 d5 d6 d7:Bool) (x:Xs) (w:World) (T:Nat->Tg):Prop where
 more:ql wB w
 fresh: ∀b,T b≠ .no->wB.heap.size<=b/\b<w.heap.size
 bk:d0=ό-> ∃B b,x.x42= .pointer (ϊ ⟨B,0,ϋ⟩)/\x.x43= .agg #[.pointer (ϊ ⟨B,0,ϋ⟩)]/\T B= .book/\T b= .book/\jy w B b []
 rt:d3=ό-> ∃M,x.x45= .map (ϊ M)/\T M= .ret/\jk w M kO Value.bool []
 tb:d5=ό-> ∃t a b c,x.x47= .pointer (ϊ ⟨t,0,ϋ⟩)/\T t= .table/\T a= .table/\T b= .table/\T c= .table/\jq w t a b c ⟨[],[],[]⟩
 ls:d6=ό-> ∃M,x.x48= .map (ϊ M)/\T M= .lns/\jk w M (Value.int .i64) gj []
 ss:d7=ό-> ∃M,x.x49= .map (ϊ M)/\T M= .sts/\jk w M kO gj []
section
variable {wB w w':World} {d0 d3 d5 d6 d7:Bool} {x:Xs} {T:Nat->Tg}
def Yk.no (h:Yk wB d0 d3 d5 d6 d7 x w T): ∀b,w.heap.size<=b->T b= .no:=λb d=>by
 cases e:T b<;>first | rfl | (exfalso;have:=(h.fresh b (by rw[e];simp)).2;omega)
def Yk.grow (h:Yk wB d0 d3 d5 d6 d7 x w T) (m:ql w w') (t:Tg):Yk wB d0 d3 d5 d6 d7 x w' (jZ T t w w'):=by
 have O:=h.no;have k: ∀{b:Nat} {u:Tg},u≠ .no->T b=u->jZ T t w w' b=u:=λU I=>(jd O U _).2 (ϑ I)
 refine⟨h.more.trans m,λb I=> ?_,λe=> ?_,λe=> ?_,λe=> ?_,λe=> ?_,λe=> ?_⟩
 ·unfold jZ at I;split at I
  ·rename_i q;exact⟨ϙ h.more.size q.1,q.2⟩
  ·have:=h.fresh b I;exact⟨this.1,ϗ this.2 m.size⟩
 ·obtain⟨B,b,d,G,H,J,N⟩:=h.bk e;exact⟨B,b,d,G,k η H,k η J,N.more m⟩
 ·obtain⟨M,d,G,H⟩:=h.rt e;exact⟨M,d,k η G,H.more m⟩
 ·obtain⟨t,a,b,c,d,G,H,J,N,Y⟩:=h.tb e;exact⟨t,a,b,c,d,k η G,k η H,k η J,k η N,Y.more m⟩
 ·obtain⟨M,d,G,H⟩:=h.ls e;exact⟨M,d,k η G,H.more m⟩
 ·obtain⟨M,d,G,H⟩:=h.ss e;exact⟨M,d,k η G,H.more m⟩
def yb (H: ∀b,w.heap.size<=b->T b= .no) {t:Tg} (I:t≠ .no) (d:w.heap.size<=b) (G:b<w'.heap.size):jZ T t w w' b=t:=(jd H I b).2 (ϕ ⟨rfl,d,G⟩)
end
def NM {o:Oper} {y:Nat->Option Bool} {p q:Prop} (h:Region.wanted o y=ό) (d:p):if Region.wanted o y then p else q:=by
 rw[ϓ h];exact d
def wy:Nat->Bool->Bool->Bool->Bool->Bool->Tr
 | 0,_,_,_,_,_=> .op 8 ύ (.op 9 ό (.op 10 ύ (.op 11 ύ .done)))
 | n+1,d0,d3,d5,d6,d7=> .br ((if d0 then [] else [0])++(if d3 then [] else [3])++(if d0&& !d5 then [5] else [])++(if d6 then [] else [6])++(if d7 then [] else [7]))
  (λk=>if k=0 then .op 1 ύ (wy n ό d3 d5 d6 d7) else if k=3 then wy n d0 ό d5 d6 d7 else if k=5 then wy n d0 d3 ό d6 d7 else if k=6 then wy n d0 d3 d5 ό d7 else wy n d0 d3 d5 d6 ό)
def JP (d0 d3 d5 d6 d7:Bool):Nat:=(if d0 then 0 else 1)+(if d3 then 0 else 1)+(if d5 then 0 else 1)+(if d6 then 0 else 1)+(if d7 then 0 else 1)
section
variable {l:List Oper} {T0:Nat} {Q:Act->World->Prop} {A:Act} {wB:World}
def It (aq:50<=A.tmps.size)
  (ae: ∃ty ps af,l[0]? =ϊ {dst:=ϊ 42,op:= .call {callee:= .value (.func 92),args:= #[],argTypes:= #[]},type:=ty,pos:=ps,after:=af,guard:=ϋ})
  (ag: ∃ty ps af,l[1]? =ϊ {dst:=ϊ 43,op:= .build 90 #[(0,.tmp 42)],type:=ty,pos:=ps,after:=af,guard:=ϋ})
  (ah: ∃ty ps af,l[3]? =ϊ {dst:=ϊ 45,op:= .makeMap 91 ϋ,type:=ty,pos:=ps,after:=af,guard:=ϋ})
  (ai: ∃ty ps af,l[5]? =ϊ {dst:=ϊ 47,op:= .call {callee:= .value (.func 93),args:= #[],argTypes:= #[]},type:=ty,pos:=ps,after:=af,guard:=ϋ})
  (aj: ∃ty ps af,l[6]? =ϊ {dst:=ϊ 48,op:= .makeMap 94 ϋ,type:=ty,pos:=ps,after:=af,guard:=ϋ})
  (ak: ∃ty ps af,l[7]? =ϊ {dst:=ϊ 49,op:= .makeMap 95 ϋ,type:=ty,pos:=ps,after:=af,guard:=ϋ})
  (ap: ∀x w T,Yk wB ό ό ό ό ό x w T->zk prog l.toArray T0 (λw'=> ∃y:qt wB,w'=y.w') Q (.op 8 ύ (.op 9 ό (.op 10 ύ (.op 11 ύ .done)))) (pA A x) w):
  ∀(n:Nat) (O H I J N:Bool) (x:Xs) (w:World) (T:Nat->Tg),n=JP O H I J N->Yk wB O H I J N x w T->zk prog l.toArray T0 (λw'=> ∃y:qt wB,w'=y.w') Q (wy n O H I J N) (pA A x) w:=by
 obtain⟨aH,aB,au,ae⟩:=ae;obtain⟨aI,aC,av,ag⟩:=ag;obtain⟨aJ,aD,aw,ah⟩:=ah;obtain⟨aK,aE,ax,ai⟩:=ai;obtain⟨aL,aF,ay,aj⟩:=aj;obtain⟨aM,aG,az,ak⟩:=ak;intro n
 induction n with
 | zero=>
  intro O H I J N x w T aa U;have e:O=ό/\H=ό/\I=ό/\J=ό/\N=ό:=by
   cases O<;>cases H<;>cases I<;>cases J<;>cases N<;>simp[JP] at aa ⊢
  obtain⟨rfl,rfl,rfl,rfl,rfl⟩:=e;exact ap x w T U
 | succ n ih=>
  intro O H I J N x w T aa U;have Y:=U.no;unfold wy;unfold zk;intro k G;simp only[Ϫ] at G;rcases G with (((G | G) | G) | G) | G
  ·cases O with
   | true=>simp at G
   | false=>
    simp at G;subst G;simp only[Δ,ae,ϰ,C1];refine NM rfl ?_;refine qfQ (D:=λw'=> ∃y:qt wB,w'=y.w') (λ_ h=>yF h) (Pr ?_);refine(Nv w).mono ?_;rintro e w' ⟨B,b,rfl,al,am,ab,ac⟩;have d:=U.grow ac .book;refine⟨_,rfl,qk (U.more.trans ac), ?_⟩;rw[L8];show zk _ _ _ _ _ (.op 1 ύ (wy n ό H I J N)) _ _;refine qH ag rfl (qk (U.more.trans ac)) λK ar=> ?_
    refine⟨θ #[γ B],λw2 aA=> ?_, ?_⟩
    ·unfold Oper.quietAt execOp;simp only[K0,Ϛ,C6];have an:=Bu A {x with x42:= γ B} aq;simp only at an;rw[an];go_simp
    ·refine ar _ ?_;rw[LZ];exact ih ό H I J N _ w' _ (by cases H<;>cases I<;>cases J<;>cases N<;>simp[JP] at aa ⊢ <;>omega)
      ⟨d.more,d.fresh,λ_=>⟨B,b,rfl,rfl,yb Y η al (qn ab.blk),yb Y η am ab.map.lt,ab⟩,d.rt,d.tb,d.ls,d.ss⟩
  ·cases H with
   | true=>simp at G
   | false=>
    simp at G;subst G;simp only[Δ,ah,ϰ];refine NM rfl ?_;have m:=ql.alloc w (.map #[] 0);have d:=U.grow m .ret;refine qfQ (D:=λw'=> ∃y:qt wB,w'=y.w') (λ_ h=>yF h) (Xk ⟨qk d.more, ?_⟩);rw[LY];exact ih O ό I J N _ _ _ (by cases O<;>cases I<;>cases J<;>cases N<;>simp[JP] at aa ⊢ <;>omega)
     ⟨d.more,d.fresh,d.bk,λ_=>⟨w.heap.size,rfl,yb Y η (ϔ _) η,jk.made w _ _⟩,d.tb,d.ls,d.ss⟩
  ·cases O<;>cases I<;>simp at G
   subst G;simp only[Δ,ai,ϰ];refine NM rfl ?_;refine qfQ (D:=λw'=> ∃y:qt wB,w'=y.w') (λ_ h=>yF h) (UN ?_);refine(Mv w).mono ?_;rintro e w' ⟨t,a,b,c,rfl,al,am,ab,ac,ad,ao⟩;have d:=U.grow ao .table;refine⟨_,rfl,qk (U.more.trans ao), ?_⟩;rw[LW];exact ih ό H ό J N _ w' _ (by cases H<;>cases J<;>cases N<;>simp[JP] at aa ⊢ <;>omega)
    ⟨d.more,d.fresh,d.bk,d.rt,λ_=>⟨t,a,b,c,rfl,yb Y η al (qn ad.blk),yb Y η am ad.mo.lt,yb Y η ab ad.ms.lt,yb Y η ac ad.mu.lt,ad⟩,d.ls,d.ss⟩
  ·cases J with
   | true=>simp at G
   | false=>
    simp at G;subst G;simp only[Δ,aj,ϰ];refine NM rfl ?_;have m:=ql.alloc w (.map #[] 0);have d:=U.grow m .lns;refine qfQ (D:=λw'=> ∃y:qt wB,w'=y.w') (λ_ h=>yF h) (Xk ⟨qk d.more, ?_⟩);rw[LV];exact ih O H I ό N _ _ _ (by cases O<;>cases H<;>cases I<;>cases N<;>simp[JP] at aa ⊢ <;>omega)
     ⟨d.more,d.fresh,d.bk,d.rt,d.tb,λ_=>⟨w.heap.size,rfl,yb Y η (ϔ _) η,jk.made w _ _⟩,d.ss⟩
  ·cases N with
   | true=>simp at G
   | false=>
    simp at G;subst G;simp only[Δ,ak,ϰ];refine NM rfl ?_;have m:=ql.alloc w (.map #[] 0);have d:=U.grow m .sts;refine qfQ (D:=λw'=> ∃y:qt wB,w'=y.w') (λ_ h=>yF h) (Xk ⟨qk d.more, ?_⟩);rw[LU];exact ih O H I J ό _ _ _ (by cases O<;>cases H<;>cases I<;>cases J<;>simp[JP] at aa ⊢ <;>omega)
     ⟨d.more,d.fresh,d.bk,d.rt,d.tb,d.ls,λ_=>⟨w.heap.size,rfl,yb Y η (ϔ _) η,jk.made w _ _⟩⟩
def EB (A:Act) (h:50<=A.tmps.size): ∃x,pA A x=A:=by
 refine⟨⟨A.tmps.getD 42 undef,A.tmps.getD 43 undef,A.tmps.getD 45 undef,A.tmps.getD 47 undef,A.tmps.getD 48 undef,A.tmps.getD 49 undef⟩, ?_⟩;unfold pA;simp only;rw[kh A 42 τ,kh A 43 τ,kh A 45 τ,kh A 47 τ,kh A 48 τ,kh A 49 τ]
def Pn (d:50<=A.tmps.size)
  (H: ∃ty ps af,l[0]? =ϊ {dst:=ϊ 42,op:= .call {callee:= .value (.func 92),args:= #[],argTypes:= #[]},type:=ty,pos:=ps,after:=af,guard:=ϋ})
  (I: ∃ty ps af,l[1]? =ϊ {dst:=ϊ 43,op:= .build 90 #[(0,.tmp 42)],type:=ty,pos:=ps,after:=af,guard:=ϋ})
  (J: ∃ty ps af,l[3]? =ϊ {dst:=ϊ 45,op:= .makeMap 91 ϋ,type:=ty,pos:=ps,after:=af,guard:=ϋ})
  (N: ∃ty ps af,l[5]? =ϊ {dst:=ϊ 47,op:= .call {callee:= .value (.func 93),args:= #[],argTypes:= #[]},type:=ty,pos:=ps,after:=af,guard:=ϋ})
  (O: ∃ty ps af,l[6]? =ϊ {dst:=ϊ 48,op:= .makeMap 94 ϋ,type:=ty,pos:=ps,after:=af,guard:=ϋ})
  (U: ∃ty ps af,l[7]? =ϊ {dst:=ϊ 49,op:= .makeMap 95 ϋ,type:=ty,pos:=ps,after:=af,guard:=ϋ})
  (w:World) (m:ql wB w)
  (G: ∀x w T,Yk wB ό ό ό ό ό x w T->zk prog l.toArray T0 (λw'=> ∃y:qt wB,w'=y.w') Q (.op 8 ύ (.op 9 ό (.op 10 ύ (.op 11 ύ .done)))) (pA A x) w):
  zk prog l.toArray T0 (λw'=> ∃y:qt wB,w'=y.w') Q (wy 5 ύ ύ ύ ύ ύ) A w:=by
 obtain⟨x,e⟩:=EB A d;have:=It (Q:=Q) (T0:=T0) d H I J N O U G 5 ύ ύ ύ ύ ύ x w (λ_=> .no) rfl ⟨m,λb Y=>ϧ rfl Y,λe=>(by cases e),λe=>(by cases e),λe=>(by cases e),λe=>(by cases e),λe=>(by cases e)⟩;rw[e] at this;exact this
end
def Ba {w8 w9:World} {c:CfR} {x:Xs} {RQ AQ:Nat} (ae:ql w I) (G:Yk I ό ό ό ό ό x w8 T) (aE:w.heap.size<=RQ/\RQ<I.heap.size) (aF:w.heap.size<=AQ/\AQ<I.heap.size)
  (d:zR I RQ AQ c.room.toNat 0 [] 0 0 0 0 (List.replicate c.room.toNat [δ ϋ 0 0])) (N:ql w8 w9) (aD:w8.heap.size<=R/\R<w9.heap.size)
  (ar: ∀B O aa U Y,x.x43= θ #[γ B]->x.x45= .map (ϊ O)->x.x47= γ aa->x.x48= .map (ϊ U)->x.x49= .map (ϊ Y)->w9.heap[R]? =ϊ (.cells #[γ B,ι c.room,ι c.hold,ι c.wait,ι c.space,ι c.retry,ι c.most,ύ,.map (ϊ O),ι 0,γ RQ,γ aa,.map (ϊ U),.map (ϊ Y),(),(),ι 0,ι 0,ι 0,ι 0,ι 0] 101 (0,0))):
  ∃k,k.R=R/\qI w w9 k (ud c) []:=by
 obtain⟨B,b,aC,ag,av,tb,al⟩:=G.bk rfl;obtain⟨O,ah,aw,am⟩:=G.rt rfl;obtain⟨aa,az,aA,aB,ai,t1,t2,t3,t4,ap⟩:=G.tb rfl;obtain⟨U,aj,ax,an⟩:=G.ls rfl;obtain⟨Y,ak,ay,ao⟩:=G.ss rfl;have au:=ar B O aa U Y ag ah ai aj ak;have aG:=G.more.size;have aq: ∀{q:Nat} {u:Tg},u≠ .no->T q=u->I.heap.size<=q/\q<w8.heap.size:=λad d=>G.fresh _ (by rw[d];exact ad)
 obtain⟨ab,J⟩: ∃ab:Nat->Tg,ab=λq=>if q=RQ∨q=AQ then Tg.queue else if q=R then Tg.room else T q:=⟨_,rfl⟩
 have H: ∀{q:Nat} {u:Tg},u≠ .no->T q=u->ab q=u:=λad d=>by
  have:=aq ad d;rw[J];simp only;rw[Ϗ τ,Ϗ τ];exact d
 have af:ql I w9:=G.more.trans N;refine⟨⟨R,O,RQ,AQ,aa,az,aA,aB,B,b,U,Y,[],[]⟩,rfl,ab,δ ϋ 0 0,δ ϋ 0 0,⟨λu=> ?_,λq d=> ?_,λq d=>(by cases d),ae.trans af⟩⟩
 ·cases u with
  | no=>
   intro q d;rw[J];simp only;rw[Ϗ τ,Ϗ τ];cases e:T q<;>first | rfl | (exfalso;have:=(G.fresh q (by rw[e];simp)).2;omega)
  | junk=>trivial
  | data=>trivial
  | room=>
   refine⟨?_,au⟩;rw[J];simp only;rw[Ϗ τ];simp
  | ret=>exact⟨H η aw,am.more N⟩
  | queue=>
   have n0:=d.more af;refine⟨by rw[J];simp,by rw[J];simp,0,[],0,0,0,0,_,n0,trivial⟩
  | table=>exact⟨H η t1,H η t2,H η t3,H η t4,ap.more N⟩
  | book=>exact⟨H η av,H η tb,al.more N⟩
  | lns=>exact⟨H η ax,an.more N⟩
  | sts=>exact⟨H η ay,ao.more N⟩
  | pks=>exact⟨je.nil _ _ _ _ _ _,λg ac=>by cases ac⟩
  | reqs=>exact⟨je.nil _ _ _ _ _ _,λg ac=>by cases ac⟩
  | lane y=>exact⟨λp l h=>(by cases h),rfl⟩
  | str o=>exact⟨λp t h=>(by cases h),rfl⟩
 ·rw[J] at d;simp only at d;have:=ae.size;split at d
  ·rename_i e;rcases e with e | e<;>omega
  ·split at d
   ·omega
   ·have:=(G.fresh q d).1;omega
def qfN (c:CfR) (au:xY c=ό) (w:World):
  Calls prog 55 #[θ #[ι c.room,ι c.hold,ι c.wait,ι c.space,ι c.retry,ι c.most]] w λe w'=> ∃k,e= .returned (.tuple #[γ k.R,ι 0])/\qI w w' k (ud c) []/\ql w w':=by
 obtain⟨c1,c2,c3,c4⟩:=kF au;obtain⟨W1,N⟩:=ν (w.alloc (.cells #[ι c.room,ι c.hold,ι c.wait,ι c.space,ι c.retry,ι c.most] 87));have U:Hid (ql w W1):=κ (by rw[<-N];exact ql.alloc _ _);have d:Hid (W1.heap[w.heap.size]? =ϊ (.cells #[ι c.room,ι c.hold,ι c.wait,ι c.space,ι c.retry,ι c.most] 87 (0,0))):=κ (by rw[<-N];exact qj w _);have aK:=κ (ZK c.room c.room.toNat τ τ τ W1);have aI:=κ (λw'=>YM c.hold c.wait w' c2);have ae:=κ (λw'=>Qf c.space c.retry w');rw[ϻ c3] at ae;have aW:=β0 d.o;clear c1 c2 c3 au
 go_enter func55,ntmps55
 go_upto_region 1 with fail
 (try rw[N])
 clear N
 go_upto_region 9 with (first | (go_at_call 90;(go_call aK.o as e w2 ⟨rfl,aq,n2⟩;have ad:=κ aq;have aM:=κ n2;have aX:=β1 (qq n2 d.o);have aY:=β2 (qq n2 d.o);clear aq n2)) | (go_at_call 57;(go_call aI.o _ as e bf ⟨rfl,_,n3,_⟩;have Y:=κ (aM.o.trans n3);have aN:=κ n3;have aZ:=β3 (qq Y.o d.o);have ba:=β4 (qq Y.o d.o);clear n3)) | (go_at_call 91;(go_call ae.o _ as e w4 ⟨rfl,ab⟩;have G:=κ (Y.o.trans ab);have ag:=κ (aN.o.trans ab);have bb:=β5 (qq G.o d.o);clear ab)))
 have aB: ∀y:qt w4,y.w'.cell? ⟨w.heap.size,0,ϋ⟩=ϊ (ι c.room):=λy=>qa (qq (G.o.trans y.h) d.o) 0 rfl
 have aC: ∀y:qt w4,y.w'.cell? ⟨w.heap.size,1,ϋ⟩=ϊ (ι c.hold):=λy=>qa (qq (G.o.trans y.h) d.o) 1 rfl
 have aD: ∀y:qt w4,y.w'.cell? ⟨w.heap.size,2,ϋ⟩=ϊ (ι c.wait):=λy=>qa (qq (G.o.trans y.h) d.o) 2 rfl
 have aE: ∀y:qt w4,y.w'.cell? ⟨w.heap.size,3,ϋ⟩=ϊ (ι c.space):=λy=>qa (qq (G.o.trans y.h) d.o) 3 rfl
 have aF: ∀y:qt w4,y.w'.cell? ⟨w.heap.size,4,ϋ⟩=ϊ (ι c.retry):=λy=>qa (qq (G.o.trans y.h) d.o) 4 rfl
 have aG: ∀y:qt w4,y.w'.cell? ⟨w.heap.size,5,ϋ⟩=ϊ (ι c.most):=λy=>qa (qq (G.o.trans y.h) d.o) 5 rfl
 refine zB w4 12 (.op 2 ύ (.op 4 ύ (wy 5 ύ ύ ύ ύ ύ))) ξ ξ ?_
 iterate 2 (refine qH rfl rfl (qk ρ) ?_;intro K I;go_big_quiet_op;go_big_quiet_on)
 clear aB aC aD aE aF aG;refine Pn η ⟨_,_,_,rfl⟩ ⟨_,_,_,rfl⟩ ⟨_,_,_,rfl⟩ ⟨_,_,_,rfl⟩ ⟨_,_,_,rfl⟩ ⟨_,_,_,rfl⟩ _ (ql.drewN w4 1) ?_;intro x w8 T H;obtain⟨B,b,aj,ak,_⟩:=H.bk rfl;obtain⟨af,am,_⟩:=H.rt rfl;obtain⟨aA,bc,bd,be,an,_⟩:=H.tb rfl;obtain⟨ah,ao,_⟩:=H.ls rfl;obtain⟨ai,ap,_⟩:=H.ss rfl;have aH:=κ H;have J:=κ H.more;clear H;obtain⟨x42,x43,x45,x47,x48,x49⟩:=x;simp only at aj ak am an ao ap;subst aj ak am an ao ap;unfold pA;simp only[Act.put];go_simp;refine qH rfl rfl (qk J.o) ?_;intro K I
 go_big_quiet_op
 go_big_quiet_on
 (refine qO rfl rfl ?_;intro K I;unfold jn;go_simp)
 refine⟨qk (J.o.al _),I _ _ ?_⟩;clear I K;obtain⟨w9,O⟩:=ν (w8.alloc (.cells #[γ B,ι c.room,ι c.hold,ι c.wait,ι c.space,ι c.retry,ι c.most,ύ,.map (ϊ af),ι 0,γ (W1.heap.size+1),γ aA,.map (ϊ ah),.map (ϊ ai),(),(),ι 0,ι 0,ι 0,ι 0,ι 0] 101));have aa:Hid (ql w8 w9):=κ (by rw[<-O];exact ql.alloc _ _);have ac:Hid (w9.heap[w8.heap.size]? =ϊ (.cells #[γ B,ι c.room,ι c.hold,ι c.wait,ι c.space,ι c.retry,ι c.most,ύ,.map (ϊ af),ι 0,γ (W1.heap.size+1),γ aA,.map (ϊ ah),.map (ϊ ai),(),(),ι 0,ι 0,ι 0,ι 0,ι 0] 101 (0,0))):=κ (by rw[<-O];exact qj w8 _)
 (try rw[O])
 clear O
 iterate 2 (refine qH rfl rfl (qk (J.o.trans aa.o)) ?_;intro K I;go_big_quiet_op;go_big_quiet_on)
 refine zg ?_;have aP:=qn ad.o.ring;have aQ:=ag.o.size;have aR:=U.o.size
 obtain⟨aS,aO,ar⟩:=Ba (c:=c) (RQ:=W1.heap.size+1) (AQ:=W1.heap.size) (R:=w8.heap.size) (U.o.trans G.o) aH.o ⟨τ,τ⟩ ⟨τ,τ⟩ (ad.o.more ag.o) aa.o ⟨ϔ _,qn ac.o⟩ (λaT aV t' aU S' av aw ax ay az=>by
  simp at av aw ax ay az;subst av aw ax ay az
  exact ac.o)
 have aL:=κ ar;have aJ:=κ (U.o.trans (G.o.trans (J.o.trans aa.o)));clear ar aP aQ aR;go_wp2
 go_ret2
 exact⟨aS,by rw[aO];rfl,aL.o,aJ.o⟩
def YL (c:CfR) (O:xY c=ύ) (w:World):
  Calls prog 55 #[θ #[ι c.room,ι c.hold,ι c.wait,ι c.space,ι c.retry,ι c.most]] w λe w'=>e= .returned (.tuple #[π ϋ,ι 1])/\ql w w':=by
 obtain⟨W1,G⟩:=ν (w.alloc (.cells #[ι c.room,ι c.hold,ι c.wait,ι c.space,ι c.retry,ι c.most] 87));have ab:Hid (ql w W1):=κ (by rw[<-G];exact ql.alloc _ _);have d:Hid (W1.heap[w.heap.size]? =ϊ (.cells #[ι c.room,ι c.hold,ι c.wait,ι c.space,ι c.retry,ι c.most] 87 (0,0))):=κ (by rw[<-G];exact qj w _);have aj:=β0 d.o;by_cases hr:c.room<1∨8<c.room
 ·have J:=κ (BJ c.room hr W1);clear hr O
  go_enter func55,ntmps55
  go_upto_region 1 with fail
  (try rw[G])
  clear G
  go_wp2_with ((go_at_call 90;(go_call J.o as e w2 ⟨rfl,n2⟩;have H:=κ n2;clear n2)))
  go_ret2
  exact⟨rfl,ab.o.trans H.o⟩
 ·have J:=κ (ZK c.room c.room.toNat τ τ τ W1);by_cases hj:Ok c.hold c.wait
  ·have aa:=κ (λw'=>YM c.hold c.wait w' hj);have Y:=κ (λw'=>Qf c.space c.retry w');by_cases ha:1<=c.space/\c.space<=c.retry/\c.retry<=1000
   ·rw[ϻ ha] at Y;have ad:c.most<1∨10<c.most:=by
     simp[xY,hj,ha] at O;omega
    rcases ad with ad | ad
    all_goals
     clear hr O hj ha
     go_enter func55,ntmps55
     go_upto_region 1 with fail
     (try rw[G])
     clear G
     go_wp2_with (first | (go_at_call 90;(go_call J.o as e w2 ⟨rfl,N,n2⟩;have H:=κ n2;have ae:=β1 (qq n2 d.o);have af:=β2 (qq n2 d.o);clear N n2)) | (go_at_call 57;(go_call aa.o _ as e ag ⟨rfl,_,n3,_⟩;have I:=κ (H.o.trans n3);have ah:=β3 (qq I.o d.o);have ai:=β4 (qq I.o d.o);clear n3)) | (go_at_call 91;(go_call Y.o _ as e w4 ⟨rfl,U⟩;have ac:=κ (I.o.trans U);have ak:=β5 (qq ac.o d.o);clear U)))
     go_ret2
     exact⟨rfl,ab.o.trans ac.o⟩
   ·rw[ϯ ha] at Y;clear hr O hj ha
    go_enter func55,ntmps55
    go_upto_region 1 with fail
    (try rw[G])
    clear G
    go_wp2_with (first | (go_at_call 90;(go_call J.o as e w2 ⟨rfl,N,n2⟩;have H:=κ n2;have ae:=β1 (qq n2 d.o);have af:=β2 (qq n2 d.o);clear N n2)) | (go_at_call 57;(go_call aa.o _ as e ag ⟨rfl,_,n3,_⟩;have I:=κ (H.o.trans n3);have ah:=β3 (qq I.o d.o);have ai:=β4 (qq I.o d.o);clear n3)) | (go_at_call 91;(go_call Y.o _ as e w4 ⟨rfl,U⟩;have ac:=κ (I.o.trans U);clear U)))
    go_ret2
    exact⟨rfl,ab.o.trans ac.o⟩
  ·have aa:=κ (λw'=>Lq c.hold c.wait w' hj);clear hr O hj
   go_enter func55,ntmps55
   go_upto_region 1 with fail
   (try rw[G])
   clear G
   go_wp2_with (first | (go_at_call 90;(go_call J.o as e w2 ⟨rfl,N,n2⟩;have H:=κ n2;have ae:=β1 (qq n2 d.o);have af:=β2 (qq n2 d.o);clear N n2)) | (go_at_call 57;(go_call aa.o _ as e ag ⟨rfl,rfl⟩)))
   go_ret2
   exact⟨rfl,ab.o.trans H.o⟩
def RmR (w0 w:World) (R:Nat) (s:RmS) (F:List Nat):Prop:= ∃k:RmK,k.R=R/\qI w0 w k s F
section
variable {w0 w w':World} {R:Nat} {s s':RmS} {F F' Fn:List Nat} {n:Nat}
def RmR.on (h:RmR w0 w R s F) (m:ql w w'):RmR w0 w' R s F:=h.elim λk h=>⟨k,h.1,h.2.on m⟩
def RmR.sub (h:RmR w0 w R s F) (d: ∀b∈F',b∈F):RmR w0 w R s F':=h.elim λk h=>⟨k,h.1,h.2.sub d⟩
def RmR.more (h:RmR w0 w R s F):ql w0 w:=h.elim λ_ h=>h.2.more
def RmR.stay (h:RmR w0 w R s F) (m:ql w w'):qw F w w':=h.elim λ_ h=>h.2.stay m
def RmR.bk (h:RmR w0 w R s F): ∃B b,w.cell? ⟨R,0,ϋ⟩=ϊ (π (ϊ ⟨B,0,ϋ⟩))/\jy w B b s.book:=by
 obtain⟨k,rfl,T,vp,d,h⟩:=h;exact⟨k.B,k.b,qa h.blk 0 rfl,h.bok⟩
def JN (c:CfR) (d:xY c=ό) (w:World):
  Calls prog 55 #[θ #[ι c.room,ι c.hold,ι c.wait,ι c.space,ι c.retry,ι c.most]] w λe w'=> ∃R,e= .returned (.tuple #[γ R,ι 0])/\RmR w w' R (ud c) []/\ql w w':=
 (qfN c d w).mono λ_ _ h=>h.elim λk h=>⟨k.R,h.1,⟨k,rfl,h.2.1⟩,h.2.2⟩
def MU (h:RmR w0 w R s F) (G:xY s.cfg=ό) (p s0 s1 s2:Int) (H:s.publish p s0 s1 s2=(s',a)):
  Calls prog 38 #[γ R,ι p,θ #[ω s0,ω s1,ω s2]] w λe w'=>e= .returned (ι a)/\RmR w0 w' R s' F/\qw F w w':=by
 obtain⟨k,rfl,h⟩:=h;refine(V0 h G p s0 s1 s2).mono ?_;rintro e w' ⟨k',I,rfl,d,t⟩;rw[H] at d ⊢;exact⟨rfl,⟨k',I,d⟩,t⟩
def Me (h:RmR w0 w R s F) (H:xY s.cfg=ό) (x d sq st:Int) (O:U16 sq) (N:U32 d) (I:s.join x d sq st=(s',a)):
  Calls prog 39 #[γ R,ι x,ω d,φ sq,ω st] w λe w'=>e= .returned (ι a)/\RmR w0 w' R s' F/\qw F w w':=by
 obtain⟨k,rfl,h⟩:=h;refine(Hr h H x d sq st O N).mono ?_;rintro e w' ⟨k',J,rfl,G,t⟩;rw[I] at G ⊢;exact⟨rfl,⟨k',J,G⟩,t⟩
def LQ (h:RmR w0 w R s F) (H:qV n s) (I:n<=100000) (x p m:Int) (G:s.subscribe x p m=(s',a)):
  Calls prog 40 #[γ R,ι x,ι p,ι m] w λe w'=>e= .returned (ι a)/\RmR w0 w' R s' F/\qw F w w':=by
 obtain⟨k,rfl,h⟩:=h;refine(XM h (H.subs I) x p m).mono ?_;rintro e w' ⟨rfl,d,t⟩;rw[G] at d ⊢;exact⟨rfl,⟨k,rfl,d⟩,t⟩
def F5 (h:RmR w0 w R s F) (H:qV n s) (I:n<=100000) (G:s.tick=(s',a)):
  Calls prog 46 #[γ R] w λe w'=>e= .returned (ι a)/\RmR w0 w' R s' F/\qw F w w':=by
 obtain⟨k,rfl,h⟩:=h;refine(Hn h H I).mono ?_;rintro e w' ⟨rfl,d,t⟩;rw[G] at d ⊢;exact⟨rfl,⟨k,rfl,d⟩,t⟩
def LC (h:RmR w0 w R s F) (b:List Int) (v:Value) (N:SlI .u8 w v b) (G:Byt b) (J:b.length<=1000000) (I:0<=s.cnt.lost/\s.cnt.lost<=1000000000) (H:s.arrive b=(s',a)):
  Calls prog 43 #[γ R,v] w λe w'=>e= .returned (ι a)/\RmR w0 w' R s' F/\qw F w w':=by
 obtain⟨k,rfl,h⟩:=h;refine(Gf h b v N G J I).mono ?_;rintro e w' ⟨rfl,d,t⟩;rw[H] at d ⊢;exact⟨rfl,⟨k,rfl,d⟩,t⟩
def LS (h:RmR w0 w R s F) (G:s.shut=(s',a)):
  Calls prog 47 #[γ R] w λe w'=>e= .returned (ι a)/\RmR w0 w' R s' F/\qw F w w':=by
 obtain⟨k,rfl,h⟩:=h;refine(Ho h).mono ?_;rintro e w' ⟨rfl,d,t⟩;rw[G] at d ⊢;exact⟨rfl,⟨k,rfl,d⟩,t⟩
def F7 (h:RmR w0 w R s F) (H:qV n s) (I:n<=100000) (w1 w2:Int) (acc:Bool) {a:Bool} (G:s.pick (w1,w2) acc=(s',a)):
  Calls prog 123 #[γ R,θ #[ι w1,ι w2],acc] w λe w'=>e= .returned (μ a)/\RmR w0 w' R s' F/\qw F w w':=by
 obtain⟨k,rfl,h⟩:=h;refine(Hq h H I w1 w2 acc).mono ?_;rintro e w' ⟨rfl,d,t⟩;rw[G] at d ⊢;exact⟨rfl,⟨k,rfl,d⟩,t⟩
def KY (h:RmR w0 w R s F) (G:s.ret.length<=1000000) {a:Bool} (d:s.ended=a):Calls prog 83 #[γ R] w λe w'=>e= .returned (μ a)/\ql w w':=by
 obtain⟨k,rfl,T,vp,H,h⟩:=h;rw[<-d];exact Li h G
def YI (h:RmR w0 w R s F) {c:CnR} (d:s.cnt=c):Calls prog 77 #[γ R] w λe w'=>e= .returned (θ #[ι c.lost,ι c.malf,ι c.strange,ι c.told,ι c.acc])/\ql w w':=by
 obtain⟨k,rfl,h⟩:=h;rw[<-d];exact FF h
def MO (h:RmR w0 w R s F) (x:Int) (d:(s.ln x).W.length<=1000000):Calls prog 126 #[γ R,ι x] w λe w'=>(∃v,e= .returned v/\je 2 (ROn w.heap.size) (λb=>b<w.heap.size) w' w.heap.size 209 v (s.ln x).W)/\ql w w':=by
 obtain⟨k,rfl,T,vp,G,h⟩:=h;exact CA h x d
end
section
variable {w00 w0 w w':World} {R:Nat} {s:RmS} {F Fn:List Nat}
def RmR.based (h:RmR w0 w R s F) (m:ql w00 w0) (H: ∀b∈Fn,w00.heap.size<=b/\b<w0.heap.size):RmR w00 w R s (Fn++F):=by
 obtain⟨k,rfl,T,vp,N,h⟩:=h;refine⟨k,rfl,T,vp,N,h.all,λb H=>ϙ m.size (h.ge b H),λb J=> ?_,m.trans h.more⟩;rcases Ϫ.1 J with e | e
 ·obtain⟨d,G⟩:=H b e;refine⟨?_,d,ϗ G h.more.size⟩;refine Q6 λc=> ?_
  have:=h.ge b c;omega
 ·obtain⟨d,G,I⟩:=h.law b e;exact⟨d,ϙ m.size G,I⟩
def RmR.mut (h:RmR w0 w R s F) (a:jt (λb=>b∈F) w w'):RmR w0 w' R s F:=by
 obtain⟨k,rfl,T,vp,d,h⟩:=h;exact⟨k,rfl,T,vp,d,h.mut a⟩
def RmR.mutA (h:RmR w0 w R s F) (a:jt (λb=>b∈F) w w') (H: ∀b∈Fn,b∈F∨w.heap.size<=b/\b<w'.heap.size):RmR w0 w' R s (Fn++F):=by
 obtain⟨k,rfl,T,vp,I,h⟩:=h;have d:=h.mut a;refine⟨k,rfl,T,vp,I,d.all,d.ge,λb G=> ?_,d.more⟩;rcases Ϫ.1 G with e | e
 ·rcases H b e with f | f
  ·exact d.law b f
  ·exact⟨h.fresh b f.1,ϙ h.more.size f.1,f.2⟩
 ·exact d.law b e
end
def Pl (w00:World) (pb:Nat) (o:Option RmS) (F:List Nat) (w:World):Prop:=pb∈F/\(∀b∈F,w00.heap.size<=b/\b<w.heap.size)/\ql w00 w/\match o with
 | none=>w.heap[pb]? =ϊ (.cells #[.pointer ϋ] 46 (0,0))
 | some s=> ∃R,RmR w00 w R s F/\w.heap[pb]? =ϊ (.cells #[.pointer (ϊ ⟨R,0,ϋ⟩)] 46 (0,0))
def PS (pb:Nat) (F:List Nat) (w w':World):Prop:=w.heap.size<=w'.heap.size/\ ∀b∈F,b≠pb->w'.heap[b]? =w.heap[b]?
section
variable {w00 w w' w'':World} {pb:Nat} {o:Option RmS} {F F' Fn:List Nat}
def PS.refl:PS pb F w w:=⟨ϔ _,λ_ _ _=>rfl⟩
def PS.trans (h:PS pb F w w') (k:PS pb F w' w''):PS pb F w w'':=⟨ϙ h.1 k.1,λb d G=>(k.2 b d G).trans (h.2 b d G)⟩
def PS.sub (h:PS pb F w w') (H: ∀b∈F',b∈F):PS pb F' w w':=⟨h.1,λb d G=>h.2 b (H b d) G⟩
def PS.blk (h:PS pb F w w') {x:Obj} (d:b∈F) (G:b≠pb) (k:w.heap[b]? =ϊ x):w'.heap[b]? =ϊ x:=by rw[h.2 b d G];exact k
def Pl.lt (h:Pl w00 pb o F w): ∀b∈F,b<w.heap.size:=λb d=>(h.2.1 b d).2
def Pl.mut (h:Pl w00 pb o F w) (a:jt (λb=>b∈F') w w') (J: ∀b∈F',b∈F) (I:pb∉F'):Pl w00 pb o F w':=by
 obtain⟨N,H,O,d⟩:=h;refine⟨N,λb G=>⟨(H b G).1,ϗ (H b G).2 a.size⟩,a.to_more O (λb G=>(H b (J b G)).1), ?_⟩;cases o with
 | none=>exact a.blk d I
 | some s=>exact d.elim λR d=>⟨R,d.1.mut (a.mono J),a.blk d.2 I⟩
def Pl.on (h:Pl w00 pb o F w) (m:ql w w'):Pl w00 pb o F w':=h.mut (F':=[]) (jt.of_more m) (λ_ d=>by cases d) (λd=>by cases d)
def Pl.stay (h:Pl w00 pb o F w) (m:ql w w'):PS pb F w w':=⟨m.size,λb d _=>m.block b (h.lt b d)⟩
def Pl.sub (h:Pl w00 pb o F w) (G: ∀b∈F',b∈F) (N:pb∈F'):Pl w00 pb o F' w:=by
 obtain⟨O,H,I,d⟩:=h;refine⟨N,λb J=>H b (G b J),I, ?_⟩;cases o with
 | none=>exact d
 | some s=>exact d.elim λR d=>⟨R,d.1.sub G,d.2⟩
def Pl.mutA (h:Pl w00 pb o F w) (a:jt (λb=>b∈F') w w') (O: ∀b∈F',b∈F) (N:pb∉F') (J: ∀b∈Fn,b∈F∨w.heap.size<=b/\b<w'.heap.size):Pl w00 pb o (Fn++F) w':=by
 obtain⟨U,d,I,G⟩:=h;have Y:=I.size;refine⟨ϐ _ U,λb H=> ?_,a.to_more I (λb H=>(d b (O b H)).1), ?_⟩
 ·rcases Ϫ.1 H with e | e
  ·rcases J b e with f | f
   ·exact⟨(d b f).1,ϗ (d b f).2 a.size⟩
   ·exact⟨τ,f.2⟩
  ·exact⟨(d b e).1,ϗ (d b e).2 a.size⟩
 ·cases o with
  | none=>exact a.blk G N
  | some s=>exact G.elim λR G=>⟨R,G.1.mutA (a.mono O) J,a.blk G.2 N⟩
def Pl.adds (h:Pl w00 pb o F w) (m:ql w w') (G: ∀b∈Fn,w.heap.size<=b/\b<w'.heap.size):Pl w00 pb o (Fn++F) w':=h.mutA (F':=[]) (jt.of_more m) (λ_ d=>by cases d) (λd=>by cases d) (λb d=>ϕ (G b d))
end
def SlP.rest (h:SlP 1 RTx w (δ (ϊ ⟨b,off,ϋ⟩) (L.length+1) cap) (x::L)):SlP 1 RTx w (δ (ϊ ⟨b,off+1,ϋ⟩) L.length (cap-1)) L:=by
 obtain⟨ad,aa,e,G,H,I,ab,ac⟩:=h;injection e with e1 e2 e3
 subst e1 e3;rw[Ϙ] at G I;refine⟨_,_,rfl,τ,λi hi=> ?_,τ,τ,λh=>by cases h⟩;obtain⟨Y,ae,cs,e,J,U,N,d⟩:=H (i+1) (by rw[Ϙ];omega);injection e with e
 injection e with e6 e7 _
 subst e6 e7;refine⟨b,off+1,cs,rfl,J,U,λj O=> ?_,by rw[List.getElem_cons_succ] at d;exact d⟩;rw[<-N j O]
 congr 2
 omega
def NZ (p:Addr) (w:World):
  CallsD prog 25 #[π (ϊ p)] .returning w λe H w'=>e= .returned (.tuple #[])/\H= .returning/\w'=w:=by
 refine callsD_of_wpS func25 rfl λd cs G=> ?_
 apply wpS_seq;apply wpS_region;simp[wpOpsS,go_sem,recoverD,G,ntmps25,Exit.thenS];apply wpS_seq;apply wpS_region;simp[wpOpsS,go_sem,Exit.thenS];refine wpS_cond (t:=ύ) (by simp[Act.eval,Array.replicate]) ?_;refine wpS_of_wp (wp_skip ?_);cases d
 simp_all [bodyPostS,results,results25,Exit.thenS]
def Sk (more:List UInt8):List UInt8:=if more=[] then [111,107] else [111,107,32]++more
def Pl.room (h:Pl d pb (ϊ s) F w): ∃R,RmR d w R s F/\w.heap[pb]? =ϊ (.cells #[γ R] 46 (0,0)):=h.2.2.2
section
open Go.Shelf Go.RowKit
def Ru:Go.Shelf.Ren:=⟨fun | 146=>6 | 221=>14 | 268=>20 | 138=>21 | 143=>22 | 195=>30 | 197=>31 | 218=>32 | 219=>33 | 260=>49 | 217=>50 | 225=>51 | 224=>52 | 267=>53 | 266=>84 | 314=>85 | n=>n,fun | 9=>9 | 31=>27 | 3=>3 | 4=>4 | 0=>0 | 105=>62 | 21=>21 | 5=>5 | 46=>80 | 119=>163 | 139=>166 | 138=>165 | 146=>167 | 51=>69 | n=>n,fun | 1=>0 | 3=>1 | 4=>2 | n=>n⟩
def lays146:Go.Proofs.LaysM.n146 prog Ru:=by
 constructor
 all_goals first | kernel_rfl | (intro w;rfl) | (constructor<;>first | kernel_rfl | (intro w;rfl)) | exact λw h=>Go.Proofs.cell_of_shapedOpen_int (zero:= #[ι 0]) (t:=3) h (Ϧ ξ) ξ rfl ξ ξ underlying3
def OC:Go.Shelf.Ren:=⟨fun | 156=>8 | 165=>16 | 166=>7 | 169=>12 | 240=>15 | 241=>24 | 276=>23 | 277=>34 | n=>n,fun | 31=>27 | 9=>9 | 3=>3 | 4=>4 | 0=>0 | 20=>20 | 72=>26 | 76=>31 | 70=>23 | 37=>24 | 75=>30 | 127=>49 | 164=>52 | 5=>5 | 80=>39 | n=>n,fun | n=>n⟩
def OF:Go.Proofs.Lays.n156 prog OC:=by
 constructor
 all_goals first | kernel_rfl | (intro w;rfl)
def Rt:Go.Shelf.Ren:=⟨fun | 171=>26 | 243=>35 | 246=>54 | 283=>86 | 284=>87 | 285=>88 | 286=>89 | 129=>131 | 317=>130 | 318=>132 | 319=>133 | 320=>134 | 337=>164 | 338=>165 | n=>n,fun | 3=>3 | 9=>9 | 2=>2 | 4=>4 | 171=>169 | 0=>0 | 53=>170 | 37=>24 | 5=>5 | 173=>173 | 212=>268 | 51=>69 | 20=>20 | 213=>269 | 46=>80 | 232=>342 | 233=>343 | n=>n,fun | 17=>3 | 18=>4 | 19=>5 | n=>n⟩
def Tl:Go.Proofs.LaysM.n171 prog Rt:=by
 constructor
 all_goals first | kernel_rfl | (intro w;rfl) | (constructor<;>first | kernel_rfl | (intro w;rfl))
def OQ:Nat:=0
def N9:String:=(Rows.scriptAheadRow.laid.map Prod.fst).getD 2 default
def bldX:Builder.Extra prog OC:={sizeBuilder:=by kernel_rfl,liesBuilder:=by kernel_rfl,t5:=underlying5,a5:=isAgg5,z5:=sizeOf5,v5:=zeroValue5,infoByte:=by kernel_rfl,cellsByte:=by kernel_rfl,sizeByte:=by kernel_rfl,neB5:=by decide}
def So (s sep:ByteArray) {d:Int} (w:World) (I:s.size<4294967281) (H:w.cell? ⟨OQ,0,ϋ⟩=ϊ (ι d)) (G:1<=sep.size):
  Calls prog 6 #[.string s,.string sep] w λe w'=>e= .returned (δ (ϊ ⟨w.heap.size,0,ϋ⟩) (Lib.countB s sep+1) (Lib.countB s sep+1))/\w'=w.alloc (.cells ((Lib.splitB sep 0 (Lib.countB s sep) s).map Value.string).toArray 9):=
 Any.strings_Split {lays146 with} ξ s sep d w I H G
def Se (w:World) (k:Nat) (os:Array Obj):ql w (Go.Sort.grow (w.drewN k) os):=⟨rfl,rfl,rfl,by simp[Go.Sort.grow,World.drewN],λb d=>by show (w.heap++os)[b]? =_;exact Array.getElem?_append_left d⟩
def Tu (n:Int) (h:0<=n/\n<=1000000000000) (w:World) (d:Lib.TabIs prog w N9 .u64 Lib.pow10Tab):
  Calls prog 26 #[ι n] w λe w'=>e= .returned (.string ⟨(Lib.itoa n).toArray⟩)/\ql w w':=by
 refine(Any.strconv_Itoa Tl n τ τ w d).mono ?_;rintro e w' ⟨rfl,k,os,rfl⟩;exact⟨rfl,Se w k os⟩
def Tt (d o c:Nat) (xs:List ByteArray) (sep:ByteArray) (w:World) (I: ∀(j:Nat) x,xs[j]? =ϊ x->w.cell? ⟨d,o+j,ϋ⟩=ϊ (.string x)) (H:d<w.heap.size) (O:xs.length<=1000) (J:xs.length<=c) (G:Lib.join (xs.map (·.data.toList)) sep.data.toList=r) (N:r.length<=1000):
  Calls prog 8 #[δ (ϊ ⟨d,o,ϋ⟩) xs.length c,.string sep] w λe w'=>e= .returned (.string ⟨r.toArray⟩)/\ql w w':=by
 have h:=Any.strings_Join {OF with} bldX d o c xs sep w I H τ J (by rw[G];omega);rw[G] at h;exact h
def Ts (B b:Nat) (l:List UInt8) (w:World) (h:Lib.IsBuilder 26 5 B b (Lib.byteCells l) w) (d:B<=w.heap.size):
  Calls prog 12 #[γ b] w λe w'=>e= .returned (.string ⟨l.toArray⟩)/\Below B w w':=
 Any.Builder_String_any {OF with} bldX B b l w h d
end
def NK (h:Lib.TabIs prog w N9 .u64 Lib.pow10Tab) (m:ql w w'):Lib.TabIs prog w' N9 .u64 Lib.pow10Tab:=Joins.tab_stays (g:=3) ξ h m (ϔ _)
def itB (n:Int):ByteArray:=⟨(Lib.itoa n).toArray⟩
def je.tx (h:je 1 RTx D w base 9 v L) (ab:0<L.length): ∃g cap,v= δ (ϊ ⟨g,0,ϋ⟩) L.length cap/\L.length<=cap/\g<w.heap.size/\ ∀(j:Nat) x,L[j]? =ϊ x->w.cell? ⟨g,0+j,ϋ⟩=ϊ (.string x):=by
 have N:=h.sl ζ;obtain⟨⟨xs,U,r⟩,_⟩:=h;rcases id U.2 with ⟨rfl,Y⟩ | ⟨g,cap,cur,rfl,aa,I,H,ac,_⟩
 ·omega
 ·refine⟨g,cap,rfl,H,lt_of_block I,λj x O=> ?_⟩;obtain⟨J,e⟩:=ϣ.1 O;obtain⟨b,off,d,G⟩:=N.strs (ql.refl _) j J;injection d with d
  injection d with e3 e4 _
  subst e3 e4;rw[G,e]
def RE (sep:ByteArray) (ns:List Int) (g cap:Nat) (w:World) (ah: ∀i y,ns[i]? =ϊ y->w.cell? ⟨g,i,ϋ⟩=ϊ (ι y)) (N:g<w.heap.size) (aD:0<ns.length) (aN:ns.length<=20) (I: ∀n∈ns,0<=n/\n<=1000000000000) (ak:Lib.TabIs prog w N9 .u64 Lib.pow10Tab)
  (aj:Lib.join (ns.map Lib.itoa) sep.data.toList=r) (aC:r.length<=1000):
  Calls prog 78 #[.string sep,δ (ϊ ⟨g,0,ϋ⟩) ns.length cap] w λe w'=>e= .returned (.string ⟨r.toArray⟩)/\ql w w':=by
 obtain⟨aJ,hi,aE,aF,aG⟩:=info_parts (P:=prog) (e:=9) (z:= .string ByteArray.empty) (size:=1) (bytes:=16) ξ;have au:=κ (λw' (m:ql w w')=>NK ak m);have am:Hid (∀wr,ql w wr-> ∀i (hi:i<ns.length),wr.cell? ⟨g,i,ϋ⟩=ϊ (ι ns[i])):=κ (λwr m i hi=>by rw[m.cells _ _ N];exact ah i _ (ϖ hi));have aq:Hid (∀i (hi:i<ns.length),0<=ns[i]/\ns[i]<=1000000000000):=κ (λi hi=>I _ (ϥ hi));have ap:=κ aj;clear ah I ak aj
 go_enter func78,ntmps78
 go_wp2
 go_loopw [5,10] (λu ab wr=> ∃i:Nat,i<=ns.length/\ab= ι i/\(∃ad ac U,u= δ ad ac U)/\je 1 RTx (λ_=>False) wr w.heap.size 9 u ((ns.take i).map itB)/\ql w wr) (λ_ ab _=>ns.length-(intOf ab).toNat)
 case atStart=>exact⟨0,τ,rfl,⟨_,_,_,rfl⟩,je.nil _ _ _ _ _ _,ql.refl _⟩
 case round=>
  obtain⟨i,aO,rfl,⟨ad,ac,U,rfl⟩,I,ai⟩:=hrel;have O:=κ I;have J:=κ ai;clear I ai;by_cases hlt:i<ns.length
  ·have aB:(i:Int)<(ns.length:Int):=by omega
   have aL:=am.o wr J.o i hlt;have ao:=κ (Tu ns[i] (aq.o i hlt) wr (au.o wr J.o));have av:Hid ((ns.take (i+1)).map itB=(ns.take i).map itB++[itB ns[i]]):=κ (by rw[ϡ hlt,ϩ];rfl);have aP:((ns.take i).map itB).length<=20:=by rw[ϱ,Ϥ];omega
   generalize ns[i]=y at *;generalize (ns.take i).map itB=fl at *;have an:Hid (∀b,(δ ad ac U).ownBlock=ϊ b->w.heap.size<=b):=κ (λb h=>O.o.ge h)
   go_wp2_with (first | (go_at_call 26;(go_call ao.o as e w5 ⟨rfl,G⟩;have H:=κ (J.o.trans G);have aw:=κ ((O.o.on G).on (ql.alloc w5 (.cells #[.string (itB y)] 9)));clear G)) | (at_builtin;(refine jN (R:=RTx) (D:=λ_=>False) _ rfl (.tmp 14) (.tmp 17) 27 rfl w.heap.size 9 aJ (.string ByteArray.empty) 1 16 underlying27 hi aE aF aG rfl ζ _ fl rfl aw.o w5.heap.size [.string (itB y)] (itB y) rfl rfl (zS (by simp[itB])) X8 (λw' _=>rfl) (λb h=>h.elim) ζ τ (H.o.al _).size ?_;intro v' w8 d N aA;have aK:Hid (ql w w8):=κ (Below.grown (H.o.al _) N (H.o.al _).size an.o);obtain⟨aR,aQ,aM,rfl,aH,aI⟩:=d.shape;have ax:=κ d;clear d N aA aH aI)))
   go_roundw
   case rel=>exact⟨i+1,τ,by go_num,⟨_,_,_,rfl⟩,by rw[av.o];exact ax.o,aK.o⟩
   case measure=>simp[intOf];omega
  ·obtain rfl:i=ns.length:=by omega
   have aB: ¬(ns.length:Int)<(ns.length:Int):=by omega
   have d:=O.o;rw[Ϩ] at d;obtain⟨az,ay,Y,ae,af,ag⟩:=d.tx (by rw[ϱ];exact aD);have aa:=Tt az 0 ay (ns.map itB) sep wr ag af (by rw[ϱ];omega) ae (r:=r) (by rw[<-ap.o,G4];rfl) aC;rw[ϱ] at aa Y;have ar:=κ aa;clear aa;rw[Y];clear d Y ae af ag
   go_wp2_with ((go_at_call 8;(go_call ar.o as e w5 ⟨rfl,G⟩;have H:=κ (J.o.trans G);clear G)))
   go_ret;exact⟨rfl,H.o⟩
def qdH: ∀(d u:Nat),u<10 ^ (d+1)->(Lib.decDigits u).length<=d+1
 | 0,u,h=>by
  have h:u<10:=by simpa using h
  unfold Lib.decDigits;rw[dif_pos h];simp
 | d+1,u,h=>by
  unfold Lib.decDigits;split
  ·simp
  ·have:=qdH d (u/10) (by rw[Nat.pow_succ] at h;omega);rw[ώ,I1];omega
def qbR (n:Int) (h:0<=n/\n<=1000000000000):(Lib.itoa n).length<=13:=by
 unfold Lib.itoa;rw[Ϗ τ];exact qdH 12 _ τ
def qbT (k:Int):List UInt8:=[101,114,114,111,114,32]++Lib.itoa k
def qd0 (b:Nat) (k:Int) (ad:0<=k/\k<=1000) (J:List PanicEntry) (w:World) (H:w.heap[b]? =ϊ (.cells #[.string x] 9 (0,0))) (I:Lib.TabIs prog w N9 .u64 Lib.pow10Tab):
  CallsD prog 25 #[γ b] (.panicking ({v:= .iface 35 (ι k),recovered:=ύ}::J)) w λe aa w'=>
   e= .returned (.tuple #[])/\aa= .panicking ({v:= .iface 35 (ι k),recovered:=ό}::J)/\ ∃w1,ql w w1/\w'=w1.setCell ⟨b,0,ϋ⟩ (.string ⟨(qbT k).toArray⟩):=by
 have N:=κ (λw' (m:ql w w')=>Tu k τ w' (NK I m));have G:=κ H;clear I H;have ae: ∀w,(Instr.typeAssert (.iface 35 (ι k)) 20 35 ό).run prog w= .ok (.tuple #[ι k,ό]) w:=λw=>by kernel_rfl
 have ac:=λw=>run_string_add_lists (P:=prog) w [101,114,114,111,114,32] (Lib.itoa k) ζ (by have:=qbR k τ;omega)
 refine callsD_of_wpS func25 rfl λU cs Y=> ?_
 apply wpS_seq;apply wpS_region;simp[wpOpsS,go_sem,recoverD,Y,ntmps25,Exit.thenS];apply wpS_seq;apply wpS_region;simp[wpOpsS,go_sem,Exit.thenS];refine wpS_cond (t:=ό) (by simp[Act.eval,Array.replicate]) ?_;simp only[C1];refine wpS_of_wp ?_;change Code.wp _ _ _ ⟨#[γ b,.iface 35 (ι k),undef,undef,.iface 35 (ι k),.iface 35 (ι k),ό,undef,undef,undef,undef,undef,undef,undef,undef,undef,undef,undef],[]⟩ _
 go_wp2_with ((go_at_call 26;(go_call N.o _ (ql.refl _) as e w1 ⟨rfl,d⟩;have O:=κ d;have c1:=β0 (qq d G.o);have ab:=yw (qq d G.o) 0;clear d)))
 cases U
 simp_all [bodyPostS,results,results25]
 exact⟨w1,O.o,rfl⟩
def Pl.told {w7 w8:World} {q:Nat} {H:Option RmS} (h:Pl G pb o F w) (aa:q=w.heap.size) (J:Pl G pb H ([q]++F) w7) (I:PS pb F w w7) (O:ql w7 w8) (v:Value):Pl G pb H F (w8.setCell ⟨q,0,ϋ⟩ v)/\PS pb F w (w8.setCell ⟨q,0,ϋ⟩ v):=by
 have a:jt (λb=>b∈[q]) w7 (w8.setCell ⟨q,0,ϋ⟩ v):=(jt.of_more O).set η _;have N:pb≠q:=λe=>by have:=h.lt pb h.1;omega
 refine⟨(J.mut a (λb d=>by simp at d;subst d;simp) (λd=>by simp at d;exact N d)).sub (λb d=>by simp[d]) h.1,I.trans ⟨a.size,λb d Y=> ?_⟩⟩;have U:b<w.heap.size:=h.lt b d;exact a.block b (by have:=I.1;omega) (λe=>by simp at e;omega)
def SlP.restA {d:Addr} (h:SlP 1 RTx w (δ (ϊ ⟨b,off,ϋ⟩) (L.length+1) cap) (x::L)) (G:cap=1/\L=[]/\d=⟨b,off,ϋ⟩∨ ¬cap=1/\d=⟨b,off+1,ϋ⟩):SlP 1 RTx w (δ (ϊ d) L.length (cap-1)) L:=by
 rcases G with ⟨rfl,rfl,rfl⟩ | ⟨_,rfl⟩
 ·exact⟨_,_,rfl,η,λi hi=>by simp at hi,η,by unfold maxLen;omega,λh=>by cases h⟩
 ·exact h.rest
def qcg {w7:World} {J:Option RmS} {k:Int} {a:Act} (aa:a.defers=[{target:= .fn (.func 25) #[γ w.heap.size],args:= #[]}]) (ab:a.tmps[4]? =ϊ (π (ϊ ⟨w.heap.size,0,ϋ⟩)))
  (U:0<=k/\k<=1000) (h:Pl d pb o F w) (H:Pl d pb J ([w.heap.size]++F) w7) (ac:PS pb F w w7) (G:w7.heap[w.heap.size]? =ϊ (.cells #[.string ⟨#[]⟩] 9 (0,0))) (Y:Lib.TabIs prog d N9 .u64 Lib.pow10Tab):
  bodyPostD prog f17 (λe w'=>e= .returned (.string ⟨(qbT k).toArray⟩)/\Pl d pb J F w'/\PS pb F w w') (.panic [{v:= .iface 35 (ι k),recovered:=ύ}]) a w7:=by
 simp only[bodyPostD];rw[aa];refine leaves_cons (f:=25) (args:= #[γ w.heap.size]) η (by simp[go_sem]) ?_;refine(qd0 w.heap.size k U [] _ G (NK Y H.2.2.1)).mono ?_;rintro e ad w'' ⟨rfl,rfl,w8,I,rfl⟩;have O: ∀v,(w8.setCell ⟨w.heap.size,0,ϋ⟩ v).cell? ⟨w.heap.size,0,ϋ⟩=ϊ v:=λv=>World.cell?_setCell_same' _ _ v (by rw[β0 (qq I G)];rfl)
 have N:=h.told rfl H ac I (.string ⟨(qbT k).toArray⟩);simp[Leaves,settle,results,results17,go_sem,O,ab];exact N
inductive Res where
 | told (l:List UInt8)
 | err (k:Int)
def O0:Res->Ending
 | .told l=> .returned (.string ⟨l.toArray⟩)
 | .err k=>qcO k
def qd2:Res->List UInt8
 | .told l=>Sk l
 | .err k=>qbT k
def qdp (pb:Nat) (F:List Nat) (w:World) (v:Value) (ns:List Int):Prop:= ∃og cap,v= .slice og ns.length cap/\(ns=[]/\og=ϋ/\cap=0∨ ∃g,og=ϊ ⟨g,0,ϋ⟩/\ns≠[]/\g∈F/\g≠pb/\ ∀i y,ns[i]? =ϊ y->w.cell? ⟨g,i,ϋ⟩=ϊ (.int .i64 y))
def qe6.numF {B:Nat} {X:List Nat} (h:qe6 B w v ns) (N:pb<B): ∃Fn:List Nat,(∀b∈Fn,B<=b/\b<w.heap.size)/\qdp pb (Fn++X) w v ns:=by
 obtain⟨O,cap,rfl,h⟩:=h;rcases h with ⟨rfl,rfl,rfl⟩ | ⟨g,rfl,G,H,I,J⟩
 ·exact⟨[],(λb d=>by cases d),ϋ,0,rfl,ϑ ⟨rfl,rfl,rfl⟩⟩
 ·exact⟨[g],(λb d=>by simp at d;subst d;exact⟨H,I⟩),_,cap,rfl,ϕ ⟨g,rfl,G,η,τ,J⟩⟩
def qdU {ae:Addr} {U:ByteArray}
  (h:Pl I pb o F w) (Y:SlP 1 RTx w (δ (ϊ ⟨b,off,ϋ⟩) (args.length+1) cap) (U::args)) (ad:Lib.TabIs prog I N9 .u64 Lib.pow10Tab) (aj:cap=1/\args=[]/\ae=⟨b,off,ϋ⟩∨ ¬cap=1/\ae=⟨b,off+1,ϋ⟩)
  (hF:BC U=ϋ):Calls prog 17 #[γ pb,δ (ϊ ⟨b,off,ϋ⟩) (args.length+1) cap] w λe w'=>e= .returned (.string ⟨(qbT 2).toArray⟩)/\Pl I pb o F w'/\PS pb F w w':=by
 obtain⟨W1,O⟩:=ν (w.alloc (.cells #[.string ⟨#[]⟩] 9));have J:Hid (ql w W1):=κ (by rw[<-O];exact ql.alloc _ _);have aa:Hid (W1.heap[w.heap.size]? =ϊ (.cells #[.string ⟨#[]⟩] 9 (0,0))):=κ (by rw[<-O];exact qj _ _);have ab:Hid (Pl I pb o ([w.heap.size]++F) W1):=κ (h.adds J.o (λb H=>by simp at H;subst H;exact⟨ϔ _,qn aa.o⟩));have ah:Hid (PS pb F w W1):=κ (h.stay J.o);have ap:args.length+1<=cap:=by
  obtain⟨av,an,e,_,_,ai,_⟩:=id Y;injection e with _ _ e3
  subst e3;exact ai
 obtain⟨am,au,e0,N⟩:=Y.strs J.o 0 η;injection e0 with e0
 injection e0 with e1 e2 _
 subst e1 e2;rw[E9] at N;rw[M0] at N;have aq:(1:Int)<=(args.length:Int)+1:=by omega
 have ar:((args.length:Int)+1)<=(cap:Int):=by omega
 have af:=κ h;have G:=κ (λw'=>qch U w');rw[hF] at G;simp only[qd3,qcO] at G;have ag:=κ ad;clear h Y hF ad;rcases aj with ⟨rfl,rfl,rfl⟩ | ⟨ao,rfl⟩
 all_goals
  go_enter_defers func17,ntmps17
  go_upto_region 3 with fail
  clear N O;refine wp_mono (Q:=λe a w'=>match e with | .panic c=>a.defers=[{target:= .fn (.func 25) #[γ w.heap.size],args:= #[]}]/\a.tmps[4]? =ϊ (π (ϊ ⟨w.heap.size,0,ϋ⟩))/\c=[{v:= .iface 35 (ι 2),recovered:=ύ}]/\w'=W1.drewN 1 | _=>False) ?_ ?_
  ·refine wp_region_any ξ ?_
   (try (change wpAny _ _ _ _ _ _ _ (World.drew _)))
   refine wpAny_ready (rs:=[0,2]) ξ η ?_;refine AllReady.cons rfl (λK d=> ?_) ?_
   ·go_simp;refine d _ _ ?_;clear d K;refine wpAny_ready (rs:=[1,2]) ξ η ?_;refine AllReady.cons rfl (λK d=> ?_) ?_
    ·go_simp
     go_wp2_with ((go_at_call 28;(go_call G.o _ as e w5 ⟨rfl,rfl⟩)))
     exact rfl
    refine AllReady.cons rfl (λK d=> ?_) ?_
    ·go_simp;refine d _ _ ?_;clear d K;refine wpAny_ready (rs:=[1,3]) ξ η ?_;refine AllReady.cons rfl (λK d=> ?_) ?_
     ·go_simp
      go_wp2_with ((go_at_call 28;(go_call G.o _ as e w5 ⟨rfl,rfl⟩)))
      exact rfl
     refine AllReady.cons rfl (λK d=> ?_) ?_
     ·go_simp;refine d _ _ ?_;clear d K;refine wpAny_ready (rs:=[1]) ξ η ?_;refine AllReady.cons rfl (λK d=> ?_) ?_
      ·go_simp
       go_wp2_with ((go_at_call 28;(go_call G.o _ as e w5 ⟨rfl,rfl⟩)))
       exact rfl
      exact AllReady.nil
     exact AllReady.nil
    exact AllReady.nil
   refine AllReady.cons rfl (λK d=> ?_) ?_
   ·go_simp;refine d _ _ ?_;clear d K;refine wpAny_ready (rs:=[0,3]) ξ η ?_;refine AllReady.cons rfl (λK d=> ?_) ?_
    ·go_simp;refine d _ _ ?_;clear d K;refine wpAny_ready (rs:=[1,3]) ξ η ?_;refine AllReady.cons rfl (λK d=> ?_) ?_
     ·go_simp
      go_wp2_with ((go_at_call 28;(go_call G.o _ as e w5 ⟨rfl,rfl⟩)))
      exact rfl
     refine AllReady.cons rfl (λK d=> ?_) ?_
     ·go_simp;refine d _ _ ?_;clear d K;refine wpAny_ready (rs:=[1]) ξ η ?_;refine AllReady.cons rfl (λK d=> ?_) ?_
      ·go_simp
       go_wp2_with ((go_at_call 28;(go_call G.o _ as e w5 ⟨rfl,rfl⟩)))
       exact rfl
      exact AllReady.nil
     exact AllReady.nil
    refine AllReady.cons rfl (λK d=> ?_) ?_
    ·go_simp;refine d _ _ ?_;clear d K;refine wpAny_ready (rs:=[0]) ξ η ?_;refine AllReady.cons rfl (λK d=> ?_) ?_
     ·go_simp;refine d _ _ ?_;clear d K;refine wpAny_ready (rs:=[1]) ξ η ?_;refine AllReady.cons rfl (λK d=> ?_) ?_
      ·go_simp
       go_wp2_with ((go_at_call 28;(go_call G.o _ as e w5 ⟨rfl,rfl⟩)))
       exact rfl
      exact AllReady.nil
     exact AllReady.nil
    exact AllReady.nil
   exact AllReady.nil
  ·intro e a w' ac;cases e<;>simp only at ac
   obtain⟨ak,al,rfl,rfl⟩:=ac;exact qcg ak al ζ af.o (ab.o.on (ql.drewN _ 1)) (ah.o.trans ((ab.o.stay (ql.drewN _ 1)).sub (λb H=>ϐ _ H))) (qb aa.o 1) ag.o
def qdS {ab:World} {ae:ByteArray}
  (h:Pl ab pb o F w) (aa:SlP 1 RTx w (δ (ϊ ⟨b,off,ϋ⟩) (args.length+1) cap) (ae::args)) (am:Lib.TabIs prog ab N9 .u64 Lib.pow10Tab) (al:cap=1/\args=[]/\Y=⟨b,off,ϋ⟩∨ ¬cap=1/\Y=⟨b,off+1,ϋ⟩)
  (hF:BC ae=ϊ fm) (aj:fm.data.toList.length<=100) (ai:xb fm.data.toList args=ϋ):Calls prog 17 #[γ pb,δ (ϊ ⟨b,off,ϋ⟩) (args.length+1) cap] w λe w'=>e= .returned (.string ⟨(qbT 2).toArray⟩)/\Pl ab pb o F w'/\PS pb F w w':=by
 obtain⟨W1,ad⟩:=ν (w.alloc (.cells #[.string ⟨#[]⟩] 9));have J:Hid (ql w W1):=κ (by rw[<-ad];exact ql.alloc _ _);have af:Hid (W1.heap[w.heap.size]? =ϊ (.cells #[.string ⟨#[]⟩] 9 (0,0))):=κ (by rw[<-ad];exact qj _ _);have ag:Hid (Pl ab pb o ([w.heap.size]++F) W1):=κ (h.adds J.o (λb U=>by simp at U;subst U;exact⟨ϔ _,qn af.o⟩));have ap:Hid (PS pb F w W1):=κ (h.stay J.o);have ay:args.length+1<=cap:=by
  obtain⟨aC,aw,e,_,_,aq,_⟩:=id aa;injection e with _ _ e3
  subst e3;exact aq
 obtain⟨av,aB,e0,ac⟩:=aa.strs J.o 0 η;injection e0 with e0
 injection e0 with e1 e2 _
 subst e1 e2;rw[E9] at ac;rw[M0] at ac;have ah:Hid (∀w',ql w w'->SlP 1 RTx w' (δ (ϊ Y) args.length (cap-1)) args):=κ (λw' m=>SlP.restA (SlP.keep Tm aa m) al);have az:(1:Int)<=(args.length:Int)+1:=by omega
 have aA:((args.length:Int)+1)<=(cap:Int):=by omega
 have an:=κ h;have N:=κ (λw'=>qch ae w');rw[hF] at N;simp only[qd3] at N;have O:=κ (λw' (m:ql w w')=>qcL ai aj (ϊ Y) (cap-1) w' (ah.o w' m));simp only[qcO] at O;have ao:=κ am;have H:Hid (ql W1 W1.drew):=κ (ql.drewN W1 1);clear h aa hF ai aj am ah;rcases al with ⟨rfl,rfl,rfl⟩ | ⟨ax,rfl⟩
 all_goals
  (try simp only[P2,Ϣ] at O)
  go_enter_defers func17,ntmps17
  go_upto_region 3 with fail
  clear ac ad;refine wp_mono (Q:=λe a w'=>match e with | .panic c=>a.defers=[{target:= .fn (.func 25) #[γ w.heap.size],args:= #[]}]/\a.tmps[4]? =ϊ (π (ϊ ⟨w.heap.size,0,ϋ⟩))/\c=[{v:= .iface 35 (ι 2),recovered:=ύ}]/\ql W1 w' | _=>False) ?_ ?_
  ·refine wp_region_any ξ ?_
   (try (change wpAny _ _ _ _ _ _ _ (World.drew _)))
   refine wpAny_ready (rs:=[0,2]) ξ η ?_;refine AllReady.cons rfl (λK d=> ?_) ?_
   ·go_simp;refine d _ _ ?_;clear d K;refine wpAny_ready (rs:=[1,2]) ξ η ?_;refine AllReady.cons rfl (λK d=> ?_) ?_
    ·go_simp
     go_wp2_with ((go_at_call 28;(go_call N.o _ as e w5 ⟨rfl,rfl⟩)))
     try refine d _ _ ?_
     try clear d K
     refine wpAny_ready (rs:=[2]) ξ η ?_;refine AllReady.cons rfl (λK d=> ?_) ?_
     ·go_simp;refine d _ _ ?_;clear d K;refine wpAny_ready (rs:=[3]) ξ η ?_;refine AllReady.cons rfl (λK d=> ?_) ?_
      ·go_simp;refine d _ _ ?_;clear d K;refine wpAny_ready (rs:=[4]) ξ η ?_;refine AllReady.cons rfl (λK d=> ?_) ?_
       ·go_simp
        go_wp2_with ((go_at_call 27;(go_call O.o _ (J.o.trans H.o) as e w6 ⟨rfl,G⟩;have I:=κ (H.o.trans G);clear G)))
        exact I.o
       exact AllReady.nil
      exact AllReady.nil
     exact AllReady.nil
    refine AllReady.cons rfl (λK d=> ?_) ?_
    ·go_simp;refine d _ _ ?_;clear d K;refine wpAny_ready (rs:=[1,3]) ξ η ?_;refine AllReady.cons rfl (λK d=> ?_) ?_
     ·go_simp
      go_wp2_with ((go_at_call 28;(go_call N.o _ as e w5 ⟨rfl,rfl⟩)))
      try refine d _ _ ?_
      try clear d K
      refine wpAny_ready (rs:=[3]) ξ η ?_;refine AllReady.cons rfl (λK d=> ?_) ?_
      ·go_simp;refine d _ _ ?_;clear d K;refine wpAny_ready (rs:=[4]) ξ η ?_;refine AllReady.cons rfl (λK d=> ?_) ?_
       ·go_simp
        go_wp2_with ((go_at_call 27;(go_call O.o _ (J.o.trans H.o) as e w6 ⟨rfl,G⟩;have I:=κ (H.o.trans G);clear G)))
        exact I.o
       exact AllReady.nil
      exact AllReady.nil
     refine AllReady.cons rfl (λK d=> ?_) ?_
     ·go_simp;refine d _ _ ?_;clear d K;refine wpAny_ready (rs:=[1]) ξ η ?_;refine AllReady.cons rfl (λK d=> ?_) ?_
      ·go_simp
       go_wp2_with ((go_at_call 28;(go_call N.o _ as e w5 ⟨rfl,rfl⟩)))
       try refine d _ _ ?_
       try clear d K
       refine wpAny_ready (rs:=[4]) ξ η ?_;refine AllReady.cons rfl (λK d=> ?_) ?_
       ·go_simp
        go_wp2_with ((go_at_call 27;(go_call O.o _ (J.o.trans H.o) as e w6 ⟨rfl,G⟩;have I:=κ (H.o.trans G);clear G)))
        exact I.o
       exact AllReady.nil
      exact AllReady.nil
     exact AllReady.nil
    exact AllReady.nil
   refine AllReady.cons rfl (λK d=> ?_) ?_
   ·go_simp;refine d _ _ ?_;clear d K;refine wpAny_ready (rs:=[0,3]) ξ η ?_;refine AllReady.cons rfl (λK d=> ?_) ?_
    ·go_simp;refine d _ _ ?_;clear d K;refine wpAny_ready (rs:=[1,3]) ξ η ?_;refine AllReady.cons rfl (λK d=> ?_) ?_
     ·go_simp
      go_wp2_with ((go_at_call 28;(go_call N.o _ as e w5 ⟨rfl,rfl⟩)))
      try refine d _ _ ?_
      try clear d K
      refine wpAny_ready (rs:=[3]) ξ η ?_;refine AllReady.cons rfl (λK d=> ?_) ?_
      ·go_simp;refine d _ _ ?_;clear d K;refine wpAny_ready (rs:=[4]) ξ η ?_;refine AllReady.cons rfl (λK d=> ?_) ?_
       ·go_simp
        go_wp2_with ((go_at_call 27;(go_call O.o _ (J.o.trans H.o) as e w6 ⟨rfl,G⟩;have I:=κ (H.o.trans G);clear G)))
        exact I.o
       exact AllReady.nil
      exact AllReady.nil
     refine AllReady.cons rfl (λK d=> ?_) ?_
     ·go_simp;refine d _ _ ?_;clear d K;refine wpAny_ready (rs:=[1]) ξ η ?_;refine AllReady.cons rfl (λK d=> ?_) ?_
      ·go_simp
       go_wp2_with ((go_at_call 28;(go_call N.o _ as e w5 ⟨rfl,rfl⟩)))
       try refine d _ _ ?_
       try clear d K
       refine wpAny_ready (rs:=[4]) ξ η ?_;refine AllReady.cons rfl (λK d=> ?_) ?_
       ·go_simp
        go_wp2_with ((go_at_call 27;(go_call O.o _ (J.o.trans H.o) as e w6 ⟨rfl,G⟩;have I:=κ (H.o.trans G);clear G)))
        exact I.o
       exact AllReady.nil
      exact AllReady.nil
     exact AllReady.nil
    refine AllReady.cons rfl (λK d=> ?_) ?_
    ·go_simp;refine d _ _ ?_;clear d K;refine wpAny_ready (rs:=[0]) ξ η ?_;refine AllReady.cons rfl (λK d=> ?_) ?_
     ·go_simp;refine d _ _ ?_;clear d K;refine wpAny_ready (rs:=[1]) ξ η ?_;refine AllReady.cons rfl (λK d=> ?_) ?_
      ·go_simp
       go_wp2_with ((go_at_call 28;(go_call N.o _ as e w5 ⟨rfl,rfl⟩)))
       try refine d _ _ ?_
       try clear d K
       refine wpAny_ready (rs:=[4]) ξ η ?_;refine AllReady.cons rfl (λK d=> ?_) ?_
       ·go_simp
        go_wp2_with ((go_at_call 27;(go_call O.o _ (J.o.trans H.o) as e w6 ⟨rfl,G⟩;have I:=κ (H.o.trans G);clear G)))
        exact I.o
       exact AllReady.nil
      exact AllReady.nil
     exact AllReady.nil
    exact AllReady.nil
   exact AllReady.nil
  ·intro e a w' ak;cases e<;>simp only at ak
   obtain⟨ar,au,rfl,G⟩:=ak;exact qcg ar au ζ an.o (ag.o.on G) (ap.o.trans ((ag.o.stay G).sub (λb U=>ϐ _ U))) (qq G af.o) ao.o
def qdT {I:ByteArray}
  (h:Pl J pb o F w) (aa:SlP 1 RTx w (δ (ϊ ⟨b,off,ϋ⟩) (args.length+1) cap) (I::args)) (ak:Lib.TabIs prog J N9 .u64 Lib.pow10Tab) (aj:cap=1/\args=[]/\Y=⟨b,off,ϋ⟩∨ ¬cap=1/\Y=⟨b,off+1,ϋ⟩)
  (hF:BC I=ϊ fm) (ai:fm.data.toList.length<=100) (ah:xb fm.data.toList args=ϊ ns) (ar:o=ϋ) (aq:(I.toList==([114,111,111,109]:List UInt8))=ύ):
  Calls prog 17 #[γ pb,δ (ϊ ⟨b,off,ϋ⟩) (args.length+1) cap] w λe w'=>e= .returned (.string ⟨(qbT 5).toArray⟩)/\Pl J pb ϋ F w'/\PS pb F w w':=by
 obtain⟨W1,ac⟩:=ν (w.alloc (.cells #[.string ⟨#[]⟩] 9));have O:Hid (ql w W1):=κ (by rw[<-ac];exact ql.alloc _ _);have ad:Hid (W1.heap[w.heap.size]? =ϊ (.cells #[.string ⟨#[]⟩] 9 (0,0))):=κ (by rw[<-ac];exact qj _ _);have ae:Hid (Pl J pb o ([w.heap.size]++F) W1):=κ (h.adds O.o (λb U=>by simp at U;subst U;exact⟨ϔ _,qn ad.o⟩));have ao:Hid (PS pb F w W1):=κ (h.stay O.o);have aD:args.length+1<=cap:=by
  obtain⟨aI,aA,e,_,_,ap,_⟩:=id aa;injection e with _ _ e3
  subst e3;exact ap
 obtain⟨az,aH,e0,ab⟩:=aa.strs O.o 0 η;injection e0 with e0
 injection e0 with e1 e2 _
 subst e1 e2;rw[E9] at ab;rw[M0] at ab;have ag:Hid (∀w',ql w w'->SlP 1 RTx w' (δ (ϊ Y) args.length (cap-1)) args):=κ (λw' m=>SlP.restA (SlP.keep Tm aa m) aj);have aF:(1:Int)<=(args.length:Int)+1:=by omega
 have aG:((args.length:Int)+1)<=(cap:Int):=by omega
 have am:=κ h;subst ar;have au:pb≠w.heap.size:=λe=>by have:=h.lt pb h.1;omega
 have G:=κ (λw' (m:ql w w')=>qcp (fm:=fm) (ws:=args) ai (ϊ Y) (cap-1) w' (ag.o w' m));rw[ah] at G;simp only[qe7] at G;have an:=κ ak;have N:=κ (λw'=>qch I w');rw[hF] at N;simp only[qd3] at N;generalize aE:(I.toList==([114,111,111,109]:List UInt8))=qr at *;subst aq;clear h aa ak hF ai ah ag au;rcases aj with ⟨rfl,rfl,rfl⟩ | ⟨aC,rfl⟩
 all_goals
  (try simp only[P2,Ϣ] at G)
  go_enter_defers func17,ntmps17
  go_upto_region 3 with fail
  clear ab ac;refine zC W1 6 [(0,ύ),(2,ύ),(3,ύ),(1,ό),(4,ό),(5,ύ)] ξ ξ ?_
  refine Qq3 ?_
  (refine Ql ?_;intro K d)
  go_call N.o _ as e w5 ⟨rfl,rfl⟩;refine⟨_,rfl,qk ((ql.refl _).dr 1),d _ _ ?_⟩;clear d K
  (refine Ql ?_;intro K d)
  go_call G.o _ (O.o.dr 1) as e w6 ⟨⟨aJ,rfl,av⟩,al⟩;have H:Hid (ql W1 w6):=κ (((ql.refl W1).dr 1).trans al);refine⟨_,rfl,qk H.o,d _ _ ?_⟩;clear d K
  iterate 1 (refine qE rfl rfl (qk H.o) ?_;intro K d;go_big_quiet_op;go_big_quiet_on)
  refine qA ?_;clear av al G N;have af:Hid (Pl J pb ϋ ([w.heap.size]++F) w6):=κ (ae.o.on H.o);have aB:w6.cell? ⟨pb,0,ϋ⟩=ϊ (π ϋ):=qa af.o.2.2.2 0 rfl;have ay:=λa aw ax=>qcg (k:=5) (a:=a) aw ax ζ am.o af.o (ao.o.trans ((ae.o.stay H.o).sub (λb U=>ϐ _ U))) (qq H.o ad.o) an.o
  go_wp2
def qeM {H:World} {al:Addr} {O:Option RmS} {ab:ByteArray}
  (h:Pl H pb o F w) (am:SlP 1 RTx w (δ (ϊ ⟨b,off,ϋ⟩) (args.length+1) cap) (ab::args)) (aN:Lib.TabIs prog H N9 .u64 Lib.pow10Tab) (aM:cap=1/\args=[]/\al=⟨b,off,ϋ⟩∨ ¬cap=1/\al=⟨b,off+1,ϋ⟩) {r:Res}
  (hF:BC ab=ϊ fm) (aJ:fm.data.toList.length<=100) (aG:xb fm.data.toList args=ϊ ns) (aH:(ab.toList==([114,111,111,109]:List UInt8))=ό∨o.isSome=ό) (aK: ∀l,r= .told l->l.length<=8000000) (aI: ∀k,r= .err k->0<=k/\k<=1000)
  (aE: ∀(F:List Nat) (w:World) (v:Value),Pl H pb o F w->qdp pb F w v ns->Calls prog 29 #[γ pb,.string ab,v] w λe w'=>e=O0 r/\Pl H pb O F w'/\PS pb F w w'):
  Calls prog 17 #[γ pb,δ (ϊ ⟨b,off,ϋ⟩) (args.length+1) cap] w λe w'=>e= .returned (.string ⟨(qd2 r).toArray⟩)/\Pl H pb O F w'/\PS pb F w w':=by
 obtain⟨W1,ar⟩:=ν (w.alloc (.cells #[.string ⟨#[]⟩] 9));have ak:Hid (ql w W1):=κ (by rw[<-ar];exact ql.alloc _ _);have aw:Hid (W1.heap[w.heap.size]? =ϊ (.cells #[.string ⟨#[]⟩] 9 (0,0))):=κ (by rw[<-ar];exact qj _ _);have ad:Hid (Pl H pb o ([w.heap.size]++F) W1):=κ (h.adds ak.o (λb N=>by simp at N;subst N;exact⟨ϔ _,qn aw.o⟩));have aW:Hid (PS pb F w W1):=κ (h.stay ak.o);have bi:args.length+1<=cap:=by
  obtain⟨bp,be,e,_,_,aY,_⟩:=id am;injection e with _ _ e3
  subst e3;exact aY
 obtain⟨bd,bo,e0,ap⟩:=am.strs ak.o 0 η;injection e0 with e0
 injection e0 with e1 e2 _
 subst e1 e2;rw[E9] at ap;rw[M0] at ap;have aC:Hid (∀w',ql w w'->SlP 1 RTx w' (δ (ϊ al) args.length (cap-1)) args):=κ (λw' m=>SlP.restA (SlP.keep Tm am m) aM);have bm:(1:Int)<=(args.length:Int)+1:=by omega
 have bn:((args.length:Int)+1)<=(cap:Int):=by omega
 have aB:=κ h;have ba:pb<W1.heap.size:=ad.o.lt pb ad.o.1;have aL:pb≠w.heap.size:=λe=>by have:=h.lt pb h.1;omega
 have af:=κ (λw' (m:ql w w')=>qcp (fm:=fm) (ws:=args) aJ (ϊ al) (cap-1) w' (aC.o w' m));rw[aG] at af;simp only[qe7] at af;have aV:=κ aN;have ah:=κ (λw'=>qch ab w');rw[hF] at ah;simp only[qd3] at ah;have aR:Hid (((ab.toList==([114,111,111,109]:List UInt8))=ό)∨ ∃s,o=ϊ s):=κ (aH.imp id Ϯ.1);have aU:=κ aL;have aS:=κ aI;have aT:=κ aK;have az:=κ aE;clear h am aN hF aJ aG aH aC aK aI aE aL;rcases aM with ⟨rfl,rfl,rfl⟩ | ⟨bh,rfl⟩
 all_goals
  (try simp only[P2,Ϣ] at af)
  go_enter_defers func17,ntmps17
  go_upto_region 3 with fail
  clear ap ar;refine zC W1 6 [(0,ύ),(2,ύ),(3,ύ),(1,ό),(4,ό),(5,ύ)] ξ ξ ?_
  refine Qq3 ?_
  (refine Ql ?_;intro K ac)
  go_call ah.o _ as e w5 ⟨rfl,rfl⟩;refine⟨_,rfl,qk ((ql.refl _).dr 1),ac _ _ ?_⟩;clear ac K
  (refine Ql ?_;intro K ac)
  go_call af.o _ (ak.o.dr 1) as e w6 ⟨⟨br,rfl,aP⟩,aO⟩;have ag:Hid (ql W1 w6):=κ (((ql.refl W1).dr 1).trans aO);refine⟨_,rfl,qk ag.o,ac _ _ ?_⟩;clear ac K
  iterate 1 (refine qE rfl rfl (qk ag.o) ?_;intro K ac;go_big_quiet_op;go_big_quiet_on)
  refine qA ?_;obtain⟨Fn,aF,au⟩:=aP.numF (pb:=pb) (X:=[w.heap.size]++F) ba;obtain⟨bq,bf,rfl,-⟩:=id au;have ax:Hid (Pl H pb o (Fn++([w.heap.size]++F)) w6):=κ (ad.o.adds ag.o aF);have aX:Hid (PS pb ([w.heap.size]++F) W1 w6):=κ (ad.o.stay ag.o);have J:=κ (az.o _ w6 _ ax.o au);have aQ:Hid (w6.heap[w.heap.size]? =ϊ (.cells #[.string ⟨#[]⟩] 9 (0,0))):=κ (qq ag.o aw.o);have ae:Hid (∀w7,PS pb (Fn++([w.heap.size]++F)) w6 w7->w7.heap[w.heap.size]? =ϊ (.cells #[.string ⟨#[]⟩] 9 (0,0))):=κ (λw7 t=>t.blk η (λe=>aU.o e.symm) aQ.o);have ai:Hid (∀w7,Pl H pb O (Fn++([w.heap.size]++F)) w7->PS pb (Fn++([w.heap.size]++F)) w6 w7->Pl H pb O ([w.heap.size]++F) w7/\PS pb F w w7):=κ (λw7 G d=>⟨G.sub (λb N=>ϐ _ N) ad.o.1,aW.o.trans ((aX.o.sub (λb N=>ϐ _ N)).trans (d.sub (λb N=>ϐ _ (ϐ _ N))))⟩);have aj:Hid (∀w7 v,Pl H pb O (Fn++([w.heap.size]++F)) w7->PS pb (Fn++([w.heap.size]++F)) w6 w7->Pl H pb O F (w7.setCell ⟨w.heap.size,0,ϋ⟩ v)/\PS pb F w (w7.setCell ⟨w.heap.size,0,ϋ⟩ v)):=κ (λw7 v G d=>aB.o.told rfl (ai.o w7 G d).1 (ai.o w7 G d).2 (ql.refl _) v);clear aF au aP aO af ah az;generalize bl:(ab.toList==([114,111,111,109]:List UInt8))=qr at *
  have ao:Hid (qr=ό∨ ∃R,w6.cell? ⟨pb,0,ϋ⟩=ϊ (π (ϊ ⟨R,0,ϋ⟩))):=κ (aR.o.imp id λ⟨s,e⟩=>by
   subst e;obtain⟨R,_,aZ⟩:=ax.o.room
   exact⟨R,qa aZ 0 rfl⟩)
  cases r with
  | err k=>
   simp only[O0,qcO] at J;have aA:Hid (∀w7,Pl H pb O (Fn++([w.heap.size]++F)) w7->PS pb (Fn++([w.heap.size]++F)) w6 w7-> ∀a:Act,a.defers=[{target:= .fn (.func 25) #[γ w.heap.size],args:= #[]}]->a.tmps[4]? =ϊ (π (ϊ ⟨w.heap.size,0,ϋ⟩))->bodyPostD prog f17 (λe w'=>e= .returned (.string ⟨(qbT k).toArray⟩)/\Pl H pb O F w'/\PS pb F w w') (.panic [{v:= .iface 35 (ι k),recovered:=ύ}]) a w7):=κ (λw7 G d a bb bc=>qcg bb bc (aS.o k rfl) aB.o (ai.o w7 G d).1 (ai.o w7 G d).2 (ae.o w7 d) aV.o);cases qr with
   | true=>
    go_wp2_with ((go_at_call 29;(go_call J.o as e w7 ⟨rfl,G,d⟩;have an:=aA.o w7 G d;clear G d)))
    exact an _ rfl rfl
   | false=>
    obtain⟨R,aD⟩:=ao.o.resolve_left ζ
    go_wp2_with ((go_at_call 29;(go_call J.o as e w7 ⟨rfl,G,d⟩;have an:=aA.o w7 G d;clear G d)))
    exact an _ rfl rfl
  | told more=>
   have bj:=aT.o more rfl;have bg:=λw=>run_string_add_lists (P:=prog) w [111,107,32] more ζ τ
   simp only[O0] at J;by_cases hq:more=[]
   ·subst hq;cases qr with
    | true=>
     go_wp2_with ((go_at_call 29;(go_call J.o as e w7 ⟨rfl,G,d⟩;have I:=κ (ae.o w7 d);have aq:=yw I.o 0;have aa:=β0 I.o;have U:=κ (aj.o w7 (.string ⟨#[111,107]⟩) G d);clear G d)))
     refine leaves_cons (f:=25) (args:= #[γ w.heap.size]) η (by simp[go_sem]) ?_;refine(NZ ⟨w.heap.size,0,ϋ⟩ _).mono ?_;rintro e av w'' ⟨rfl,rfl,rfl⟩;have Y: ∀v,(w7.setCell ⟨w.heap.size,0,ϋ⟩ v).cell? ⟨w.heap.size,0,ϋ⟩=ϊ v:=λv=>World.cell?_setCell_same' _ _ v (by rw[aa];rfl)
     simp[Leaves,settle,results,results17,go_sem,Y];exact⟨by rfl,U.o⟩
    | false=>
     obtain⟨R,aD⟩:=ao.o.resolve_left ζ
     go_wp2_with ((go_at_call 29;(go_call J.o as e w7 ⟨rfl,G,d⟩;have I:=κ (ae.o w7 d);have aq:=yw I.o 0;have aa:=β0 I.o;have U:=κ (aj.o w7 (.string ⟨#[111,107]⟩) G d);clear G d)))
     refine leaves_cons (f:=25) (args:= #[γ w.heap.size]) η (by simp[go_sem]) ?_;refine(NZ ⟨w.heap.size,0,ϋ⟩ _).mono ?_;rintro e av w'' ⟨rfl,rfl,rfl⟩;have Y: ∀v,(w7.setCell ⟨w.heap.size,0,ϋ⟩ v).cell? ⟨w.heap.size,0,ϋ⟩=ϊ v:=λv=>World.cell?_setCell_same' _ _ v (by rw[aa];rfl)
     simp[Leaves,settle,results,results17,go_sem,Y];exact⟨by rfl,U.o⟩
   ·have bk:(more==([]:List UInt8))=ύ:=by simp[hq]
    have ay:Hid (qd2 (.told more)=[111,107,32]++more):=κ (Ϗ hq);clear hq;cases qr with
    | true=>
     go_wp2_with ((go_at_call 29;(go_call J.o as e w7 ⟨rfl,G,d⟩;have I:=κ (ae.o w7 d);have aq:=yw I.o 0;have aa:=β0 I.o;have U:=κ (aj.o w7 (.string ⟨([111,107,32]++more).toArray⟩) G d);clear G d)))
     refine leaves_cons (f:=25) (args:= #[γ w.heap.size]) η (by simp[go_sem]) ?_;refine(NZ ⟨w.heap.size,0,ϋ⟩ _).mono ?_;rintro e av w'' ⟨rfl,rfl,rfl⟩;have Y: ∀v,(w7.setCell ⟨w.heap.size,0,ϋ⟩ v).cell? ⟨w.heap.size,0,ϋ⟩=ϊ v:=λv=>World.cell?_setCell_same' _ _ v (by rw[aa];rfl)
     rw[ay.o];simp[Leaves,settle,results,results17,go_sem,Y];exact U.o
    | false=>
     obtain⟨R,aD⟩:=ao.o.resolve_left ζ
     go_wp2_with ((go_at_call 29;(go_call J.o as e w7 ⟨rfl,G,d⟩;have I:=κ (ae.o w7 d);have aq:=yw I.o 0;have aa:=β0 I.o;have U:=κ (aj.o w7 (.string ⟨([111,107,32]++more).toArray⟩) G d);clear G d)))
     refine leaves_cons (f:=25) (args:= #[γ w.heap.size]) η (by simp[go_sem]) ?_;refine(NZ ⟨w.heap.size,0,ϋ⟩ _).mono ?_;rintro e av w'' ⟨rfl,rfl,rfl⟩;have Y: ∀v,(w7.setCell ⟨w.heap.size,0,ϋ⟩ v).cell? ⟨w.heap.size,0,ϋ⟩=ϊ v:=λv=>World.cell?_setCell_same' _ _ v (by rw[aa];rfl)
     rw[ay.o];simp[Leaves,settle,results,results17,go_sem,Y];exact U.o
def RmR.away (h:RmR G w R s F) (H:RmR G w' R s' F) (t:qw F w w'):jt (λb=>G.heap.size<=b/\b∉F) w w':=by
 have m:=h.more;have d:=H.more;refine⟨d.os.trans m.os.symm,d.tape.trans m.tape.symm,d.output.trans m.output.symm,t.1,λb J I=> ?_⟩;by_cases e:b<G.heap.size
 ·rw[d.block b e,m.block b e]
 ·exact t.2 b (Q6 λc=>I ⟨τ,c⟩)
def Pl.step (h:Pl G pb (ϊ s) F w) (d:w.heap[pb]? =ϊ (.cells #[γ R] 46 (0,0))) (H:RmR G w' R s' F) (t:qw F w w'):Pl G pb (ϊ s') F w'/\PS pb F w w':=
 ⟨⟨h.1,λb d=>⟨(h.2.1 b d).1,ϗ (h.2.1 b d).2 t.1⟩,H.more,R,H,t.blk h.1 d⟩,t.1,λb d _=>t.2 b d⟩
def kx (a:Int):Res:=if a=0 then .told [] else .err a
def Nm (n:Int):Prop:=0<=n/\n<=999999999
def qe9 (h:RmR w0 w R s F) (H:qV n s) (I:n<=100000) (x k:Int) (G:s.want x k=(s',a)):
  Calls prog 41 #[γ R,ι x,ι k] w λe w'=>e= .returned (ι a)/\RmR w0 w' R s' F/\qw F w w':=by
 obtain⟨r,rfl,h⟩:=h;refine(Ms h (H.subs I) x k).mono ?_;rintro e w' ⟨rfl,d,t⟩;rw[G] at d ⊢;exact⟨rfl,⟨r,rfl,d⟩,t⟩
def qeN (h:RmR w0 w R s F) (H:qV n s) (J:n<=100000) (x:Int) (G:s.leave x=(s',a)):
  Calls prog 42 #[γ R,ι x] w λe w'=>e= .returned (ι a)/\RmR w0 w' R s' F/\qw F w w':=by
 obtain⟨r,rfl,h⟩:=h;refine(Lh h (by have:=H.num.book;omega) x).mono ?_;rintro e w' ⟨k',I,rfl,d,t⟩;rw[G] at d ⊢;exact⟨rfl,⟨k',I,d⟩,t⟩
def qdx {n3:Int} (ac:qV n s) (av:n<=100000) (an:Nm n0) (ao:Nm n1) (ap:Nm n2) (aq:Nm n3) (h:Pl G pb (ϊ s) F w) (d:g∈F) (H: ∀i y,([n0,n1,n2,n3]:List Int)[i]? =ϊ y->w.cell? ⟨g,i,ϋ⟩=ϊ (ι y)):
  Calls prog 29 #[γ pb,.string ⟨#[112,117,98,108,105,115,104]⟩,δ (ϊ ⟨g,0,ϋ⟩) 4 cap] w λe w'=>e=O0 (kx (s.publish n0 n1 n2 n3).2)/\Pl G pb (ϊ (s.publish n0 n1 n2 n3).1) F w'/\PS pb F w w':=by
 obtain⟨R,ab,O⟩:=h.room;have ag:=κ h;have J:=κ ab;have ad:=κ O;have af:=κ ac;obtain⟨ai,Y⟩:=ν (s.publish n0 n1 n2 n3);have ae:=κ Y;rw[Y];obtain⟨s',a⟩:=ai;simp only;clear Y ac;unfold Nm at *;have ar:w.cell? ⟨pb,0,ϋ⟩=ϊ (π (ϊ ⟨R,0,ϋ⟩)):=qa O 0 rfl;have aj: ∀x:qz (λb=>G.heap.size<=b/\b∉F) w,x.w'.cell? ⟨g,0,ϋ⟩=ϊ (ι n0):=λx=>x.cell (h.lt g d) (λc=>c.2 d) (H 0 _ rfl)
 have ak: ∀x:qz (λb=>G.heap.size<=b/\b∉F) w,x.w'.cell? ⟨g,1,ϋ⟩=ϊ (ι n1):=λx=>x.cell (h.lt g d) (λc=>c.2 d) (H 1 _ rfl)
 have aw:IntKind.u32.wrap n1=n1:=IntWalk.u32_in _ τ;have al: ∀x:qz (λb=>G.heap.size<=b/\b∉F) w,x.w'.cell? ⟨g,2,ϋ⟩=ϊ (ι n2):=λx=>x.cell (h.lt g d) (λc=>c.2 d) (H 2 _ rfl)
 have ax:IntKind.u32.wrap n2=n2:=IntWalk.u32_in _ τ;have am: ∀x:qz (λb=>G.heap.size<=b/\b∉F) w,x.w'.cell? ⟨g,3,ϋ⟩=ϊ (ι n3):=λx=>x.cell (h.lt g d) (λc=>c.2 d) (H 3 _ rfl)
 have ay:IntKind.u32.wrap n3=n3:=IntWalk.u32_in _ τ;clear h ab O H
 go_enter func29,ntmps29
 go_upto_region 8 with fail
 refine QN (λb=>G.heap.size<=b/\b∉F) w 19 19 [17] ?_
 refine qaz ?_
 (refine Ql ?_;intro K U)
 go_call MU (J.o.on (ql.drewN w 1)) af.o.num.cfg n0 n1 n2 n3 ae.o as e w5 ⟨rfl,N,t5⟩;have aa:Hid (jt (λb=>G.heap.size<=b/\b∉F) w w5):=κ (((jt.refl _ w).drewN 1).trans ((J.o.on (ql.drewN w 1)).away N t5));refine⟨_,rfl,qi aa.o,U _ _ ?_⟩;clear U K
 iterate 1 (refine qE rfl rfl (qi aa.o) ?_;intro K U;go_big_quiet_op;go_big_quiet_on)
 refine qA ?_;have I:=κ (ag.o.step ad.o N (qw.trans (J.o.stay (ql.drewN w 1)) t5));clear N t5;by_cases ha:a=0
 ·subst ha;go_wp2;go_ret;exact⟨rfl,I.o.1,I.o.2⟩
 ·have au:(a != 0)=ό:=by simp[ha]
  have ah:Hid (kx a= .err a):=κ (Ϗ ha);clear ha;go_wp2;exact⟨rfl,by rw[ah.o];rfl,I.o.1,I.o.2⟩
def qeV {n3:Int} (ac:qV n s) (av:n<=100000) (an:Nm n0) (ao:Nm n1) (ap:0<=n2/\n2<=65535) (aq:Nm n3) (h:Pl G pb (ϊ s) F w) (d:g∈F) (H: ∀i y,([n0,n1,n2,n3]:List Int)[i]? =ϊ y->w.cell? ⟨g,i,ϋ⟩=ϊ (ι y)):
  Calls prog 29 #[γ pb,.string ⟨#[106,111,105,110]⟩,δ (ϊ ⟨g,0,ϋ⟩) 4 cap] w λe w'=>e=O0 (kx (s.join n0 n1 n2 n3).2)/\Pl G pb (ϊ (s.join n0 n1 n2 n3).1) F w'/\PS pb F w w':=by
 obtain⟨R,ab,O⟩:=h.room;have ag:=κ h;have J:=κ ab;have ad:=κ O;have af:=κ ac;obtain⟨ai,Y⟩:=ν (s.join n0 n1 n2 n3);have ae:=κ Y;rw[Y];obtain⟨s',a⟩:=ai;simp only;clear Y ac;unfold Nm at *;have ar:w.cell? ⟨pb,0,ϋ⟩=ϊ (π (ϊ ⟨R,0,ϋ⟩)):=qa O 0 rfl;have aj: ∀x:qz (λb=>G.heap.size<=b/\b∉F) w,x.w'.cell? ⟨g,0,ϋ⟩=ϊ (ι n0):=λx=>x.cell (h.lt g d) (λc=>c.2 d) (H 0 _ rfl)
 have ak: ∀x:qz (λb=>G.heap.size<=b/\b∉F) w,x.w'.cell? ⟨g,1,ϋ⟩=ϊ (ι n1):=λx=>x.cell (h.lt g d) (λc=>c.2 d) (H 1 _ rfl)
 have aw:IntKind.u32.wrap n1=n1:=IntWalk.u32_in _ τ;have al: ∀x:qz (λb=>G.heap.size<=b/\b∉F) w,x.w'.cell? ⟨g,2,ϋ⟩=ϊ (ι n2):=λx=>x.cell (h.lt g d) (λc=>c.2 d) (H 2 _ rfl)
 have ax:IntKind.u16.wrap n2=n2:=IntWalk.u16_in _ τ;have am: ∀x:qz (λb=>G.heap.size<=b/\b∉F) w,x.w'.cell? ⟨g,3,ϋ⟩=ϊ (ι n3):=λx=>x.cell (h.lt g d) (λc=>c.2 d) (H 3 _ rfl)
 have ay:IntKind.u32.wrap n3=n3:=IntWalk.u32_in _ τ;clear h ab O H
 go_enter func29,ntmps29
 go_upto_region 10 with fail
 refine QN (λb=>G.heap.size<=b/\b∉F) w 18 18 [16] ?_
 refine qaA ?_
 (refine Ql ?_;intro K U)
 go_call Me (J.o.on (ql.drewN w 1)) af.o.num.cfg n0 n1 n2 n3 (by unfold U16;omega) (by unfold U32;omega) ae.o as e w5 ⟨rfl,N,t5⟩;have aa:Hid (jt (λb=>G.heap.size<=b/\b∉F) w w5):=κ (((jt.refl _ w).drewN 1).trans ((J.o.on (ql.drewN w 1)).away N t5));refine⟨_,rfl,qi aa.o,U _ _ ?_⟩;clear U K
 iterate 1 (refine qE rfl rfl (qi aa.o) ?_;intro K U;go_big_quiet_op;go_big_quiet_on)
 refine qA ?_;have I:=κ (ag.o.step ad.o N (qw.trans (J.o.stay (ql.drewN w 1)) t5));clear N t5;by_cases ha:a=0
 ·subst ha;go_wp2;go_ret;exact⟨rfl,I.o.1,I.o.2⟩
 ·have au:(a != 0)=ό:=by simp[ha]
  have ah:Hid (kx a= .err a):=κ (Ϗ ha);clear ha;go_wp2;exact⟨rfl,by rw[ah.o];rfl,I.o.1,I.o.2⟩
def qeR (ac:qV n s) (ar:n<=100000) (am:Nm n0) (an:Nm n1) (ao:Nm n2) (h:Pl d pb (ϊ s) F w) (G:g∈F) (I: ∀i y,([n0,n1,n2]:List Int)[i]? =ϊ y->w.cell? ⟨g,i,ϋ⟩=ϊ (ι y)):
  Calls prog 29 #[γ pb,.string ⟨#[116,97,107,101]⟩,δ (ϊ ⟨g,0,ϋ⟩) 3 cap] w λe w'=>e=O0 (kx (s.subscribe n0 n1 n2).2)/\Pl d pb (ϊ (s.subscribe n0 n1 n2).1) F w'/\PS pb F w w':=by
 obtain⟨R,ab,O⟩:=h.room;have ag:=κ h;have J:=κ ab;have ad:=κ O;have af:=κ ac;obtain⟨ai,Y⟩:=ν (s.subscribe n0 n1 n2);have ae:=κ Y;rw[Y];obtain⟨s',a⟩:=ai;simp only;clear Y ac;unfold Nm at *;have ap:w.cell? ⟨pb,0,ϋ⟩=ϊ (π (ϊ ⟨R,0,ϋ⟩)):=qa O 0 rfl;have aj: ∀x:qz (λb=>d.heap.size<=b/\b∉F) w,x.w'.cell? ⟨g,0,ϋ⟩=ϊ (ι n0):=λx=>x.cell (h.lt g G) (λc=>c.2 G) (I 0 _ rfl)
 have ak: ∀x:qz (λb=>d.heap.size<=b/\b∉F) w,x.w'.cell? ⟨g,1,ϋ⟩=ϊ (ι n1):=λx=>x.cell (h.lt g G) (λc=>c.2 G) (I 1 _ rfl)
 have al: ∀x:qz (λb=>d.heap.size<=b/\b∉F) w,x.w'.cell? ⟨g,2,ϋ⟩=ϊ (ι n2):=λx=>x.cell (h.lt g G) (λc=>c.2 G) (I 2 _ rfl)
 clear h ab O I
 go_enter func29,ntmps29
 go_upto_region 12 with fail
 refine QN (λb=>d.heap.size<=b/\b∉F) w 12 12 [10] ?_
 refine Nx ?_
 (refine Ql ?_;intro K U)
 go_call LQ (J.o.on (ql.drewN w 1)) af.o τ n0 n1 n2 ae.o as e w5 ⟨rfl,N,t5⟩;have aa:Hid (jt (λb=>d.heap.size<=b/\b∉F) w w5):=κ (((jt.refl _ w).drewN 1).trans ((J.o.on (ql.drewN w 1)).away N t5));refine⟨_,rfl,qi aa.o,U _ _ ?_⟩;clear U K
 iterate 1 (refine qE rfl rfl (qi aa.o) ?_;intro K U;go_big_quiet_op;go_big_quiet_on)
 refine qA ?_;have H:=κ (ag.o.step ad.o N (qw.trans (J.o.stay (ql.drewN w 1)) t5));clear N t5;by_cases ha:a=0
 ·subst ha;go_wp2;go_ret;exact⟨rfl,H.o.1,H.o.2⟩
 ·have aq:(a != 0)=ό:=by simp[ha]
  have ah:Hid (kx a= .err a):=κ (Ϗ ha);clear ha;go_wp2;exact⟨rfl,by rw[ah.o];rfl,H.o.1,H.o.2⟩
def qeO (ac:qV n s) (ap:n<=100000) (al:Nm n0) (am:Nm n1) (h:Pl d pb (ϊ s) F w) (H:g∈F) (U: ∀i y,([n0,n1]:List Int)[i]? =ϊ y->w.cell? ⟨g,i,ϋ⟩=ϊ (ι y)):
  Calls prog 29 #[γ pb,.string ⟨#[119,97,110,116]⟩,δ (ϊ ⟨g,0,ϋ⟩) 2 cap] w λe w'=>e=O0 (kx (s.want n0 n1).2)/\Pl d pb (ϊ (s.want n0 n1).1) F w'/\PS pb F w w':=by
 obtain⟨R,ab,N⟩:=h.room;have ag:=κ h;have I:=κ ab;have ad:=κ N;have af:=κ ac;obtain⟨ai,Y⟩:=ν (s.want n0 n1);have ae:=κ Y;rw[Y];obtain⟨s',a⟩:=ai;simp only;clear Y ac;unfold Nm at *;have an:w.cell? ⟨pb,0,ϋ⟩=ϊ (π (ϊ ⟨R,0,ϋ⟩)):=qa N 0 rfl;have aj: ∀x:qz (λb=>d.heap.size<=b/\b∉F) w,x.w'.cell? ⟨g,0,ϋ⟩=ϊ (ι n0):=λx=>x.cell (h.lt g H) (λc=>c.2 H) (U 0 _ rfl)
 have ak: ∀x:qz (λb=>d.heap.size<=b/\b∉F) w,x.w'.cell? ⟨g,1,ϋ⟩=ϊ (ι n1):=λx=>x.cell (h.lt g H) (λc=>c.2 H) (U 1 _ rfl)
 clear h ab N U
 go_enter func29,ntmps29
 go_upto_region 14 with fail
 refine QN (λb=>d.heap.size<=b/\b∉F) w 9 9 [7] ?_
 refine Qs7 ?_
 (refine Ql ?_;intro K O)
 go_call qe9 (I.o.on (ql.drewN w 1)) af.o τ n0 n1 ae.o as e w5 ⟨rfl,J,t5⟩;have aa:Hid (jt (λb=>d.heap.size<=b/\b∉F) w w5):=κ (((jt.refl _ w).drewN 1).trans ((I.o.on (ql.drewN w 1)).away J t5));refine⟨_,rfl,qi aa.o,O _ _ ?_⟩;clear O K
 iterate 1 (refine qE rfl rfl (qi aa.o) ?_;intro K O;go_big_quiet_op;go_big_quiet_on)
 refine qA ?_;have G:=κ (ag.o.step ad.o J (qw.trans (I.o.stay (ql.drewN w 1)) t5));clear J t5;by_cases ha:a=0
 ·subst ha;go_wp2;go_ret;exact⟨rfl,G.o.1,G.o.2⟩
 ·have ao:(a != 0)=ό:=by simp[ha]
  have ah:Hid (kx a= .err a):=κ (Ϗ ha);clear ha;go_wp2;exact⟨rfl,by rw[ah.o];rfl,G.o.1,G.o.2⟩
def qeu {U:World} (O:qV n s) (aj:n<=100000) (h:Pl U pb (ϊ s) F w) (N: ∀i y,([n0]:List Int)[i]? =ϊ y->w.cell? ⟨g,i,ϋ⟩=ϊ (ι y)):
  Calls prog 29 #[γ pb,.string ⟨#[108,101,97,118,101]⟩,δ (ϊ ⟨g,0,ϋ⟩) 1 cap] w λe w'=>e=O0 (kx (s.leave n0).2)/\Pl U pb (ϊ (s.leave n0).1) F w'/\PS pb F w w':=by
 obtain⟨R,J,G⟩:=h.room;have ac:=κ h;have ad:=κ J;have Y:=κ G;have ab:=κ O;obtain⟨af,H⟩:=ν (s.leave n0);have aa:=κ H;rw[H];obtain⟨s',a⟩:=af;simp only;clear H O;have ag:w.cell? ⟨pb,0,ϋ⟩=ϊ (π (ϊ ⟨R,0,ϋ⟩)):=qa G 0 rfl;have ah:=N 0 _ rfl;clear h J G N
 go_enter func29,ntmps29
 go_upto_region 33 with ((go_at_call 42;(go_call qeN ad.o ab.o τ n0 aa.o as e w5 ⟨rfl,I,t5⟩;have d:=κ (ac.o.step Y.o I t5);clear I t5)))
 by_cases ha:a=0
 ·subst ha;go_wp2;go_ret;exact⟨rfl,d.o.1,d.o.2⟩
 ·have ai:(a != 0)=ό:=by simp[ha]
  have ae:Hid (kx a= .err a):=κ (Ϗ ha);clear ha;go_wp2;exact⟨rfl,by rw[ae.o];rfl,d.o.1,d.o.2⟩
def qdn {N:World} (ab:qV n s) (ag:n<=100000) (h:Pl N pb (ϊ s) F w):
  Calls prog 29 #[γ pb,.string ⟨#[115,104,117,116,100,111,119,110]⟩,()] w λe w'=>e=O0 (kx (s.shut).2)/\Pl N pb (ϊ (s.shut).1) F w'/\PS pb F w w':=by
 obtain⟨R,J,G⟩:=h.room;have Y:=κ h;have aa:=κ J;have O:=κ G;obtain⟨ad,H⟩:=ν (s.shut);have U:=κ H;rw[H];obtain⟨s',a⟩:=ad;simp only;clear H ab;have ae:w.cell? ⟨pb,0,ϋ⟩=ϊ (π (ϊ ⟨R,0,ϋ⟩)):=qa G 0 rfl;clear h J G
 go_enter func29,ntmps29
 go_upto_region 33 with ((go_at_call 47;(go_call LS aa.o U.o as e w5 ⟨rfl,I,t5⟩;have d:=κ (Y.o.step O.o I t5);clear I t5)))
 by_cases ha:a=0
 ·subst ha;go_wp2;go_ret;exact⟨rfl,d.o.1,d.o.2⟩
 ·have af:(a != 0)=ό:=by simp[ha]
  have ac:Hid (kx a= .err a):=κ (Ϗ ha);clear ha;go_wp2;exact⟨rfl,by rw[ac.o];rfl,d.o.1,d.o.2⟩
def pkM (n0 n1 n2 p q:Int):Pk:=⟨ύ,96,n1,n2,n0,[],ύ,0,[],[p,q]⟩
def qcX (n0 n1 n2 p q:Int):jJ (pkM n0 n1 n2 p q)=ό:=by
 rw[yq];exact⟨by show (96:Int)<=127;decide,by show ((0:Nat):Int)<=15;decide,λ_=>⟨rfl,rfl⟩,by show ((0:Nat):Int)%4=0;decide,by show 12+4* ((0:Nat):Int)+((2:Nat):Int)+0<=200;decide⟩
def qcz {p q:Int} (d:Nm n0) (N:0<=n1/\n1<=65535) (G:Nm n2) (H:Byt [p,q]):uf (pkM n0 n1 n2 p q):=by
 unfold Nm at d G;have I:U16 0:=⟨ζ,ζ⟩;have J:U32 0:=⟨ζ,ζ⟩;have e0:Byt ([]:List Int):=Byt.of_all ζ;exact⟨by show (0:Int)<=96/\(96:Int)<=255;decide,by show U16 n1;unfold U16;omega,by show U32 n2;unfold U32;omega,by show U32 n0;unfold U32;omega,λi=>by show U32 (([]:List Int).getD i 0);rw[List.getD_nil];exact J,I,e0,H⟩
def qcd (n0 n1 n2 p q:Int):(pkB (pkM n0 n1 n2 p q)).length<=400:=by
 have d:=Ey (pkM n0 n1 n2 p q);have G:=((yq _).1 (qcX n0 n1 n2 p q)).2.2.2.2;rw[<-d] at G;omega
def qff {p q:Int} (d:Nm n0) (G:0<=n1/\n1<=65535) (H:Nm n2) (O:Byt [p,q]) (w:World) (v:Value) (U:SlI .u8 w v [p,q]):Calls prog 69 #[θ #[μ ύ,υ 96,φ n1,ω n2,ω n0,(),ύ,φ 0,(),v]] w λe w'=>(∃v,e= .returned (.tuple #[v,ι 0])/\SlI .u8 w' v (pkB (pkM n0 n1 n2 p q)))/\ql w w':=
 (gi (pkM n0 n1 n2 p q) _ _ _ _ ⟨SlI.nil _ _,SlI.nil _ _,U⟩ (qcz d G H O) (qcX n0 n1 n2 p q)).mono λe w' ⟨⟨v,I,J⟩,N⟩=>⟨⟨v,I,SlI.of_owns J (by have:=qcd n0 n1 n2 p q;omega)⟩,N⟩
def qc1 {p q:Int} (am:Nm n0) (an:0<=n1/\n1<=65535) (ao:Nm n2) (aq:Byt [p,q]) (U:g<w.heap.size) (I: ∀i y,([n0,n1,n2]:List Int)[i]? =ϊ y->w.cell? ⟨g,i,ϋ⟩=ϊ (ι y)) (Y:SlI .u8 w v [p,q]):
  Calls prog 44 #[δ (ϊ ⟨g,0,ϋ⟩) 3 cap,v] w λe w'=>(∃v',e= .returned v'/\SlI .u8 w' v' (pkB (pkM n0 n1 n2 p q)))/\ql w w':=by
 have ac: ∀x:qt w,x.w'.cell? ⟨g,0,ϋ⟩=ϊ (ι n0):=λx=>by rw[x.h.cells _ _ U];exact I 0 _ rfl
 have ad: ∀x:qt w,x.w'.cell? ⟨g,1,ϋ⟩=ϊ (ι n1):=λx=>by rw[x.h.cells _ _ U];exact I 1 _ rfl
 have ae: ∀x:qt w,x.w'.cell? ⟨g,2,ϋ⟩=ϊ (ι n2):=λx=>by rw[x.h.cells _ _ U];exact I 2 _ rfl
 have af:=κ (qff am an ao aq);unfold Nm at *;have ar:IntKind.u32.wrap n0=n0:=IntWalk.u32_in _ τ;have au:IntKind.u16.wrap n1=n1:=IntWalk.u16_in _ τ;have av:IntKind.u32.wrap n2=n2:=IntWalk.u32_in _ τ;have ah:=κ Y;obtain⟨aw,ap,rfl,_⟩:=id Y;clear I Y
 go_enter func44,ntmps44
 go_upto_region 1 with fail
 refine Qn w 14 15 [13,14] ?_
 refine qaD ?_
 (refine Ql ?_;intro K G)
 have J:Hid (((w.drewN 1).alloc (.cells #[μ ύ,υ 0,φ 0,ω 0,ω 0] 128)).heap[w.heap.size]? =ϊ (.cells #[μ ύ,υ 0,φ 0,ω 0,ω 0] 128 (0,0))):=κ (qj (w.drewN 1) _);have N:Hid (ql w ((w.drewN 1).alloc (.cells #[μ ύ,υ 0,φ 0,ω 0,ω 0] 128))):=κ (((ql.refl w).dr 1).al _);refine⟨qk N.o,G _ _ ?_⟩;clear G K ac ad ae ar au av;refine jR rfl rfl ?_;intro K G;refine xw 128 (.tmp 5) (.tmp 20) rfl w.heap.size 128 _ #[μ ύ,υ 96,φ n1,ω n2,ω n0] J.o rfl rfl ξ rfl X8 ?_;have H:=κ (N.o.row (ϔ _) #[μ ύ,υ 96,φ n1,ω n2,ω n0]);have d:=κ (jM J.o #[μ ύ,υ 96,φ n1,ω n2,ω n0]);refine⟨qk H.o,G _ _ ?_⟩;clear G K;refine qA ?_;obtain⟨ak,O⟩:=ν (((w.drewN 1).alloc (.cells #[μ ύ,υ 0,φ 0,ω 0,ω 0] 128)).setRow w.heap.size #[μ ύ,υ 96,φ n1,ω n2,ω n0]);rw[O] at H d
 (try rw[O])
 clear O J N;have ax:=β0 d.o;have ay:=β1 d.o;have az:=β2 d.o;have aA:=β3 d.o;have aB:=β4 d.o;have ag:=κ (af.o ak (δ aw 2 ap) (ah.o.keep H.o))
 go_wp2_with ((go_at_call 69;(go_call ag.o as e w5 ⟨⟨v5,rfl,ab⟩,aa⟩;have aj:=κ ab;have ai:=κ (H.o.trans aa);clear ab aa)))
 go_ret;exact⟨⟨_,rfl,aj.o⟩,ai.o⟩
def qfb {aa:World} (Y:qV n s) (az:n<=100000) (I:Nm n0) (J:0<=n1/\n1<=65535) (N:Nm n2) (h:Pl aa pb (ϊ s) F w) (ar:g∈F) (af: ∀i y,([n0,n1,n2]:List Int)[i]? =ϊ y->w.cell? ⟨g,i,ϋ⟩=ϊ (ι y)):
  Calls prog 29 #[γ pb,.string ⟨#[107,101,121]⟩,δ (ϊ ⟨g,0,ϋ⟩) 3 cap] w λe w'=>e=O0 (kx (s.arrive (pkB (pkM n0 n1 n2 16 0))).2)/\Pl aa pb (ϊ (s.arrive (pkB (pkM n0 n1 n2 16 0))).1) F w'/\PS pb F w w':=by
 obtain⟨R,ae,O⟩:=h.room;have ax:w.cell? ⟨pb,0,ϋ⟩=ϊ (π (ϊ ⟨R,0,ϋ⟩)):=qa O 0 rfl;have ao:=κ h;have ab:=κ ae;have am:=κ O;obtain⟨aw,U⟩:=ν (s.arrive (pkB (pkM n0 n1 n2 16 0)));rw[U];obtain⟨s',a⟩:=aw;simp only;have G:Hid (Byt (pkB (pkM n0 n1 n2 16 0))/\(pkB (pkM n0 n1 n2 16 0)).length<=400):=κ ⟨Iy (qcz I J N (Byt.of_all ζ)),qcd n0 n1 n2 16 0⟩;have al:=κ (λ(w':World) (v:Value) (h:RmR aa w' R s F) (sl:SlI .u8 w' v (pkB (pkM n0 n1 n2 16 0)))=>LC h (pkB (pkM n0 n1 n2 16 0)) v sl G.o.1 (by have:=G.o.2;omega) ⟨Y.num.lost.1,by have:=Y.num.lost.2;omega⟩ U);have ag:=h.lt g ar;have H:=κ (ql.alloc w (.cells #[υ 16,υ 0] 5));have aq:=κ (SlI.lit .u8 w [16,0] 5 #[υ 16,υ 0] 2 w.heap.size rfl rfl rfl η);have an:=κ (qc1 (cap:=cap) I J N (Byt.of_all ζ) (ϗ ag H.o.size) (λi y av=>by rw[H.o.cells _ _ ag];exact af i y av) aq.o);clear h ae O af U I J N Y G
 go_enter func29,ntmps29
 go_upto_region 33 with (first | (go_at_call 44;(go_call an.o as e w5 ⟨⟨v5,rfl,ai⟩,ah⟩;have ap:=κ ai;have ac:=κ (H.o.trans ah);have ak:=κ (ab.o.on ac.o);clear ai ah)) | (go_at_call 43;(go_call al.o _ _ ak.o ap.o as e w6 ⟨rfl,ad,aj⟩;have d:=κ (ao.o.step am.o ad ((ab.o.stay ac.o).trans aj));clear ad aj)))
 by_cases ha:a=0
 ·subst ha;go_wp2;go_ret;exact⟨rfl,d.o.1,d.o.2⟩
 ·have ay:(a != 0)=ό:=by simp[ha]
  have au:Hid (kx a= .err a):=κ (Ϗ ha);clear ha;go_wp2;exact⟨rfl,by rw[au.o];rfl,d.o.1,d.o.2⟩
def qex {aa:World} (Y:qV n s) (az:n<=100000) (I:Nm n0) (J:0<=n1/\n1<=65535) (N:Nm n2) (h:Pl aa pb (ϊ s) F w) (ar:g∈F) (af: ∀i y,([n0,n1,n2]:List Int)[i]? =ϊ y->w.cell? ⟨g,i,ϋ⟩=ϊ (ι y)):
  Calls prog 29 #[γ pb,.string ⟨#[100,101,108,116,97]⟩,δ (ϊ ⟨g,0,ϋ⟩) 3 cap] w λe w'=>e=O0 (kx (s.arrive (pkB (pkM n0 n1 n2 0 1))).2)/\Pl aa pb (ϊ (s.arrive (pkB (pkM n0 n1 n2 0 1))).1) F w'/\PS pb F w w':=by
 obtain⟨R,ae,O⟩:=h.room;have ax:w.cell? ⟨pb,0,ϋ⟩=ϊ (π (ϊ ⟨R,0,ϋ⟩)):=qa O 0 rfl;have ao:=κ h;have ab:=κ ae;have am:=κ O;obtain⟨aw,U⟩:=ν (s.arrive (pkB (pkM n0 n1 n2 0 1)));rw[U];obtain⟨s',a⟩:=aw;simp only;have G:Hid (Byt (pkB (pkM n0 n1 n2 0 1))/\(pkB (pkM n0 n1 n2 0 1)).length<=400):=κ ⟨Iy (qcz I J N (Byt.of_all ζ)),qcd n0 n1 n2 0 1⟩;have al:=κ (λ(w':World) (v:Value) (h:RmR aa w' R s F) (sl:SlI .u8 w' v (pkB (pkM n0 n1 n2 0 1)))=>LC h (pkB (pkM n0 n1 n2 0 1)) v sl G.o.1 (by have:=G.o.2;omega) ⟨Y.num.lost.1,by have:=Y.num.lost.2;omega⟩ U);have ag:=h.lt g ar;have H:=κ (ql.alloc w (.cells #[υ 0,υ 1] 5));have aq:=κ (SlI.lit .u8 w [0,1] 5 #[υ 0,υ 1] 2 w.heap.size rfl rfl rfl η);have an:=κ (qc1 (cap:=cap) I J N (Byt.of_all ζ) (ϗ ag H.o.size) (λi y av=>by rw[H.o.cells _ _ ag];exact af i y av) aq.o);clear h ae O af U I J N Y G
 go_enter func29,ntmps29
 go_upto_region 33 with (first | (go_at_call 44;(go_call an.o as e w5 ⟨⟨v5,rfl,ai⟩,ah⟩;have ap:=κ ai;have ac:=κ (H.o.trans ah);have ak:=κ (ab.o.on ac.o);clear ai ah)) | (go_at_call 43;(go_call al.o _ _ ak.o ap.o as e w6 ⟨rfl,ad,aj⟩;have d:=κ (ao.o.step am.o ad ((ab.o.stay ac.o).trans aj));clear ad aj)))
 by_cases ha:a=0
 ·subst ha;go_wp2;go_ret;exact⟨rfl,d.o.1,d.o.2⟩
 ·have ay:(a != 0)=ό:=by simp[ha]
  have au:Hid (kx a= .err a):=κ (Ϗ ha);clear ha;go_wp2;exact⟨rfl,by rw[au.o];rfl,d.o.1,d.o.2⟩
def qeU {Y:World} (J:qV n s) (ai:n<=100000) (h:Pl Y pb (ϊ s) F w):
  Calls prog 29 #[γ pb,.string ⟨#[106,117,110,107]⟩,()] w λe w'=>e=O0 (kx (s.arrive [0]).2)/\Pl Y pb (ϊ (s.arrive [0]).1) F w'/\PS pb F w w':=by
 obtain⟨R,H,G⟩:=h.room;have ag:w.cell? ⟨pb,0,ϋ⟩=ϊ (π (ϊ ⟨R,0,ϋ⟩)):=qa G 0 rfl;have ac:=κ h;have ad:=κ H;have ab:=κ G;obtain⟨af,I⟩:=ν (s.arrive [0]);rw[I];obtain⟨s',a⟩:=af;simp only;have N:=κ (ql.alloc w (.cells #[υ 0] 5));have aa:=κ (LC (H.on N.o) [0] _ (SlI.lit .u8 w [0] 5 #[υ 0] 1 w.heap.size rfl rfl rfl η) (Byt.of_all ζ) ζ ⟨J.num.lost.1,by have:=J.num.lost.2;omega⟩ I);clear h H G I J
 go_enter func29,ntmps29
 go_upto_region 33 with ((go_at_call 43;(go_call aa.o as e w6 ⟨rfl,O,U⟩;have d:=κ (ac.o.step ab.o O ((ad.o.stay N.o).trans U));clear O U)))
 by_cases ha:a=0
 ·subst ha;go_wp2;go_ret;exact⟨rfl,d.o.1,d.o.2⟩
 ·have ah:(a != 0)=ό:=by simp[ha]
  have ae:Hid (kx a= .err a):=κ (Ϗ ha);clear ha;go_wp2;exact⟨rfl,by rw[ae.o];rfl,d.o.1,d.o.2⟩
def jo (s:RmS) (o:Og):Nat:=match qh s.strs o with
 | some t=>t.buf.holds.length
 | none=>0
def SmB (s s':RmS):Prop:= ∀o t',qh s'.strs o=ϊ t'-> ∃t,qh s.strs o=ϊ t/\t'.buf=t.buf
def SmB.refl (s:RmS):SmB s s:=λo t h=>⟨t,h,rfl⟩
def SmB.trans {s'':RmS} (h:SmB s s') (k:SmB s' s''):SmB s s'':=λo t e=>by
 obtain⟨t1,a,b⟩:=k o t e;obtain⟨t2,c,d⟩:=h o t1 a;exact⟨t2,c,b.trans d⟩
def SmB.fold {α:Type} {f:RmS->α->RmS} (d: ∀s x,SmB s (f s x)): ∀(L:List α) (s:RmS),SmB s (L.foldl f s)
 | [],s=>SmB.refl s
 | x::L,s=>(d s x).trans (SmB.fold d L (f s x))
def SmB.put {o:Og} {t t':zu} (H:qh s.strs o=ϊ t) (e:s'.strs=qx s.strs o t') (G:t'.buf=t.buf):SmB s s':=λI u d=>by
 rw[e,qF] at d;split at d
 ·rename_i c;injection d with d
  subst d;exact⟨t,by rw[c];exact H,G⟩
 ·exact⟨u,d,rfl⟩
def qdQ (s:RmS) (o:Og):SmB s (s.tick1 o):=by
 unfold RmS.tick1;cases ht:qh s.strs o with
 | none=>exact SmB.refl s
 | some t=>
  simp only;split
  ·exact SmB.put ht (t':={t with asks:=(vU s.cfg.space s.cfg.retry t.asks (s.wants o) s.clock).1}) rfl rfl
  ·exact SmB.put ht rfl rfl
def RmS.tickN (s:RmS):Nat->RmS
 | 0=>s
 | n+1=>(s.tick.1).tickN n
def qcS (d:s.closed=ύ):s.tick.2=0/\s.tick.1.closed=ύ/\s.tick.1.clock=s.clock+1/\SmB s s.tick.1/\s.tick.1.cfg=s.cfg/\s.tick.1.lanes=s.lanes/\s.tick.1.queue=s.queue/\s.tick.1.book=s.book/\s.tick.1.pks=s.pks:=by
 unfold RmS.tick;rw[Ϗ (by rw[d];decide)];have k:=ur s.origins {s with clock:=s.clock+1};refine⟨rfl, ?_,k.clock, ?_,k.cfg,k.lanes,k.queue,k.book,k.pks⟩
 ·exact(gJ s.origins {s with clock:=s.clock+1}).2.trans d
 ·have:=SmB.fold (f:=RmS.tick1) qdQ s.origins {s with clock:=s.clock+1};exact this
def qcI: ∀(n:Nat) {s:RmS},s.closed=ύ->(s.tickN n).closed=ύ/\(s.tickN n).clock=s.clock+n/\SmB s (s.tickN n)/\(s.tickN n).cfg=s.cfg/\(s.tickN n).lanes=s.lanes/\(s.tickN n).queue=s.queue/\(s.tickN n).book=s.book/\(s.tickN n).pks=s.pks
 | 0,s,hc=>⟨hc,by simp[RmS.tickN],SmB.refl s,rfl,rfl,rfl,rfl,rfl⟩
 | n+1,s,hc=>by
  obtain⟨_,d,G,a3,a4,a5,H,I,J⟩:=qcS hc;obtain⟨N,O,U,Y,aa,ab,ac,ad⟩:=qcI n (s:=s.tick.1) d;refine⟨N, ?_,a3.trans U,Y.trans a4,aa.trans a5,ab.trans H,ac.trans I,ad.trans J⟩;have:(s.tickN (n+1)).clock=(s.tick.1.tickN n).clock:=rfl;rw[this,O,G];omega
def qe4 (L:List Og) (i:Nat):List Og:=(List.range L.length).map λk=>L.getD ((i+k)%L.length) (0,0)
def qd5 (L M:List Og):Nat->List Og
 | 0=>[]
 | n+1=>qd5 L M n++(M++qe4 L n)
def qej {L:List Og} {w:Og} (h:w∈L) (i:Nat):w∈qe4 L i:=by
 obtain⟨j,d,rfl⟩:=B4.1 h;have G:0<L.length:=by omega
 have I:i%L.length<L.length:=I2 _ G;refine ο.2 ⟨(j+(L.length-i%L.length))%L.length,M5.2 (I2 _ G), ?_⟩;have e:(i+(j+(L.length-i%L.length))%L.length)%L.length=j:=by
  rw[Nat.add_mod,Nat.mod_mod];rw[<-Nat.add_mod];have H:i+(j+(L.length-i%L.length))=j+(L.length* (i/L.length)+L.length):=by
   have:=T3 i L.length;omega
  rw[H,show L.length* (i/L.length)+L.length=L.length* (i/L.length+1) by rw[Nat.mul_add,V6],Nat.add_mul_mod_self_left,O2 d]
 rw[e,ϒ,ϖ d];rfl
def Wx (s:RmS):s.workers.length<=20:=by
 have h:=Wy s.there subIds;exact ϙ h ζ
def RZ (h:RmR d w R s F):Calls prog 124 #[γ R] w λe w'=> ∃v,e= .returned v/\je 2 RO (λ_=>False) w' w.heap.size 157 v s.workers/\ql w w':=by
 obtain⟨k,rfl,T,vp,G,h⟩:=h;exact qc8 h
def qep (L M:List Og): ∀n,∃d:List (List Og),d.length=n/\d.flatten=qd5 L M n/\ ∀X∈d,∀v∈L,v∈X
 | 0=>⟨[],rfl,rfl,λ_ h=>by cases h⟩
 | n+1=>by
  obtain⟨d,H,I,J⟩:=qep L M n;refine⟨d++[M++qe4 L n],by simp[H],by rw[J7,I];simp[qd5],λX N v G=> ?_⟩;rcases Ϫ.1 N with h | h
  ·exact J X h v G
  ·rw[A8.1 h];exact ϐ _ (qej G n)
def qb8 (k:Nat): ∀s:RmS,s.tickN (k+1)=(s.tickN k).tick.1:=by
 induction k with
 | zero=>intro s;rfl
 | succ k ih=>intro s;exact ih s.tick.1
def qcT (h:qV n s): ∀k,qV (n+k) (s.tickN k)
 | 0=>h
 | k+1=>by rw[qb8];exact(qcT h k).tick
def qeK (N:Nm n0) (w:World):
  Calls prog 45 #[ι n0] w λe w'=>(∃v,e= .returned v/\SlI .u8 w' v (ug n0))/\ql w w':=by
 unfold Nm at N;have Y:IntKind.u32.wrap n0=n0:=IntWalk.u32_in _ τ;have O:=qj w (.cells #[ι 1,ω 0,ω n0,(),()] 137);have H:=κ (FL n0 τ 1 ((w.alloc (.cells #[ι 1,ω 0,ω n0,(),()] 137)).alloc (.cells #[ι 2,ύ,ω 0,ω 0,ω 0,ω 0,ω 0,ω 0,(),ι 1,ω 0,ω n0,(),(),υ 0,υ 0,()] 147)) (b:=w.heap.size+1) (qC η))
 go_enter func45,ntmps45
 go_wp2_with (first | (refine wpList_load_mid rfl 137 (.tmp 3) rfl w.heap.size 0 rfl [ι 1,ω 0,ω n0,(),()] _ (xy O) underlying137 rfl ξ ?_) | (go_at_call 70;(go_call H.o as e w5 ⟨aa,U,rfl,G,d,-⟩;have J:=κ G;have I:Hid (ql w w5):=κ (((X6.al _)).trans d);clear G d)))
 go_ret;exact⟨⟨_,rfl,J.o⟩,I.o⟩
def qcv (d:Int):Byt (ug d)/\(ug d).length<=400:=by
 unfold ug vW;split
 ·exact⟨Byt.of_all ζ,η⟩
 ·split
  ·exact⟨Byt.of_all ζ,η⟩
  ·rename_i h;refine⟨?_,by show (flC [Zb d]).length<=400;rw[YH];omega⟩;show Byt (flC [Zb d]);have e:flC [Zb d]=chB (Zb d):=by show chB (Zb d)++[]=_;rw[Θ]
   rw[e];unfold chB;exact zZ (WN _ _) (zZ (WN _ _) (zZ (WN _ _) (zZ (WN 0 4) (WN d 4))))
def qfa {N:World} (I:qV n s) (ar:n<=100000) (U:Nm n0) (h:Pl N pb (ϊ s) F w) (ab: ∀i y,([n0]:List Int)[i]? =ϊ y->w.cell? ⟨g,i,ϋ⟩=ϊ (ι y)):
  Calls prog 29 #[γ pb,.string ⟨#[112,108,105]⟩,δ (ϊ ⟨g,0,ϋ⟩) 1 cap] w λe w'=>e=O0 (kx (s.arrive (ug n0)).2)/\Pl N pb (ϊ (s.arrive (ug n0)).1) F w'/\PS pb F w w':=by
 obtain⟨R,aa,G⟩:=h.room;have ao:w.cell? ⟨pb,0,ϋ⟩=ϊ (π (ϊ ⟨R,0,ϋ⟩)):=qa G 0 rfl;have ap:=ab 0 _ rfl;have aj:=κ h;have O:=κ aa;have ah:=κ G;obtain⟨an,H⟩:=ν (s.arrive (ug n0));rw[H];obtain⟨s',a⟩:=an;simp only;obtain⟨ac,p2⟩:=qcv n0;have ag:=κ (λ(w':World) (v:Value) (h:RmR N w' R s F) (sl:SlI .u8 w' v (ug n0))=>LC h (ug n0) v sl ac τ ⟨I.num.lost.1,by have:=I.num.lost.2;omega⟩ H);have ai:=κ (qeK U w);clear h aa G ab H U I ac p2
 go_enter func29,ntmps29
 go_upto_region 33 with (first | (go_at_call 45;(go_call ai.o as e w5 ⟨⟨v5,rfl,ad⟩,J⟩;have al:=κ ad;have ak:=κ J;have af:=κ (O.o.on J);clear ad J)) | (go_at_call 43;(go_call ag.o _ _ af.o al.o as e w6 ⟨rfl,Y,ae⟩;have d:=κ (aj.o.step ah.o Y ((O.o.stay ak.o).trans ae));clear Y ae)))
 by_cases ha:a=0
 ·subst ha;go_wp2;go_ret;exact⟨rfl,d.o.1,d.o.2⟩
 ·have aq:(a != 0)=ό:=by simp[ha]
  have am:Hid (kx a= .err a):=κ (Ϗ ha);clear ha;go_wp2;exact⟨rfl,by rw[am.o];rfl,d.o.1,d.o.2⟩
def RmS.ticksE (s:RmS) (k:Nat):RmS×Int:=if s.closed=ό/\0<k then (s,7) else (s.tickN k,0)
def qeQ {O:World} {k:Nat} (ag:qV n s) (ar:k<=20) (au:n+k<=100000) (h:Pl O pb (ϊ s) F w) (af: ∀i y,([(k:Int)]:List Int)[i]? =ϊ y->w.cell? ⟨g,i,ϋ⟩=ϊ (ι y)):
  Calls prog 29 #[γ pb,.string ⟨#[116,105,99,107]⟩,δ (ϊ ⟨g,0,ϋ⟩) 1 cap] w λe w'=>e=O0 (kx (s.ticksE k).2)/\Pl O pb (ϊ (s.ticksE k).1) F w'/\PS pb F w w':=by
 obtain⟨R,ae,J⟩:=h.room;have an:w.cell? ⟨pb,0,ϋ⟩=ϊ (π (ϊ ⟨R,0,ϋ⟩)):=qa J 0 rfl;have ao:=af 0 _ rfl;have aa:=κ h;have ab:=κ ae;have U:=κ J;have Y:=κ ag;clear h ae J af ag;by_cases hcl:s.closed=ό/\0<k
 ·have N:Hid (s.ticksE k=(s,7)):=κ (ϓ hcl);have I:=κ (F5 ab.o Y.o τ (s':=s) (a:=7) (by unfold RmS.tick;rw[ϓ hcl.1]));have aq:(0:Int)<(k:Int):=by omega
  rw[N.o];clear hcl
  go_enter func29,ntmps29
  go_wp2
  go_loopw [8,124] (λe i wr=>e= ι 0/\i= ι 0/\wr=w) (λ_ _ _=>0)
  case atStart=>exact⟨rfl,rfl,rfl⟩
  case round=>
   obtain⟨rfl,rfl,rfl⟩:=hrel
   go_wp2_with ((go_at_call 46;(go_call I.o as e w6 ⟨rfl,G,H⟩;have d:=κ (aa.o.step U.o G H);clear G H)))
   exact⟨rfl,rfl,d.o.1,d.o.2⟩
 ·have N:Hid (s.ticksE k=(s.tickN k,0)):=κ (Ϗ hcl)
  have ak:Hid (0<k->s.closed=ύ):=κ (λh=>by
   cases e:s.closed with
   | false=>rfl
   | true=>exact ϧ ⟨e,h⟩ hcl)
  rw[N.o];clear hcl
  go_enter func29,ntmps29
  go_wp2
  go_loopw [8,124] (λe i wr=> ∃j:Nat,j<=k/\e= ι 0/\i= ι j/\RmR O wr R (s.tickN j) F/\qw F w wr) (λ_ i _=>k-(intOf i).toNat)
  case atStart=>exact⟨0,τ,rfl,rfl,ab.o,qw.refl _ _⟩
  case round=>
   obtain⟨j,ap,rfl,rfl,ah,ai⟩:=hrel;have ac:=κ ah;have ad:=κ ai;clear ah ai;by_cases hlt:j<k
   ·have am:(j:Int)<(k:Int):=by omega
    have I:=κ (F5 ac.o (qcT Y.o j) τ (Prod.ext (qb8 j s).symm (qcS (qcI j (ak.o τ)).1).1))
    go_wp2_with ((go_at_call 46;(go_call I.o as e w6 ⟨rfl,G,H⟩;have aj:=κ G;have al:=κ (ad.o.trans H);clear G H)))
    go_roundw
    case rel=>exact⟨j+1,τ,rfl,by go_num,aj.o,al.o⟩
    case measure=>simp[intOf];omega
   ·obtain rfl:j=k:=by omega
    have am: ¬(j:Int)<(j:Int):=by omega
    have d:=κ (aa.o.step U.o ac.o ad.o);go_wp2;go_ret;exact⟨rfl,d.o.1,d.o.2⟩
def qbS (b:Bool):List UInt8:=if b=ό then [121,101,115] else [110,111]
def qdz (b:Bool) (w:World):Calls prog 82 #[μ b] w λe w'=>e= .returned (.string ⟨(qbS b).toArray⟩)/\w'=w:=by
 cases b
 all_goals
  go_enter func82,ntmps82
  go_wp2;go_ret;exact⟨rfl,rfl⟩
def qbW (aj:qV n s) (ar:n<=100000) (G H:Int) (acc:Bool) (h:Pl d pb (ϊ s) F w):
  Calls prog 75 #[γ pb,θ #[ι G,ι H],acc] w λe w'=>e= .returned (.string ⟨(qbS (s.pick (G,H) acc).2).toArray⟩)/\Pl d pb (ϊ (s.pick (G,H) acc).1) F w'/\PS pb F w w':=by
 obtain⟨au,ac⟩:=ν (s.pick (G,H) acc);have an:=κ ac;have am:=κ aj;rw[ac];obtain⟨s',a⟩:=au;simp only;obtain⟨W1,U⟩:=ν (w.alloc (.cells #[ι G,ι H] 157));have ag:Hid (ql w W1):=κ (by rw[<-U];exact ql.alloc _ _);have N:Hid (W1.heap[w.heap.size]? =ϊ (.cells #[ι G,ι H] 157 (0,0))):=κ (by rw[<-U];exact qj w _);have O:Hid (Pl d pb (ϊ s) ([w.heap.size]++F) W1):=κ (h.adds ag.o (λb J=>by simp at J;subst J;exact⟨ϔ _,qn N.o⟩));obtain⟨aq,ai,ah⟩:=O.o.room;have aa:=κ ai;have ad:=κ ah;have ae:=κ h;have ap: ∀x:qz (λb=>d.heap.size<=b/\b∉[w.heap.size]++F) W1,x.w'.cell? ⟨pb,0,ϋ⟩=ϊ (π (ϊ ⟨aq,0,ϋ⟩)):=λx=>x.cell (O.o.lt pb O.o.1) (λc=>c.2 O.o.1) (qa ad.o 0 rfl)
 have ak: ∀x:qz (λb=>d.heap.size<=b/\b∉[w.heap.size]++F) W1,x.w'.cell? ⟨w.heap.size,0,ϋ⟩=ϊ (ι G):=λx=>x.cell (qn N.o) (λc=>c.2 η) (qa N.o 0 rfl)
 have al: ∀x:qz (λb=>d.heap.size<=b/\b∉[w.heap.size]++F) W1,x.w'.cell? ⟨w.heap.size,1,ϋ⟩=ϊ (ι H):=λx=>x.cell (qn N.o) (λc=>c.2 η) (qa N.o 1 rfl)
 have ao:=κ (qdz a);clear ai ah h ac aj
 go_enter func75,ntmps75
 go_upto_region 1 with fail
 (try rw[U])
 clear U;refine QN (λb=>d.heap.size<=b/\b∉[w.heap.size]++F) W1 9 9 [6,7] ?_
 refine Qs6 ?_
 clear ap ak al
 (refine Ql ?_;intro K I)
 go_call F7 (aa.o.on (ql.drewN W1 1)) am.o ar G H acc an.o as e w5 ⟨rfl,ab,t5⟩;have Y:Hid (jt (λb=>d.heap.size<=b/\b∉[w.heap.size]++F) W1 w5):=κ (((jt.refl _ W1).drewN 1).trans ((aa.o.on (ql.drewN W1 1)).away ab t5));refine⟨_,rfl,qi Y.o,I _ _ ?_⟩;clear I K;have af:=κ (O.o.step ad.o ab (qw.trans (aa.o.stay (ql.drewN W1 1)) t5));clear ab t5
 (refine Ql ?_;intro K I)
 go_call ao.o _ as e w6 ⟨rfl,rfl⟩;refine⟨_,rfl,qi Y.o,I _ _ ?_⟩;clear I K
 iterate 1 (refine qE rfl rfl (qi Y.o) ?_;intro K I;go_big_quiet_op;go_big_quiet_on)
 refine qA ?_;go_wp2;go_ret;exact⟨rfl,af.o.1.sub (λb J=>ϐ _ J) ae.o.1,(ae.o.stay ag.o).trans (af.o.2.sub (λb J=>ϐ _ J))⟩
def BI {G:ByteArray} {I:Option Addr} {k:Nat} {P:Ending->World->Prop} (O:w.cell? ⟨pb,0,ϋ⟩=ϊ (π (ϊ ⟨R,0,ϋ⟩))) (d: ∀x∈[[114,111,111,109],[112,117,98,108,105,115,104],[106,111,105,110],[116,97,107,101],[119,97,110,116],[108,101,97,118,101],[107,101,121],[100,101,108,116,97],[112,108,105],[106,117,110,107],[116,105,99,107],[115,104,117,116,100,111,119,110]],(G.toList==(x:List UInt8))=ύ)
  (h:Calls prog 48 #[γ pb,.string G,δ I k cap] w λe w'=> ∃v,e= .returned v/\P e w'):
  Calls prog 29 #[γ pb,.string G,δ I k cap] w P:=by
 have N:=κ h;have n0:=d [114,111,111,109] η;have n1:=d [112,117,98,108,105,115,104] η;have n2:=d [106,111,105,110] η;have n3:=d [116,97,107,101] η;have aa:=d [119,97,110,116] η;have n5:=d [108,101,97,118,101] η;have ab:=d [107,101,121] η;have ac:=d [100,101,108,116,97] η;have ad:=d [112,108,105] η;have ae:=d [106,117,110,107] η;have U:=d [116,105,99,107] η;have Y:=d [115,104,117,116,100,111,119,110] η;clear h d
 go_enter func29,ntmps29
 go_wp2_with ((go_at_call 48;(go_call N.o as e w5 ⟨v5,rfl,H⟩;have J:=κ H;clear H)))
 exact J.o
def qeT (H:qV n s) (aa:n<=100000) (h:Pl I pb (ϊ s) F w):
  Calls prog 29 #[γ pb,.string ⟨#[114,101,97,100]⟩,()] w λe w'=>e=O0 (.told (qbS (s.pick (0,0) ό).2))/\Pl I pb (ϊ (s.pick (0,0) ό).1) F w'/\PS pb F w w':=by
 obtain⟨R,Y,G⟩:=h.room;have U:w.cell? ⟨pb,0,ϋ⟩=ϊ (π (ϊ ⟨R,0,ϋ⟩)):=qa G 0 rfl;have N:=κ (qbW H aa 0 0 ό h);refine BI U (by intro x ab;rw[ByteArray.toList_eq];revert x ab;decide) ?_;clear h Y G H
 go_enter func48,ntmps48
 go_wp2_with ((go_at_call 75;(go_call N.o as e w5 ⟨rfl,d,t5⟩;have J:=κ d;have O:=κ t5;clear d t5)))
 go_ret;exact⟨_,rfl,rfl,J.o,O.o⟩
def qet (H:qV n s) (aa:n<=100000) (h:Pl I pb (ϊ s) F w):
  Calls prog 29 #[γ pb,.string ⟨#[111,114,100,101,114]⟩,()] w λe w'=>e=O0 (.told (qbS (s.pick (1,0) ό).2))/\Pl I pb (ϊ (s.pick (1,0) ό).1) F w'/\PS pb F w w':=by
 obtain⟨R,Y,G⟩:=h.room;have U:w.cell? ⟨pb,0,ϋ⟩=ϊ (π (ϊ ⟨R,0,ϋ⟩)):=qa G 0 rfl;have N:=κ (qbW H aa 1 0 ό h);refine BI U (by intro x ab;rw[ByteArray.toList_eq];revert x ab;decide) ?_;clear h Y G H
 go_enter func48,ntmps48
 go_wp2_with ((go_at_call 75;(go_call N.o as e w5 ⟨rfl,d,t5⟩;have J:=κ d;have O:=κ t5;clear d t5)))
 go_ret;exact⟨_,rfl,rfl,J.o,O.o⟩
def qdZ (I:qV n s) (ab:n<=100000) (h:Pl J pb (ϊ s) F w) (H: ∀i y,([n0]:List Int)[i]? =ϊ y->w.cell? ⟨g,i,ϋ⟩=ϊ (ι y)):
  Calls prog 29 #[γ pb,.string ⟨#[99,104,111,111,115,101]⟩,δ (ϊ ⟨g,0,ϋ⟩) 1 cap] w λe w'=>e=O0 (.told (qbS (s.pick (2,n0) ό).2))/\Pl J pb (ϊ (s.pick (2,n0) ό).1) F w'/\PS pb F w w':=by
 obtain⟨R,aa,G⟩:=h.room;have Y:w.cell? ⟨pb,0,ϋ⟩=ϊ (π (ϊ ⟨R,0,ϋ⟩)):=qa G 0 rfl;have O:=κ (qbW I ab 2 n0 ό h);have ad:=H 0 _ rfl;refine BI Y (by intro x ac;rw[ByteArray.toList_eq];revert x ac;decide) ?_;clear h aa G I H
 go_enter func48,ntmps48
 go_wp2_with ((go_at_call 75;(go_call O.o as e w5 ⟨rfl,d,t5⟩;have N:=κ d;have U:=κ t5;clear d t5)))
 go_ret;exact⟨_,rfl,rfl,N.o,U.o⟩
def qdw (I:qV n s) (ab:n<=100000) (h:Pl J pb (ϊ s) F w) (H: ∀i y,([n0]:List Int)[i]? =ϊ y->w.cell? ⟨g,i,ϋ⟩=ϊ (ι y)):
  Calls prog 29 #[γ pb,.string ⟨#[114,101,119,114,105,116,101]⟩,δ (ϊ ⟨g,0,ϋ⟩) 1 cap] w λe w'=>e=O0 (.told (qbS (s.pick (3,n0) ό).2))/\Pl J pb (ϊ (s.pick (3,n0) ό).1) F w'/\PS pb F w w':=by
 obtain⟨R,aa,G⟩:=h.room;have Y:w.cell? ⟨pb,0,ϋ⟩=ϊ (π (ϊ ⟨R,0,ϋ⟩)):=qa G 0 rfl;have O:=κ (qbW I ab 3 n0 ό h);have ad:=H 0 _ rfl;refine BI Y (by intro x ac;rw[ByteArray.toList_eq];revert x ac;decide) ?_;clear h aa G I H
 go_enter func48,ntmps48
 go_wp2_with ((go_at_call 75;(go_call O.o as e w5 ⟨rfl,d,t5⟩;have N:=κ d;have U:=κ t5;clear d t5)))
 go_ret;exact⟨_,rfl,rfl,N.o,U.o⟩
def qes (I:qV n s) (ab:n<=100000) (h:Pl J pb (ϊ s) F w) (H: ∀i y,([n0]:List Int)[i]? =ϊ y->w.cell? ⟨g,i,ϋ⟩=ϊ (ι y)):
  Calls prog 29 #[γ pb,.string ⟨#[119,114,105,116,101]⟩,δ (ϊ ⟨g,0,ϋ⟩) 1 cap] w λe w'=>e=O0 (.told (qbS (s.pick (4,n0) ό).2))/\Pl J pb (ϊ (s.pick (4,n0) ό).1) F w'/\PS pb F w w':=by
 obtain⟨R,aa,G⟩:=h.room;have Y:w.cell? ⟨pb,0,ϋ⟩=ϊ (π (ϊ ⟨R,0,ϋ⟩)):=qa G 0 rfl;have O:=κ (qbW I ab 4 n0 ό h);have ad:=H 0 _ rfl;refine BI Y (by intro x ac;rw[ByteArray.toList_eq];revert x ac;decide) ?_;clear h aa G I H
 go_enter func48,ntmps48
 go_wp2_with ((go_at_call 75;(go_call O.o as e w5 ⟨rfl,d,t5⟩;have N:=κ d;have U:=κ t5;clear d t5)))
 go_ret;exact⟨_,rfl,rfl,N.o,U.o⟩
def qdX (I:qV n s) (ab:n<=100000) (h:Pl J pb (ϊ s) F w) (H: ∀i y,([n0]:List Int)[i]? =ϊ y->w.cell? ⟨g,i,ϋ⟩=ϊ (ι y)):
  Calls prog 29 #[γ pb,.string ⟨#[114,101,102,117,115,101]⟩,δ (ϊ ⟨g,0,ϋ⟩) 1 cap] w λe w'=>e=O0 (.told (qbS (s.pick (4,n0) ύ).2))/\Pl J pb (ϊ (s.pick (4,n0) ύ).1) F w'/\PS pb F w w':=by
 obtain⟨R,aa,G⟩:=h.room;have Y:w.cell? ⟨pb,0,ϋ⟩=ϊ (π (ϊ ⟨R,0,ϋ⟩)):=qa G 0 rfl;have O:=κ (qbW I ab 4 n0 ύ h);have ad:=H 0 _ rfl;refine BI Y (by intro x ac;rw[ByteArray.toList_eq];revert x ac;decide) ?_;clear h aa G I H
 go_enter func48,ntmps48
 go_wp2_with ((go_at_call 75;(go_call O.o as e w5 ⟨rfl,d,t5⟩;have N:=κ d;have U:=κ t5;clear d t5)))
 go_ret;exact⟨_,rfl,rfl,N.o,U.o⟩
def qew {O:World} (J:s.ret.length<=1000000) (h:Pl O pb (ϊ s) F w):
  Calls prog 29 #[γ pb,.string ⟨#[101,110,100,101,100]⟩,()] w λe w'=>e=O0 (.told (qbS s.ended))/\Pl O pb (ϊ s) F w'/\PS pb F w w':=by
 obtain⟨R,I,H⟩:=h.room;have aa:w.cell? ⟨pb,0,ϋ⟩=ϊ (π (ϊ ⟨R,0,ϋ⟩)):=qa H 0 rfl;have U:=κ (KY I J rfl);have d:=κ h;have Y:=κ (qdz s.ended);refine BI aa (by intro x ab;rw[ByteArray.toList_eq];revert x ab;decide) ?_;clear h I H J;generalize s.ended=a at *
 go_enter func48,ntmps48
 go_wp2_with (first | (go_at_call 83;(go_call U.o as e w5 ⟨rfl,N⟩;have G:=κ N;clear N)) | (go_at_call 82;(go_call Y.o _ as e w6 ⟨rfl,rfl⟩)))
 go_ret;exact⟨_,rfl,rfl,d.o.on G.o,d.o.stay G.o⟩
def Fu (p:RmS×Nat) (w:Og):RmS×Nat:=((p.1.pick w ό).1,p.2+if (p.1.pick w ό).2=ό then 1 else 0)
def Q5 (p:RmS×Nat):Nat->RmS×Nat
 | 0=>p
 | k+1=>(Q5 p k).1.workers.foldl Fu (Q5 p k)
def qcl: ∀(L:List Og) {p:RmS×Nat} {n:Nat},qV n p.1->qV (n+L.length) (L.foldl Fu p).1/\(L.foldl Fu p).2<=p.2+L.length
 | [],p,n,h=>⟨h,ϔ _⟩
 | x::L,p,n,h=>by
  have d:qV (n+1) (Fu p x).1:=h.pick x ό;obtain⟨a,b⟩:=qcl L d;refine⟨by rw[Ϙ,show n+(L.length+1)=n+1+L.length by omega];exact a, ?_⟩;have:(Fu p x).2<=p.2+1:=by
   unfold Fu;simp only;split<;>omega
  rw[Ϙ];show (L.foldl Fu (Fu p x)).2<=_;omega
def qV.le {m:Nat} (h:qV n s) (G:n<=m):qV m s:=by
 obtain⟨d,rfl⟩:=Nat.exists_eq_add_of_le G;clear G
 induction d with
 | zero=>exact h
 | succ d ih=>exact ih.up
def qce {p:RmS×Nat} (h:qV n p.1): ∀k,qV (n+20* k) (Q5 p k).1/\(Q5 p k).2<=p.2+20* k
 | 0=>⟨h,ϔ _⟩
 | k+1=>by
  obtain⟨a,b⟩:=qce h k;obtain⟨c,d⟩:=qcl (Q5 p k).1.workers a;have G:=Wx (Q5 p k).1;exact⟨c.le τ,by show ((Q5 p k).1.workers.foldl Fu (Q5 p k)).2<=_;omega⟩
def qee {H:World} {k:Nat} (aH:qV n s) (bo:n+20* k<=100000) (h:Pl H pb (ϊ s) F w):
  Calls prog 76 #[γ pb,ι (k:Int)] w λe w'=>e= .returned (ι ((Q5 (s,0) k).2:Int))/\Pl H pb (ϊ (Q5 (s,0) k).1) F w'/\PS pb F w w':=by
 have aw:=κ h;have aS:=κ (λj=>qce (p:=(s,0)) aH j);clear h aH
 go_enter func76,ntmps76
 go_wp2
 go_loopw [5,9] (λu U wr=> ∃j:Nat,j<=k/\U= ι j/\u= ι ((Q5 (s,0) j).2:Int)/\Pl H pb (ϊ (Q5 (s,0) j).1) F wr/\PS pb F w wr) (λ_ U _=>k-(intOf U).toNat)
 case atStart=>exact⟨0,τ,rfl,rfl,aw.o,PS.refl⟩
 case round=>
  obtain⟨j,bm,rfl,rfl,aJ,aK⟩:=hrel;have Y:=κ aJ;have ax:=κ aK;clear aJ aK;by_cases hlt:j<k
  ·have bf:(j:Int)<(k:Int):=by omega
   obtain⟨aI,bk⟩:=aS.o j;have ay:Hid (Q5 (s,0) (j+1)=(Q5 (s,0) j).1.workers.foldl Fu (Q5 (s,0) j)):=κ rfl;generalize Q5 (s,0) j=p at *;have aT:=κ aI;have bn:=Wx p.1;clear aI;obtain⟨R,aE,aB⟩:=Y.o.room;have ad:wr.cell? ⟨pb,0,ϋ⟩=ϊ (π (ϊ ⟨R,0,ϋ⟩)):=qa aB 0 rfl;have az:=κ (RZ aE);have bh:0<p.1.workers.length:=by unfold RmS.workers yp;simp
   generalize p.1.workers=L at *;clear aE aB
   go_wp2_with ((go_at_call 124;(go_call az.o as e w8 ⟨bq,rfl,ap,aM⟩;obtain⟨bp,cap,rfl,aL⟩:=LP ap;have ai:=κ aL;have ak:=κ ap;have aA:=κ aM;clear ap aL aM)))
   obtain⟨G,rfl,_,_⟩:=ai.o.2 _ (ql.refl _) 0 bh;have aG:wr.heap.size<=G:=ak.o.ge rfl;have bg:G<w8.heap.size:=ak.o.lt rfl
   have av:Hid (∀i (hi:i<L.length),w8.cell? ⟨G,i* 2,ϋ⟩=ϊ (ι L[i].1)/\w8.cell? ⟨G,i* 2+1,ϋ⟩=ϊ (ι L[i].2)):=κ (λi hi=>by
    obtain⟨b,e,ba,bb⟩:=ai.o.2 _ (ql.refl _) i hi;injection e with e
    injection e with e _ _
    subst e
    exact⟨ba,bb⟩)
   have ar:Hid (Pl H pb (ϊ p.1) ([G]++F) w8):=κ (Y.o.adds aA.o (λb d=>by simp at d;subst d;exact⟨aG,bg⟩));have bd:Hid (G≠pb):=κ (λe=>by have:=Y.o.lt pb Y.o.1;omega);have aZ:=κ (Y.o.stay aA.o);clear aG ai ak az ad
   go_loopw [5,17] (λu U aO=> ∃i:Nat,i<=L.length/\U= ι i/\u= ι (((L.take i).foldl Fu p).2:Int)/\Pl H pb (ϊ ((L.take i).foldl Fu p).1) ([G]++F) aO/\PS pb ([G]++F) w8 aO) (λ_ U _=>L.length-(intOf U).toNat)
   case atStart=>exact⟨0,τ,rfl,rfl,ar.o,PS.refl⟩
   case round=>
    obtain⟨i,hi,rfl,rfl,aa,aN⟩:=hrel;have N:=κ aa;have ag:=κ aN;clear aa aN ar;by_cases hli:i<L.length
    ·have be:(i:Int)<(L.length:Int):=by omega
     have aq:=ag.o.2 G η bd.o;obtain⟨ad,c1⟩:=av.o i hli;rw[<-World.cell?_of_block aq] at ad c1;obtain⟨ao,bc⟩:=qcl (L.take i) aT.o;have bi:(L.take i).length=i:=by rw[Ϥ];omega
     rw[bi] at ao bc;have ae:Hid ((L.take (i+1)).foldl Fu p=Fu ((L.take i).foldl Fu p) L[i]):=κ (by rw[ϡ hli,Φ];rfl);generalize (L.take i).foldl Fu p=q at *;have aU:=κ ao;generalize L[i]=y at *;obtain⟨I,J⟩:=y;simp only at ad c1;obtain⟨bj,an⟩:=ν (q.1.pick (I,J) ό);have aV:=κ an;rw[show Fu q (I,J)=((q.1.pick (I,J) ό).1,q.2+if (q.1.pick (I,J) ό).2=ό then 1 else 0) from rfl,an] at ae;obtain⟨s',a⟩:=bj;simp only at ae;obtain⟨W1,am⟩:=ν (wr.alloc (.cells #[ι I,ι J] 157));have aj:Hid (ql wr W1):=κ (by rw[<-am];exact ql.alloc _ _);have ab:Hid (W1.heap[wr.heap.size]? =ϊ (.cells #[ι I,ι J] 157 (0,0))):=κ (by rw[<-am];exact qj wr _);have ac:Hid (Pl H pb (ϊ q.1) ([wr.heap.size]++([G]++F)) W1):=κ (N.o.adds aj.o (λb d=>by simp at d;subst d;exact⟨ϔ _,qn ab.o⟩));obtain⟨aY,aF,aC⟩:=ac.o.room;have ah:=κ aF;have au:=κ aC;have aX: ∀x:qz (λb=>H.heap.size<=b/\b∉[wr.heap.size]++([G]++F)) W1,x.w'.cell? ⟨pb,0,ϋ⟩=ϊ (π (ϊ ⟨aY,0,ϋ⟩)):=λx=>x.cell (ac.o.lt pb ac.o.1) (λc=>c.2 ac.o.1) (qa au.o 0 rfl)
     have aQ: ∀x:qz (λb=>H.heap.size<=b/\b∉[wr.heap.size]++([G]++F)) W1,x.w'.cell? ⟨wr.heap.size,0,ϋ⟩=ϊ (ι I):=λx=>x.cell (qn ab.o) (λc=>c.2 η) (qa ab.o 0 rfl)
     have aR: ∀x:qz (λb=>H.heap.size<=b/\b∉[wr.heap.size]++([G]++F)) W1,x.w'.cell? ⟨wr.heap.size,1,ϋ⟩=ϊ (ι J):=λx=>x.cell (qn ab.o) (λc=>c.2 η) (qa ab.o 1 rfl)
     clear aF aC aq av an ao;have bl:q.2<=1000000:=by omega
     go_upto_region 7 with fail
     clear am ad c1;refine QN (λb=>H.heap.size<=b/\b∉[wr.heap.size]++([G]++F)) W1 6 6 [5] ?_
     refine Qs5 ?_
     clear aX aQ aR
     (refine Ql ?_;intro K aD)
     go_call F7 (ah.o.on (ql.drewN W1 1)) aU.o τ I J ό aV.o as e w5 ⟨rfl,al,t5⟩;have aP:Hid (jt (λb=>H.heap.size<=b/\b∉[wr.heap.size]++([G]++F)) W1 w5):=κ (((jt.refl _ W1).drewN 1).trans ((ah.o.on (ql.drewN W1 1)).away al t5));refine⟨_,rfl,qi aP.o,aD _ _ ?_⟩;clear aD K;refine qA ?_;have af:=κ (ac.o.step au.o al (qw.trans (ah.o.stay (ql.drewN W1 1)) t5));clear al t5;cases a with
     | true=>
      have O:=ae.o;simp only[C1] at O;go_wp2;go_roundw
      case rel=>exact⟨i+1,τ,by go_num,by rw[O];go_num,by rw[O];exact af.o.1.sub (λb d=>ϐ _ d) N.o.1,ag.o.trans ((N.o.stay aj.o).trans (af.o.2.sub (λb d=>ϐ _ d)))⟩
      case measure=>simp[intOf];omega
     | false=>
      have O:=ae.o;simp only[Ξ,D4,E9] at O;go_wp2;go_roundw
      case rel=>exact⟨i+1,τ,by go_num,by rw[O],by rw[O];exact af.o.1.sub (λb d=>ϐ _ d) N.o.1,ag.o.trans ((N.o.stay aj.o).trans (af.o.2.sub (λb d=>ϐ _ d)))⟩
      case measure=>simp[intOf];omega
    ·obtain rfl:i=L.length:=by omega
     have be: ¬(L.length:Int)<(L.length:Int):=by omega
     have aa:=N.o;rw[Ϩ] at aa ⊢;have aW:=κ aa;clear aa N;go_wp2;go_roundw
     case rel=>exact⟨j+1,τ,by go_num,by rw[ay.o],by rw[ay.o];exact aW.o.sub (λb d=>ϐ _ d) aw.o.1,ax.o.trans (aZ.o.trans (ag.o.sub (λb d=>ϐ _ d)))⟩
     case measure=>simp[intOf];omega
  ·obtain rfl:j=k:=by omega
   have bf: ¬(j:Int)<(j:Int):=by omega
   go_wp2;go_ret;exact⟨rfl,Y.o,ax.o⟩
def qcE (sep:List UInt8) (m:Nat): ∀xs:List (List UInt8),(∀x∈xs,x.length<=m)->(Lib.join xs sep).length<=xs.length* (m+sep.length)
 | [],_=>by simp[Lib.join]
 | [x],h=>by
  rw[Lib.join_one];have:=h x η;simp;omega
 | x::y::xs,h=>by
  have G:=qcE sep m (y::xs) (λz d=>h z (ϛ _ d));have H:=h x η;have e:Lib.join (x::y::xs) sep=x++(sep++Lib.join (y::xs) sep):=by simp[Lib.join,List.intercalate]
  rw[e,ώ,ώ,Ϙ,Nat.succ_mul];omega
def qbO (ns:List Int) (G: ∀n∈ns,0<=n/\n<=1000000000000) (sep:List UInt8):(Lib.join (ns.map Lib.itoa) sep).length<=ns.length* (13+sep.length):=by
 have:=qcE sep 13 (ns.map Lib.itoa) (λx H=>by
  obtain⟨n,d,rfl⟩:=ο.1 H
  exact qbR n (G n d))
 rw[ϱ] at this;exact this
def qeP {k:Nat} (H:qV n s) (ah:n+20* k<=100000) (U:Lib.TabIs prog d N9 .u64 Lib.pow10Tab) (h:Pl d pb (ϊ s) F w) (O: ∀i y,([(k:Int)]:List Int)[i]? =ϊ y->w.cell? ⟨g,i,ϋ⟩=ϊ (ι y)):
  Calls prog 29 #[γ pb,.string ⟨#[116,117,114,110]⟩,δ (ϊ ⟨g,0,ϋ⟩) 1 cap] w λe w'=>e=O0 (.told (Lib.itoa ((Q5 (s,0) k).2:Int)))/\Pl d pb (ϊ (Q5 (s,0) k).1) F w'/\PS pb F w w':=by
 obtain⟨R,af,N⟩:=h.room;have ae:w.cell? ⟨pb,0,ϋ⟩=ϊ (π (ϊ ⟨R,0,ϋ⟩)):=qa N 0 rfl;have ac:=κ (qee H ah h);have ag:=(qce (p:=(s,0)) H k).2;simp only at ag;have aj:=O 0 _ rfl;have ab:=κ U;refine BI ae (by intro x ai;rw[ByteArray.toList_eq];revert x ai;decide) ?_;clear h af N H O U;generalize Q5 (s,0) k=p at *;have aa:=κ (λ(w':World) (m:ql d w')=>Tu (p.2:Int) τ w' (NK ab.o m))
 go_enter func48,ntmps48
 go_wp2_with (first | (go_at_call 76;((refine(ac.o).mono ?_);rintro e w5 ⟨rfl,J,t5⟩;have G:=κ J;have ad:=κ t5;clear J t5)) | (go_at_call 26;((refine(aa.o _ G.o.2.2.1).mono ?_);rintro e w6 ⟨rfl,Y⟩;have I:=κ Y;clear Y)))
 go_ret;exact⟨_,rfl,rfl,G.o.on I.o,ad.o.trans (G.o.stay I.o)⟩
def qbK (s:RmS):List Int:=[s.cnt.lost,s.cnt.malf,s.cnt.strange,s.cnt.told,s.cnt.acc]
def qb9 (d:qV n s) (Y:n<=100000): ∀x∈qbK s,0<=x/\x<=1000000000000:=by
 intro x G;have H:=d.num.lost;have I:=d.num.malf;have J:=d.num.strange;have N:=d.num.told;have O:=d.num.acc;have U:=d.num.pks;simp[qbK] at G;rcases G with rfl | rfl | rfl | rfl | rfl<;>omega
def qdY (af:qV n s) (ao:n<=100000) (ag:Lib.TabIs prog I N9 .u64 Lib.pow10Tab) (h:Pl I pb (ϊ s) F w):
  Calls prog 29 #[γ pb,.string ⟨#[99,111,117,110,116,115]⟩,()] w λe w'=>e=O0 (.told (Lib.join ((qbK s).map Lib.itoa) [32]))/\Pl I pb (ϊ s) F w'/\PS pb F w w':=by
 obtain⟨R,ae,ad⟩:=h.room;have an:w.cell? ⟨pb,0,ϋ⟩=ϊ (π (ϊ ⟨R,0,ϋ⟩)):=qa ad 0 rfl;have O:=κ (YI ae rfl);have Y:=κ h;have al:=κ (λw' (m:ql w w')=>NK ag (h.2.2.1.trans m));have N:=κ (qb9 af ao);have U:=κ (qbO (qbK s) N.o [32]);obtain⟨r,H⟩:=ν (Lib.join ((qbK s).map Lib.itoa) [32]);have aj:=κ H;rw[H] at U;refine BI an (by intro x ap;rw[ByteArray.toList_eq];revert x ap;decide) ?_;rw[H];clear h ae ad af ag H;unfold qbK at *;generalize s.cnt.lost=a0 at *;generalize s.cnt.malf=a1 at *;generalize s.cnt.strange=a2 at *;generalize s.cnt.told=a3 at *;generalize s.cnt.acc=a4 at *
 go_enter func48,ntmps48
 go_upto_region 19 with ((go_at_call 77;(go_call O.o as e w5 ⟨rfl,ah⟩;have aa:=κ ah;clear ah)))
 obtain⟨W6,G⟩:=ν (w5.alloc (.cells #[ι a0,ι a1,ι a2,ι a3,ι a4] 99));have am:Hid (ql w W6):=κ (by rw[<-G];exact aa.o.trans X6);have d:Hid (W6.heap[w5.heap.size]? =ϊ (.cells #[ι a0,ι a1,ι a2,ι a3,ι a4] 99 (0,0))):=κ (by rw[<-G];exact qj w5 _);rw[G];clear G aa O;generalize w5.heap.size=cb at *;have ar:=β0 d.o;have au:=β1 d.o;have av:=β2 d.o;have aw:=β3 d.o;have ax:=β4 d.o;have ab:Hid (ql w (W6.alloc (.cells #[ι a0,ι a1,ι a2,ι a3,ι a4] 3))):=κ (am.o.trans X6);have J:=κ (qj W6 (.cells #[ι a0,ι a1,ι a2,ι a3,ι a4] 3));have ak:Hid (Calls prog 78 #[.string ⟨#[32]⟩,δ (ϊ ⟨W6.heap.size,0,ϋ⟩) 5 5] (W6.alloc (.cells #[ι a0,ι a1,ι a2,ι a3,ι a4] 3)) λe w'=>e= .returned (.string ⟨r.toArray⟩)/\ql (W6.alloc (.cells #[ι a0,ι a1,ι a2,ι a3,ι a4] 3)) w'):=κ (RE ⟨#[32]⟩ [a0,a1,a2,a3,a4] W6.heap.size 5 _ (λi y aq=>qa J.o i (by show ((([a0,a1,a2,a3,a4]:List Int).map (Value.int .i64)).toArray)[i]? =_;rw[Δ,B6,aq];rfl)) (qn J.o) η η N.o (al.o _ ab.o) (r:=r) aj.o (by have:=U.o;simp at this;omega))
 go_wp2_with ((go_at_call 78;(go_call ak.o as e w8 ⟨rfl,ai⟩;have ac:=κ (ab.o.trans ai);clear ai)))
 go_ret;exact⟨_,rfl,rfl,Y.o.on ac.o,Y.o.stay ac.o⟩
def qfp (d o c:Nat) (xs:List ByteArray) (sep:ByteArray) (w:World) (I: ∀(j:Nat) x,xs[j]? =ϊ x->w.cell? ⟨d,o+j,ϋ⟩=ϊ (.string x)) (H:d<w.heap.size) (O:xs.length<=1000000000) (J:xs.length<=c) (G:Lib.join (xs.map (·.data.toList)) sep.data.toList=r) (N:r.length<=1000000000):
  Calls prog 8 #[δ (ϊ ⟨d,o,ϋ⟩) xs.length c,.string sep] w λe w'=>e= .returned (.string ⟨r.toArray⟩)/\ql w w':=by
 have h:=Any.strings_Join {OF with} bldX d o c xs sep w I H τ J (by rw[G];omega);rw[G] at h;exact h
def qcb (L:List (List UInt8)):List UInt8:=if L=[] then [110,111,110,101] else Lib.join L [32]
def qdh (h:je 1 RTx D w base 9 v L) (ab:L.length<=1000000) (d:(qcb (L.map (·.data.toList))).length<=1000000000):
  Calls prog 128 #[v] w λe w'=>e= .returned (.string ⟨(qcb (L.map (·.data.toList))).toArray⟩)/\ql w w':=by
 by_cases hz:L=[]
 ·subst hz;obtain⟨ad,m,cap,rfl,Y,_⟩:=h.shape;obtain rfl:m=0:=Y;clear h
  go_enter func128,ntmps128
  go_wp2;go_ret;exact⟨rfl,ql.refl _⟩
 ·have aa:0<L.length:=B3.2 hz;obtain⟨g,cap,rfl,O,U,H⟩:=h.tx aa;have e:qcb (L.map (·.data.toList))=Lib.join (L.map (·.data.toList)) [32]:=Ϗ (by simpa using hz);rw[e] at d ⊢;obtain⟨r,G⟩:=ν (Lib.join (L.map (·.data.toList)) [32]);rw[G] at d ⊢;have J:=κ (qfp g 0 cap L ⟨#[32]⟩ w H U τ O G d);have ac:(L.length==0)=ύ:=by simp;omega
  clear h H e G hz
  go_enter func128,ntmps128
  go_wp2_with ((go_at_call 8;(go_call J.o as e w5 ⟨rfl,I⟩;have N:=κ I;clear I)))
  go_ret;exact⟨rfl,N.o⟩
def qb6 (s:RmS) (x:Int):List Int:=[zL x 0 s.book,zL x 1 s.book,zL x 2 s.book,zL x 3 s.book,zL x 4 s.book,zL x 5 s.book,zL x 6 s.book,zL x 7 s.book,zL x 8 s.book]
def qc3 (H:qV n s) (J:n<=100000) (x:Int): ∀y∈qb6 s x,0<=y/\y<=1000000000000:=by
 intro y G;have I:=H.num.book;have d:=λk=>WZ x k s.book
 simp only[qb6,Ϟ,Ϻ,or_false] at G;rcases G with rfl | rfl | rfl | rfl | rfl | rfl | rfl | rfl | rfl
 ·have:=d 0;omega
 ·have:=d 1;omega
 ·have:=d 2;omega
 ·have:=d 3;omega
 ·have:=d 4;omega
 ·have:=d 5;omega
 ·have:=d 6;omega
 ·have:=d 7;omega
 ·have:=d 8;omega
def qev {ai:World} (ag:qV n s) (aB:n<=100000) (ax:Lib.TabIs prog ai N9 .u64 Lib.pow10Tab) (h:Pl ai pb (ϊ s) F w) (aA:g∈F) (aw: ∀i y,([n0]:List Int)[i]? =ϊ y->w.cell? ⟨g,i,ϋ⟩=ϊ (ι y)):
  Calls prog 29 #[γ pb,.string ⟨#[102,97,116,101,115]⟩,δ (ϊ ⟨g,0,ϋ⟩) 1 cap] w λe w'=>e=O0 (.told (Lib.join ((qb6 s n0).map Lib.itoa) [32]))/\Pl ai pb (ϊ s) F w'/\PS pb F w w':=by
 obtain⟨R,ar,aq⟩:=h.room;have az:w.cell? ⟨pb,0,ϋ⟩=ϊ (π (ϊ ⟨R,0,ϋ⟩)):=qa aq 0 rfl;have am:Hid (∃B b,w.cell? ⟨R,0,ϋ⟩=ϊ (π (ϊ ⟨B,0,ϋ⟩))/\jy w B b s.book):=κ ar.bk;obtain⟨B,b,ay,au⟩:=am.o;have av:s.book.length<=1000000:=by have:=ag.num.book;omega
 have ad:=κ (λw' (m:ql w w')=>qfq (au.more m) n0 av);have U:=κ h;have ao:=κ (λw' (m:ql w w')=>NK ax (h.2.2.1.trans m));have ac:=κ (qc3 ag aB n0);have ae:=κ (qbO (qb6 s n0) ac.o [32]);obtain⟨r,aa⟩:=ν (Lib.join ((qb6 s n0).map Lib.itoa) [32]);have an:=κ aa;rw[aa] at ae;have ak: ∀x:qt w,x.w'.cell? ⟨g,0,ϋ⟩=ϊ (ι n0):=λx=>x.cell (h.lt g aA) (aw 0 _ rfl)
 have ap: ∀x:qt w,x.w'.cell? ⟨R,0,ϋ⟩=ϊ (π (ϊ ⟨B,0,ϋ⟩)):=λx=>by rw[x.h.cells _ _ (Gb ay).2];exact ay
 refine BI az (by intro x aC;rw[ByteArray.toList_eq];revert x aC;decide) ?_;rw[aa];clear h ar aq ag ax aa au av am aw;unfold qb6 at *;unfold xH at ad;generalize zL n0 0 s.book=a0 at *;generalize zL n0 1 s.book=a1 at *;generalize zL n0 2 s.book=a2 at *;generalize zL n0 3 s.book=a3 at *;generalize zL n0 4 s.book=a4 at *;generalize zL n0 5 s.book=a5 at *;generalize zL n0 6 s.book=a6 at *;generalize zL n0 7 s.book=a7 at *;generalize zL n0 8 s.book=a8 at *
 go_enter func48,ntmps48
 go_upto_region 21 with fail
 refine zB w 10 (.op 0 ύ (.op 1 ύ (.op 2 ύ (.op 3 ύ (.op 4 ύ (.op 5 ύ (.op 6 ύ (.br [7,8] λk=>if k=7 then .op 8 ό (.op 9 ό .done) else .op 7 ό (.op 9 ό .done))))))))) ξ ξ ?_
 repeat (first | (refine jg rfl rfl (qk ρ) ?_) | (refine qH rfl rfl (qk ρ) ?_;intro K d;go_big_quiet_op;go_big_quiet_on))
 refine wP ζ ?_ ?_
 ·(refine qO rfl rfl ?_;intro K d;unfold jn;go_simp)
  go_call ad.o _ (ql.drewN w 1) as e w7 ⟨rfl,I⟩;have H:Hid (ql w w7):=κ ((ql.drewN w 1).trans I);clear I;refine⟨_,rfl,qk H.o,d _ _ ?_⟩;clear d K
  (refine qO rfl rfl ?_;intro K d;unfold jn;go_simp)
  refine⟨qk (H.o.al _),d _ _ ?_⟩;clear d K ak ap;refine qO rfl rfl ?_;intro K d;have G:=κ ((H.o.al (.cells #[ι 0,ι 0,ι 0,ι 0,ι 0,ι 0,ι 0,ι 0,ι 0] 160)).row (g:=w7.heap.size) H.o.size #[ι a0,ι a1,ι a2,ι a3,ι a4,ι a5,ι a6,ι a7,ι a8]);have J:=κ (jM (qj w7 (.cells #[ι 0,ι 0,ι 0,ι 0,ι 0,ι 0,ι 0,ι 0,ι 0] 160)) #[ι a0,ι a1,ι a2,ι a3,ι a4,ι a5,ι a6,ι a7,ι a8]);refine xw 160 (.tmp 9) (.tmp 90) rfl w7.heap.size 160 _ #[ι a0,ι a1,ι a2,ι a3,ι a4,ι a5,ι a6,ι a7,ι a8] (qj w7 _) rfl rfl ξ rfl X8 ?_;refine⟨qk G.o,d _ _ ?_⟩;clear d K;go_simp;refine zg ?_;have N:=G;generalize (w7.alloc (.cells #[ι 0,ι 0,ι 0,ι 0,ι 0,ι 0,ι 0,ι 0,ι 0] 160)).setRow w7.heap.size #[ι a0,ι a1,ι a2,ι a3,ι a4,ι a5,ι a6,ι a7,ι a8]=W9 at *;generalize w7.heap.size=gb at *;have af:Hid (Calls prog 78 #[.string ⟨#[32]⟩,δ (ϊ ⟨gb,0,ϋ⟩) 9 9] W9 λe w'=>e= .returned (.string ⟨r.toArray⟩)/\ql W9 w'):=κ (RE ⟨#[32]⟩ [a0,a1,a2,a3,a4,a5,a6,a7,a8] gb 9 _ (λi y ah=>qa J.o i (by show ((([a0,a1,a2,a3,a4,a5,a6,a7,a8]:List Int).map (Value.int .i64)).toArray)[i]? =_;rw[Δ,B6,ah];rfl)) (qn J.o) η η ac.o (ao.o _ N.o) (r:=r) an.o (by have:=ae.o;simp at this;omega))
  go_wp2_with ((go_at_call 78;(go_call af.o as e w8 ⟨rfl,O⟩;have G:=κ (N.o.trans O);clear O)))
  go_ret;exact⟨_,rfl,rfl,U.o.on G.o,U.o.stay G.o⟩
 ·(refine qO rfl rfl ?_;intro K d;unfold jn;go_simp)
  have Y:Hid (ql w ((w.drewN 1).alloc (.cells #[ι 0,ι 0,ι 0,ι 0,ι 0,ι 0,ι 0,ι 0,ι 0] 160))):=κ (((ql.refl w).dr 1).al _);have aj:Hid (((w.drewN 1).alloc (.cells #[ι 0,ι 0,ι 0,ι 0,ι 0,ι 0,ι 0,ι 0,ι 0] 160)).heap[w.heap.size]? =ϊ (.cells #[ι 0,ι 0,ι 0,ι 0,ι 0,ι 0,ι 0,ι 0,ι 0] 160 (0,0))):=κ (qj (w.drewN 1) _);refine⟨qk Y.o,d _ _ ?_⟩;clear d K ak ap
  (refine qO rfl rfl ?_;intro K d;unfold jn;go_simp)
  go_call ad.o _ Y.o as e w7 ⟨rfl,I⟩;have H:Hid (ql w w7):=κ (Y.o.trans I);have ab:=κ (qq I aj.o);clear I;refine⟨_,rfl,qk H.o,d _ _ ?_⟩;clear d K;refine qO rfl rfl ?_;intro K d;have G:=κ (H.o.row (g:=w.heap.size) (ϔ _) #[ι a0,ι a1,ι a2,ι a3,ι a4,ι a5,ι a6,ι a7,ι a8]);have J:=κ (jM ab.o #[ι a0,ι a1,ι a2,ι a3,ι a4,ι a5,ι a6,ι a7,ι a8]);refine xw 160 (.tmp 9) (.tmp 90) rfl w.heap.size 160 _ #[ι a0,ι a1,ι a2,ι a3,ι a4,ι a5,ι a6,ι a7,ι a8] ab.o rfl rfl ξ rfl X8 ?_;refine⟨qk G.o,d _ _ ?_⟩;clear d K;go_simp;refine zg ?_;have N:=G;generalize w7.setRow w.heap.size #[ι a0,ι a1,ι a2,ι a3,ι a4,ι a5,ι a6,ι a7,ι a8]=W9 at *;clear Y aj ab;generalize w.heap.size=gb at *;have af:Hid (Calls prog 78 #[.string ⟨#[32]⟩,δ (ϊ ⟨gb,0,ϋ⟩) 9 9] W9 λe w'=>e= .returned (.string ⟨r.toArray⟩)/\ql W9 w'):=κ (RE ⟨#[32]⟩ [a0,a1,a2,a3,a4,a5,a6,a7,a8] gb 9 _ (λi y ah=>qa J.o i (by show ((([a0,a1,a2,a3,a4,a5,a6,a7,a8]:List Int).map (Value.int .i64)).toArray)[i]? =_;rw[Δ,B6,ah];rfl)) (qn J.o) η η ac.o (ao.o _ N.o) (r:=r) an.o (by have:=ae.o;simp at this;omega))
  go_wp2_with ((go_at_call 78;(go_call af.o as e w8 ⟨rfl,O⟩;have G:=κ (N.o.trans O);clear O)))
  go_ret;exact⟨_,rfl,rfl,U.o.on G.o,U.o.stay G.o⟩
def GN {b:List Int} (h: ¬(jl b).2=0):(jl b).1=pk0:=by
 unfold jl at h ⊢;split
 ·rfl
 ·rename_i G;rw[Ϗ G] at h;unfold JJ at h ⊢;split
  ·rename_i d;rw[ϓ d] at h;exact ϧ rfl h
  ·rfl
def qcW {b:List Int} (d:Byt b):(0<=(jl b).1.sq/\(jl b).1.sq<=65535)/\(0<=(jl b).1.st/\(jl b).1.st<=4294967295):=by
 by_cases h:(jl b).2=0
 ·have k:=Xc d h;exact⟨k.2.2.2,k.1.st⟩
 ·rw[GN h];exact⟨ζ,ζ⟩
def TZ (o:Int×List Int):List UInt8:=Lib.join ([o.1,(jl o.2).1.sq,(jl o.2).1.st].map Lib.itoa) [58]
def qb0 (W:List (Int×List Int)):List UInt8:=qcb (W.map TZ)
def qb7 {o:Int×List Int} (H:0<=o.1/\o.1<=1000000) (G:Byt o.2):(TZ o).length<=42:=by
 obtain⟨I,J⟩:=qcW G
 have:=qbO [o.1,(jl o.2).1.sq,(jl o.2).1.st] (λn d=>by
  simp at d
  rcases d with rfl | rfl | rfl<;>omega) [58]
 exact this
def qb5 (L:List (List UInt8)) (m:Nat) (h: ∀x∈L,x.length<=m):(qcb L).length<=4+L.length* (m+1):=by
 unfold qcb;split
 ·simp
 ·have:=qcE [32] m L h;simp at this;omega
def qdN {bt:World} {x:Int} (ab:qV n s) (ac:n<=100000) (ba: ∀o∈(s.ln x).W,0<=o.1/\o.1<=1000000) (be:Lib.TabIs prog bt N9 .u64 Lib.pow10Tab) (h:Pl bt pb (ϊ s) F w):
  Calls prog 80 #[γ pb,ι x] w λe w'=>e= .returned (.string ⟨(qb0 (s.ln x).W).toArray⟩)/\ql w w':=by
 obtain⟨bR,hi,bM,bN,bO⟩:=info_parts (P:=prog) (e:=9) (z:= .string ByteArray.empty) (size:=1) (bytes:=16) ξ;obtain⟨R,aV,aU⟩:=h.room;have bD:w.cell? ⟨pb,0,ϋ⟩=ϊ (π (ϊ ⟨R,0,ϋ⟩)):=qa aU 0 rfl;have bx:=κ (λw' (m:ql w w')=>NK be (h.2.2.1.trans m));have ck:(s.ln x).W.length<=100000:=by
  unfold RmS.ln;cases e:qh s.lanes x with
  | none=>exact ϫ _
  | some l=>exact ϙ (ab.num.wr x l e) ac
 have aL:=κ (MO aV x τ);have aD:=κ ba;clear aV aU ab be h ba;generalize (s.ln x).W=L at *
 go_enter func80,ntmps80
 go_upto_region 3 with ((go_at_call 126;(go_call aL.o as e w1 ⟨⟨cr,rfl,aB⟩,bj⟩;obtain⟨cq,co,bW,rfl,bK,_⟩:=aB.shape;subst bK;have aM:=κ bj;have aQ:=κ aB;clear aB bj)))
 clear bD aL;go_wp2
 go_loopw [5,17] (λu ax wr=> ∃i:Nat,i<=L.length/\ax= ι i/\(∃aA az am,u= δ aA az am)/\je 1 RTx (λ_=>False) wr w1.heap.size 9 u ((L.take i).map λo=>⟨(TZ o).toArray⟩)/\ql w1 wr) (λ_ ax _=>L.length-(intOf ax).toNat)
 case atStart=>exact⟨0,τ,rfl,⟨_,_,_,rfl⟩,je.nil _ _ _ _ _ _,ql.refl _⟩
 case round=>
  obtain⟨i,ch,rfl,⟨aA,az,am,rfl⟩,ad,ap⟩:=hrel;have aH:=κ ad;have aj:=κ ap;by_cases hlt:i<L.length
  ·have bJ:(i:Int)<(L.length:Int):=by omega
   obtain⟨bT,bF,aR,-,ag,-⟩:=(aQ.o.on ap).sl ζ;cases aR;obtain⟨an,off,c5,rfl,ci,bI,aY,v5,ao,ae,I,aT,-,-⟩:=ag i hlt;have bb:=aD.o L[i] (ϥ hlt);have aK:Hid ((L.take (i+1)).map (λo=>(⟨(TZ o).toArray⟩:ByteArray))=(L.take i).map (λo=>(⟨(TZ o).toArray⟩:ByteArray))++[⟨(TZ L[i]).toArray⟩]):=κ (by rw[ϡ hlt,ϩ];rfl);have cj:((L.take i).map (λo=>(⟨(TZ o).toArray⟩:ByteArray))).length<=100000:=by rw[ϱ,Ϥ];omega
   generalize L[i]=o at *;generalize (L.take i).map (λo=>(⟨(TZ o).toArray⟩:ByteArray))=fl at *;have aq:=qb7 bb I;obtain⟨ar,au⟩:=qcW I;have J:=κ (λw' (m:ql wr w')=>Qd _ o.2 w' (ae.keep m) I τ);obtain⟨d,body⟩:=o;simp only at bb ae I aT ao ar au J aq;obtain⟨ah,af,rfl,-⟩:=id ae;have aF:Hid (wr.rangeAt an (off+i* 2) [ι d,δ ah body.length af]):=κ (λk v bf=>by rw[aY k (by have:=(ϣ.1 bf).1;simpa using this),ao];exact bf);obtain⟨r,av⟩:=ν (TZ (d,body));have bc:Lib.join ([d,(jl body).1.sq,(jl body).1.st].map Lib.itoa) [58]=r:=av;have ai:=κ bc;rw[av] at aK aq;have bv:=κ aq;obtain⟨bU,bd⟩:=ν (jl body);rw[bd] at ai J ar au;clear bc av bd;obtain⟨⟨bm,bs,sq,st,sc,ss,aW,br,aS,bq⟩,ca⟩:=bU;simp only at ai ar au;have cl:IntKind.i64.wrap sq=sq:=by simp[IntKind.wrap_i64];omega
   have cm:IntKind.i64.wrap st=st:=by simp[IntKind.wrap_i64];omega
   clear ag bI aY ao ae I aT
   go_upto_region 5 with (refine wpList_load_mid rfl 209 (.tmp 19) rfl an (off+i* 2) rfl [ι d,δ ah body.length af] _ aF.o underlying209 rfl ξ ?_)
   obtain⟨U,Y⟩:=ν (wr.alloc (.cells #[ι d,δ ah body.length af] 209));have N:Hid (ql wr U):=κ (by rw[<-Y];exact ql.alloc _ _);have ak:Hid (U.heap[wr.heap.size]? =ϊ (.cells #[ι d,δ ah body.length af] 209 (0,0))):=κ (by rw[<-Y];exact qj wr _);rw[Y];clear Y aF;generalize wr.heap.size=oq at *;have aJ:=κ (J.o U N.o);have bE:=β1 ak.o
   go_upto_region 6 with ((go_at_call 127;(go_call aJ.o as e w6 ⟨cu,ct,vp,rfl,ps,bk,-⟩;obtain⟨⟨bp,bi,rfl,-⟩,⟨bn,bg,rfl,-⟩,⟨bo,bh,rfl,-⟩⟩:=id ps;have aN:=κ bk;clear ps bk)))
   obtain⟨W7,aa⟩:=ν (w6.alloc (.cells #[μ bm,υ bs,φ sq,ω st,ω sc,δ bp ss.length bi,aW,φ br,δ bn aS.length bg,δ bo bq.length bh] 133));have O:Hid (ql U W7):=κ (by rw[<-aa];exact aN.o.trans X6);have aP:Hid (W7.heap[w6.heap.size]? =ϊ (.cells #[μ bm,υ bs,φ sq,ω st,ω sc,δ bp ss.length bi,aW,φ br,δ bn aS.length bg,δ bo bq.length bh] 133 (0,0))):=κ (by rw[<-aa];exact qj w6 _);have bB:=κ (qq O.o ak.o);have bz:Hid (ql w1 W7):=κ (aj.o.trans (N.o.trans O.o));have aI:=κ (aH.o.on (N.o.trans O.o));rw[aa];clear aa N aN O ak aJ J bE aH aj;generalize w6.heap.size=pq at *;have bX:=β0 bB.o;have bY:=β2 aP.o;have bZ:=β3 aP.o;have aC:=κ (qj W7 (.cells #[ι d,ι sq,ι st] 3));have aO:Hid (ql w1 (W7.alloc (.cells #[ι d,ι sq,ι st] 3))):=κ (bz.o.trans X6);have bw:Hid (Calls prog 78 #[.string ⟨#[58]⟩,δ (ϊ ⟨W7.heap.size,0,ϋ⟩) 3 3] (W7.alloc (.cells #[ι d,ι sq,ι st] 3)) λe w'=>e= .returned (.string ⟨r.toArray⟩)/\ql (W7.alloc (.cells #[ι d,ι sq,ι st] 3)) w'):=κ (RE ⟨#[58]⟩ [d,sq,st] W7.heap.size 3 _ (λi y aw=>qa aC.o i (by show ((([d,sq,st]:List Int).map (Value.int .i64)).toArray)[i]? =_;rw[Δ,B6,aw];rfl)) (qn aC.o) η η (λn ac=>by simp at ac;rcases ac with rfl | rfl | rfl<;>omega) (bx.o _ (aM.o.trans aO.o)) (r:=r) ai.o (by have:=bv.o;omega));have bu:Hid (∀b,(δ aA az am).ownBlock=ϊ b->w1.heap.size<=b):=κ (λb h=>aI.o.ge h)
   go_wp2_with (first | (go_at_call 78;(go_call bw.o as e w8 ⟨rfl,ay⟩;have H:=κ (aO.o.trans ay);have bC:=κ ((aI.o.on (X6.trans ay)).on (ql.alloc w8 (.cells #[.string ⟨r.toArray⟩] 9)));clear ay)) | (at_builtin;(refine jN (R:=RTx) (D:=λ_=>False) _ rfl (.tmp 27) (.tmp 40) 27 rfl w1.heap.size 9 bR (.string ByteArray.empty) 1 16 underlying27 hi bM bN bO rfl ζ _ fl rfl bC.o w8.heap.size [.string ⟨r.toArray⟩] ⟨r.toArray⟩ rfl rfl (zS η) X8 (λw' _=>rfl) (λb h=>h.elim) ζ τ (H.o.al _).size ?_;intro v' w10 G aZ bH;have bS:Hid (ql w1 w10):=κ (Below.grown (H.o.al _) aZ (H.o.al _).size bu.o);obtain⟨cp,cn,bV,rfl,bP,bQ⟩:=G.shape;have bA:=κ G;clear G aZ bH bP bQ)))
   go_roundw
   case rel=>exact⟨i+1,τ,by go_num,⟨_,_,_,rfl⟩,by rw[aK.o];exact bA.o,bS.o⟩
   case measure=>simp[intOf];omega
  ·obtain rfl:i=L.length:=by omega
   have bJ: ¬(L.length:Int)<(L.length:Int):=by omega
   rw[Ϩ] at ad;have aE:Hid ((qcb ((L.map λo=>(⟨(TZ o).toArray⟩:ByteArray)).map (·.data.toList)))=qb0 L):=κ (by unfold qb0;rw[G4];congr 1);have aX: ∀o∈L,Byt o.2:=λo G=>by
    obtain⟨k,ab,e⟩:=List.getElem_of_mem G;obtain⟨bT,bF,aR,-,ag,-⟩:=aQ.o.sl ζ;obtain⟨an,off,c5,cb,cc,cd,ce,v5,cf,cg,bG,-⟩:=ag k ab;rw[<-e];exact bG
   have bL:(qb0 L).length<=4+L.length* 43:=by
    have:=qb5 (L.map TZ) 42 (λy aw=>by
     obtain⟨o,G,rfl⟩:=ο.1 aw
     exact qb7 (aD.o o G) (aX o G))
    rw[ϱ] at this;exact this
   have aG:=κ (qdh ad (by rw[ϱ];omega) (by rw[aE.o];omega));rw[aE.o] at aG;clear aX bL ad ap
   go_wp2_with ((go_at_call 128;(go_call aG.o as e w9 ⟨rfl,bl⟩;have H:=κ bl;clear bl)))
   go_ret;exact⟨rfl,aM.o.trans (aj.o.trans H.o)⟩
def qer (O:qV n s) (ad:n<=100000) (N: ∀o∈(s.ln n0).W,0<=o.1/\o.1<=1000000) (U:Lib.TabIs prog d N9 .u64 Lib.pow10Tab) (h:Pl d pb (ϊ s) F w) (J: ∀i y,([n0]:List Int)[i]? =ϊ y->w.cell? ⟨g,i,ϋ⟩=ϊ (ι y)):
  Calls prog 29 #[γ pb,.string ⟨#[119,114,111,116,101]⟩,δ (ϊ ⟨g,0,ϋ⟩) 1 cap] w λe w'=>e=O0 (.told (qb0 (s.ln n0).W))/\Pl d pb (ϊ s) F w'/\PS pb F w w':=by
 obtain⟨R,ac,I⟩:=h.room;have ab:w.cell? ⟨pb,0,ϋ⟩=ϊ (π (ϊ ⟨R,0,ϋ⟩)):=qa I 0 rfl;have aa:=κ (qdN O ad N U h);have af:=J 0 _ rfl;have G:=κ h;refine BI ab (by intro x ae;rw[ByteArray.toList_eq];revert x ae;decide) ?_;clear h ac I O J U N;generalize qb0 (s.ln n0).W=r at *
 go_enter func48,ntmps48
 go_wp2_with ((go_at_call 80;(go_call aa.o as e w5 ⟨rfl,Y⟩;have H:=κ Y;clear Y)))
 go_ret;exact⟨_,rfl,rfl,G.o.on H.o,G.o.stay H.o⟩
def qeI {xs:List Value} {L:List RqS} (U:w.ownsRow base 259 4 (δ (ϊ ⟨g,0,ϋ⟩) L.length cap) L.length xs)
  (r: ∀i (hi:i<L.length),jw RRq (λk=>False∨(δ (ϊ ⟨g,0,ϋ⟩) L.length cap).ownBlock=ϊ k) w ((xs.drop (i* 4)).take 4) L[i]) (i:Nat) (hi:i<L.length):
  ∃H G,(∀q v,[ι L[i].o.1,ι L[i].o.2,ι L[i].at_,δ H L[i].body.length G][q]? =ϊ v->w.cell? ⟨g,i* 4+q,ϋ⟩=ϊ v)/\ ∀w',jt (λb=>b=g) w w'->SlI .u8 w' (δ H L[i].body.length G) L[i].body:=by
 obtain⟨vb,e,Y⟩:=(r i hi).read;obtain⟨H,G,rfl,_⟩:=id Y;refine⟨H,G,λq v J=> ?_,λw' a=> ?_⟩
 ·have O:q<4:=by
   have:=(ϣ.1 J).1
   simpa using this
  rw[U.cellAt (i* 4+q) τ];have I:=Γ (λl:List Value=>l[q]?) e;simp only[C0,ϓ O,G1] at I;rw[I];exact J
 ·obtain⟨ab,d,aa⟩:=((r i hi).step (a.mono λb N=>ϕ (by rw[N];rfl))).read;rw[e] at d;injection d with _ d
  injection d with _ d
  injection d with _ d
  injection d with d _
  rw[d];exact aa
section
variable {T:Nat->Tg} {w0 w w1 w':World} {k:RmK} {vp vr:Value} {s:RmS} {F:List Nat}
def qfJ (h:RmX T w0 w k vp vr s F) (aG:s.reqs.length<=1000000) (am: ∀q∈s.reqs,q.body.length<=1000000):
  Calls prog 129 #[γ k.R] w λe w'=>(∃og cap,e= .returned (δ og s.reqs.length cap)/\ ∀i (hi:i<s.reqs.length),∃g,og=ϊ ⟨g,0,ϋ⟩/\g<w'.heap.size/\w'.cell? ⟨g,i* 4,ϋ⟩=ϊ (ι s.reqs[i].o.1)/\w'.cell? ⟨g,i* 4+1,ϋ⟩=ϊ (ι s.reqs[i].o.2)/\w'.cell? ⟨g,i* 4+2,ϋ⟩=ϊ (ι s.reqs[i].at_)/\ ∃o n c,w'.cell? ⟨g,i* 4+3,ϋ⟩=ϊ (δ o n c))/\ql w w':=by
 have aK:=κ h;have aC:=β15 h.blk;have ah:=(h.all .reqs).1.sl ζ;have ag:=κ (Ft _ _ _ ah aG);obtain⟨aU,aL,rfl,-⟩:=ah;have ay:=κ am;clear h am;generalize s.reqs=L at *
 go_enter func129,ntmps129
 go_upto_region 2 with (go_at_call 163;(go_call ag.o as e w1 ⟨⟨aV,rfl,aw⟩,au⟩;have ak:=κ aw;have aj:=κ au;clear aw au))
 clear aC ag;obtain⟨⟨xs,aa,r⟩,_⟩:=ak.o;rcases id aa.2 with ⟨rfl,aD⟩ | ⟨g,cap,cur,rfl,ao,an,aN,aP,aQ,aR⟩
 ·obtain rfl:L=[]:=Ϡ aD;clear aa r;go_wp2
  go_loopw [12] (λI wr=>I= ι 0/\wr=w1) (λ_ _=>0)
  case atStart=>exact⟨rfl,rfl⟩
  case round=>
   obtain⟨rfl,rfl⟩:=hrel;go_wp2;go_ret;exact⟨⟨ϋ,0,rfl,λi hi=>by simp at hi⟩,aj.o⟩
 ·have af:=κ (qeI aa r);have aA:=κ an;have aB:=κ ao;clear aa r ak an ao;go_wp2
  go_loopw [12] (λI wr=> ∃j:Nat,j<=L.length/\I= ι j/\(∀p,(∀q,q<j->p≠q* 4+3)->wr.cell? ⟨g,p,ϋ⟩=w1.cell? ⟨g,p,ϋ⟩)/\(∀q,q<j-> ∃o n c,wr.cell? ⟨g,q* 4+3,ϋ⟩=ϊ (δ o n c))/\(∃al,wr.heap[g]? =ϊ (.cells al 259 (0,0)))/\jt (λb=>b=g) w1 wr) (λI _=>L.length-(intOf I).toNat)
  case atStart=>exact⟨0,τ,rfl,λp _=>rfl,(λq H=>by omega),⟨cur,aA.o⟩,jt.refl _ _⟩
  case round=>
   obtain⟨j,aO,rfl,U,ar,⟨al,ab⟩,O⟩:=hrel;have ai:=κ ar;clear ar;have J:=κ U;have d:=κ ab;have ae:=κ O;by_cases hlt:j<L.length
   ·have aF:(j:Int)<(L.length:Int):=by omega
    obtain⟨ad,ac,G,aq⟩:=af.o j hlt;have c3:wr.cell? ⟨g,j* 4+3,ϋ⟩=ϊ (δ ad L[j].body.length ac):=by
     rw[U _ (λq H=>by omega)];exact G 3 _ rfl
    have aE:=ay.o L[j] (ϥ hlt);have az:=κ (wQ _ _ wr (aq wr O) aE);generalize L[j].body=body at *;have ax:=κ c3;clear G aq U ab O
    go_wp2_with (go_at_call 68;(go_call az.o as e aJ ⟨⟨v3,rfl,av⟩,Y⟩;have N:=κ Y;obtain⟨aT,aS,rfl⟩:=xl av;have aI:aJ.cell? ⟨g,j* 4+3,ϋ⟩=ϊ (δ ad body.length ac):=(by rw[Y.cells _ _ (lt_of_block d.o)];exact ax.o);have aM:=yw (qq Y d.o) (j* 4+3);clear av Y))
    go_roundw
    case rel=>
     refine⟨j+1,τ,by go_num,λp ap=> ?_,λq H=> ?_,⟨_,qp (qq N.o d.o) (j* 4+3) _⟩,(ae.o.more N.o).set rfl _⟩
     ·rw[World.cell?_setCell_other _ _ _ _ (by have:=ap j τ;simp;try omega),N.o.cells _ _ (lt_of_block d.o)];exact J.o p (λq H=>ap q τ)
     ·by_cases e:q=j
      ·subst e;exact⟨_,_,_,World.cell?_setCell_same' _ _ _ (by rw[aI];rfl)⟩
      ·obtain⟨o,n,c,aH⟩:=ai.o q τ;exact⟨o,n,c,by rw[World.cell?_setCell_other _ _ _ _ (by simp;try omega),N.o.cells _ _ (lt_of_block d.o)];exact aH⟩
    case measure=>simp[intOf];omega
   ·obtain rfl:j=L.length:=by omega
    have aF: ¬(L.length:Int)<(L.length:Int):=by omega
    clear U ab O;go_wp2;go_ret;refine⟨⟨_,⟨cap,rfl⟩,λi hi=>⟨g,rfl,lt_of_block d.o, ?_, ?_, ?_,ai.o i hi⟩⟩,ae.o.to_more aj.o (λb e=>by rw[e];exact aB.o)⟩
    all_goals obtain⟨ad,ac,G,-⟩:=af.o i hi
    ·rw[J.o _ (λq H=>by omega)];exact G 0 _ rfl
    ·rw[J.o _ (λq H=>by omega)];exact G 1 _ rfl
    ·rw[J.o _ (λq H=>by omega)];exact G 2 _ rfl
end
def qfu {H:World} (h:RmR H w R s F) (G:s.reqs.length<=1000000) (d: ∀q∈s.reqs,q.body.length<=1000000):
  Calls prog 129 #[γ R] w λe w'=>(∃og cap,e= .returned (δ og s.reqs.length cap)/\ ∀i (hi:i<s.reqs.length),∃g,og=ϊ ⟨g,0,ϋ⟩/\g<w'.heap.size/\w'.cell? ⟨g,i* 4,ϋ⟩=ϊ (ι s.reqs[i].o.1)/\w'.cell? ⟨g,i* 4+1,ϋ⟩=ϊ (ι s.reqs[i].o.2)/\w'.cell? ⟨g,i* 4+2,ϋ⟩=ϊ (ι s.reqs[i].at_)/\ ∃o n c,w'.cell? ⟨g,i* 4+3,ϋ⟩=ϊ (δ o n c))/\ql w w':=by
 obtain⟨k,rfl,T,vp,I,h⟩:=h;exact qfJ h G d
end Go.Proofs.YtmgaiiffmheabaaGreatDoor
