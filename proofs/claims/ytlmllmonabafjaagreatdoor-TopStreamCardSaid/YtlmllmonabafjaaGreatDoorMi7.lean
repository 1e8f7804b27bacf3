/- x -/
import Derived.Test.YtlmllmonabafjaaGreatDoorMi6
import Derived.Deep.WholeRow
namespace Go.Proofs.YtlmllmonabafjaaGreatDoor
open Option renaming some->ϊ,none->ϋ
open Bool renaming true->ό,false->ύ
open Go.Value renaming bool->μ,slice->δ,pointer->π,agg->θ
open Go.IntKind renaming i64->ι,u8->υ,u16->φ,u32->ω,i32->χ,u64->ψ
open _root_.Go.Proofs.Tryz
set_option linter.all false
set_option maxHeartbeats 8000000
open Go.RowKit
set_option maxRecDepth 100000
variable {w w' wr:World} {v u v' d vb:Value} {C D S:Nat->Prop} {s s' s0:RdS} {xs:List Value} {R b n base size T:Nat} {l E acc:List Int} {cs z:Array Value} {A:List Itm} {t:TypeId} {Q:Exit->Act->World->Prop} {e x:Int} {P:Program} {ops:Array Oper} {rest:List Oper} {c:qQ} {G:List Blk} {k:IntKind} {α:Type} {L:List α} {o:Oper}
def Ci {i:Nat} (h:i<l.length):l.getD i 0∈l:=by
 rw[ϑ,ϖ h];exact ϛ h
def Bw {e d:Nat} (H:n=w.heap.size) (G:base<=n) (J:d<=1000000) (I:cs.size=d* size):(w.alloc (.cells cs e)).ownsRow base e size (δ (ϊ ⟨n,0,ϋ⟩) d d) d cs.toList:=by
 subst H;exact World.ownsRow_lit w cs d G (by unfold maxLen;omega) I
def Fw {m:Int} (h:U16 m) (k:Nat):bits .and .u16 (m/2 ^ k) 1=if tb m k then 1 else 0:=by
 obtain⟨G,H⟩:=h;obtain⟨d,rfl⟩:=Γ G;have I:d/2 ^ k<=d:=Nat.div_le_self _ _;have e:((d:Int)/2 ^ k)=((d/2 ^ k:Nat):Int):=by simp
 rw[e,show (1:Int)=((1:Nat):Int) from rfl,u16_and_nat (d/2 ^ k) 1 τ ζ];unfold tb;rw[ο,Nat.testBit_eq_decide_div_mod_eq,Nat.and_one_is_mod];rcases Nat.mod_two_eq_zero_or_one (d/2 ^ k) with h | h<;>simp[h]
def Qi (p:Int×Int) (j:Nat):List Int:=p.1::((List.range j).filter (tb p.2)).map λk:Nat=>(p.1+k+1)%65536
def Il (p:Int×Int):Qi p 0=[p.1]:=rfl
def Pe (p:Int×Int) (j:Nat):Qi p (j+1)=Qi p j++(if tb p.2 j then [(p.1+j+1)%65536] else []):=by
 unfold Qi;rw[Q8,I2,Ξ];by_cases h:tb p.2 j=ό
 ·simp[h]
 ·simp[h]
def Bs (p:Int×Int) (j:Nat) (h:j<=16):(Qi p j).length<=17:=by
 unfold Qi;rw[ϙ,A6];have:=C8 (tb p.2) (List.range j);rw[List.length_range] at this;omega
def QJ (p:Int×Int) (w:World) (af:U16 p.1) (O:U16 p.2):
  Calls prog 330 #[θ #[φ p.1,φ p.2]] w λe w'=> ∃v,e= .returned v/\w'.ownsRow w.heap.size 39 1 v (prN p).length ((prN p).map (Value.int .u16))/\ql w w':=by
 obtain⟨q,m⟩:=p;simp only at af O;obtain⟨an,hi,aj,ak,am⟩:=info_parts (P:=prog) (e:=39) (z:= φ 0) (size:=1) (bytes:=2) ξ
 go_enter func330,ntmps330
 go_wp2
 go_loopw [3,8] (λv N wr=> ∃j:Nat,j<=16/\N= ι j/\wr.ownsRow (w.heap.size+1) 39 1 v (Qi (q,m) j).length ((Qi (q,m) j).map (Value.int .u16))/\ql (w.alloc (.cells #[φ q,φ m] 483)) wr) (λ_ N _=>16-(intOf N).toNat)
 case atStart=>
  refine⟨0,τ,rfl, ?_,ql.alloc _ _⟩;rw[Il];exact Bw (cs:= #[φ q]) η (ϕ _) ζ rfl
 case round=>
  obtain⟨j,ah,rfl,ab,G⟩:=hrel;have ao:=G.new 0 (v:= φ q) rfl;have ap:=G.new 1 (v:= φ m) rfl;have ae:=κ ((ql.alloc w (.cells #[φ q,φ m] 483)).trans G);have J:=κ G;have H:=κ ab;have ar:=Bs (q,m) j ah;by_cases hlt:j<16
  ·have aq:(j:Int)<16:=by omega
   have d:=Fw O j;have I:=κ (Pe (q,m) j);by_cases ht:tb m j=ό
   ·rw[ϐ ht] at d;have ag:(bits .and .u16 (m/2 ^ j) 1==1)=ό:=by rw[d];rfl
    obtain⟨n,Y⟩:=ν ((q+j+1)%65536);have au:IntKind.u16.wrap (IntKind.u16.wrap (q+(j:Int))+1)=n:=by rw[IntKind.wrap_u16,IntKind.wrap_u16];omega
    have M:Hid (Qi (q,m) (j+1)=Qi (q,m) j++[n]):=κ (by rw[I.o];simp only;rw[ϐ ht,Y]);clear d ht Y I G;generalize Qi (q,m) j=L at *;clear ab
    go_wp2_with (at_builtin;refine qU _ rfl (.tmp 17) (.tmp 24) 281 rfl (w.heap.size+1) 39 an (φ 0) 2 underlying281 hi aj ak am rfl _ .u16 L rfl (jE H.o W4) _ [n] rfl (SlI.lit .u16 wr [n] 39 _ 1 _ rfl rfl rfl η) (by simp only[ϙ,Ϫ];omega) ζ (Ϙ η (J.o.al _).size) ?_;intro v5 w5 aa U _;have ad:=κ aa;have ac:=κ ((J.o.al (.cells #[φ n] 39)).grown U (J.o.al (.cells #[φ n] 39)).size (λz ai=>by have:=jG H.o ai;simpa using this));clear aa U)
    go_roundw
    case rel=>exact⟨j+1,τ,by go_num,by rw[M.o];exact ad.o,ac.o⟩
    case measure=>simp[intOf];omega
   ·rw[ώ ht] at d;have ag:(bits .and .u16 (m/2 ^ j) 1==1)=ύ:=by rw[d];rfl
    have M:Hid (Qi (q,m) (j+1)=Qi (q,m) j):=κ (by rw[I.o];simp only;rw[ώ ht,Ω]);clear d ht I;go_wp2;go_roundw
    case rel=>exact⟨j+1,τ,by go_num,by rw[M.o];exact H.o,J.o⟩
    case measure=>simp[intOf];omega
  ·obtain rfl:j=16:=by omega
   go_wp2;go_ret;exact⟨_,rfl,kq H.o (J5 _),ae.o⟩
def GG {e:Nat} (h:w.ownsRow base e size v n xs): ∃oa cap,v= δ oa n cap/\(n:Int)<=9223372036854775807:=by
 rcases h.2 with ⟨rfl,d⟩ | ⟨g,cap,cur,rfl,_,_,H,G,_⟩
 ·exact⟨ϋ,0,by rw[d],τ⟩
 ·exact⟨_,cap,rfl,by unfold maxLen at G;omega⟩
def AY {e:Nat} (h:w.ownsRow base e size v n xs) (J:0<n): ∃g cap,v= δ (ϊ ⟨g,0,ϋ⟩) n cap/\base<=g/\g<w.heap.size/\(n:Int)<=9223372036854775807:=by
 rcases h.2 with ⟨rfl,I⟩ | ⟨g,cap,cur,rfl,d,G,M,H,_⟩
 ·omega
 ·exact⟨g,cap,rfl,d,lt_of_block G,by unfold maxLen at H;omega⟩
def Fc {n t:Int} {b:List Int} (h:t=206/\n=1):zy (n,t,b,())=1:=by unfold zy;rw[ϐ h]
def EZ {n t:Int} {b:List Int} (h:t=206/\n=4):zy (n,t,b,())=2:=by unfold zy;rw[ώ (by simp only;omega),ϐ h]
def EY {n t:Int} {b:List Int} (h:t=205/\n=1):zy (n,t,b,())=3:=by unfold zy;rw[ώ (by simp only;omega),ώ (by simp only;omega),ϐ h]
def Fd {n t:Int} {b:List Int} (d: ¬(t=206/\n=1)) (G: ¬(t=206/\n=4)) (H: ¬(t=205/\n=1)):zy (n,t,b,())=0:=by unfold zy;rw[ώ d,ώ G,ώ H]
def Ue (w:World):Calls prog 318 #[ι 1] w λe w'=>e= .returned (.tuple #[υ 206,υ 1])/\w=w':=Xu 1 w
def Ud (w:World):Calls prog 318 #[ι 2] w λe w'=>e= .returned (.tuple #[υ 206,υ 4])/\w=w':=Xu 2 w
def Uc (w:World):Calls prog 318 #[ι 3] w λe w'=>e= .returned (.tuple #[υ 205,υ 1])/\w=w':=Xu 3 w
def eqB {a b:Int} (h:a=b):(a==b)=ό:=by simpa using h
def neB {a b:Int} (h: ¬a=b):(a==b)=ύ:=by simpa using h
def XN (n t:Int) (B:List Int) (I:Option Addr) (G:Nat) (w:World):
  Calls prog 306 #[θ #[υ n,υ t,δ I B.length G]] w λe w'=>e= .returned (ι (zy (n,t,B,())))/\ql w w':=by
 go_enter func306,ntmps306
 go_wp2
 go_loopw [9] (λac wr=> ∃j:Nat,j<=3/\ac= ι j/\(1<=j-> ¬(t=206/\n=1))/\(2<=j-> ¬(t=206/\n=4))/\(3<=j-> ¬(t=205/\n=1))/\ql ((w.alloc (.cells #[υ n,υ t,δ I B.length G] 291)).alloc (.cells #[ι 1,ι 2,ι 3] 3)) wr) (λac _=>3-(intOf ac).toNat)
 case atStart=>exact⟨0,τ,rfl,(λh=>by omega),(λh=>by omega),(λh=>by omega),ql.refl _⟩
 case round=>
  obtain⟨j,aj,rfl,ad,ae,af,H⟩:=hrel;have O:=κ ad;have ab:=κ ae;have ag:=κ af;clear ad ae af;have aa:=κ (((ql.alloc w (.cells #[υ n,υ t,δ I B.length G] 291)).al (.cells #[ι 1,ι 2,ι 3] 3)).trans H);have ah:=β0 (qq H (qs (qj w (.cells #[υ n,υ t,δ I B.length G] 291)) (.cells #[ι 1,ι 2,ι 3] 3)));have ai:=β1 (qq H (qs (qj w (.cells #[υ n,υ t,δ I B.length G] 291)) (.cells #[ι 1,ι 2,ι 3] 3)));have ak:=β0 (qq H (qC (w:=w.alloc (.cells #[υ n,υ t,δ I B.length G] 291)) (o:=(.cells #[ι 1,ι 2,ι 3] 3)) (n:=w.heap.size+1) η));have am:=β1 (qq H (qC (w:=w.alloc (.cells #[υ n,υ t,δ I B.length G] 291)) (o:=(.cells #[ι 1,ι 2,ι 3] 3)) (n:=w.heap.size+1) η));have an:=β2 (qq H (qC (w:=w.alloc (.cells #[υ n,υ t,δ I B.length G] 291)) (o:=(.cells #[ι 1,ι 2,ι 3] 3)) (n:=w.heap.size+1) η));have N:=κ H;clear H;by_cases e0:j=0
  ·subst e0;by_cases ht:t=206
   ·have Y:=eqB ht;by_cases hn:n=1
    ·have U:=eqB hn;have M:=κ (Fc (b:=B) ⟨ht,hn⟩);clear ht hn
     go_wp2_with (go_at_call 318;(go_call Ue _ as e J ⟨rfl,rfl⟩))
     go_ret;exact⟨by rw[M.o];rfl,aa.o⟩
    ·have U:=neB hn;have d:=κ hn;clear ht hn
     go_wp2_with (go_at_call 318;(go_call Ue _ as e J ⟨rfl,rfl⟩))
     go_roundw
     case rel=>exact⟨1,τ,by first | rfl | go_num,(λ_=>(λh=>d.o h.2)),(λh=>by omega),(λh=>by omega),N.o⟩
     case measure=>simp[intOf]
   ·have Y:=neB ht;have d:=κ ht;clear ht
    go_wp2_with (go_at_call 318;(go_call Ue _ as e J ⟨rfl,rfl⟩))
    go_roundw
    case rel=>exact⟨1,τ,by first | rfl | go_num,(λ_=>(λh=>d.o h.1)),(λh=>by omega),(λh=>by omega),N.o⟩
    case measure=>simp[intOf]
  by_cases e1:j=1
  ·subst e1;clear e0;by_cases ht:t=206
   ·have Y:=eqB ht;by_cases hn:n=4
    ·have U:=eqB hn;have M:=κ (EZ (b:=B) ⟨ht,hn⟩);clear ht hn
     go_wp2_with (go_at_call 318;(go_call Ud _ as e J ⟨rfl,rfl⟩))
     go_ret;exact⟨by rw[M.o];rfl,aa.o⟩
    ·have U:=neB hn;have d:=κ hn;clear ht hn
     go_wp2_with (go_at_call 318;(go_call Ud _ as e J ⟨rfl,rfl⟩))
     go_roundw
     case rel=>exact⟨2,τ,by first | rfl | go_num,(λ_=>O.o τ),(λ_=>(λh=>d.o h.2)),(λh=>by omega),N.o⟩
     case measure=>simp[intOf]
   ·have Y:=neB ht;have d:=κ ht;clear ht
    go_wp2_with (go_at_call 318;(go_call Ud _ as e J ⟨rfl,rfl⟩))
    go_roundw
    case rel=>exact⟨2,τ,by first | rfl | go_num,(λ_=>O.o τ),(λ_=>(λh=>d.o h.1)),(λh=>by omega),N.o⟩
    case measure=>simp[intOf]
  by_cases e2:j=2
  ·subst e2;clear e0 e1;by_cases ht:t=205
   ·have Y:=eqB ht;by_cases hn:n=1
    ·have U:=eqB hn;have M:=κ (EY (b:=B) ⟨ht,hn⟩);clear ht hn
     go_wp2_with (go_at_call 318;(go_call Uc _ as e J ⟨rfl,rfl⟩))
     go_ret;exact⟨by rw[M.o];rfl,aa.o⟩
    ·have U:=neB hn;have d:=κ hn;clear ht hn
     go_wp2_with (go_at_call 318;(go_call Uc _ as e J ⟨rfl,rfl⟩))
     go_roundw
     case rel=>exact⟨3,τ,by first | rfl | go_num,(λ_=>O.o τ),(λ_=>ab.o τ),(λ_=>(λh=>d.o h.2)),N.o⟩
     case measure=>simp[intOf]
   ·have Y:=neB ht;have d:=κ ht;clear ht
    go_wp2_with (go_at_call 318;(go_call Uc _ as e J ⟨rfl,rfl⟩))
    go_roundw
    case rel=>exact⟨3,τ,by first | rfl | go_num,(λ_=>O.o τ),(λ_=>ab.o τ),(λ_=>(λh=>d.o h.1)),N.o⟩
    case measure=>simp[intOf]
  ·obtain rfl:j=3:=by omega
   have M:=κ (Fd (b:=B) (O.o τ) (ab.o τ) (ag.o τ));clear e0 e1 e2;go_wp2;go_ret;exact⟨by rw[M.o];rfl,aa.o⟩
structure DG (w:World) (va vl:Value) (m:Msg):Prop where
 asks:SlP 2 Vf w va m.asks
 lost:SlI .u16 w vl m.lost
def jX (w:World) (v:Value):Prop:= ∀g,v.ownBlock=ϊ g->w.heap.size<=g
def jX.nil (w:World):jX w (δ ϋ 0 0):=λg h=>by cases h
def Hw (x:Int):(qy x 4).length=4:=qK x 4 ζ
def Gk (x:Int):(qy x 1).length=1:=qK x 1 ζ
def XC {e:Nat} (h:w.ownsRow base e size v n xs) (m:jt S w w') (H: ∀b,v.ownBlock=ϊ b-> ¬S b):w'.ownsRow base e size v n xs:=by
 obtain⟨d,G⟩:=h;refine⟨d, ?_⟩;rcases G with h | ⟨g,cap,cur,e1,hb,hg,rest⟩
 ·exact ϒ h
 ·exact ϔ ⟨g,cap,cur,e1,hb,m.blk hg (H g (by rw[e1];rfl)),rest⟩
def WC {a0 H I:Value} (h:w.heap[b]? =ϊ (.cells #[a0,H,I] t (0,0))) (v0 d G:Value):(((w.setCell ⟨b,0,ϋ⟩ v0).setCell ⟨b,1,ϋ⟩ d).setCell ⟨b,2,ϋ⟩ G).heap[b]? =ϊ (.cells #[v0,d,G] t (0,0)):=
 qB (qp (qp (qp h 0 v0) 1 d) 2 G) rfl
def ql.st3 (h:ql w w') (b:Nat) (d:w.heap.size<=b) (v0 G H:Value):ql w (((w'.setCell ⟨b,0,ϋ⟩ v0).setCell ⟨b,1,ϋ⟩ G).setCell ⟨b,2,ϋ⟩ H):=
 ((h.st (p:=⟨b,0,ϋ⟩) d v0).st (p:=⟨b,1,ϋ⟩) d G).st (p:=⟨b,2,ϋ⟩) d H
def Dj {I:Option Addr} {c:Nat} {l:List (Int×Int)} (h:SlP 2 Vf w (δ I n c) l) (i:Nat) (hi:i<l.length): ∃b d,I=ϊ ⟨b,d,ϋ⟩/\b<w.heap.size/\
  (∀x,ql w x->x.cell? ⟨b,d+i* 2,ϋ⟩=ϊ (ω (l.getD i (0,0)).1)/\x.cell? ⟨b,d+i* 2+1,ϋ⟩=ϊ (υ (l.getD i (0,0)).2))/\U32 (l.getD i (0,0)).1/\U8 (l.getD i (0,0)).2:=by
 obtain⟨aa,U,e,_,M,_⟩:=h;cases e;obtain⟨b,d,cs,e,G,Y,H,rfl,N,O⟩:=M i hi;have J:l.getD i (0,0)=l[i]:=by rw[ϑ,ϖ hi];rfl
 rw[J];refine⟨b,d,e,G,λx m=>⟨?_, ?_⟩,N,O⟩
 ·rw[m.cells b _ G];exact H 0 ζ
 ·rw[m.cells b _ G];exact H 1 ζ
structure AkJ (w0 w:World) (R:Nat) (C:Nat->Prop) (v:Value) (acc:List (Int×Int)) (s:RdS):Prop where
 rd:qu w R s.1 s.2 C
 row:je 2 Vf (λb=>b=R) w w0.heap.size 421 v acc
 away:jt (λb=>b=R) w0 w
 hC: ∀g,C g->g<w0.heap.size
 hR:R<w0.heap.size
section
variable {w0 w w':World} {R:Nat} {C:Nat->Prop} {v v':Value} {acc acc':List (Int×Int)} {s s':RdS}
def AkJ.read (h:AkJ w0 w R C v acc s) (r:qu w' R s'.1 s'.2 C) (a:jt (λb=>b=R) w w'):AkJ w0 w' R C v acc s':=⟨r,h.row.step a,h.away.trans a,h.hC,h.hR⟩
def AkJ.on (h:AkJ w0 w R C v acc s) (m:ql w w'):AkJ w0 w' R C v acc s:=⟨h.rd.more m,h.row.on m,h.away.more m,h.hC,h.hR⟩
def AkJ.put (h:AkJ w0 w R C v acc s) (N:je 2 Vf (λb=>b=R) w' w0.heap.size 421 v' acc') (d:w.grownBy w' v.ownBlock):AkJ w0 w' R C v' acc' s:=by
 have I: ∀g,v.ownBlock=ϊ g->w0.heap.size<=g:=λg e=>h.row.ge e
 have H:=h.away.size;have a:jt (λb=>v.ownBlock=ϊ b) w w':=⟨d.os,d.tape,d.output,d.size,λk G H=>d.block k G (λe=>H e.symm)⟩;refine⟨h.rd.off a (λe=>by have:=I R e;have:=h.hR;omega) (λg J e=>by have:=I g e;have:=h.hC g J;omega),N, ?_,h.hC,h.hR⟩
 exact⟨a.os.trans h.away.os,a.tape.trans h.away.tape,a.output.trans h.away.output,Ϙ H a.size,λk G M=>by
  rw[a.block k (ϗ G H) (λe=>by have:=I k e;omega)]
  exact h.away.block k G M⟩
end
def yg {acc:List (Int×Int)} (h: ¬s.1=[]):jm (n+1) acc s=jm n (acc++[(wu s).1]) (wu s).2:=by
 show (if s.1=[] then _ else _)=_;rw[ώ h]
def Xo (h: ¬s.1=[]):(wu s).2.1.length+1<=s.1.length:=by
 have d:=B4.2 h;have e:(wu s).2.1=((s.1.drop 4).drop 1).drop 3:=rfl;rw[e,ϣ,ϣ,ϣ];omega
def VK (h: ¬s.1=[]):(0:Int)<(s.1.length:Int):=by
 have:=B4.2 h;omega
def Y7 {M:Nat->Prop} (h:qu w R s0.1 s0.2 M) (hR:R<w.heap.size):
  Calls prog 307 #[γ R] w λe w'=> ∃v',e= .returned v'/\AkJ w w' R (λg=>M g/\g<w.heap.size) v' (jm s0.1.length [] s0).1 (jm s0.1.length [] s0).2:=by
 obtain⟨aM,hi,aH,aI,aJ⟩:=info_parts (P:=prog) (e:=421) (z:= θ #[ω 0,υ 0]) (size:=2) (bytes:=8) ξ;obtain⟨C,Y⟩: ∃C:Nat->Prop,C=λg=>M g/\g<w.heap.size:=⟨_,rfl⟩
 have av:Hid (AkJ w w R C (δ ϋ 0 0) [] s0):=κ (by rw[Y];exact⟨h.old,je.nil _ _ _ _ _ _,jt.refl _ _,λg h=>h.2,hR⟩);rw[<-Y];have aS:=h.small;clear Y h
 go_enter func307,ntmps307
 go_wp2
 go_loopw [3] (λv wr=> ∃acc s n,AkJ w wr R C v acc s/\s.1.length<=n/\jm n acc s=jm s0.1.length [] s0/\acc.length+s.1.length<=s0.1.length) (λv _=>s0.1.length-QO v)
 case atStart=>exact⟨[],s0,s0.1.length,av.o,ϕ _,rfl,η⟩
 case round=>
  obtain⟨acc,s,n,aa,aQ,I,aP⟩:=hrel;have H:=κ aa;have ai:=κ I;obtain⟨aW,aU,aO,rfl,ao,aL⟩:=aa.row.shape;have ay:=κ ao;clear aa I ao aL;by_cases hs:s.1=[]
  ·have I:=ai.o;obtain⟨l,e⟩:=s;simp only at hs;subst hs;rw[zE] at I;have aw:=κ I;clear I
   go_wp2_with (go_at_call 57;(go_call zn H.o.rd as e w9 ⟨rfl,rfl⟩))
   go_ret;exact⟨_,rfl,by rw[<-aw.o];exact H.o⟩
  ·have aR:=VK hs;have ak:=Xo hs;have ad:=H.o.rd.byt;have am:=κ (Gc ad);obtain⟨n,rfl⟩: ∃k,n=k+1:=⟨n-1,by have:=B4.2 hs;omega⟩;have ax:Hid (jm n (acc++[(wu s).1]) (wu s).2=jm s0.1.length [] s0):=κ (by rw[<-yg hs];exact ai.o);have ah:=κ ak;obtain⟨d,ab⟩: ∃X,num (tkB s.1 4)=X:=⟨_,rfl⟩;obtain⟨G,ac⟩: ∃X,num (tkB (tkS s 4).1 1)=X:=⟨_,rfl⟩;have aB:=κ ab;have aC:=κ ac;have N:Hid ((wu s).1=(d,G)):=κ (by rw[<-ab,<-ac];rfl);clear ad hs ak ab ac
   go_wp2_with (first | (go_at_call 57;(go_call zn H.o.rd as e w9 ⟨rfl,rfl⟩)) | (go_at_call 54;(go_call jD H.o.rd as e w2 ⟨rfl,ap,aj⟩;rw[aB.o];have O:=κ (H.o.read (s':=tkS s 4) ap aj);clear ap aj)) | (go_at_call 52;(go_call jT O.o.rd as e ar ⟨rfl,af,a3⟩;rw[aC.o];have aA:=κ ((O.o.read (s':=tkS (tkS s 4) 1) af a3).away.size);have U:=κ ((O.o.read (s':=tkS (tkS s 4) 1) af a3).on (ql.alloc ar (.cells #[ω d,υ G] 421)));have au:=κ (qj ar (.cells #[ω d,υ G] 421));clear af a3)) | (go_at_call 328;(go_call Je U.o.rd as e w4 ⟨rfl,aq,a4⟩;have aD:=κ (U.o.read (s':=(wu s).2) aq a4);have ag:=κ (a4.blk au.o (λe=>by have:=U.o.hR;have:=aA.o;omega));clear aq a4;have aF:=β0 ag.o;have aG:=β1 ag.o;have J:=κ (aD.o.on (ql.alloc w4 (.cells #[ω d,υ G] 421))))) | (at_builtin;refine jN _ rfl (.tmp 15) (.tmp 17) 280 rfl w.heap.size 421 aM (θ #[ω 0,υ 0]) 2 8 underlying280 hi aH aI aJ rfl ζ _ acc rfl J.o.row w4.heap.size [ω d,υ G] (d,G) rfl rfl (zS rfl) W5 (λ_ _=>⟨rfl,by have:=am.o.1;rw[N.o] at this;exact this,by have:=am.o.2.1;rw[N.o] at this;exact this⟩) (λb ad=>by have:=J.o.hR;have:=J.o.away.size;omega) ζ τ J.o.away.size ?_;intro aX w6 ae al _;have aE:=κ (J.o.put ae al);obtain⟨aV,aT,aN,rfl,an,aK⟩:=ae.shape;have az:=κ an;clear ae al an aK aF aG))
   go_roundw
   case rel=>exact⟨acc++[(d,G)],(wu s).2,n,aE.o,by have:=ah.o;omega,by have:=ax.o;rw[N.o] at this;exact this,by have:=ah.o;simp only[Ϗ,ϙ,Ϫ];omega⟩
   case measure=>have:=az.o;have:=ay.o;simp[QO] at *;omega
structure LoJ (w0 w:World) (R:Nat) (C:Nat->Prop) (v:Value) (acc:List Int) (s:RdS):Prop where
 rd:qu w R s.1 s.2 C
 row:w.ownsRow w0.heap.size 39 1 v acc.length (acc.map (Value.int .u16))
 away:jt (λb=>b=R) w0 w
 hC: ∀g,C g->g<w0.heap.size
 hR:R<w0.heap.size
section
variable {w0 w w':World} {R:Nat} {C:Nat->Prop} {v v':Value} {acc acc':List Int} {s s':RdS}
def LoJ.read (h:LoJ w0 w R C v acc s) (r:qu w' R s'.1 s'.2 C) (a:jt (λb=>b=R) w w'):LoJ w0 w' R C v acc s':=⟨r,XC h.row a (λb d e=>by have:=jG h.row d;have:=h.hR;omega),h.away.trans a,h.hC,h.hR⟩
def LoJ.on (h:LoJ w0 w R C v acc s) (m:ql w w'):LoJ w0 w' R C v acc s:=⟨h.rd.more m,jE h.row m,h.away.more m,h.hC,h.hR⟩
def LoJ.put (h:LoJ w0 w R C v acc s) (N:w'.ownsRow w0.heap.size 39 1 v' acc'.length (acc'.map (Value.int .u16))) (d:w.grownBy w' v.ownBlock):LoJ w0 w' R C v' acc' s:=by
 have I: ∀g,v.ownBlock=ϊ g->w0.heap.size<=g:=λg e=>jG h.row e
 have H:=h.away.size;have a:jt (λb=>v.ownBlock=ϊ b) w w':=⟨d.os,d.tape,d.output,d.size,λk G H=>d.block k G (λe=>H e.symm)⟩;refine⟨h.rd.off a (λe=>by have:=I R e;have:=h.hR;omega) (λg J e=>by have:=I g e;have:=h.hC g J;omega),N, ?_,h.hC,h.hR⟩
 exact⟨a.os.trans h.away.os,a.tape.trans h.away.tape,a.output.trans h.away.output,Ϙ H a.size,λk G M=>by
  rw[a.block k (ϗ G H) (λe=>by have:=I k e;omega)]
  exact h.away.block k G M⟩
end
def uJ (h: ¬s.1=[]):jc (n+1) acc s=jc n (acc++prN (prS s).1) (gm acc (prS s).1 (prS s).2):=by
 show (if s.1=[] then _ else _)=_;rw[ώ h]
def VD (acc:List Int) (p:Int×Int) (s:RdS):(gm acc p s).1.length<=s.1.length:=by
 unfold gm;split
 ·exact vH s 2
 ·exact ϕ _
def WK (h: ¬s.1=[]):(prS s).2.1.length+1<=s.1.length:=by
 have d:=B4.2 h;have e:(prS s).2.1=(s.1.drop 2).drop 2:=rfl;rw[e,ϣ,ϣ];omega
def yd (h:qu w R l e C):
  Calls prog 57 #[γ R] w λd w'=>d= .returned (ι l.length)/\w=w':=(zn h).mono λ_ _ ⟨a,b⟩=>⟨a,b.symm⟩
def Xx {e g k c:Nat} (h:w.ownsRow base e 1 (δ (ϊ ⟨g,0,ϋ⟩) (k+1) c) acc.length (acc.map (Value.int .u16))) (d:acc.length=k+1):w.cell? ⟨g,k,ϋ⟩=ϊ (φ (acc.getD k 0)):=by
 rw[d] at h;rw[h.cellAt k τ,G4,ϑ,ϖ τ];rfl
def Bq (p:Int×Int):1<=(prN p).length/\(prN p).length<=17:=WM p
def Y6 {aL:Nat->Prop} (h:qu w R s0.1 s0.2 aL) (hR:R<w.heap.size):
  Calls prog 308 #[γ R] w λe w'=> ∃v',e= .returned v'/\LoJ w w' R (λg=>aL g/\g<w.heap.size) v' (jc s0.1.length [] (xK s0)).1 (jc s0.1.length [] (xK s0)).2:=by
 obtain⟨bc,hi,aZ,ba,bb⟩:=info_parts (P:=prog) (e:=39) (z:= φ 0) (size:=1) (bytes:=2) ξ;obtain⟨C,aG⟩: ∃C:Nat->Prop,C=λg=>aL g/\g<w.heap.size:=⟨_,rfl⟩
 have bo:qu w R s0.1 s0.2 C:=by rw[aG];exact h.old
 have bh:Hid (∀g,C g->g<w.heap.size):=κ (by rw[aG];exact λg h=>h.2);rw[<-aG];have bT:=h.small;have aT:=κ bo;clear aG h bo;have bk:=κ (λw' (r:qu w' R s0.1 s0.2 C)=>zo (s:=s0) r 2)
 go_enter func308,ntmps308
 go_upto_if 7 with (go_at_call 57;(go_call yd aT.o as e w9 ⟨rfl,rfl⟩))
 go_cut [] from 7 to 9 (λbK=>LoJ w bK R C (δ ϋ 0 0) [] (xK s0))
 case first=>
  by_cases hs:s0.1.length=0
  ·have br:((s0.1.length:Int)==0)=ό:=eqB τ;have am:xK s0=wrS s0 2:=by unfold xK;rw[ϐ hs]
   have aN:=κ am;clear am hs
   go_wp2_with (first | (go_at_call 55;(go_call bk.o _ aT.o as e H ⟨rfl,J,a3⟩;have O:Hid (LoJ w H R C (δ ϋ 0 0) [] (xK s0)):=κ (by rw[aN.o];exact⟨J,World.ownsRow_nil _ _ _ _,a3,bh.o,hR⟩);clear J a3)))
   go_meet;exact O.o
  ·have br:((s0.1.length:Int)==0)=ύ:=neB τ;have am:xK s0=s0:=by unfold xK;rw[ώ hs]
   have aN:=κ am;clear am hs;go_wp2;go_meet;rw[aN.o];exact⟨aT.o,World.ownsRow_nil _ _ _ _,jt.refl _ _,bh.o,hR⟩
 case rest=>
 have bG:=κ hcut;clear hcut bk;have am:(xK s0).1.length<=s0.1.length:=by
  unfold xK;split
  ·exact vH _ _
  ·exact ϕ _
 go_wp2_with fail
 go_loopw [3] (λv wr=> ∃acc s n,LoJ w wr R C v acc s/\s.1.length<=n/\jc n acc s=jc s0.1.length [] (xK s0)/\acc.length+17* s.1.length<=17* s0.1.length/\(∀x∈acc,U16 x)) (λv _=>17* s0.1.length-QO v)
 case atStart=>exact⟨[],xK s0,s0.1.length,bG.o,am,rfl,by simp;omega,λx an=>by cases an⟩
 case round=>
  obtain⟨acc,s,n,aW,bS,ap,bR,bs⟩:=hrel;have aD:=κ bs;clear bs;have M:=κ aW;have bi:=κ ap;obtain⟨bU,bJ,bM,rfl,aB,bI⟩:=qT aW.row;have bE:=κ aB;clear aW ap bI;by_cases hs:s.1=[]
  ·have ap:=bi.o;obtain⟨l,e⟩:=s;simp only at hs;subst hs;rw[wE] at ap;have bD:=κ ap;clear ap aB
   go_wp2_with (go_at_call 57;(go_call yd M.o.rd as e w9 ⟨rfl,rfl⟩))
   go_ret;exact⟨_,rfl,by rw[<-bD.o];exact M.o⟩
  ·have br:=VK hs;have aH:=WK hs;have bq:=M.o.rd.byt;obtain⟨bd,be,-⟩:=DZ bq;obtain⟨n,rfl⟩: ∃k,n=k+1:=⟨n-1,by have:=B4.2 hs;omega⟩;have aC:Hid (jc n (acc++prN (prS s).1) (gm acc (prS s).1 (prS s).2)=jc s0.1.length [] (xK s0)):=κ (by rw[<-uJ hs];exact bi.o);have aM:=κ aH;have aI:=VD acc (prS s).1 (prS s).2;obtain⟨d,aX⟩: ∃X,num (tkB s.1 2)=X:=⟨_,rfl⟩;obtain⟨G,aY⟩: ∃X,num (tkB (tkS s 2).1 2)=X:=⟨_,rfl⟩;have aQ:=κ aX;have aR:=κ aY;have bp:(prS s).1=(d,G):=by rw[<-aX,<-aY];rfl
   rw[bp] at aC aI bd be;have al:=κ bd;have aU:=κ be;have N:=κ (Bq (d,G));clear bq hs aX aY bp bd be;have bF:=κ (λw' (r:qu w' R (prS s).2.1 (prS s).2.2 C)=>zo (s:=(prS s).2) r 2);by_cases ha:acc=[]
   ·subst ha;have e:gm [] (d,G) (prS s).2=(prS s).2:=by unfold gm;rw[ώ (λh=>h.1 rfl)]
    have au:Hid (jc n ([]++prN (d,G)) (prS s).2=jc s0.1.length [] (xK s0)):=κ (by rw[<-e];exact aC.o);have ad:Hid ((prS s).2.1.length+1<=s.1.length):=aM;obtain rfl:bJ=0:=aB;clear e aI aH
    go_wp2_with (first | (go_at_call 57;(go_call yd M.o.rd as e w9 ⟨rfl,rfl⟩)) | (go_at_call 53;((with_reducible refine(xn M.o.rd).mono ?_);rintro e w2 ⟨rfl,aj,ae⟩;rw[aQ.o];have U:=κ (M.o.read (s':=tkS s 2) aj ae);clear aj ae)) | (go_at_call 53;((with_reducible refine(xn U.o.rd).mono ?_);rintro e H ⟨rfl,J,a3⟩;rw[aR.o];have O:=κ ((U.o.read (s':=(prS s).2) J a3).on (ql.alloc H (.cells #[φ d,φ G] 483)));have aP:=κ ((U.o.read (s':=(prS s).2) J a3).away.size);have ac:=κ (qj H (.cells #[φ d,φ G] 483));clear J a3)))
    generalize ay:H.alloc (.cells #[φ d,φ G] 483)=x3 at *;clear ay;generalize H.heap.size=P3 at *;have ai:=λ(x:qt x3)=>β0 (qq x.h ac.o)
    refine qD x3 (ql.refl _) ξ ξ ?_
    repeat (go_big_quiet_step (fail))
    refine wpQuiet_nil ?_;intro _ az;obtain⟨I,rfl⟩:=az;have ak:=κ (O.o.on I.h);have aE:=ai I;have aF:I.w'.cell? ⟨P3,1,ϋ⟩=ϊ (φ G):=qm (qq I.h ac.o) 1 rfl;clear ai O
    go_wp2_with (first | (go_at_call 330;(go_call QJ (d,G) _ al.o aU.o as e w6 ⟨bA,rfl,ab,ah⟩;have Y:=κ (ak.o.on ah);have S6:=κ (SlI.of_owns ab (by have:=N.o.2;omega));obtain⟨bx,bv,bn,rfl,aA,-⟩:=qT ab;clear ab ah aA)) | (at_builtin;refine qU _ rfl (.tmp 35) (.tmp 37) 281 rfl w.heap.size 39 bc (φ 0) 2 underlying281 hi aZ ba bb rfl _ .u16 [] rfl Y.o.row _ (prN (d,G)) rfl S6.o (by have:=N.o.2;simp only[Ϫ] at *;omega) ζ Y.o.away.size ?_;intro bB bC aa af _;have ax:=κ (Y.o.put aa af);obtain⟨bw,bu,bm,rfl,ag,-⟩:=qT aa;have aw:=κ ag;clear aa af ag))
    go_roundw
    case rel=>exact⟨[]++prN (d,G),(prS s).2,n,ax.o,by have:=ad.o;omega,au.o,by have:=ad.o;have:=N.o.2;rw[Ϗ];simp only[Ϫ] at *;omega,λx an=>(ϡ.1 an).elim (aD.o x) (Jw al.o x)⟩
    case measure=>have:=aw.o;have:=bE.o;have:=N.o.1;simp[QO,Ϗ] at *;omega
   ·obtain⟨k,aq⟩: ∃k,acc.length=k+1:=⟨acc.length-1,by have:=B4.2 ha;omega⟩;have ar:=Kn ha;rw[aq,Nat.add_sub_cancel] at ar;have aJ:=aD.o _ (Ci (l:=acc) (i:=k) τ);have ao:=κ aq;rw[aq] at aB;subst aB;obtain⟨g,bL,bt,bN,bO,-⟩:=AY M.o.row τ;rw[aq] at bt;cases bt;obtain⟨y,aK⟩:=ν (acc.getD k 0);rw[aK] at aJ ar;have bl:=κ aK;have bj:=κ (λw=>Dx y d w aJ al.o);have bP:(0:Int)<(k:Int)+1:=by omega
    have bQ:(k:Int)<=9223372036854775807:=by omega
    by_cases hd:0<ahd y d
    ·have e:gm acc (d,G) (prS s).2=(prS s).2:=by unfold gm;rw[ώ (λh=>h.2 (by rw[ar];exact hd))]
     have au:Hid (jc n (acc++prN (d,G)) (prS s).2=jc s0.1.length [] (xK s0)):=κ (by rw[<-e];exact aC.o);have ad:Hid ((prS s).2.1.length+1<=s.1.length):=aM;have bH:decide (0<ahd y d)=ό:=ϭ hd;clear e aI aH hd ha aq ar aJ aK
     go_wp2_with (first | (go_at_call 57;(go_call yd M.o.rd as e w9 ⟨rfl,rfl⟩)) | (go_at_call 53;((with_reducible refine(xn M.o.rd).mono ?_);rintro e w2 ⟨rfl,aj,ae⟩;rw[aQ.o];have U:=κ (M.o.read (s':=tkS s 2) aj ae);clear aj ae)) | (go_at_call 53;((with_reducible refine(xn U.o.rd).mono ?_);rintro e H ⟨rfl,J,a3⟩;rw[aR.o];have O:=κ ((U.o.read (s':=(prS s).2) J a3).on (ql.alloc H (.cells #[φ d,φ G] 483)));have aP:=κ ((U.o.read (s':=(prS s).2) J a3).away.size);have ac:=κ (qj H (.cells #[φ d,φ G] 483));clear J a3)))
     generalize ay:H.alloc (.cells #[φ d,φ G] 483)=x3 at *;clear ay
     have av:Hid (∀x:qt x3,x.w'.cell? ⟨g,k,ϋ⟩=ϊ (φ y)):=κ (λx=>by
      have aV:=Xx (jE O.o.row x.h) ao.o
      rw[aV,bl.o])
     have aO:=av.o;generalize H.heap.size=P3 at *;have ai:=λ(x:qt x3)=>β0 (qq x.h ac.o)
     refine qD x3 (ql.refl _) ξ ξ ?_
     repeat (go_big_quiet_step ((go_at_call 329;with_reducible exact kB ((bj.o _).mono λ_ _ ⟨e,h⟩=>⟨e,h.symm⟩))))
     refine wpQuiet_nil ?_;intro _ az;obtain⟨I,rfl⟩:=az;have ak:=κ (O.o.on I.h);have aE:=ai I;have aF:I.w'.cell? ⟨P3,1,ϋ⟩=ϊ (φ G):=qm (qq I.h ac.o) 1 rfl;have bg:=κ (qq I.h ac.o);clear ai O aO av;have aS:=ak
     go_wp2_with (first | (go_at_call 330;(go_call QJ (d,G) _ al.o aU.o as e w6 ⟨bA,rfl,ab,ah⟩;have Y:=κ (aS.o.on ah);have S6:=κ (SlI.of_owns ab (by have:=N.o.2;omega));obtain⟨bx,bv,bn,rfl,aA,-⟩:=qT ab;clear ab ah aA)) | (at_builtin;refine qU _ rfl (.tmp 35) (.tmp 37) 281 rfl w.heap.size 39 bc (φ 0) 2 underlying281 hi aZ ba bb rfl _ .u16 acc rfl Y.o.row _ (prN (d,G)) rfl S6.o (by have:=N.o.2;have:=ao.o;omega) ζ Y.o.away.size ?_;intro bB bC aa af _;have ax:=κ (Y.o.put aa af);obtain⟨bw,bu,bm,rfl,ag,-⟩:=qT aa;have aw:=κ ag;clear aa af ag))
     go_roundw
     case rel=>exact⟨acc++prN (d,G),(prS s).2,n,ax.o,by have:=ad.o;omega,au.o,by have:=ad.o;have:=N.o.2;rw[Ϗ];omega,λx an=>(ϡ.1 an).elim (aD.o x) (Jw al.o x)⟩
     case measure=>have:=aw.o;have:=ao.o;have:=N.o.1;simp[QO,Ϗ] at *;omega
    ·have e:gm acc (d,G) (prS s).2=wrS (prS s).2 2:=by unfold gm;rw[ϐ ⟨ha,by rw[ar];exact hd⟩]
     have au:Hid (jc n (acc++prN (d,G)) (wrS (prS s).2 2)=jc s0.1.length [] (xK s0)):=κ (by rw[<-e];exact aC.o);have ad:Hid ((wrS (prS s).2 2).1.length+1<=s.1.length):=κ (by have:=aM.o;have:=vH (prS s).2 2;omega);have bH:decide (0<ahd y d)=ύ:=ϫ hd;clear e aI aH hd ha aq ar aJ aK
     go_wp2_with (first | (go_at_call 57;(go_call yd M.o.rd as e w9 ⟨rfl,rfl⟩)) | (go_at_call 53;((with_reducible refine(xn M.o.rd).mono ?_);rintro e w2 ⟨rfl,aj,ae⟩;rw[aQ.o];have U:=κ (M.o.read (s':=tkS s 2) aj ae);clear aj ae)) | (go_at_call 53;((with_reducible refine(xn U.o.rd).mono ?_);rintro e H ⟨rfl,J,a3⟩;rw[aR.o];have O:=κ ((U.o.read (s':=(prS s).2) J a3).on (ql.alloc H (.cells #[φ d,φ G] 483)));have aP:=κ ((U.o.read (s':=(prS s).2) J a3).away.size);have ac:=κ (qj H (.cells #[φ d,φ G] 483));clear J a3)))
     generalize ay:H.alloc (.cells #[φ d,φ G] 483)=x3 at *;clear ay
     have av:Hid (∀x:qt x3,x.w'.cell? ⟨g,k,ϋ⟩=ϊ (φ y)):=κ (λx=>by
      have aV:=Xx (jE O.o.row x.h) ao.o
      rw[aV,bl.o])
     have aO:=av.o;generalize H.heap.size=P3 at *;have ai:=λ(x:qt x3)=>β0 (qq x.h ac.o)
     refine qD x3 (ql.refl _) ξ ξ ?_
     repeat (go_big_quiet_step ((go_at_call 329;with_reducible exact kB ((bj.o _).mono λ_ _ ⟨e,h⟩=>⟨e,h.symm⟩))))
     refine wpQuiet_nil ?_;intro _ az;obtain⟨I,rfl⟩:=az;have ak:=κ (O.o.on I.h);have aE:=ai I;have aF:I.w'.cell? ⟨P3,1,ϋ⟩=ϊ (φ G):=qm (qq I.h ac.o) 1 rfl;have bg:=κ (qq I.h ac.o);clear ai O aO av
     go_wp2_with (first | (go_at_call 55;(go_call bF.o _ ak.o.rd as e w5 ⟨rfl,bz,a5⟩;have aS:=κ (ak.o.read (s':=wrS (prS s).2 2) bz a5);have bf:=κ (a5.blk bg.o (λe=>by have:=ak.o.hR;have:=aP.o;omega));clear bz a5 aE aF;have aE:=β0 bf.o;have aF:=β1 bf.o)) | (go_at_call 330;(go_call QJ (d,G) _ al.o aU.o as e w6 ⟨bA,rfl,ab,ah⟩;have Y:=κ (aS.o.on ah);have S6:=κ (SlI.of_owns ab (by have:=N.o.2;omega));obtain⟨bx,bv,bn,rfl,aA,-⟩:=qT ab;clear ab ah aA)) | (at_builtin;refine qU _ rfl (.tmp 35) (.tmp 37) 281 rfl w.heap.size 39 bc (φ 0) 2 underlying281 hi aZ ba bb rfl _ .u16 acc rfl Y.o.row _ (prN (d,G)) rfl S6.o (by have:=N.o.2;have:=ao.o;omega) ζ Y.o.away.size ?_;intro bB bC aa af _;have ax:=κ (Y.o.put aa af);obtain⟨bw,bu,bm,rfl,ag,-⟩:=qT aa;have aw:=κ ag;clear aa af ag))
     go_roundw
     case rel=>exact⟨acc++prN (d,G),(wrS (prS s).2 2),n,ax.o,by have:=ad.o;omega,au.o,by have:=ad.o;have:=N.o.2;rw[Ϗ];omega,λx an=>(ϡ.1 an).elim (aD.o x) (Jw al.o x)⟩
     case measure=>have:=aw.o;have:=ao.o;have:=N.o.1;simp[QO,Ϗ] at *;omega
def Ma {e:Nat} (h:w.ownsRow base e 1 v n xs):(n:Int)<=9223372036854775807:=by
 rcases h.2 with ⟨_,G⟩ | ⟨g,cap,cur,_,_,_,H,d,_⟩
 ·omega
 ·unfold maxLen at d;omega
structure RdB (w0 w:World) (R:Nat) (l:List Int) (e:Int) (C:Nat->Prop) (B1 B2:Nat) (z cs:Array Value) (T:Nat):Prop where
 rd:qu w R l e (λg=>C g/\g<w0.heap.size)
 away:jt (λb=>b=R) w0 w
 b1:w.heap[B1]? =ϊ (.cells z T (0,0))
 b2:w.heap[B2]? =ϊ (.cells cs T (0,0))
 n1:w0.heap.size<=B1
 n2:B1<B2
 hR:R<w0.heap.size
def RdB.new (z:Array Value) (T:Nat) (h:qu w R l e C):RdB w ((w.alloc (.cells z T)).alloc (.cells z T)) R l e C w.heap.size (w.heap.size+1) z z T:=
 ⟨(h.old.more W4).more W4,jt.of_more (W4.al _),qs (qj w _) _,qC η,ϕ _,F5 _,by obtain⟨v,d,_⟩:=h.blk;exact qn d⟩
def RdB.step {d:World} {l':List Int} {I:Int} {G H:Nat} (h:RdB d w R l e C G H z cs T) (r:qu w' R l' I (λg=>C g/\g<d.heap.size)) (a:jt (λb=>b=R) w w'):RdB d w' R l' I C G H z cs T:=
 ⟨r,h.away.trans a,a.blk h.b1 (by have:=h.n1;have:=h.hR;omega),a.blk h.b2 (by have:=h.n1;have:=h.n2;have:=h.hR;omega),h.n1,h.n2,h.hR⟩
def VX {d:World} {B:Nat} (h:jt (λb=>b=R) d w) (I:d.heap.size<=B) (o:Nat) (v:Value):jt (λb=>b=R) d (w.setCell ⟨B,o,ϋ⟩ v):=by
 have a:jt (λb=>b=B) w (w.setCell ⟨B,o,ϋ⟩ v):=(jt.refl (λb=>b=B) w).set (p:=⟨B,o,ϋ⟩) rfl v;exact⟨a.os.trans h.os,a.tape.trans h.tape,a.output.trans h.output,Ϙ h.size a.size,λk G H=>by rw[a.block k (ϗ G h.size) τ];exact h.block k G H⟩
def RdB.store {H:World} {G d:Nat} (h:RdB H w R l e C G d z cs T) (i:Nat) (v:Value):RdB H (w.setCell ⟨d,i,ϋ⟩ v) R l e C G d z (cs.setIfInBounds i v) T:=by
 have I:=h.n1;have J:=h.n2;have M:=h.hR;have a:jt (λb=>b=d) w (w.setCell ⟨d,i,ϋ⟩ v):=(jt.refl (λb=>b=d) w).set (p:=⟨d,i,ϋ⟩) rfl v;exact⟨h.rd.off a τ (λg N e=>by omega),VX h.away τ i v,a.blk h.b1 τ,qp h.b2 i v,h.n1,h.n2,h.hR⟩
def RdB.fill {H:World} {d G:Nat} (h:RdB H w R l e C d G z cs T) (i:Nat) (v:Value):RdB H (w.setCell ⟨d,i,ϋ⟩ v) R l e C d G (z.setIfInBounds i v) cs T:=by
 have I:=h.n1;have J:=h.n2;have M:=h.hR;have a:jt (λb=>b=d) w (w.setCell ⟨d,i,ϋ⟩ v):=(jt.refl (λb=>b=d) w).set (p:=⟨d,i,ϋ⟩) rfl v;exact⟨h.rd.off a τ (λg N e=>by omega),VX h.away τ i v,qp h.b1 i v,a.blk h.b2 τ,h.n1,h.n2,h.hR⟩
def kp (h:Byt s.1):U32 (xP s):=by
 have:=zv (tkB s.1 4) 4 (jL h 4) (zh s.1 4 ζ) ζ;unfold xP;exact⟨this.1,τ⟩
def At (q:Int):IntKind.i32.wrap q=(q+2147483648)%4294967296-2147483648:=by
 unfold IntKind.wrap;simp[IntKind.bits,IntKind.signed]
 try omega
def Kx (h:qu w R s.1 s.2 C):
  Calls prog 304 #[γ R] w λe w'=>e= .returned (θ #[ω (jA s).1.sec,ω (jA s).1.frac,ω (jA s).1.stamp,ω (jA s).1.pkts,ω (jA s).1.octs])/\qu w' R (jA s).2.1 (jA s).2.2 C/\jt (λb=>b=R) w w':=by
 obtain⟨L,E⟩:=s;simp only at h;have N:=RdB.new #[ω 0,ω 0,ω 0,ω 0,ω 0] 286 h;have ab:=h.byt;have af:jA (L,E)=(⟨num (tkB L 4),num (tkB (tkL L 4) 4),num (tkB (tkL (tkL L 4) 4) 4),num (tkB (tkL (tkL (tkL L 4) 4) 4) 4),num (tkB (tkL (tkL (tkL (tkL L 4) 4) 4) 4) 4)⟩,((tkL (tkL (tkL (tkL (tkL L 4) 4) 4) 4) 4),(tkE (tkL (tkL (tkL (tkL L 4) 4) 4) 4) 4 (tkE (tkL (tkL (tkL L 4) 4) 4) 4 (tkE (tkL (tkL L 4) 4) 4 (tkE (tkL L 4) 4 (tkE L 4 E))))))):=rfl;have M:=κ af;clear af;have ac:Byt (tkL L 4):=ab.drop _;generalize aB:num (tkB L 4)=n0 at *;generalize ao:tkE L 4 E=E1 at *;generalize av:tkL L 4=L1 at *;have ad:Byt (tkL L1 4):=ac.drop _;generalize aC:num (tkB L1 4)=n1 at *;generalize ap:tkE L1 4 E1=E2 at *;generalize aw:tkL L1 4=L2 at *;have ae:Byt (tkL L2 4):=ad.drop _;generalize aD:num (tkB L2 4)=n2 at *;generalize aq:tkE L2 4 E2=E3 at *;generalize ax:tkL L2 4=L3 at *;have aA:Byt (tkL L3 4):=ae.drop _;generalize aE:num (tkB L3 4)=n3 at *;generalize ar:tkE L3 4 E3=E4 at *;generalize ay:tkL L3 4=L4 at *;generalize aF:num (tkB L4 4)=n4 at *;generalize au:tkE L4 4 E4=E5 at *;generalize az:tkL L4 4=L5 at *;clear ab ac ad ae aA
 go_enter func304,ntmps304
 go_wp2_with first | (go_at_call 54;((with_reducible refine(jD N.rd).mono ?_);rintro e w10 ⟨rfl,aG,a0⟩;have G:=N.step aG a0;rw[av,ao] at G;rw[aB];have O:=G.store 0 (ω n0);have aL:=β0 G.b2;have aQ:=yw G.b2 0)) | (go_at_call 54;((with_reducible refine(jD O.rd).mono ?_);rintro e aV ⟨rfl,aH,ah⟩;have H:=O.step aH ah;rw[aw,ap] at H;rw[aC];have U:=H.store 1 (ω n1);have c1:=β1 H.b2;have aR:=yw H.b2 1)) | (go_at_call 54;((with_reducible refine(jD U.rd).mono ?_);rintro e aW ⟨rfl,aI,ai⟩;have I:=U.step aI ai;rw[ax,aq] at I;rw[aD];have Y:=I.store 2 (ω n2);have c2:=β2 I.b2;have aS:=yw I.b2 2)) | (go_at_call 54;((with_reducible refine(jD Y.rd).mono ?_);rintro e aX ⟨rfl,aJ,a3⟩;have J:=Y.step aJ a3;rw[ay,ar] at J;rw[aE];have aa:=J.store 3 (ω n3);have c3:=β3 J.b2;have aT:=yw J.b2 3)) | (go_at_call 54;((with_reducible refine(jD aa.rd).mono ?_);rintro e aY ⟨rfl,aK,a4⟩;have d:=aa.step aK a4;rw[az,au] at d;rw[aF];have ag:=d.store 4 (ω n4);have c4:=β4 d.b2;have aU:=yw d.b2 4;have aM:=β0 d.b2;have aN:=β1 d.b2;have aO:=β2 d.b2;have aP:=β3 d.b2;have aj:=β0 d.b1;have z0:=yw d.b1 0;have ak:=β1 d.b1;have aZ:=yw d.b1 1;have al:=β2 d.b1;have ba:=yw d.b1 2;have am:=β3 d.b1;have z3:=yw d.b1 3;have an:=β4 d.b1;have z4:=yw d.b1 4))
 (refine bodyPost_ret (v:= θ #[ω n0,ω n1,ω n2,ω n3,ω n4]) ?rr1 rfl ?_;(case rr1=>(simp[results,results304,go_sem,aj,ak,al,am,an])))
 have Z:=(((((ag.fill 0 (ω n0)).fill 1 (ω n1)).fill 2 (ω n2)).fill 3 (ω n3)).fill 4 (ω n4));exact⟨by rw[M.o],by rw[M.o];exact Z.rd.mono λg h=>h.1,Z.away⟩
def Kz (h:qu w R s.1 s.2 C):
  Calls prog 305 #[γ R] w λe w'=>e= .returned (θ #[ω (qM s).1.src,υ (qM s).1.part,χ (qM s).1.miss,ω (qM s).1.high,ω (qM s).1.jit,ω (qM s).1.last,ω (qM s).1.dly])/\qu w' R (qM s).2.1 (qM s).2.2 C/\jt (λb=>b=R) w w':=by
 obtain⟨L,E⟩:=s;simp only at h;have Y:=RdB.new Γe 473 h;have ag:=h.byt;have am:qM (L,E)=(⟨num (tkB L 4),num (tkB (tkL L 4) 1),sgd (num (tkB (tkL (tkL L 4) 1) 3)) 24,num (tkB (tkL (tkL (tkL L 4) 1) 3) 4),num (tkB (tkL (tkL (tkL (tkL L 4) 1) 3) 4) 4),num (tkB (tkL (tkL (tkL (tkL (tkL L 4) 1) 3) 4) 4) 4),num (tkB (tkL (tkL (tkL (tkL (tkL (tkL L 4) 1) 3) 4) 4) 4) 4)⟩,((tkL (tkL (tkL (tkL (tkL (tkL (tkL L 4) 1) 3) 4) 4) 4) 4),(tkE (tkL (tkL (tkL (tkL (tkL (tkL L 4) 1) 3) 4) 4) 4) 4 (tkE (tkL (tkL (tkL (tkL (tkL L 4) 1) 3) 4) 4) 4 (tkE (tkL (tkL (tkL (tkL L 4) 1) 3) 4) 4 (tkE (tkL (tkL (tkL L 4) 1) 3) 4 (tkE (tkL (tkL L 4) 1) 3 (tkE (tkL L 4) 1 (tkE L 4 E))))))))):=rfl;have U:=κ am;clear am;have ah:Byt (tkL L 4):=ag.drop _;generalize aQ:num (tkB L 4)=n0 at *;generalize aB:tkE L 4 E=E1 at *;generalize aI:tkL L 4=L1 at *;have O:Byt (tkL L1 1):=ah.drop _;generalize aR:num (tkB L1 1)=n1 at *;generalize aC:tkE L1 1 E1=E2 at *;generalize aJ:tkL L1 1=L2 at *;have al:=zv (tkB L2 3) 3 (jL O 3) (zh L2 3 ζ) ζ;have ai:Byt (tkL L2 3):=O.drop _;generalize aS:num (tkB L2 3)=n2 at *;generalize aD:tkE L2 3 E2=E3 at *;generalize aK:tkL L2 3=L3 at *;have aZ:U64 n2:=by
  unfold U64;omega
 have bx:IntKind.u64.wrap n2=n2:=by
  exact F1 al.1 (by show n2<18446744073709551616;omega)
 have an:=KR n2 24 ζ ζ;have aY:(sgd n2 24+2147483648)%4294967296-2147483648=sgd n2 24:=by
  have e:two (24-1)=8388608:=by decide
  rw[e] at an;omega
 generalize aX:sgd n2 24=q at *;have bw:IntKind.i32.wrap q=q:=(At q).trans aY;have aj:Byt (tkL L3 4):=ai.drop _;generalize aT:num (tkB L3 4)=n3 at *;generalize aE:tkE L3 4 E3=E4 at *;generalize aL:tkL L3 4=L4 at *;have ak:Byt (tkL L4 4):=aj.drop _;generalize aU:num (tkB L4 4)=n4 at *;generalize aF:tkE L4 4 E4=E5 at *;generalize aM:tkL L4 4=L5 at *;have aP:Byt (tkL L5 4):=ak.drop _;generalize aV:num (tkB L5 4)=n5 at *;generalize aG:tkE L5 4 E5=E6 at *;generalize aN:tkL L5 4=L6 at *;generalize aW:num (tkB L6 4)=n6 at *;generalize aH:tkE L6 4 E6=E7 at *;generalize aO:tkL L6 4=L7 at *;clear ag ah O ai aj ak aP an al
 go_enter func305,ntmps305
 go_wp2_with first | (go_at_call 54;((with_reducible refine(jD Y.rd).mono ?_);rintro e w10 ⟨rfl,ba,a0⟩;have G:=Y.step ba a0;rw[aI,aB] at G;rw[aQ];have aa:=G.store 0 (ω n0);have bh:=β0 G.b2;have bp:=yw G.b2 0)) | (go_at_call 52;(go_call jT aa.rd as e bz ⟨rfl,bb,ap⟩;have H:=aa.step bb ap;rw[aJ,aC] at H;rw[aR];have ab:=H.store 1 (υ n1);have c1:=β1 H.b2;have bq:=yw H.b2 1)) | (go_at_call 328;(go_call Je ab.rd as e bA ⟨rfl,bc,aq⟩;have I:=ab.step bc aq;rw[aK,aD] at I;rw[aS];have ac:=I.store 2 (χ q);have c2:=β2 I.b2;have br:=yw I.b2 2)) | (go_at_call 327;(go_call U9 n2 24 aZ ζ _ as e bF ⟨rfl,rfl⟩;rw[aX])) | (go_at_call 54;((with_reducible refine(jD ac.rd).mono ?_);rintro e bB ⟨rfl,bd,a3⟩;have J:=ac.step bd a3;rw[aL,aE] at J;rw[aT];have ad:=J.store 3 (ω n3);have c3:=β3 J.b2;have bs:=yw J.b2 3)) | (go_at_call 54;((with_reducible refine(jD ad.rd).mono ?_);rintro e bC ⟨rfl,be,a4⟩;have M:=ad.step be a4;rw[aM,aF] at M;rw[aU];have ae:=M.store 4 (ω n4);have c4:=β4 M.b2;have bt:=yw M.b2 4)) | (go_at_call 54;((with_reducible refine(jD ae.rd).mono ?_);rintro e bD ⟨rfl,bf,a5⟩;have N:=ae.step bf a5;rw[aN,aG] at N;rw[aV];have af:=N.store 5 (ω n5);have c5:=β5 N.b2;have bu:=yw N.b2 5)) | (go_at_call 54;((with_reducible refine(jD af.rd).mono ?_);rintro e bE ⟨rfl,bg,ar⟩;have d:=af.step bg ar;rw[aO,aH] at d;rw[aW];have ao:=d.store 6 (ω n6);have bi:=β6 d.b2;have bv:=yw d.b2 6;have bj:=β0 d.b2;have bk:=β1 d.b2;have bl:=β2 d.b2;have bm:=β3 d.b2;have bn:=β4 d.b2;have bo:=β5 d.b2;have au:=β0 d.b1;have z0:=yw d.b1 0;have av:=β1 d.b1;have bG:=yw d.b1 1;have aw:=β2 d.b1;have bH:=yw d.b1 2;have ax:=β3 d.b1;have z3:=yw d.b1 3;have ay:=β4 d.b1;have z4:=yw d.b1 4;have az:=β5 d.b1;have z5:=yw d.b1 5;have aA:=β6 d.b1;have bI:=yw d.b1 6))
 (refine bodyPost_ret (v:= θ #[ω n0,υ n1,χ q,ω n3,ω n4,ω n5,ω n6]) ?rr2 rfl ?_;(case rr2=>(simp[results,results305,go_sem,au,av,aw,ax,ay,az,aA])))
 have Z:=(((((((ao.fill 0 (ω n0)).fill 1 (υ n1)).fill 2 (χ q)).fill 3 (ω n3)).fill 4 (ω n4)).fill 5 (ω n5)).fill 6 (ω n6));exact⟨by rw[U.o],by rw[U.o];exact Z.rd.mono λg h=>h.1,Z.away⟩
def Yv {l:List Blk} (h:SlP 7 Yj w v l) (J: ∀b,v.ownBlock=ϊ b-> ¬S b) (a:jt S w w'):SlP 7 Yj w' v l:=by
 obtain⟨Y,cap,rfl,G,H,I⟩:=h;refine⟨Y,cap,rfl,G,λi hi=> ?_,I⟩;obtain⟨b,aa,cs,rfl,d,O,M,U⟩:=H i hi;exact⟨b,aa,cs,rfl,ϗ d a.size,O,λj N=>by rw[a.cells b _ d (J b rfl)];exact M j N,U⟩
def JD (h:qu w R s.1 s.2 C):
  Calls prog 59 #[γ R] w λd w'=>d= .returned (ι (wM s))/\w'=w:=yT h
structure RpJ (w0 w:World) (R B5:Nat) (C:Nat->Prop) (o0 o1:Obj) (xs:List Value) (v:Value) (bl:List Blk) (s:RdS):Prop where
 rd:qu w R s.1 s.2 C
 b0:w.heap[w0.heap.size]? =ϊ o0
 b1:w.heap[w0.heap.size+1]? =ϊ o1
 b5:w.heap[B5]? =ϊ (.cells (xs++[v]).toArray 289 (0,0))
 row:je 7 Yj (λb=>b=R∨b=B5) w (B5+1) 473 v bl
 more:ql w0 w
 h1:w0.heap.size+1<R
 h2:R<B5
 hC: ∀g,C g->w0.heap.size+1<g/\g<B5
def RpJ.new {d w4 w5:World} {G H:Obj} (xs:List Value) (cs:Array Value) (N:cs=(xs++[δ ϋ 0 0]).toArray) (J:w4.heap[w.heap.size]? =ϊ G) (M:w4.heap[w.heap.size+1]? =ϊ H) (O:qu w5 R s.1 s.2 (λg=>d.heap.size<=g/\g<w4.heap.size)) (a5:jt (λb=>b=R) w4 w5) (I:ql w w4) (ab:w.heap.size+2<=d.heap.size) (Y:d.heap.size<=R) (aa:R<w4.heap.size):
  RpJ w (w5.alloc (.cells cs 289)) R w5.heap.size (λg=>d.heap.size<=g/\g<w4.heap.size) G H xs (δ ϋ 0 0) [] s:=by
 subst N;have U:=a5.size;exact⟨O.more W4,qs (a5.blk J τ) _,qs (a5.blk M τ) _,qj w5 _,je.nil _ _ _ _ _ _,(Jv a5 I τ).al _,τ,τ,λg h=>⟨τ,τ⟩⟩
def RpJ.read {J:World} {d:Nat} {H I:Obj} (h:RpJ J w R d C H I xs v G s) (r:qu w' R s'.1 s'.2 C) (a:jt (λb=>b=R) w w'):RpJ J w' R d C H I xs v G s':=by
 have h1:=h.h1;have h2:=h.h2;exact⟨r,a.blk h.b0 τ,a.blk h.b1 τ,a.blk h.b5 τ,h.row.step (a.mono λk M=>ϒ M),Jv a h.more τ,h1,h2,h.hC⟩
def RpJ.on {J:World} {d:Nat} {H I:Obj} (h:RpJ J w R d C H I xs v G s) (m:ql w w'):RpJ J w' R d C H I xs v G s:=
 ⟨h.rd.more m,qq m h.b0,qq m h.b1,qq m h.b5,h.row.on m,h.more.trans m,h.h1,h.h2,h.hC⟩
def RpJ.put {I:World} {d:Nat} {O U:Obj} {Y N:List Blk} (h:RpJ I w R d C O U xs v Y s) (aa:xs.length=7)
  (ac:je 7 Yj (λb=>b=R∨b=d) w' (d+1) 473 v' N) (H:w.grownBy w' v.ownBlock):RpJ I (w'.setCell ⟨d,7,ϋ⟩ v') R d C O U xs v' N s:=by
 have h1:=h.h1;have h2:=h.h2;have G: ∀g,v.ownBlock=ϊ g->d+1<=g:=λg e=>h.row.ge e
 have a:jt (λb=>v.ownBlock=ϊ b) w w':=⟨H.os,H.tape,H.output,H.size,λk M ad=>H.block k M (λe=>ad e.symm)⟩;have a5:jt (λb=>b=d) w' (w'.setCell ⟨d,7,ϋ⟩ v'):=(jt.refl (λb=>b=d) w').set (p:=⟨d,7,ϋ⟩) rfl v';have ab:ql I w':=jt.to_more h.more a (λk e=>by have:=G k e;omega);refine⟨(h.rd.off a (λe=>by have:=G R e;omega) (λg J e=>by have:=G g e;have:=(h.hC g J).2;omega)).off a5 τ (λg J e=>by have:=(h.hC g J).2;omega),a5.blk (a.blk h.b0 (λe=>by have:=G _ e;omega)) τ,a5.blk (a.blk h.b1 (λe=>by have:=G _ e;omega)) τ,qB (qp (a.blk h.b5 (λe=>by have:=G _ e;omega)) 7 v') ?_,ac.step (a5.mono λk M=>ϔ M),ab.st (by show I.heap.size<=d;omega) v',h1,h2,h.hC⟩
 match xs,aa with
 | [x0,x1,x2,x3,x4,x5,x6],_=>rfl
def RpJ.set {G:World} {d:Nat} {I J:Obj} {H:List Blk} (h:RpJ G w R d C I J xs v H s) (i:Nat) (hi:i<xs.length) (x:Value):RpJ G (w.setCell ⟨d,i,ϋ⟩ x) R d C I J (xs.set i x) v H s:=by
 have h1:=h.h1;have h2:=h.h2;have a5:jt (λb=>b=d) w (w.setCell ⟨d,i,ϋ⟩ x):=(jt.refl (λb=>b=d) w).set (p:=⟨d,i,ϋ⟩) rfl x;refine⟨h.rd.off a5 τ (λg M e=>by have:=(h.hC g M).2;omega),a5.blk h.b0 τ,a5.blk h.b1 τ,qB (qp h.b5 i x) ?_,h.row.step (a5.mono λk N=>ϔ N),h.more.st (by show G.heap.size<=d;omega) x,h1,h2,h.hC⟩;simp[List.setIfInBounds_toArray,List.set_append,hi]
def YY (n:Nat) (s:RdS) (acc:List Blk):acc++(js (n+1) s).1=(acc++[(qM s).1])++(js n (qM s).2).1/\(js (n+1) s).2=(js n (qM s).2).2:=by
 constructor
 ·show acc++((qM s).1::(js n (qM s).2).1)=_;simp
 ·rfl
def Ux (h:Byt s.1):QS (qM s).1:=by
 have d:=jK h 4;have M:=jK d 1;have G:=jK M 3;have H:=jK G 4;have I:=jK H 4;have N:=jK I 4;have O:=zv (tkB (tkS s 4).1 1) 1 (jL d 1) (zh _ 1 ζ) ζ;have U:=KR (num (tkB (tkS (tkS s 4) 1).1 3)) 24 ζ ζ;have J:two (24-1)=8388608:=by decide
 rw[J] at U;exact⟨kp h,⟨O.1,by show num (tkB (tkS s 4).1 1)<=255;omega⟩,⟨by show -2147483648<=sgd _ 24;omega,by show sgd _ 24<=2147483647;omega⟩,kp G,kp H,kp I,kp N⟩
def Bf (N:xk c):Zx (qG c).1:=by
 by_cases h:(qG c).2=0
 ·exact(YP (r:=(qG c).1) N (by rw[<-h])).2.1
 ·have:(qG c).1=Qh:=by
   unfold qG at h ⊢;have H: ∀r s,¬(yZ r s).2=0->(yZ r s).1=Qh:=by
    intro r s G;unfold yZ at G ⊢;split
    ·rename_i y;rw[ϐ y] at G;exact ϩ rfl G
    ·rfl
   split
   ·rfl
   ·rename_i I;rw[ώ I] at h;split
    ·rename_i d;rw[ϐ d] at h;exact H _ _ h
    ·rename_i d;rw[ώ d] at h;split
     ·rename_i J;rw[ϐ J] at h;exact H _ _ h
     ·rfl
  rw[this];exact⟨ζ,WY,λb M=>by cases M⟩
def Du (k t:Int) (B:List Int) (H:Option Addr) (G:Nat) (Y:Hid (SlI .u8 w (δ H B.length G) B)) (am:Hid (Byt B)) (aj:B.length<=1000000) (O:Hid (jx (k,t,B,())=ύ)):
  Calls prog 280 #[θ #[υ k,υ t,δ H B.length G]] w λe w'=>e= .returned (.tuple #[Γd,ι 1])/\ql w w':=by
 have N:ql w ((w.alloc (.cells #[υ k,υ t,δ H B.length G] 291)).alloc (.cells Γd 289)):=W4.al _;have J:((w.alloc (.cells #[υ k,υ t,δ H B.length G] 291)).alloc (.cells Γd 289)).heap[w.heap.size]? =ϊ (.cells #[υ k,υ t,δ H B.length G] 291):=qs (qj w _) _;have M:((w.alloc (.cells #[υ k,υ t,δ H B.length G] 291)).alloc (.cells Γd 289)).heap[w.heap.size+1]? =ϊ (.cells Γd 289):=qC η
 go_enter func280,ntmps280
 go_wp2_with (go_at_call 260;refine(xR (k,t,B,()) (Y.o.keep N) aj).mono ?_;rintro e ak ⟨rfl,I⟩;rw[O.o];have U:=N.trans I;have ai:=qq I J;have d:=qq I M;have an:w.heap.size+2<=ak.heap.size:=Ϙ η I.size;have aa:=β0 d;have z0:=yw d 0;have ab:=β1 d;have ao:=yw d 1;have ac:=β2 d;have ap:=yw d 2;have ad:=β3 d;have z3:=yw d 3;have ae:=β4 d;have z4:=yw d 4;have af:=β5 d;have z5:=yw d 5;have ag:=β6 d;have aq:=yw d 6;have ah:=β7 d;have ar:=yw d 7;clear ai d J M)
 (refine bodyPost_ret (v:= .tuple #[Γd,ι 1]) ?rr1 rfl ?_;(case rr1=>(simp[results,results280,go_sem,aa,ab,ac,ad,ae,af,ag,ah])))
 exact⟨rfl,((((((((U.st η _).st η _).st η _).st η _).st η _).st η _).st η _).st η _)⟩
def Y8 (k t:Int) (B:List Int) (H:Option Addr) (G:Nat) (O:Hid (SlI .u8 w (δ H B.length G) B)) (ac:Hid (Byt B)) (Y:B.length<=1000000) (ad:Hid (jx (k,t,B,())=ό)) (ap: ¬t=200) (aq: ¬t=201):
  Calls prog 280 #[θ #[υ k,υ t,δ H B.length G]] w λe w'=>e= .returned (.tuple #[Γd,ι 5])/\ql w w':=by
 have aa:ql w ((w.alloc (.cells #[υ k,υ t,δ H B.length G] 291)).alloc (.cells Γd 289)):=W4.al _;have au:((w.alloc (.cells #[υ k,υ t,δ H B.length G] 291)).alloc (.cells Γd 289)).heap[w.heap.size]? =ϊ (.cells #[υ k,υ t,δ H B.length G] 291):=qs (qj w _) _;have ax:((w.alloc (.cells #[υ k,υ t,δ H B.length G] 291)).alloc (.cells Γd 289)).heap[w.heap.size+1]? =ϊ (.cells Γd 289):=qC η;have aF:(t==200)=ύ:=by simpa using ap
 have aG:(t==201)=ύ:=by simpa using aq
 go_enter func280,ntmps280
 go_wp2_with first | (go_at_call 260;refine(xR (k,t,B,()) (O.o.keep aa) Y).mono ?_;rintro e M ⟨rfl,I⟩;rw[ad.o];have N:=aa.trans I;have U:=qq I au;have av:=qq I ax;have aA:w.heap.size+2<=M.heap.size:=Ϙ η I.size;have aC:=β2 U) | (go_at_call 51;(go_call NV _ B M (O.o.keep N) ac.o Y as e w4 ⟨R,rfl,ay,ab,J⟩;have ar:=qq J U;have aw:=qq J av;have ae:=N.trans J;have az:R<w4.heap.size:=by (obtain⟨v,ao,_⟩:=ab.blk;exact qn ao))) | (go_at_call 54;(go_call jD ab as e w5 ⟨rfl,aB,a5⟩;have d:RpJ w (w5.alloc (.cells #[μ ύ,ω (num (tkB B 4)),ω 0,ω 0,ω 0,ω 0,ω 0,()] 289)) R w5.heap.size (λg=>M.heap.size<=g/\g<w4.heap.size) (.cells #[υ k,υ t,δ H B.length G] 291) (.cells Γd 289) [μ ύ,ω (num (tkB B 4)),ω 0,ω 0,ω 0,ω 0,ω 0] (δ ϋ 0 0) [] (tkL B 4,tkE B 4 0):=RpJ.new _ _ rfl ar aw aB a5 ae aA ay az;have aE:=β1 d.b0;have aD:=β0 d.b0;have af:=β0 d.b1;have z0:=yw d.b1 0;have ag:=β1 d.b1;have aH:=yw d.b1 1;have ah:=β2 d.b1;have aI:=yw d.b1 2;have ai:=β3 d.b1;have z3:=yw d.b1 3;have aj:=β4 d.b1;have z4:=yw d.b1 4;have ak:=β5 d.b1;have z5:=yw d.b1 5;have am:=β6 d.b1;have aJ:=yw d.b1 6;have an:=β7 d.b1;have aK:=yw d.b1 7))
 (refine bodyPost_ret (v:= .tuple #[Γd,ι 5]) ?rr2 rfl ?_;(case rr2=>(simp[results,results280,go_sem,af,ag,ah,ai,aj,ak,am,an])))
 exact⟨rfl,((((((((d.more.st η _).st η _).st η _).st η _).st η _).st η _).st η _).st η _)⟩
def XL (G:Nat) (t:Int) (snd:Bool) (inf:Inf) (s0:RdS) (B:List Int) (O:Option Addr) (N:Nat) (D:Rep×Int) (aL:Hid (SlI .u8 w (δ O B.length N) B)) (bt:Hid (Byt B)) (bh:B.length<=1000000) (ca:G<=31) (aF:Hid (jx ((G:Int),t,B,())=ό))
  (bj:t=if snd then 200 else 201) (be:(if snd then jA (tkL B 4,tkE B 4 0) else (Jj,(tkL B 4,tkE B 4 0)))=(inf,s0)) (bu:Hid (yZ ⟨snd,num (tkB B 4),inf,(js G s0).1⟩ (js G s0).2=D)):
  Calls prog 280 #[θ #[υ (G:Int),υ t,δ O B.length N]] w λe w'=>(∃vb,e= .returned (.tuple #[θ #[μ D.1.snd,ω D.1.src,ω D.1.inf.sec,ω D.1.inf.frac,ω D.1.inf.stamp,ω D.1.inf.pkts,ω D.1.inf.octs,vb],ι D.2])/\SlP 7 Yj w' vb D.1.bl/\jX w vb)/\ql w w':=by
 obtain⟨bM,hi,bJ,bK,bL⟩:=info_parts (P:=prog) (e:=473) (z:= Γe) (size:=7) (bytes:=28) ξ;obtain⟨k,au⟩: ∃k:Int,k=(G:Int):=⟨_,rfl⟩;rw[<-au] at aF ⊢;have ap:=κ au;clear au;have aA:ql w ((w.alloc (.cells #[υ k,υ t,δ O B.length N] 291)).alloc (.cells Γd 289)):=W4.al _;have ba:((w.alloc (.cells #[υ k,υ t,δ O B.length N] 291)).alloc (.cells Γd 289)).heap[w.heap.size]? =ϊ (.cells #[υ k,υ t,δ O B.length N] 291):=qs (qj w _) _;have bc:((w.alloc (.cells #[υ k,υ t,δ O B.length N] 291)).alloc (.cells Γd 289)).heap[w.heap.size+1]? =ϊ (.cells Γd 289):=qC η;have aG:=κ bj;have aC:=κ be;clear bj be
 go_enter func280,ntmps280
 go_upto_block 2 with first | (go_at_call 260;refine(xR (k,t,B,()) (aL.o.keep aA) bh).mono ?_;rintro e af ⟨rfl,ak⟩;rw[aF.o];have aH:=aA.trans ak;have aY:=qq ak ba;have bD:=qq ak bc;have bk:w.heap.size+2<=af.heap.size:=Ϙ η ak.size;have bB:=β2 aY) | (go_at_call 51;(go_call NV _ B af (aL.o.keep aH) bt.o bh as e w4 ⟨R,rfl,bf,bm,aB⟩;have aZ:=qq aB aY;have bb:=qq aB bD;have aI:=aH.trans aB;have bg:R<w4.heap.size:=by (obtain⟨v,h1,_⟩:=bm.blk;exact qn h1))) | (go_at_call 54;(go_call jD bm as e w5 ⟨rfl,bn,a5⟩;have ae:RpJ w (w5.alloc (.cells #[μ ύ,ω (num (tkB B 4)),ω 0,ω 0,ω 0,ω 0,ω 0,()] 289)) R w5.heap.size (λg=>af.heap.size<=g/\g<w4.heap.size) (.cells #[υ k,υ t,δ O B.length N] 291) (.cells Γd 289) [μ ύ,ω (num (tkB B 4)),ω 0,ω 0,ω 0,ω 0,ω 0] (δ ϋ 0 0) [] (tkL B 4,tkE B 4 0):=RpJ.new _ _ rfl aZ bb bn a5 aI bk bf bg;have ar:=β1 ae.b0))
 have ao:=κ ae;clear ae ar
 go_cut [] from 19 to 51 (λbQ=>RpJ w bQ R w5.heap.size (λg=>af.heap.size<=g/\g<w4.heap.size) (.cells #[υ k,υ t,δ O B.length N] 291) (.cells Γd 289) [μ snd,ω (num (tkB B 4)),ω inf.sec,ω inf.frac,ω inf.stamp,ω inf.pkts,ω inf.octs] (δ ϋ 0 0) [] s0)
 case first=>
  cases snd
  ·have h1:=aG.o;have h2:=aC.o;simp only[Ϯ,C2,C3] at h1 h2;obtain⟨rfl,rfl⟩:=h2;subst h1;have ar:=β1 ao.o.b0;go_wp2;go_meet;exact ao.o
  ·have h1:=aG.o;have h2:=aC.o;simp only[A0] at h1 h2;subst h1;have ag:inf=(jA (tkL B 4,tkE B 4 0)).1:=by rw[h2]
   have bC:s0=(jA (tkL B 4,tkE B 4 0)).2:=by rw[h2]
   subst ag bC;clear h2;have ar:=β1 ao.o.b0;have ae:RpJ w (w5.alloc (.cells #[μ ό,ω (num (tkB B 4)),ω 0,ω 0,ω 0,ω 0,ω 0,()] 289)) R w5.heap.size (λg=>af.heap.size<=g/\g<w4.heap.size) (.cells #[υ k,υ 200,δ O B.length N] 291) (.cells Γd 289) [μ ό,ω (num (tkB B 4)),ω 0,ω 0,ω 0,ω 0,ω 0] (δ ϋ 0 0) [] (tkL B 4,tkE B 4 0):=RpJ.new _ _ rfl aZ bb bn a5 aI bk bf bg
   go_wp2_with ((go_at_call 304;(go_call Kx (s:=(tkL B 4,tkE B 4 0)) ae.rd as e cr ⟨rfl,bo,aN⟩;have J:=ae.read bo aN;have ck:=β2 J.b5;have ct:=yw J.b5 2;have cl:=β3 J.b5;have cu:=yw J.b5 3;have cm:=β4 J.b5;have cv:=yw J.b5 4;have cn:=β5 J.b5;have cw:=yw J.b5 5;have co:=β6 J.b5;have cx:=yw J.b5 6;have bx:=(((((J.set 2 η (ω (jA (tkL B 4,tkE B 4 0)).1.sec)).set 3 η (ω (jA (tkL B 4,tkE B 4 0)).1.frac)).set 4 η (ω (jA (tkL B 4,tkE B 4 0)).1.stamp)).set 5 η (ω (jA (tkL B 4,tkE B 4 0)).1.pkts)).set 6 η (ω (jA (tkL B 4,tkE B 4 0)).1.octs));clear bo aN)))
   go_meet;exact bx
 case rest=>
 have aq:=hcut;have bV:=β0 aq.b0;go_wp2;clear bB aA ba bc;have aD:=κ aq;clear aq;obtain⟨aK,bW⟩: ∃aK,aK=R:=⟨_,rfl⟩;obtain⟨H,ai⟩: ∃H,H=w5.heap.size:=⟨_,rfl⟩;obtain⟨C,bd⟩: ∃C:Nat->Prop,C=λg=>af.heap.size<=g/\g<w4.heap.size:=⟨_,rfl⟩
 rw[<-ai,<-bd] at aD;have bT:=κ (O1 ai ap.o);rw[<-ai];clear ai bd;have bv:=bu
 go_loopw [29] (λaz wr=> ∃j:Nat,j<=G/\az= υ (j:Int)/\(∃v bl s,RpJ w wr R H C (.cells #[υ k,υ t,δ O B.length N] 291) (.cells Γd 289) [μ snd,ω (num (tkB B 4)),ω inf.sec,ω inf.frac,ω inf.stamp,ω inf.pkts,ω inf.octs] v bl s/\bl.length=j/\(js G s0).1=bl++(js (G-j) s).1/\(js G s0).2=(js (G-j) s).2)) (λaz _=>G-(intOf az).toNat)
 case atStart=>exact⟨0,τ,rfl,⟨_,_,_,aD.o,rfl,η,rfl⟩⟩
 case round=>
  obtain⟨j,bY,rfl,⟨v,bl,s,d,bi,ab,ac⟩⟩:=hrel;have U:=κ d;have aE:=κ bi;clear d bi;by_cases hlt:j<G
  ·have bF:(j:Int)<k:=by rw[ap.o];omega
   have ag:G-j=(G-(j+1))+1:=by omega
   have aw:=YY (G-(j+1)) s bl;rw[ag,aw.1] at ab;rw[ag,aw.2] at ac;have br:=κ ab;have bs:=κ ac;clear ab ac aw ag;have bZ:((j:Int)+1)%256=(j:Int)+1:=by omega
   have bH: ¬(H=R∨v.ownBlock=ϊ H):=by
    rintro(e | e)
    ·have:=U.o.h2;omega
    ·have:=U.o.row.ge e;omega
   have bS:=λ(x:qz (λb=>b=R∨v.ownBlock=ϊ b) wr)=>β7 (x.h.blk U.o.b5 bH)
   go_wp2_with fail
   refine QN (λb=>b=R∨v.ownBlock=ϊ b) wr 7 8 [3,4,5,7] ?_
   refine Qs3 ?_
   (refine Ql ?_;intro K I)
   refine(Kz (s:=s) (U.o.rd.more (ql.drewN _ 1))).mono ?_;rintro e w8 ⟨rfl,bO,aO⟩;have aP:jt (λb=>b=R∨v.ownBlock=ϊ b) wr w8:=((jt.refl _ _).drewN _).trans (aO.mono λb h=>ϒ h);refine⟨_,rfl,qi aP,I _ _ ?_⟩;clear I K
   (refine Ql ?_;intro K I)
   have a9:=aP.more (ql.alloc w8 (.cells #[ω (qM s).1.src,υ (qM s).1.part,χ (qM s).1.miss,ω (qM s).1.high,ω (qM s).1.jit,ω (qM s).1.last,ω (qM s).1.dly] 473));refine⟨qi a9,I _ _ ?_⟩;clear I K;have bz:=(U.o.on (ql.drewN wr 1)).read bO aO;have M:=bz.on (ql.alloc w8 (.cells #[ω (qM s).1.src,υ (qM s).1.part,χ (qM s).1.miss,ω (qM s).1.high,ω (qM s).1.jit,ω (qM s).1.last,ω (qM s).1.dly] 473));have bN:=Ux (s:=s) U.o.rd.byt
   (refine jR rfl rfl ?_;intro K I)
   refine zK (.tmp 32) (.tmp 35) 287 rfl (H+1) 473 bM (Γe) 7 28 underlying287 hi bJ bK bL rfl ζ v bl rfl M.row w8.heap.size (qM s).1.cells (qM s).1 rfl rfl (zS rfl) (by simp[Blk.cells,Value.oneCell']) (λ_ _=>⟨rfl,bN⟩) (λb aj=>by have:=M.h2;have:=qn M.b5;omega) ζ (by have:=aE.o;omega) (by have:=qn M.b5;omega) ?_;intro cq w10 av Y bE;have aM:jt (λb=>b=R∨v.ownBlock=ϊ b) wr w10:=a9.trans ⟨Y.os,Y.tape,Y.output,Y.size,λk bG bI=>Y.block k bG (λe=>bI (ϔ e.symm))⟩;have bw:=κ (M.put (by rfl) av Y);have cp:w10.cell? ⟨H,7,ϋ⟩=ϊ v:=by
    have:w10.heap[H]? =_:=(Y.block H (qn M.b5) (λe=>by have:=M.row.ge e.symm;omega)).trans M.b5;exact qm this 7 rfl
   have bR:w10.frozen? ⟨H,7,ϋ⟩=ύ:=by
    have:w10.heap[H]? =_:=(Y.block H (qn M.b5) (λe=>by have:=M.row.ge e.symm;omega)).trans M.b5;exact yw this 7
   obtain⟨cc,cb,bU,rfl,ax,ay⟩:=av.shape;clear ax ay av Y bE;refine⟨qi aM,I _ _ ?_⟩;clear I K;go_simp
   iterate 1 (refine qE rfl rfl (qi aM) ?_;intro K I;go_big_quiet_op;go_big_quiet_on)
   (refine Qe ?_;intro K I)
   refine I _ _ ?_;clear I K;refine qA ?_;go_wp2;go_roundw
   case rel=>exact⟨j+1,τ,by go_num,⟨_,_,_,bw.o,by (have:=aE.o;simp;omega),br.o,bs.o⟩⟩
   case measure=>simp[intOf];omega
  ·obtain rfl:j=G:=by omega
   rw[Nat.sub_self] at ab ac;have ab:(js j s0).1=bl:=by rw[ab];exact Ω _
   have ac:(js j s0).2=s:=ac;have aa:=bv.o;rw[ab,ac] at aa;unfold yZ at aa;have d:=U.o;have bF: ¬(j:Int)<k:=by rw[ap.o];omega
   obtain⟨an,am,ah,rfl,ax,ay⟩:=d.row.shape;have bA:=κ (d.row.sl ζ);have bp:Hid (∀b,(δ an am ah).ownBlock=ϊ b-> ¬b=w.heap.size+1):=κ (λb aj e=>by have:=d.row.ge aj;have:=d.h1;have:=d.h2;omega);have bq:Hid (jX w (δ an am ah)):=κ (λb aj=>by have:=d.row.ge aj;have:=d.h1;have:=d.h2;omega);have aJ:=κ d.more;clear ab ac ax ay;have cd:=β0 d.b5;have ce:=β1 d.b5;have p2:=β2 d.b5;have cf:=β3 d.b5;have cg:=β4 d.b5;have ch:=β5 d.b5;have ci:=β6 d.b5;have cj:=β7 d.b5;have aQ:=β0 d.b1;have z0:=yw d.b1 0;have aR:=β1 d.b1;have cy:=yw d.b1 1;have aS:=β2 d.b1;have cz:=yw d.b1 2;have aT:=β3 d.b1;have z3:=yw d.b1 3;have aU:=β4 d.b1;have z4:=yw d.b1 4;have aV:=β5 d.b1;have z5:=yw d.b1 5;have aW:=β6 d.b1;have cA:=yw d.b1 6;have aX:=β7 d.b1;have bR:=yw d.b1 7;by_cases he:wM s=0
   ·rw[ϐ he] at aa;have ad:=κ aa;clear aa d
    go_wp2_with (go_at_call 59;(go_call JD (s:=s) U.o.rd as e bP ⟨rfl,rfl⟩;rw[he]))
    (refine bodyPost_ret (v:= .tuple #[θ #[μ snd,ω (num (tkB B 4)),ω inf.sec,ω inf.frac,ω inf.stamp,ω inf.pkts,ω inf.octs,δ an am ah],ι 0]) ?rr3 rfl ?_;(case rr3=>(simp[results,results280,go_sem,aQ,aR,aS,aT,aU,aV,aW,aX])))
    refine⟨⟨δ an am ah,by first | (rw[<-ad.o];done) | (rw[<-ad.o];rfl), ?_⟩,((((((((aJ.o.st η _).st η _).st η _).st η _).st η _).st η _).st η _).st η _)⟩;rw[<-ad.o];exact⟨Yv bA.o bp.o ((((((((jt.refl (λb=>b=w.heap.size+1) _).set rfl _).set rfl _).set rfl _).set rfl _).set rfl _).set rfl _).set rfl _ |>.set rfl _),bq.o⟩
   ·rw[ώ he] at aa;have ad:=κ aa;have bX:(wM s != 0)=ό:=by simpa using he
    clear aa d
    go_wp2_with (go_at_call 59;(go_call JD (s:=s) U.o.rd as e bP ⟨rfl,rfl⟩))
    (refine bodyPost_ret (v:= .tuple #[Γd,ι (wM s)]) ?rr4 rfl ?_;(case rr4=>(simp[results,results280,go_sem,aQ,aR,aS,aT,aU,aV,aW,aX])))
    refine⟨⟨δ ϋ 0 0,by first | (rw[<-ad.o];done) | (rw[<-ad.o];rfl), ?_⟩,((((((((aJ.o.st η _).st η _).st η _).st η _).st η _).st η _).st η _).st η _)⟩;rw[<-ad.o];exact⟨SlP.nil _ _ _,jX.nil w⟩
def We (c:qQ) (U:SlI .u8 w vb c.2.2.1) (Y:xk c) (J:c.2.2.1.length<=1000000):
  Calls prog 280 #[θ #[υ c.1,υ c.2.1,vb]] w λe w'=>(∃vb,e= .returned (.tuple #[θ #[μ (qG c).1.snd,ω (qG c).1.src,ω (qG c).1.inf.sec,ω (qG c).1.inf.frac,ω (qG c).1.inf.stamp,ω (qG c).1.inf.pkts,ω (qG c).1.inf.octs,vb],ι (qG c).2])/\SlP 7 Yj w' vb (qG c).1.bl/\jX w vb)/\ql w w':=by
 obtain⟨k,t,B,⟨⟩⟩:=c;obtain⟨⟨ab,ac⟩,_,I⟩:=Y;simp only at *;have G:=κ U;obtain⟨M,H,rfl,_⟩:=U;cases hr:jx (k,t,B,()) with
 | false=>
  have e:qG (k,t,B,())=(Qh,1):=by unfold qG;rw[ϐ hr]
  rw[e];exact(Du k t B M H G (κ I) J (κ hr)).mono λe w' ⟨N,O⟩=>⟨⟨_,N,SlP.nil _ _ _,jX.nil w⟩,O⟩
 | true=>
  have aa:=((zO _).1 hr).1;simp only at aa;obtain⟨d,rfl⟩: ∃n:Nat,k=n:=⟨k.toNat,τ⟩;by_cases h200:t=200
  ·subst h200;have e:qG ((d:Int),200,B,())=yZ ⟨ό,num (tkB B 4),(jA (tkL B 4,tkE B 4 0)).1,(js d (jA (tkL B 4,tkE B 4 0)).2).1⟩ (js d (jA (tkL B 4,tkE B 4 0)).2).2:=by
    unfold qG;rw[ώ (by rw[hr];simp),ϐ rfl];rfl
   exact XL d 200 ό (jA (tkL B 4,tkE B 4 0)).1 (jA (tkL B 4,tkE B 4 0)).2 B M H _ G (κ I) J τ (κ hr) rfl rfl (κ e.symm)
  ·by_cases h201:t=201
   ·subst h201;have e:qG ((d:Int),201,B,())=yZ ⟨ύ,num (tkB B 4),Jj,(js d (tkL B 4,tkE B 4 0)).1⟩ (js d (tkL B 4,tkE B 4 0)).2:=by
     unfold qG;rw[ώ (by rw[hr];simp),ώ (show ¬(201:Int)=200 by decide),ϐ rfl];rfl
    exact XL d 201 ύ Jj (tkL B 4,tkE B 4 0) B M H _ G (κ I) J τ (κ hr) rfl rfl (κ e.symm)
   ·have e:qG ((d:Int),t,B,())=(Qh,5):=by unfold qG;rw[ώ (by rw[hr];simp),ώ h200,ώ h201]
    rw[e];exact(Y8 (d:Int) t B M H G (κ I) J (κ hr) h200 h201).mono λe w' ⟨N,O⟩=>⟨⟨_,N,SlP.nil _ _ _,jX.nil w⟩,O⟩
def jt.cons (h:jt (λk=>k=b) w w') (i:Nat) (v:Value):jt (λk=>k=b) w (w'.setCell ⟨b,i,ϋ⟩ v):=h.set (p:=⟨b,i,ϋ⟩) rfl v
def Jt {a0 I H a3 a4:Value} (h:w.heap[b]? =ϊ (.cells #[a0,I,H,a3,a4] t (0,0))) (v0 d G v3 v4:Value):(((((w.setCell ⟨b,0,ϋ⟩ v0).setCell ⟨b,1,ϋ⟩ d).setCell ⟨b,2,ϋ⟩ G).setCell ⟨b,3,ϋ⟩ v3).setCell ⟨b,4,ϋ⟩ v4).heap[b]? =ϊ (.cells #[v0,d,G,v3,v4] t (0,0)):=by
 have h:=qB (cs':= #[v0,I,H,a3,a4]) (qp h 0 v0) rfl;have h:=qB (cs':= #[v0,d,H,a3,a4]) (qp h 1 d) rfl;have h:=qB (cs':= #[v0,d,G,a3,a4]) (qp h 2 G) rfl;have h:=qB (cs':= #[v0,d,G,v3,a4]) (qp h 3 v3) rfl;exact qB (qp h 4 v4) rfl
def jt.st5 (w:World) (b:Nat) (v0 d G v3 v4:Value):jt (λk=>k=b) w (((((w.setCell ⟨b,0,ϋ⟩ v0).setCell ⟨b,1,ϋ⟩ d).setCell ⟨b,2,ϋ⟩ G).setCell ⟨b,3,ϋ⟩ v3).setCell ⟨b,4,ϋ⟩ v4):=((((((jt.refl (λk=>k=b) w).cons 0 v0).cons 1 d).cons 2 G).cons 3 v3).cons 4 v4)
def kG {a0 G a3 a4:Value} (h:w.heap[b]? =ϊ (.cells #[a0,d,G,a3,a4] t (0,0))):
  w.cell? ⟨b,0,ϋ⟩=ϊ a0/\w.cell? ⟨b,1,ϋ⟩=ϊ d/\w.cell? ⟨b,2,ϋ⟩=ϊ G/\w.cell? ⟨b,3,ϋ⟩=ϊ a3/\w.cell? ⟨b,4,ϋ⟩=ϊ a4:=
 ⟨qm h 0 rfl,qm h 1 rfl,qm h 2 rfl,qm h 3 rfl,qm h 4 rfl⟩
def Ws (h:w.heap[b]? =ϊ (.cells cs t (0,0))):
  w.frozen? ⟨b,0,ϋ⟩=ύ/\w.frozen? ⟨b,1,ϋ⟩=ύ/\w.frozen? ⟨b,2,ϋ⟩=ύ/\w.frozen? ⟨b,3,ϋ⟩=ύ/\w.frozen? ⟨b,4,ϋ⟩=ύ:=
 ⟨yw h 0,yw h 1,yw h 2,yw h 3,yw h 4⟩
def Ju {l:List (Int×Int)} (h:SlP 2 Vf w v l) (J: ∀b,v.ownBlock=ϊ b-> ¬S b) (a:jt S w w'):SlP 2 Vf w' v l:=by
 obtain⟨Y,cap,rfl,G,H,I⟩:=h;refine⟨Y,cap,rfl,G,λi hi=> ?_,I⟩;obtain⟨b,aa,cs,rfl,d,O,M,U⟩:=H i hi;exact⟨b,aa,cs,rfl,ϗ d a.size,O,λj N=>by rw[a.cells b _ d (J b rfl)];exact M j N,U⟩
structure MdJ (w0 w:World) (R Bm:Nat) (C:Nat->Prop) (o0 o1:Obj) (cs:Array Value) (s:RdS):Prop where
 rd:qu w R s.1 s.2 C
 b0:w.heap[w0.heap.size]? =ϊ o0
 b1:w.heap[w0.heap.size+1]? =ϊ o1
 bm:w.heap[Bm]? =ϊ (.cells cs 283 (0,0))
 more:ql w0 w
 h1:w0.heap.size+1<Bm
 h2:Bm<R
 hC: ∀g,C g->Bm<g
section
variable {w0 w w':World} {R Bm:Nat} {C:Nat->Prop} {o0 o1:Obj} {cs:Array Value} {s s':RdS}
def MdJ.read (h:MdJ w0 w R Bm C o0 o1 cs s) (r:qu w' R s'.1 s'.2 C) (a:jt (λb=>b=R) w w'):MdJ w0 w' R Bm C o0 o1 cs s':=by
 have h1:=h.h1;have h2:=h.h2;exact⟨r,a.blk h.b0 τ,a.blk h.b1 τ,a.blk h.bm τ,Jv a h.more τ,h1,h2,h.hC⟩
def MdJ.set (h:MdJ w0 w R Bm C o0 o1 cs s) (i:Nat) (x:Value):MdJ w0 (w.setCell ⟨Bm,i,ϋ⟩ x) R Bm C o0 o1 (cs.setIfInBounds i x) s:=by
 have h1:=h.h1;have h2:=h.h2;have a:jt (λb=>b=Bm) w (w.setCell ⟨Bm,i,ϋ⟩ x):=(jt.refl (λb=>b=Bm) w).set (p:=⟨Bm,i,ϋ⟩) rfl x;exact⟨h.rd.off a τ (λg d e=>by have:=h.hC g d;omega),a.blk h.b0 τ,a.blk h.b1 τ,qp h.bm i x,jt.to_more h.more a (λk G=>by omega),h1,h2,h.hC⟩
def MdJ.eq {cs':Array Value} (h:MdJ w0 w R Bm C o0 o1 cs s) (e:cs=cs'):MdJ w0 w R Bm C o0 o1 cs' s:=e▸h
end
def Er (a b:Int) (s:RdS):vD 1 a b s=vX ⟨1,a,b,[],[]⟩ s:=by unfold vD;rw[ώ ζ,ώ ζ]
def Eq (a b:Int) (s:RdS):vD 2 a b s=vX ⟨2,a,b,(jm s.1.length [] (zz b s)).1,[]⟩ (jm s.1.length [] (zz b s)).2:=by unfold vD;rw[ϐ rfl]
def Ep (a b:Int) (s:RdS):vD 3 a b s=vX ⟨3,a,b,[],(jc s.1.length [] (xK s)).1⟩ (jc s.1.length [] (xK s)).2:=by unfold vD;rw[ώ ζ,ϐ rfl]
def Z3 (b:Int) (s:RdS):(zz b s).1.length<=s.1.length:=by
 unfold zz;split
 ·exact vH s 2
 ·exact ϕ _
def uK: ∀(n m:Nat) (acc:List (Int×Int)) (s:RdS),s.1.length<=n->n<=m->jm m acc s=jm n acc s
 | 0,m,acc,s,h,_=>by
  obtain⟨l,e⟩:=s;obtain rfl:l=[]:=Ϧ (by simpa using h);rw[zE];rfl
 | n+1,m,acc,s,h,hm=>by
  obtain⟨m,rfl⟩: ∃k,m=k+1:=⟨m-1,τ⟩;by_cases hs:s.1=[]
  ·obtain⟨l,e⟩:=s;simp only at hs;subst hs;rw[zE,zE]
  ·rw[yg hs,yg hs];exact uK n m _ _ (by have:=Xo hs;omega) τ
def Dt (n t:Int) (B:List Int) (G:Option Addr) (d:Nat) (ac:Hid (SlI .u8 w (δ G B.length d) B)) (ad:B.length<=1000000) (Y:Hid (jx (n,t,B,())=ύ)):
  Calls prog 281 #[θ #[υ n,υ t,δ G B.length d]] w λe w'=>e= .returned (.tuple #[Γg,ι 1])/\ql w w':=by
 have aa:=κ (xR (w:=(w.alloc (.cells #[υ n,υ t,δ G B.length d] 291)).alloc (.cells Γg 283)) (n,t,B,()) (ac.o.keep (W4.al _)) ad);have U:=κ (qC (w:=w.alloc (.cells #[υ n,υ t,δ G B.length d] 291)) (n:=w.heap.size+1) (o:=(.cells Γg 283)) η)
 go_enter func281,ntmps281
 go_wp2_with (go_at_call 260;(go_call aa.o as e O ⟨rfl,I⟩;rw[Y.o];have H:=κ (qq I U.o);have ab:=κ (((ql.alloc w (.cells #[υ n,υ t,δ G B.length d] 291)).al (.cells Γg 283)).trans I);clear I;obtain⟨ap,aq,ar,au,av⟩:=kG H.o;obtain⟨aj,ak,am,an,ao⟩:=Ws H.o))
 have J:=Jt H.o (ι 0) (ω 0) (ω 0) (δ ϋ 0 0) (δ ϋ 0 0);have a5:=jt.st5 O (w.heap.size+1) (ι 0) (ω 0) (ω 0) (δ ϋ 0 0) (δ ϋ 0 0);have N:=jt.to_more ab.o a5 (λb e=>by omega);obtain⟨WF,M⟩:=ν ((((((O.setCell ⟨w.heap.size+1,0,ϋ⟩ (ι 0)).setCell ⟨w.heap.size+1,1,ϋ⟩ (ω 0)).setCell ⟨w.heap.size+1,2,ϋ⟩ (ω 0)).setCell ⟨w.heap.size+1,3,ϋ⟩ (δ ϋ 0 0)).setCell ⟨w.heap.size+1,4,ϋ⟩ (δ ϋ 0 0)));rw[M] at J N ⊢ a5;clear M;obtain⟨ae,af,ag,ah,ai⟩:=kG J
 (refine bodyPost_ret (v:= .tuple #[Γg,ι 1]) ?rr1 rfl ?_;(case rr1=>(simp[results,results281,go_sem,ae,af,ag,ah,ai])))
 exact⟨rfl,N⟩
def KA (n t:Int) (B:List Int) (G:Option Addr) (d:Nat) (ah:Hid (SlI .u8 w (δ G B.length d) B)) (ai:B.length<=1000000) (ad:Hid (jx (n,t,B,())=ό)) (ac:Hid (zy (n,t,B,())=0)):
  Calls prog 281 #[θ #[υ n,υ t,δ G B.length d]] w λe w'=>e= .returned (.tuple #[Γg,ι 5])/\ql w w':=by
 have ae:=κ (xR (w:=(w.alloc (.cells #[υ n,υ t,δ G B.length d] 291)).alloc (.cells Γg 283)) (n,t,B,()) (ah.o.keep (W4.al _)) ai);have Y:=κ (qs (qj w (.cells #[υ n,υ t,δ G B.length d] 291)) (.cells Γg 283));have aa:=κ (qC (w:=w.alloc (.cells #[υ n,υ t,δ G B.length d] 291)) (n:=w.heap.size+1) (o:=(.cells Γg 283)) η)
 go_enter func281,ntmps281
 go_wp2_with (first | (go_at_call 260;(go_call ae.o as e aE ⟨rfl,H⟩;rw[ad.o];have I:=κ (qq H Y.o);have ab:=κ (qq H aa.o);have af:=κ (((ql.alloc w (.cells #[υ n,υ t,δ G B.length d] 291)).al (.cells Γg 283)).trans H);clear H;have ap:=β0 I.o;have aq:=β1 I.o;have ar:=β2 I.o)) | (go_at_call 306;(go_call XN n t B G d _ as e w4 ⟨rfl,M⟩;rw[ac.o];have J:=κ (qs (qq M ab.o) (.cells Γg 283));have ag:=κ ((af.o.trans M).al (.cells Γg 283));clear M ap aq ar;obtain⟨az,aA,aB,aC,aD⟩:=kG J.o;obtain⟨au,av,aw,ax,ay⟩:=Ws J.o)))
 generalize w4.alloc (.cells Γg 283)=w5 at *;have N:=Jt J.o (ι 0) (ω 0) (ω 0) (δ ϋ 0 0) (δ ϋ 0 0);have a5:=jt.st5 w5 (w.heap.size+1) (ι 0) (ω 0) (ω 0) (δ ϋ 0 0) (δ ϋ 0 0);have U:=jt.to_more ag.o a5 (λb e=>by omega);obtain⟨WF,O⟩:=ν ((((((w5.setCell ⟨w.heap.size+1,0,ϋ⟩ (ι 0)).setCell ⟨w.heap.size+1,1,ϋ⟩ (ω 0)).setCell ⟨w.heap.size+1,2,ϋ⟩ (ω 0)).setCell ⟨w.heap.size+1,3,ϋ⟩ (δ ϋ 0 0)).setCell ⟨w.heap.size+1,4,ϋ⟩ (δ ϋ 0 0)));rw[O] at N U ⊢ a5;clear O;obtain⟨aj,ak,am,an,ao⟩:=kG N
 (refine bodyPost_ret (v:= .tuple #[Γg,ι 5]) ?rr2 rfl ?_;(case rr2=>(simp[results,results281,go_sem,aj,ak,am,an,ao])))
 exact⟨rfl,U⟩
def Cz (n t k:Int) (bz:k=1∨k=2∨k=3) (B:List Int) (ah:Option Addr) (ac:Nat) (D:Msg×Int) (bo:Hid (SlI .u8 w (δ ah B.length ac) B)) (be:Hid (Byt B)) (bA:B.length<=1000000) (bR:Hid (jx (n,t,B,())=ό)) (bO:Hid (zy (n,t,B,())=k))
  (bf:Hid (vD k (xP (B,0)) (xP (tkS (B,0) 4)) (tkS (tkS (B,0) 4) 4)=D)):
  Calls prog 281 #[θ #[υ n,υ t,δ ah B.length ac]] w λe w'=>(∃va vl,e= .returned (.tuple #[θ #[ι D.1.kind,ω D.1.snd,ω D.1.med,va,vl],ι D.2])/\DG w' va vl D.1/\jX w va/\jX w vl)/\ql w w':=by
 have bi:=κ (xR (w:=(w.alloc (.cells #[υ n,υ t,δ ah B.length ac] 291)).alloc (.cells Γg 283)) (n,t,B,()) (bo.o.keep (W4.al _)) bA);have ba:=κ (qs (qj w (.cells #[υ n,υ t,δ ah B.length ac] 291)) (.cells Γg 283));have bb:=κ (qC (w:=w.alloc (.cells #[υ n,υ t,δ ah B.length ac] 291)) (n:=w.heap.size+1) (o:=(.cells Γg 283)) η);obtain⟨aj,aO⟩: ∃x,num (tkB B 4)=x:=⟨_,rfl⟩;obtain⟨G,aD⟩: ∃x,num (tkB (tkS (B,0) 4).1 4)=x:=⟨_,rfl⟩;obtain⟨d,aP⟩: ∃x,tkS (tkS (B,0) 4) 4=x:=⟨_,rfl⟩;have bL:Hid (vD k aj G d=D):=κ (by rw[<-aO,<-aD,<-aP];exact bf.o);have bg:=κ aO;have bh:=κ aD;have bj:=κ aP;have cq:0<=G:=by
  have:=Jx (s:=tkS (B,0) 4) (jK (s:=(B,0)) be.o 4);rw[<-aD];exact this.1
 clear aO aD aP bf;have cp: ¬k=0:=by omega
 have bP:=κ bz;clear bz
 go_enter func281,ntmps281
 go_upto_region 9 with (first | (go_at_call 260;(go_call bi.o as e cz ⟨rfl,aE⟩;rw[bR.o];have ar:=κ (qq aE ba.o);have aG:=κ (qq aE bb.o);have bl:=κ (((ql.alloc w (.cells #[υ n,υ t,δ ah B.length ac] 291)).al (.cells Γg 283)).trans aE);clear aE;have ck:=β0 ar.o;have cl:=β1 ar.o;have aZ:=β2 ar.o)) | (go_at_call 306;(go_call XN n t B ah ac _ as e w4 ⟨rfl,aw⟩;rw[bO.o];have aF:=κ (qs (qq aw ar.o) (.cells #[ι k,ω 0,ω 0,(),()] 283));have bc:=κ (qs (qq aw aG.o) (.cells #[ι k,ω 0,ω 0,(),()] 283));have aM:=κ ((bl.o.trans aw).al (.cells #[ι k,ω 0,ω 0,(),()] 283));have bd:=κ (qj w4 (.cells #[ι k,ω 0,ω 0,(),()] 283));have bv:=κ (ϗ (qn aG.o) aw.size);clear aw ck cl aZ;have aZ:=β2 aF.o)) | (go_at_call 51;(go_call NV _ B _ (bo.o.keep aM.o) be.o bA as e w6 ⟨R,rfl,bx,bF,ax⟩;have aK:Hid (MdJ w w6 R w4.heap.size (λg=>(w4.alloc (.cells #[ι k,ω 0,ω 0,(),()] 283)).heap.size<=g/\g<w6.heap.size) (.cells #[υ n,υ t,δ ah B.length ac] 291) (.cells Γg 283) #[ι k,ω 0,ω 0,(),()] (B,0)):=κ ⟨bF,qq ax aF.o,qq ax bc.o,qq ax bd.o,aM.o.trans ax,bv.o,by (have:=bx;simp at this;omega),λg h=>by (have:=h.1;simp at this;omega)⟩;clear bx bF ax aZ)) | (go_at_call 54;((with_reducible refine(jD aK.o.rd).mono ?_);rintro e cA ⟨rfl,bG,bq⟩;rw[bg.o];have aB:=κ (aK.o.read (s':=tkS (B,0) 4) bG bq);clear bG bq;have ci:=β1 aB.o.bm;have cm:=yw aB.o.bm 1;have aL:=κ (aB.o.set 1 (ω aj)))) | (go_at_call 54;((with_reducible refine(jD aL.o.rd).mono ?_);rintro e w8 ⟨rfl,bH,br⟩;rw[bh.o];have aC:=κ (aL.o.read (s':=tkS (tkS (B,0) 4) 4) bH br);clear bH br ci cm;have aT:=β2 aC.o.bm;have cn:=yw aC.o.bm 2;have H:=κ ((aC.o.set 2 (ω G)).eq (cs':= #[ι k,ω aj,ω G,(),()]) rfl);have bD:=β0 H.o.bm)))
 rw[bj.o] at H;generalize cg:(λg=>(w4.alloc (.cells #[ι k,ω 0,ω 0,(),()] 283)).heap.size<=g/\g<w6.heap.size)=C at *;clear cg ba bb ar aG bl aF bc aM bd aK aB aL aC bi bg bh bj aT cn bv;generalize w4.heap.size=Bm at *;generalize w8.setCell ⟨Bm,2,ϋ⟩ (ω G)=w9 at *;have bD:=β0 H.o.bm
 go_upto_block 0 with fail
 go_cut [] from 27 to 62 (λaq=> ∃(ag ai:Option Addr) (ae af ab ad:Nat) (S:RdS) (m:Msg),MdJ w aq R Bm C (.cells #[υ n,υ t,δ ah B.length ac] 291) (.cells Γg 283) #[ι k,ω aj,ω G,δ ag ae ab,δ ai af ad] S/\vD k aj G d=vX m S/\(m.kind=k/\m.snd=aj/\m.med=G)/\DG aq (δ ag ae ab) (δ ai af ad) m/\(jX w (δ ag ae ab)/\jX w (δ ai af ad))/\ ∀b,((δ ag ae ab).ownBlock=ϊ b∨(δ ai af ad).ownBlock=ϊ b)-> ¬b=w.heap.size+1)
 case first=>
  rcases bP.o with rfl | rfl | rfl
  ·go_wp2;go_meet;exact⟨_,_,_,_,_,_,d,_,H.o,Er _ _ _,⟨rfl,rfl,rfl⟩,⟨SlP.nil _ _ _,SlI.nil _ _⟩,⟨jX.nil w,jX.nil w⟩,λb h=>by rcases h with h | h<;>cases h⟩
  ·have aT:=β2 H.o.bm
   go_upto_region 11 with fail
   obtain⟨Q,bw⟩: ∃Q:Bool,Q=decide (¬G=0∨d.1.length=0∨ ¬d.1.length%8=0):=⟨_,rfl⟩;have an:=κ bw;clear bw
   go_cut [44] from 31 to 43 (λv aq=>v= μ Q/\w9=aq)
   case first=>
    by_cases c1:G=0
    ·have bm:(G != 0)=ύ:=by simpa using c1
     by_cases c2:d.1.length=0
     ·have bU:((d.1.length:Int)==0)=ό:=eqB τ;have O:Hid (ό=Q):=κ (by rw[an.o];exact(ϭ (ϔ (ϒ c2))).symm);clear c1 c2
      go_wp2_with (go_at_call 57;(go_call yd H.o.rd as e w10 ⟨rfl,rfl⟩))
      go_meet;rw[<-O.o];exact⟨rfl,rfl⟩
     ·have bU:((d.1.length:Int)==0)=ύ:=neB τ;by_cases c3:d.1.length%8=0
      ·have bV:((d.1.length:Int)%8 != 0)=ύ:=by simp;omega
       have O:Hid (ύ=Q):=κ (by rw[an.o];exact(ϫ (by rintro(h | h | h);exact h c1;exact c2 h;exact h c3)).symm);clear c1 c2 c3
       go_wp2_with (go_at_call 57;(go_call yd H.o.rd as e w10 ⟨rfl,rfl⟩))
       go_meet;rw[<-O.o];exact⟨rfl,rfl⟩
      ·have bV:((d.1.length:Int)%8 != 0)=ό:=by simp;omega
       have O:Hid (ό=Q):=κ (by rw[an.o];exact(ϭ (ϔ (ϔ c3))).symm);clear c1 c2 c3
       go_wp2_with (go_at_call 57;(go_call yd H.o.rd as e w10 ⟨rfl,rfl⟩))
       go_meet;rw[<-O.o];exact⟨rfl,rfl⟩
    ·have bm:(G != 0)=ό:=by simpa using c1
     have O:Hid (ό=Q):=κ (by rw[an.o];exact(ϭ (ϒ c1)).symm);clear c1
     go_wp2_with (go_at_call 57;(go_call yd H.o.rd as e w10 ⟨rfl,rfl⟩))
     go_meet;rw[<-O.o];exact⟨rfl,rfl⟩
   case rest=>
   obtain⟨rfl,rfl⟩:=hcut
   go_upto_if 44 with fail
   go_cut [] from 45 to 46 (λaq=>MdJ w aq R Bm C (.cells #[υ n,υ t,δ ah B.length ac] 291) (.cells Γg 283) #[ι 2,ω aj,ω G,(),()] (zz G d))
   case first=>
    have bS:=κ (zo (s:=d) H.o.rd 2);cases Q with
    | true=>
     have O:Hid (zz G d=wrS d 2):=κ (by unfold zz;rw[ϐ (ϟ an.o.symm)])
     go_wp2_with (first | (go_at_call 55;(go_call bS.o as e cy ⟨rfl,bE,bp⟩;have bT:=κ (H.o.read (s':=wrS d 2) bE bp);clear bE bp)))
     go_meet;rw[O.o];exact bT.o
    | false=>
     have O:Hid (zz G d=d):=κ (by unfold zz;rw[ώ (C1 an.o.symm)]);go_wp2;go_meet;rw[O.o];exact H.o
   case rest=>
   have ap:=κ hcut;clear hcut H aT an;have bQ:=κ (Z3 G d);have ch:R<wc.heap.size:=by obtain⟨v,aN,_⟩:=ap.o.rd.blk;exact qn aN
   go_wp2_with (go_at_call 307;(go_call Y7 (s0:=zz G d) ap.o.rd ch as e az ⟨cj,rfl,Y⟩;have aa:=κ Y;have ao:=κ (ap.o.read (s':=(jm (zz G d).1.length [] (zz G d)).2) (Y.rd.mono (λg h=>h.1)) Y.away);obtain⟨N,M,J,rfl,aR,aS⟩:=Y.row.shape;clear aR aS Y;have cw:=β3 ao.o.bm;have z3:=yw ao.o.bm 3;have I:=κ ((ao.o.set 3 (δ N M J)).eq (cs':= #[ι 2,ω aj,ω G,δ N M J,()]) rfl)))
   have aJ:Hid (SlP 2 Vf (az.setCell ⟨Bm,3,ϋ⟩ (δ N M J)) (δ N M J) (jm (zz G d).1.length [] (zz G d)).1):=κ (Ju (aa.o.row.sl ζ) (λb U e=>by have:=aa.o.row.ge U;have:=qn ap.o.bm;omega) ((jt.refl (λb=>b=Bm) az).set (p:=⟨Bm,3,ϋ⟩) rfl _));have aI:Hid (∀b,(δ N M J).ownBlock=ϊ b-> ¬b=w.heap.size+1):=κ (λb U e=>by have:=aa.o.row.ge U;have:=qn ap.o.b1;omega);have aH:Hid (jX w (δ N M J)):=κ (λb U=>by have:=aa.o.row.ge U;have:=qn ap.o.b1;omega);have bN:=κ (uK (zz G d).1.length d.1.length [] (zz G d) (ϕ _) bQ.o);go_meet;exact⟨_,_,_,_,_,_,_,_,I.o,(by rw[Eq,bN.o]),⟨rfl,rfl,rfl⟩,⟨aJ.o,SlI.nil _ _⟩,⟨aH.o,jX.nil w⟩,λb h=>by rcases h with h | h;exact aI.o b h;cases h⟩
  ·go_wp2_with (go_at_call 308;(go_call Y6 (s0:=d) H.o.rd (by obtain⟨v,aN,_⟩:=H.o.rd.blk;exact qn aN) as e az ⟨cj,rfl,Y⟩;have aa:=κ Y;have ao:=κ (H.o.read (s':=(jc d.1.length [] (xK d)).2) (Y.rd.mono (λg h=>h.1)) Y.away);obtain⟨N,M,J,rfl,aR,aS⟩:=qT Y.row;clear aR aS Y;have cx:=β4 ao.o.bm;have z4:=yw ao.o.bm 4;have I:=κ ((ao.o.set 4 (δ N M J)).eq (cs':= #[ι 3,ω aj,ω G,(),δ N M J]) rfl)))
   have aJ:Hid (SlI .u16 (az.setCell ⟨Bm,4,ϋ⟩ (δ N M J)) (δ N M J) (jc d.1.length [] (xK d)).1):=κ (SlI.off (SlI.of_owns aa.o.row (Ma aa.o.row)) (λb U e=>by have:=jG aa.o.row U;have:=qn H.o.bm;omega) ((jt.refl (λb=>b=Bm) az).set (p:=⟨Bm,4,ϋ⟩) rfl _));have aI:Hid (∀b,(δ N M J).ownBlock=ϊ b-> ¬b=w.heap.size+1):=κ (λb U e=>by have:=jG aa.o.row U;have:=qn H.o.b1;omega);have aH:Hid (jX w (δ N M J)):=κ (λb U=>by have:=jG aa.o.row U;have:=qn H.o.b1;omega);go_meet;exact⟨_,_,_,_,_,_,_,_,I.o,(by rw[Ep]),⟨rfl,rfl,rfl⟩,⟨SlP.nil _ _ _,aJ.o⟩,⟨jX.nil w,aH.o⟩,λb h=>by rcases h with h | h;cases h;exact aI.o b h⟩
 case rest=>
 obtain⟨ag,ai,ae,af,ab,ad,S,m,bC,bs,⟨rfl,rfl,rfl⟩,bI,⟨bt,bu⟩,bB⟩:=hcut;have I:=κ bC;have bn:=κ bI;have bJ:=κ bt;have bK:=κ bu;have bk:=κ bB;have ak:=bL.o;rw[bs] at ak;unfold vX at ak;clear bC bs bI bt bu bB H bD;by_cases he:wM S=0
 ·rw[ϐ he] at ak;have am:=κ ak;have bM:=κ he;obtain⟨cr,ct,p2,cu,cv⟩:=kG I.o.bm;obtain⟨cb,cc,cd,ce,cf⟩:=kG I.o.b1;obtain⟨bW,bX,bY,bZ,ca⟩:=Ws I.o.b1;clear ak he
  go_wp2_with (go_at_call 59;(go_call JD (s:=S) I.o.rd as e aA ⟨rfl,aQ⟩;subst aQ;rw[bM.o]))
  have au:=Jt I.o.b1 (ι m.kind) (ω m.snd) (ω m.med) (δ ag ae ab) (δ ai af ad);have a5:=jt.st5 aA (w.heap.size+1) (ι m.kind) (ω m.snd) (ω m.med) (δ ag ae ab) (δ ai af ad);have ay:=jt.to_more I.o.more a5 (λb e=>by omega);obtain⟨WF,av⟩:=ν ((((((aA.setCell ⟨w.heap.size+1,0,ϋ⟩ (ι m.kind)).setCell ⟨w.heap.size+1,1,ϋ⟩ (ω m.snd)).setCell ⟨w.heap.size+1,2,ϋ⟩ (ω m.med)).setCell ⟨w.heap.size+1,3,ϋ⟩ (δ ag ae ab)).setCell ⟨w.heap.size+1,4,ϋ⟩ (δ ai af ad)));rw[av] at au ay ⊢ a5;clear av;obtain⟨aU,aV,aW,aX,aY⟩:=kG au
  (refine bodyPost_ret (v:= .tuple #[θ #[ι m.kind,ω m.snd,ω m.med,δ ag ae ab,δ ai af ad],ι 0]) ?rr3 rfl ?_;(case rr3=>(simp[results,results281,go_sem,aU,aV,aW,aX,aY])))
  refine⟨⟨δ ag ae ab,δ ai af ad,by first | (rw[<-am.o];done) | (rw[<-am.o];rfl), ?_⟩,ay⟩;rw[<-am.o];exact⟨⟨Ju bn.o.asks (λb h=>bk.o b (ϒ h)) a5,SlI.off bn.o.lost (λb h=>bk.o b (ϔ h)) a5⟩,bJ.o,bK.o⟩
 ·rw[ώ he] at ak;have am:=κ ak;have co:(wM S != 0)=ό:=by simpa using he
  obtain⟨cb,cc,cd,ce,cf⟩:=kG I.o.b1;obtain⟨bW,bX,bY,bZ,ca⟩:=Ws I.o.b1;clear ak he
  go_wp2_with (go_at_call 59;(go_call JD (s:=S) I.o.rd as e aA ⟨rfl,aQ⟩;subst aQ))
  have au:=Jt I.o.b1 (ι 0) (ω 0) (ω 0) (δ ϋ 0 0) (δ ϋ 0 0);have a5:=jt.st5 aA (w.heap.size+1) (ι 0) (ω 0) (ω 0) (δ ϋ 0 0) (δ ϋ 0 0);have ay:=jt.to_more I.o.more a5 (λb e=>by omega);obtain⟨WF,av⟩:=ν ((((((aA.setCell ⟨w.heap.size+1,0,ϋ⟩ (ι 0)).setCell ⟨w.heap.size+1,1,ϋ⟩ (ω 0)).setCell ⟨w.heap.size+1,2,ϋ⟩ (ω 0)).setCell ⟨w.heap.size+1,3,ϋ⟩ (δ ϋ 0 0)).setCell ⟨w.heap.size+1,4,ϋ⟩ (δ ϋ 0 0)));rw[av] at au ay ⊢ a5;clear av;obtain⟨aU,aV,aW,aX,aY⟩:=kG au
  (refine bodyPost_ret (v:= .tuple #[Γg,ι (wM S)]) ?rr4 rfl ?_;(case rr4=>(simp[results,results281,go_sem,aU,aV,aW,aX,aY])))
  refine⟨⟨δ ϋ 0 0,δ ϋ 0 0,by first | (rw[<-am.o];done) | (rw[<-am.o];rfl), ?_⟩,ay⟩;rw[<-am.o];exact⟨⟨SlP.nil _ _ _,SlI.nil _ _⟩,jX.nil w,jX.nil w⟩
def Wd (c:qQ) (N:SlI .u8 w vb c.2.2.1) (U:xk c) (J:c.2.2.1.length<=1000000):
  Calls prog 281 #[θ #[υ c.1,υ c.2.1,vb]] w λe w'=>(∃va vl,e= .returned (.tuple #[θ #[ι (qJ c).1.kind,ω (qJ c).1.snd,ω (qJ c).1.med,va,vl],ι (qJ c).2])/\DG w' va vl (qJ c).1/\jX w va/\jX w vl)/\ql w w':=by
 obtain⟨n,t,B,⟨⟩⟩:=c;obtain⟨_,_,O⟩:=U;simp only at *;have d:=κ N;obtain⟨M,G,rfl,_⟩:=N;cases hr:jx (n,t,B,()) with
 | false=>
  have e:qJ (n,t,B,())=(JI,1):=by unfold qJ;rw[ϐ hr]
  rw[e];exact(Dt n t B M G d J (κ hr)).mono λe w' ⟨H,I⟩=>⟨⟨_,_,H,⟨SlP.nil _ _ _,SlI.nil _ _⟩,jX.nil w,jX.nil w⟩,I⟩
 | true=>
  by_cases h0:zy (n,t,B,())=0
  ·have e:qJ (n,t,B,())=(JI,5):=by unfold qJ;rw[ώ (by rw[hr];simp),ϐ h0]
   rw[e];exact(KA n t B M G d J (κ hr) (κ h0)).mono λe w' ⟨H,I⟩=>⟨⟨_,_,H,⟨SlP.nil _ _ _,SlI.nil _ _⟩,jX.nil w,jX.nil w⟩,I⟩
  ·have e:qJ (n,t,B,())=vD (zy (n,t,B,())) (xP (B,0)) (xP (tkS (B,0) 4)) (tkS (tkS (B,0) 4) 4):=by unfold qJ;rw[ώ (by rw[hr];simp),ώ h0]
   rw[e];exact Cz n t _ (UP h0).2 B M G _ d (κ O) J (κ hr) (κ rfl) (κ rfl)
section
open Go.RowKit Go.Lib
structure Gq (w:World) (vb va vl vo:Value) (x:Itm):Prop where
 bl:SlP 7 Yj w vb x.rep.bl
 ms:DG w va vl x.msg
 bo:SlI .u8 w vo x.oth.2.2.1
def Hx (x:Itm) (vb va vl vo:Value):List Value:=[.int .i64 x.kind,.bool x.rep.snd,.int .u32 x.rep.src,.int .u32 x.rep.inf.sec,.int .u32 x.rep.inf.frac,.int .u32 x.rep.inf.stamp,.int .u32 x.rep.inf.pkts,.int .u32 x.rep.inf.octs,vb,.int .i64 x.msg.kind,.int .u32 x.msg.snd,.int .u32 x.msg.med,va,vl,.int .u8 x.oth.1,.int .u8 x.oth.2.1,vo]
def Qk:qL Itm:=λw cs x=> ∃vb va vl vo,cs=Hx x vb va vl vo/\Gq w vb va vl vo x/\Wu x
def Y0 {o:Nat} {cs:List Value} (h:w.rangeAt b o cs) (m:ql w w') (d:b<w.heap.size):w'.rangeAt b o cs:=λj v G=>by
 rw[m.cells b _ d];exact h j v G
def jU {a:Act} (M:o.guard=ϋ) (G:TypeId) (x y:Operand) (N:o.op= .store G x y)
  (H:World) (c d:Array Value) (U:w=H.alloc (.cells c G)) (Y:a.eval x= γ H.heap.size) (aa:a.eval y= θ d)
  (hi:(P.info? G).map (·.size)=ϊ d.size) (O:c.size=d.size) (I:d.all (·.oneCell')=ό)
  (h:wpList P ops Q rest (a.put o.dst undef) (H.alloc (.cells d G))):wpList P ops Q (o::rest) a w:=by
 subst U;refine wpList_plain M λK J=> ?_
 unfold Oper.wp execOp;simp only[N,Y,aa,Sem.run_bind,Sem.run_pure,Result.andThen_ok,run_storeAt_new H G c d hi O I];exact J _ _ h
def Mf {l:List Itm} (h:SlP 17 Qk w v l): ∃M cap,v= δ M l.length cap/\(l.length:Int)<=9223372036854775807/\(∀i,i<l.length-> ∃b aa N G O H U I Y J,M=ϊ ⟨b,aa,ϋ⟩/\b<w.heap.size/\
  w.rangeAt b (aa+i* 17) (Hx (l.getD i wL) (δ N (l.getD i wL).rep.bl.length G) (δ O (l.getD i wL).msg.asks.length H) (δ U (l.getD i wL).msg.lost.length I) (δ Y (l.getD i wL).oth.2.2.1.length J))/\
  Gq w (δ N (l.getD i wL).rep.bl.length G) (δ O (l.getD i wL).msg.asks.length H) (δ U (l.getD i wL).msg.lost.length I) (δ Y (l.getD i wL).oth.2.2.1.length J) (l.getD i wL))/\ ∀x∈l,Wu x:=by
 obtain⟨M,cap,ad,ae,af,aj⟩:=id h;refine⟨M,cap,ad,ae,λi hi=> ?_,Ei h (λcs y ⟨_,_,_,_,_,_,k⟩=>k)⟩;obtain⟨b,aa,cs,e,ag,al,ah,vb,am,an,vo,rfl,d,ak⟩:=af i hi;have ac:l.getD i wL=l[i]:=by simp[hi]
 rw[ac];generalize l[i]=x at *;obtain⟨N,G,rfl,_⟩:=id d.bl;obtain⟨O,H,rfl,_⟩:=id d.ms.asks;obtain⟨U,I,rfl,_⟩:=id d.ms.lost;obtain⟨Y,J,rfl,_⟩:=id d.bo;refine⟨b,aa,N,G,O,H,U,I,Y,J,e,ag,λj v ab=> ?_,d⟩;have ai:j<17:=(Ϛ.1 ab).1;rw[ah j ai];exact ab
def JC {a0 U a3 a4 a5 Y aa ab a9 G H I J M N O:Value} (h:w.heap[b]? =ϊ (.cells #[a0,d,U,a3,a4,a5,Y,aa,ab,a9,G,H,I,J,M,N,O] t (0,0))):
  (w.cell? ⟨b,0,ϋ⟩=ϊ a0/\w.cell? ⟨b,1,ϋ⟩=ϊ d/\w.cell? ⟨b,2,ϋ⟩=ϊ U/\w.cell? ⟨b,3,ϋ⟩=ϊ a3/\w.cell? ⟨b,4,ϋ⟩=ϊ a4/\w.cell? ⟨b,5,ϋ⟩=ϊ a5/\w.cell? ⟨b,6,ϋ⟩=ϊ Y/\w.cell? ⟨b,7,ϋ⟩=ϊ aa/\w.cell? ⟨b,8,ϋ⟩=ϊ ab)/\
  (w.cell? ⟨b,9,ϋ⟩=ϊ a9/\w.cell? ⟨b,10,ϋ⟩=ϊ G/\w.cell? ⟨b,11,ϋ⟩=ϊ H/\w.cell? ⟨b,12,ϋ⟩=ϊ I/\w.cell? ⟨b,13,ϋ⟩=ϊ J)/\(w.cell? ⟨b,14,ϋ⟩=ϊ M/\w.cell? ⟨b,15,ϋ⟩=ϊ N/\w.cell? ⟨b,16,ϋ⟩=ϊ O):=
 ⟨⟨qm h 0 rfl,qm h 1 rfl,qm h 2 rfl,qm h 3 rfl,qm h 4 rfl,qm h 5 rfl,qm h 6 rfl,qm h 7 rfl,qm h 8 rfl⟩,⟨qm h 9 rfl,qm h 10 rfl,qm h 11 rfl,qm h 12 rfl,qm h 13 rfl⟩,qm h 14 rfl,qm h 15 rfl,qm h 16 rfl⟩
end
section
open Go.RowKit Go.Lib
structure CY (x:Itm):Prop where
 bl:x.rep.bl.length<=100000
 asks:x.msg.asks.length<=100000
 lost:x.msg.lost.length<=100000
 oth:x.oth.2.2.1.length<=1000000
end
section
open Go.RowKit Go.Lib
def PR {j:Nat} (h:j<l.length):l.drop j=l.getD j 0::l.drop (j+1):=by
 rw[F2 h,ϑ,ϖ h,ϥ]
def gh (l:List Int) (v:Value) (w:World) (Y:SlI .i64 w v l):
  Calls prog 242 #[v] w λe w'=>e= .returned (ι (vg l))/\w=w':=by
 obtain⟨af,cap,rfl,ad,J,_⟩:=Y;have O:=κ J;clear J
 go_enter func242,ntmps242
 go_wp2
 go_loop [7] (λH=> ∃j:Nat,j<=l.length/\H= ι j/\vg l=vg (l.drop j)) (λH=>l.length-(intOf H).toNat)
 case atStart=>exact⟨0,τ,rfl,rfl⟩
 case round=>
  obtain⟨j,ac,rfl,M⟩:=hrel;have d:=κ M;clear M;by_cases hlt:j<l.length
  ·obtain⟨b,ag,rfl,aa,ab⟩:=O.o j hlt;have I:=κ (PR hlt);have ae:(j:Int)<(l.length:Int):=by omega
   generalize l.getD j 0=x at *;by_cases hx:x=0
   ·have U:(x != 0)=ύ:=by simp[hx]
    have G:=κ hx;clear hx;go_wp2
    go_round
    case rel=>exact⟨j+1,τ,by go_num,by rw[d.o,I.o];show (if x=0 then _ else _)=_;rw[ϐ G.o]⟩
    case measure=>simp[intOf];omega
   ·have U:(x != 0)=ό:=by simp[hx]
    have G:=κ hx;clear hx;go_wp2;go_ret;exact⟨by rw[d.o,I.o];show _=Ending.returned (ι (if x=0 then _ else _));rw[ώ G.o];rfl,rfl⟩
  ·obtain rfl:j=l.length:=by omega
   have N:Hid (vg l=0):=κ (by rw[d.o,List.drop_length];rfl);go_wp2;go_ret;exact⟨by rw[N.o];rfl,rfl⟩
def Ww (w:World) (v vo:Value):Prop:=jX w v∨v=vo
def SlI.off2 (h:SlI k w v l) (H:l≠[]-> ∀b,v.ownBlock=ϊ b-> ¬D b) (a:jt D w w'):SlI k w' v l:=by
 by_cases e:l=[]
 ·subst e;obtain⟨I,cap,rfl,d,J,G⟩:=h;exact⟨I,cap,rfl,d,λi hi=>by simp at hi,G⟩
 ·exact h.off (H e) a
def SlI.old (h:SlI k w v l) (H:l≠[]) (d:v.ownBlock=ϊ b):b<w.heap.size:=by
 obtain⟨O,cap,rfl,M,G,N⟩:=h;obtain⟨J,U,rfl,I,_⟩:=G 0 (B4.2 H);injection d with d
 subst d;exact I
end
section
open Go.RowKit Go.Lib
def wG: ∀(n:Nat) (acc:List (Int×Int)) (s:RdS),s.1.length<=n->(jm n acc s).1.length<=acc.length+s.1.length
 | 0,acc,s,_=>E8 _ _
 | n+1,acc,s,h=>by
  by_cases hs:s.1=[]
  ·obtain⟨l,e⟩:=s;simp only at hs;subst hs;rw[zE];exact E8 _ _
  ·rw[yg hs];have G:=Xo hs;have d:=wG n (acc++[(wu s).1]) (wu s).2 τ;rw[Ϗ,M9] at d;omega
def wF: ∀(n:Nat) (acc:List Int) (s:RdS),s.1.length<=n->(jc n acc s).1.length<=acc.length+17* s.1.length
 | 0,acc,s,_=>E8 _ _
 | n+1,acc,s,h=>by
  by_cases hs:s.1=[]
  ·obtain⟨l,e⟩:=s;simp only at hs;subst hs;rw[wE];exact E8 _ _
  ·rw[uJ hs];have G:=WK hs;have I:=VD acc (prS s).1 (prS s).2;have d:=wF n (acc++prN (prS s).1) (gm acc (prS s).1 (prS s).2) τ;have H:=(WM (prS s).1).2;rw[Ϗ] at d;omega
def Ps (s:RdS):(xK s).1.length<=s.1.length:=by
 unfold xK;split
 ·exact vH s 2
 ·exact ϕ _
def Kg (h:c.2.2.1.length<=400):(qJ c).1.asks.length<=100000/\(qJ c).1.lost.length<=100000:=by
 have H: ∀(m:Msg) (s:RdS),m.asks.length<=100000/\m.lost.length<=100000->(vX m s).1.asks.length<=100000/\(vX m s).1.lost.length<=100000:=by
  intro m s h;unfold vX;split
  ·exact h
  ·exact⟨Ψ _,Ψ _⟩
 have I:(tkS (tkS (c.2.2.1,0) 4) 4).1.length<=400:=Ϙ (uN _ _) (Ϙ (uN _ _) h);unfold qJ;split
 ·exact⟨Ψ _,Ψ _⟩
 ·split
  ·exact⟨Ψ _,Ψ _⟩
  ·unfold vD;generalize tkS (tkS (c.2.2.1,0) 4) 4=s at *;split
   ·have d:=Z3 (xP (tkS (c.2.2.1,0) 4)) s;have G:=wG s.1.length [] (zz (xP (tkS (c.2.2.1,0) 4)) s) d;exact H _ _ ⟨by simp only[Ϫ] at G ⊢;omega,Ψ _⟩
   ·split
    ·have d:=Ps s;have G:=wF s.1.length [] (xK s) d;exact H _ _ ⟨Ψ _,by simp only[Ϫ] at G ⊢;omega⟩
    ·exact H _ _ ⟨Ψ _,Ψ _⟩
end
section
open Go.RowKit Go.Lib
def je.other {R:qL α} {D':Nat->Prop} {e:Nat} (h:je n R D w base e v L) (k: ∀b,D' b->D b∨w.heap.size<=b):je n R D' w base e v L:=by
 obtain⟨⟨xs,G,H⟩,I⟩:=id h;refine⟨⟨xs,G,λi hi=>(H i hi).other λb d=> ?_⟩,λb d J=> ?_⟩
 ·rcases d with d | d
  ·exact(k b d).elim (λx=>ϒ (ϒ x)) ϔ
  ·exact ϒ (ϔ d)
 ·rcases k b J with x | x
  ·exact I b d x
  ·have:=h.lt d;omega
def je.beside {R:qL α} {e:Nat} {G:Value} (h:je n R (λb=>u.ownBlock=ϊ b) w base e v L) (g:w.grownBy w' u.ownBlock) (M:G.ownBlock=u.ownBlock∨G.ownBlock=ϊ w.heap.size):je n R (λb=>G.ownBlock=ϊ b) w' base e v L:=by
 have H:=h.other (D':=λb=>u.ownBlock=ϊ b∨w.heap.size<=b) (λb d=>d);have a:jt (λb=>u.ownBlock=ϊ b∨w.heap.size<=b) w w':=⟨g.os,g.tape,g.output,g.size,λk I J=>g.block k I (λe=>J (ϒ e.symm))⟩;refine(H.step a).other λb d=>ϒ ?_
 rcases M with e | e
 ·exact ϒ (by rw[<-e];exact d)
 ·rw[e] at d;injection d with d;exact ϔ τ
def Dd (s:SlI .u8 w d c.2.2.1) (H:xk c) (G:c.2.2.1≠[]-> ∀g,d.ownBlock=ϊ g-> ¬D g):jw yH D w [υ c.1,υ c.2.1,d] c:=
 λ_ a=>VU (s.off2 G a) H
def xl {e:Nat} (h:w.ownsRow base e size v n xs): ∃oa cap,v= δ oa n cap:=by
 rcases h.2 with ⟨rfl,d⟩ | ⟨g,cap,cur,rfl,_⟩
 ·exact⟨ϋ,0,by rw[d]⟩
 ·exact⟨_,cap,rfl⟩
structure ChJ (w wr:World) (u v:Value) (A:List qQ) (E:List Int):Prop where
 row:je 3 yH (λb=>v.ownBlock=ϊ b) wr w.heap.size 291 u A
 errs:wr.ownsRow w.heap.size 29 1 v E.length (E.map (Value.int .i64))
 more:ql w wr
def ChJ.on {A:List qQ} (h:ChJ w wr u v A E) (m:ql wr w'):ChJ w w' u v A E:=⟨h.row.on m,jE h.errs m,h.more.trans m⟩
def ChJ.put {A A':List qQ} (h:ChJ w wr u v A E) (I:je 3 yH (λb=>v.ownBlock=ϊ b) w' w.heap.size 291 d A') (g:wr.grownBy w' u.ownBlock):ChJ w w' d v A' E:=
 ⟨I,XB h.errs g (λb G e=>h.row.apart b e G),Below.grown h.more g h.more.size (λk H=>h.row.ge H)⟩
def ChJ.err {A:List qQ} {E':List Int} (h:ChJ w wr u v A E) (G:w'.ownsRow w.heap.size 29 1 v' E'.length (E'.map (Value.int .i64))) (g:wr.grownBy w' v.ownBlock) (H:v'.ownBlock=v.ownBlock∨v'.ownBlock=ϊ wr.heap.size):ChJ w w' u v' A E':=
 ⟨h.row.beside g H,G,Below.grown h.more g h.more.size (λk d=>jG h.errs d)⟩
end
section
open Go.RowKit Go.Lib
def If {g e:Nat} {cur:Array Value} (h:w.heap[g]? =ϊ (.cells cur e (0,0))) (cs:Array Value):(w.setRow g cs).heap[g]? =ϊ (.cells cs e (0,0)):=setRow_heap w g cur cs e (0,0) h
def En (w:World) (g:Nat) (cs:Array Value):jt (λk=>k=g) w (w.setRow g cs):=by
 refine⟨rfl,rfl,rfl,by simp[World.setRow],λb G d=> ?_⟩;unfold World.setRow;simp only;rw[F4,ώ (λe=>d e.symm)]
def zr {a:Act} (M:o.guard=ϋ) (G:TypeId) (x y:Operand) (N:o.op= .store G x y)
  (g:Nat) (t:TypeId) (c d:Array Value) (J:w.heap[g]? =ϊ (.cells c t (0,0))) (U:a.eval x= γ g) (Y:a.eval y= θ d)
  (hi:(P.info? G).map (·.size)=ϊ d.size) (O:c.size=d.size) (H:d.all (·.oneCell')=ό)
  (h:wpList P ops Q rest (a.put o.dst undef) (w.setRow g d)):wpList P ops Q (o::rest) a w:=by
 refine wpList_plain M λK I=> ?_
 unfold Oper.wp execOp;simp only[N,U,Y,Instr.storeAt,Instr.sureAddr,Sem.run_bind,Sem.run_pure,Result.andThen_ok,run_storeVar_row w g t G c d J hi O H];exact I _ _ h
def vR {I:Func} {p q:Tmp} {d:TypeId} (h:I.results= #[.cell p d,.tmp q]) (tmps:Array Value) (w:World) (g:Nat) (t:TypeId) (cs:Array Value) (G:TypeDesc) (H:Value)
  (N:tmps.getD p undef= γ g) (U:tmps.getD q undef=H) (M:w.heap[g]? =ϊ (.cells cs t (0,0)))
  (aa:P.underlying d=ϊ G) (J:(match G with | .struct _ | .array _ _=>ό | _=>ύ)=ό) (hi:(P.info? d).map (·.size)=ϊ cs.size):
  (results I tmps).run P w= .ok (.tuple #[θ cs,H]) w:=by
 have O:tmps[p]?.getD undef= γ g:=by simpa using N
 have Y:tmps[q]?.getD undef=H:=by simpa using U
 simp[results,h,O,Y,asAddr,run_loadVar_row w g t d cs (0,0) G M aa J hi]
def DL {B t:Nat} (h:w.heap[B]? =ϊ (.cells cs t (0,0))) (cs':Array Value): ∃W,w.setRow B cs'=W/\W.heap[B]? =ϊ (.cells cs' t (0,0))/\jt (λb=>b=B) w W:=⟨_,rfl,If h cs',En _ _ _⟩
def XO (c:qQ) (O:Option Addr) (M:Nat) (w:World) (s:SlI .u8 w (δ O c.2.2.1.length M) c.2.2.1) (ad:xk c) (au:c.2.2.1.length<=400) (Y:c.2.1=200∨c.2.1=201):
  Calls prog 241 #[θ #[υ c.1,υ c.2.1,δ O c.2.2.1.length M]] w λe w'=>(∃vb va vl vo,e= .returned (.tuple #[θ #[ι (qv c).1.kind,μ (qv c).1.rep.snd,ω (qv c).1.rep.src,ω (qv c).1.rep.inf.sec,ω (qv c).1.rep.inf.frac,ω (qv c).1.rep.inf.stamp,ω (qv c).1.rep.inf.pkts,ω (qv c).1.rep.inf.octs,vb,ι (qv c).1.msg.kind,ω (qv c).1.msg.snd,ω (qv c).1.msg.med,va,vl,υ (qv c).1.oth.1,υ (qv c).1.oth.2.1,vo],ι (qv c).2])/\Gq w' vb va vl vo (qv c).1/\jX w vb/\jX w va/\jX w vl/\Ww w vo (δ O c.2.2.1.length M))/\ql w w':=by
 have S:=κ s;have ag:=κ ad;have ao:c.2.2.1.length<=1000000:=by omega
 obtain⟨J,N⟩:=ν ((w.alloc (.cells #[υ c.1,υ c.2.1,δ O c.2.2.1.length M] 291)).alloc (.cells Γf 293));have U:Hid (ql w J):=κ (by rw[<-N];exact W4.al _);have aa:Hid (J.heap[w.heap.size+1]? =ϊ (.cells Γf 293 (0,0))):=κ (by rw[<-N];exact qC η);have I:=κ N;clear s ad N;have af:Hid (qv c=(⟨1,(qG c).1,JI,Gj⟩,(qG c).2)):=κ (by unfold qv;rw[ϐ Y]);rw[af.o];have ah:=κ (We (w:=J) c (S.o.keep U.o) ag.o ao);have H:(c.2.1==200)=ό∨((c.2.1==200)=ύ/\(c.2.1==201)=ό):=by
  rcases Y with h | h
  ·exact ϒ (by rw[h];rfl)
  ·exact ϔ ⟨by rw[h];rfl,by rw[h];rfl⟩
 clear Y;rcases H with b1 | ⟨b1,b2⟩
 all_goals
  go_enter func241,ntmps241
  go_wp2_with (first | (go_at_call 280;(go_call (I.o▸ah.o) as e w1 ⟨⟨vb,rfl,s1,ae⟩,m⟩;have ak:=κ s1;have aj:=κ ae;obtain⟨G,d,rfl,_⟩:=s1;have ai:=κ (U.o.trans (I.o▸m));have ab:=κ (qs (qq (I.o▸m) aa.o) (.cells #[μ (qG c).1.snd,ω (qG c).1.src,ω (qG c).1.inf.sec,ω (qG c).1.inf.frac,ω (qG c).1.inf.stamp,ω (qG c).1.inf.pkts,ω (qG c).1.inf.octs,δ G (qG c).1.bl.length d] 289));clear m ae)) | (refine jU rfl 289 (.tmp 4) (.tmp 19) rfl w1 _ #[μ (qG c).1.snd,ω (qG c).1.src,ω (qG c).1.inf.sec,ω (qG c).1.inf.frac,ω (qG c).1.inf.stamp,ω (qG c).1.inf.pkts,ω (qG c).1.inf.octs,δ G (qG c).1.bl.length d] rfl rfl rfl ξ rfl rfl ?_) | (refine wpList_load_row rfl 289 (.tmp 4) rfl w1.heap.size rfl _ #[μ (qG c).1.snd,ω (qG c).1.src,ω (qG c).1.inf.sec,ω (qG c).1.inf.frac,ω (qG c).1.inf.stamp,ω (qG c).1.inf.pkts,ω (qG c).1.inf.octs,δ G (qG c).1.bl.length d] _ _ (heap_alloc_new w1 _) underlying289 rfl ξ ?_) | (refine zr rfl 293 (.tmp 2) (.tmp 22) rfl (w.heap.size+1) _ _ #[ι 1,μ (qG c).1.snd,ω (qG c).1.src,ω (qG c).1.inf.sec,ω (qG c).1.inf.frac,ω (qG c).1.inf.stamp,ω (qG c).1.inf.pkts,ω (qG c).1.inf.octs,δ G (qG c).1.bl.length d,ι 0,ω 0,ω 0,(),(),υ 0,υ 0,()] ab.o rfl rfl ξ rfl (all_oneCell_toArray W5) ?_))
  obtain⟨WF,an,am,a3⟩:=DL ab.o #[ι 1,μ (qG c).1.snd,ω (qG c).1.src,ω (qG c).1.inf.sec,ω (qG c).1.inf.frac,ω (qG c).1.inf.stamp,ω (qG c).1.inf.pkts,ω (qG c).1.inf.octs,δ G (qG c).1.bl.length d,ι 0,ω 0,ω 0,(),(),υ 0,υ 0,()];rw[an];have ap:=jt.to_more (ai.o.al _) a3 (λb e=>by omega);have ac:jX J (δ G (qG c).1.bl.length d):=by rw[<-I.o];exact aj.o
  have ar:SlP 7 Yj WF (δ G (qG c).1.bl.length d) (qG c).1.bl:=Yv (ak.o.keep Ca W4) (λb H (e:b=w.heap.size+1)=>by have:=ac b H;have:=qn aa.o;omega) a3;have aq:jX w (δ G (qG c).1.bl.length d):=λb H=>by have:=ac b H;have:=U.o.size;omega
  refine bodyPost_ret (v:= .tuple #[θ #[ι 1,μ (qG c).1.snd,ω (qG c).1.src,ω (qG c).1.inf.sec,ω (qG c).1.inf.frac,ω (qG c).1.inf.stamp,ω (qG c).1.inf.pkts,ω (qG c).1.inf.octs,δ G (qG c).1.bl.length d,ι 0,ω 0,ω 0,(),(),υ 0,υ 0,()],ι (qG c).2]) (vR results241 _ _ (w.heap.size+1) _ _ _ _ rfl rfl am underlying293 rfl ξ) rfl ?_;exact⟨⟨_,_,_,_,rfl,⟨ar,⟨SlP.nil _ _ _,SlI.nil _ _⟩,SlI.nil _ _⟩,aq,jX.nil w,jX.nil w,ϒ (jX.nil w)⟩,ap⟩
def Wh (c:qQ) (O:Option Addr) (M:Nat) (w:World) (s:SlI .u8 w (δ O c.2.2.1.length M) c.2.2.1) (az:xk c) (aA:c.2.2.1.length<=400) (ac: ¬c.2.1=200) (ad: ¬c.2.1=201):
  Calls prog 241 #[θ #[υ c.1,υ c.2.1,δ O c.2.2.1.length M]] w λe w'=>(∃vb ag ah vo,e= .returned (.tuple #[θ #[ι (qv c).1.kind,μ (qv c).1.rep.snd,ω (qv c).1.rep.src,ω (qv c).1.rep.inf.sec,ω (qv c).1.rep.inf.frac,ω (qv c).1.rep.inf.stamp,ω (qv c).1.rep.inf.pkts,ω (qv c).1.rep.inf.octs,vb,ι (qv c).1.msg.kind,ω (qv c).1.msg.snd,ω (qv c).1.msg.med,ag,ah,υ (qv c).1.oth.1,υ (qv c).1.oth.2.1,vo],ι (qv c).2])/\Gq w' vb ag ah vo (qv c).1/\jX w vb/\jX w ag/\jX w ah/\Ww w vo (δ O c.2.2.1.length M))/\ql w w':=by
 have S:=κ s;have aB:=κ az;have aD:c.2.2.1.length<=1000000:=by omega
 obtain⟨Y,ae⟩:=ν ((w.alloc (.cells #[υ c.1,υ c.2.1,δ O c.2.2.1.length M] 291)).alloc (.cells Γf 293));have ab:Hid (ql w Y):=κ (by rw[<-ae];exact W4.al _);have ay:Hid (Y.heap[w.heap.size]? =ϊ (.cells #[υ c.1,υ c.2.1,δ O c.2.2.1.length M] 291 (0,0))):=κ (by rw[<-ae];exact qs (qj w _) _);have ai:Hid (Y.heap[w.heap.size+1]? =ϊ (.cells Γf 293 (0,0))):=κ (by rw[<-ae];exact qC η);have J:=κ ae;clear s az ae;have aJ:(c.2.1==200)=ύ:=beq_eq_false_iff_ne.2 ac;have aK:(c.2.1==201)=ύ:=beq_eq_false_iff_ne.2 ad;have av:=κ (Wd (w:=Y) c (S.o.keep ab.o) aB.o aD);by_cases h5:(qJ c).2=5
 ·have ak:Hid (qv c=(⟨3,Qh,JI,c⟩,0)):=κ (by unfold qv;rw[ώ (λe=>e.elim ac ad),ϐ h5]);rw[ak.o];have aC:((qJ c).2==5)=ό:=by rw[h5];rfl
  clear ac ad h5
  go_enter func241,ntmps241
  go_wp2_with (first | (go_at_call 281;(go_call (J.o▸av.o) as e w1 ⟨⟨ag,ah,rfl,s1,af,n2⟩,m⟩;have am:=κ s1;have aw:=κ af;have ax:=κ n2;obtain⟨⟨H,d,rfl,_⟩,⟨I,G,rfl,_⟩⟩:=id s1;have aj:=κ (ab.o.trans (J.o▸m));have aa:=κ (qs (qq (J.o▸m) ai.o) (.cells #[ι (qJ c).1.kind,ω (qJ c).1.snd,ω (qJ c).1.med,δ H (qJ c).1.asks.length d,δ I (qJ c).1.lost.length G] 283));have U:=κ (qs (qq (J.o▸m) ay.o) (.cells #[ι (qJ c).1.kind,ω (qJ c).1.snd,ω (qJ c).1.med,δ H (qJ c).1.asks.length d,δ I (qJ c).1.lost.length G] 283));have aG:=β0 U.o;have aH:=β1 U.o;have aI:=β2 U.o;clear m af n2 s1)) | (refine jU rfl 283 (.tmp 6) (.tmp 27) rfl w1 _ #[ι (qJ c).1.kind,ω (qJ c).1.snd,ω (qJ c).1.med,δ H (qJ c).1.asks.length d,δ I (qJ c).1.lost.length G] rfl rfl rfl ξ rfl rfl ?_) | (refine zr rfl 293 (.tmp 2) (.tmp 32) rfl (w.heap.size+1) _ _ #[ι 3,ύ,ω 0,ω 0,ω 0,ω 0,ω 0,ω 0,(),ι 0,ω 0,ω 0,(),(),υ c.1,υ c.2.1,δ O c.2.2.1.length M] aa.o rfl rfl ξ rfl (all_oneCell_toArray W5) ?_))
  obtain⟨WF,ao,an,a3⟩:=DL aa.o #[ι 3,ύ,ω 0,ω 0,ω 0,ω 0,ω 0,ω 0,(),ι 0,ω 0,ω 0,(),(),υ c.1,υ c.2.1,δ O c.2.2.1.length M];rw[ao];have ap:=jt.to_more (aj.o.al _) a3 (λb e=>by omega);have aq:SlI .u8 WF (δ O c.2.2.1.length M) c.2.2.1:=SlI.off2 (S.o.keep (aj.o.al _)) (λaA b N (e:b=w.heap.size+1)=>by have:=S.o.old aA N;omega) a3;refine bodyPost_ret (v:= .tuple #[θ #[ι 3,ύ,ω 0,ω 0,ω 0,ω 0,ω 0,ω 0,(),ι 0,ω 0,ω 0,(),(),υ c.1,υ c.2.1,δ O c.2.2.1.length M],ι 0]) (vR results241 _ _ (w.heap.size+1) _ _ _ _ rfl rfl an underlying293 rfl ξ) rfl ?_;exact⟨⟨_,_,_,_,rfl,⟨SlP.nil _ _ _,⟨SlP.nil _ _ _,SlI.nil _ _⟩,aq⟩,jX.nil w,jX.nil w,jX.nil w,ϔ rfl⟩,ap⟩
 ·have ak:Hid (qv c=(⟨2,Qh,(qJ c).1,Gj⟩,(qJ c).2)):=κ (by unfold qv;rw[ώ (λe=>e.elim ac ad),ώ h5]);rw[ak.o];have aC:((qJ c).2==5)=ύ:=beq_eq_false_iff_ne.2 h5;clear ac ad h5
  go_enter func241,ntmps241
  go_wp2_with (first | (go_at_call 281;(go_call (J.o▸av.o) as e w1 ⟨⟨ag,ah,rfl,s1,af,n2⟩,m⟩;have am:=κ s1;have aw:=κ af;have ax:=κ n2;obtain⟨⟨H,d,rfl,_⟩,⟨I,G,rfl,_⟩⟩:=id s1;have aj:=κ (ab.o.trans (J.o▸m));have aa:=κ (qs (qq (J.o▸m) ai.o) (.cells #[ι (qJ c).1.kind,ω (qJ c).1.snd,ω (qJ c).1.med,δ H (qJ c).1.asks.length d,δ I (qJ c).1.lost.length G] 283));have U:=κ (qs (qq (J.o▸m) ay.o) (.cells #[ι (qJ c).1.kind,ω (qJ c).1.snd,ω (qJ c).1.med,δ H (qJ c).1.asks.length d,δ I (qJ c).1.lost.length G] 283));have aG:=β0 U.o;have aH:=β1 U.o;have aI:=β2 U.o;clear m af n2 s1)) | (refine jU rfl 283 (.tmp 6) (.tmp 27) rfl w1 _ #[ι (qJ c).1.kind,ω (qJ c).1.snd,ω (qJ c).1.med,δ H (qJ c).1.asks.length d,δ I (qJ c).1.lost.length G] rfl rfl rfl ξ rfl rfl ?_) | (refine wpList_load_row rfl 283 (.tmp 6) rfl w1.heap.size rfl _ #[ι (qJ c).1.kind,ω (qJ c).1.snd,ω (qJ c).1.med,δ H (qJ c).1.asks.length d,δ I (qJ c).1.lost.length G] _ _ (heap_alloc_new w1 _) underlying283 rfl ξ ?_) | (refine zr rfl 293 (.tmp 2) (.tmp 34) rfl (w.heap.size+1) _ _ #[ι 2,ύ,ω 0,ω 0,ω 0,ω 0,ω 0,ω 0,(),ι (qJ c).1.kind,ω (qJ c).1.snd,ω (qJ c).1.med,δ H (qJ c).1.asks.length d,δ I (qJ c).1.lost.length G,υ 0,υ 0,()] aa.o rfl rfl ξ rfl (all_oneCell_toArray W5) ?_))
  obtain⟨WF,ao,an,a3⟩:=DL aa.o #[ι 2,ύ,ω 0,ω 0,ω 0,ω 0,ω 0,ω 0,(),ι (qJ c).1.kind,ω (qJ c).1.snd,ω (qJ c).1.med,δ H (qJ c).1.asks.length d,δ I (qJ c).1.lost.length G,υ 0,υ 0,()];rw[ao];have ap:=jt.to_more (aj.o.al _) a3 (λb e=>by omega);have ar:jX Y (δ H (qJ c).1.asks.length d):=by rw[<-J.o];exact aw.o
  have au:jX Y (δ I (qJ c).1.lost.length G):=by rw[<-J.o];exact ax.o
  have aq:DG WF (δ H (qJ c).1.asks.length d) (δ I (qJ c).1.lost.length G) (qJ c).1:=⟨Ju (am.o.asks.keep Cb W4) (λb N (e:b=w.heap.size+1)=>by have:=ar b N;have:=qn ai.o;omega) a3,SlI.off (am.o.lost.keep W4) (λb N (e:b=w.heap.size+1)=>by have:=au b N;have:=qn ai.o;omega) a3⟩;have aE:jX w (δ H (qJ c).1.asks.length d):=λb N=>by have:=ar b N;have:=ab.o.size;omega
  have aF:jX w (δ I (qJ c).1.lost.length G):=λb N=>by have:=au b N;have:=ab.o.size;omega
  refine bodyPost_ret (v:= .tuple #[θ #[ι 2,ύ,ω 0,ω 0,ω 0,ω 0,ω 0,ω 0,(),ι (qJ c).1.kind,ω (qJ c).1.snd,ω (qJ c).1.med,δ H (qJ c).1.asks.length d,δ I (qJ c).1.lost.length G,υ 0,υ 0,()],ι (qJ c).2]) (vR results241 _ _ (w.heap.size+1) _ _ _ _ rfl rfl an underlying293 rfl ξ) rfl ?_;exact⟨⟨_,_,_,_,rfl,⟨SlP.nil _ _ _,aq,SlI.nil _ _⟩,jX.nil w,aE,aF,ϒ (jX.nil w)⟩,ap⟩
def Wi (c:qQ) (G:Option Addr) (d:Nat) (w:World) (s:SlI .u8 w (δ G c.2.2.1.length d) c.2.2.1) (H:xk c) (I:c.2.2.1.length<=400):
  Calls prog 241 #[θ #[υ c.1,υ c.2.1,δ G c.2.2.1.length d]] w λe w'=>(∃vb va vl vo,e= .returned (.tuple #[θ #[ι (qv c).1.kind,μ (qv c).1.rep.snd,ω (qv c).1.rep.src,ω (qv c).1.rep.inf.sec,ω (qv c).1.rep.inf.frac,ω (qv c).1.rep.inf.stamp,ω (qv c).1.rep.inf.pkts,ω (qv c).1.rep.inf.octs,vb,ι (qv c).1.msg.kind,ω (qv c).1.msg.snd,ω (qv c).1.msg.med,va,vl,υ (qv c).1.oth.1,υ (qv c).1.oth.2.1,vo],ι (qv c).2])/\Gq w' vb va vl vo (qv c).1/\jX w vb/\jX w va/\jX w vl/\Ww w vo (δ G c.2.2.1.length d))/\ql w w':=by
 by_cases h1:c.2.1=200
 ·exact XO c G d w s H I (ϒ h1)
 ·by_cases h2:c.2.1=201
  ·exact XO c G d w s H I (ϔ h2)
  ·exact Wh c G d w s H I h1 h2
end
section
open Go.RowKit Go.Lib
def Fg {G vo:Value} {x:Itm} (s:Gq w vb d G vo x) (N:Wu x) (I: ∀g,vb.ownBlock=ϊ g-> ¬D g) (H: ∀g,d.ownBlock=ϊ g-> ¬D g) (J: ∀g,G.ownBlock=ϊ g-> ¬D g) (M:x.oth.2.2.1≠[]-> ∀g,vo.ownBlock=ϊ g-> ¬D g):jw Qk D w (Hx x vb d G vo) x:=
 λ_ a=>⟨vb,d,G,vo,rfl,⟨Yv s.bl I a,⟨Ju s.ms.asks H a,s.ms.lost.off J a⟩,s.bo.off2 M a⟩,N⟩
def Cd (d:xk c):Wu (qv c).1:=by
 unfold qv;split
 ·exact⟨Bf d,gC,WQ⟩
 split
 ·exact⟨WJ,gC,d⟩
 ·exact⟨WJ,Bg d,WQ⟩
def Xa {k:List qQ} (h:szC k<=200) (i:Nat) (hi:i<k.length):(k.getD i xu).2.2.1.length<=400/\k.length<=200:=by
 have H:(k.getD i xu).2.2.1.length+4<=szC k:=by
  have:=JZ k i hi;have:=DX k (i+1);omega
 have d: ∀j,j<=k.length->j<=szC (k.take j):=by
  intro j
  induction j with
  | zero=>intro _;omega
  | succ j ih=>
   intro I;have:=JZ k j τ;have:=ih τ;omega
 have G:=d k.length (ϕ _);rw[ϱ] at G;omega
structure ItJ (w wr:World) (u v:Value) (A:List Itm) (E:List Int):Prop where
 row:je 17 Qk (λb=>v.ownBlock=ϊ b) wr w.heap.size 293 u A
 errs:wr.ownsRow w.heap.size 29 1 v E.length (E.map (Value.int .i64))
 more:ql w wr
def ItJ.on (h:ItJ w wr u v A E) (m:ql wr w'):ItJ w w' u v A E:=⟨h.row.on m,jE h.errs m,h.more.trans m⟩
def ItJ.put {A':List Itm} (h:ItJ w wr u v A E) (I:je 17 Qk (λb=>v.ownBlock=ϊ b) w' w.heap.size 293 d A') (g:wr.grownBy w' u.ownBlock):ItJ w w' d v A' E:=
 ⟨I,XB h.errs g (λb G e=>h.row.apart b e G),Below.grown h.more g h.more.size (λk H=>h.row.ge H)⟩
def ItJ.err {E':List Int} (h:ItJ w wr u v A E) (G:w'.ownsRow w.heap.size 29 1 v' E'.length (E'.map (Value.int .i64))) (g:wr.grownBy w' v.ownBlock) (H:v'.ownBlock=v.ownBlock∨v'.ownBlock=ϊ wr.heap.size):ItJ w w' u v' A E':=
 ⟨h.row.beside g H,G,Below.grown h.more g h.more.size (λk d=>jG h.errs d)⟩
def wi {G:World} {x:Value} (h:ItJ w wr u v A E) (J:wr.heap.size<=G.heap.size) (f:jX G x): ∀g,x.ownBlock=ϊ g-> ¬(v.ownBlock=ϊ g∨u.ownBlock=ϊ g):=by
 intro g H d;have I:=f g H;rcases d with d | d
 ·have:=gB h.errs d;omega
 ·have:=h.row.lt d;omega
def US {U:World} {M N:Option Addr} {O J:Nat} {c G:List Int} (h:ItJ w wr u v A E) (f:Ww U (δ M c.length O) (δ N G.length J)) (ac:SlI .u8 w (δ N G.length J) G) (ab:wr.heap.size<=U.heap.size):
  c≠[]-> ∀g,(δ M c.length O).ownBlock=ϊ g-> ¬(v.ownBlock=ϊ g∨u.ownBlock=ϊ g):=by
 intro aa g I d;rcases f with f | f
 ·exact wi h ab f g I d
 ·have H:=f;injection H with _ H _
  have Y:G≠[]:=λe=>aa (Ϧ (by rw[H,e];rfl))
  rw[f] at I;have ad:=ac.old Y I;rcases d with d | d
  ·have:=jG h.errs d;omega
  ·have:=h.row.ge d;omega
def Dq (b:List Int) (v:Value) (w:World) (H:SlI .u8 w v b) (N:Byt b) (O:b.length<=1000000) (d: ¬(jI b).2=0):
  Calls prog 188 #[v] w λe w'=> ∃vx,e= .returned (.tuple #[vx,ι (zx b).2])/\SlP 17 Qk w' vx (zx b).1/\ql w w':=by
 have J:=κ (Z6 v b w H N O);have I:Hid (zx b=([],(jI b).2)):=κ (by unfold zx;rw[ώ d]);have U:((jI b).2 != 0)=ό:=by simp[d]
 clear H d;rw[I.o]
 go_enter func188,ntmps188
 go_wp2_with (go_at_call 240;(go_call J.o as e w1 ⟨Y,rfl,s1,G⟩;have M:=κ G;clear s1 G))
 go_ret2
 exact⟨_,rfl,SlP.nil _ _ _,M.o⟩
def Wb (b:List Int) (v:Value) (w:World) (sl:SlI .u8 w v b) (aC:Byt b) (be:b.length<=1000000) (ad:(jI b).2=0):
  Calls prog 188 #[v] w λe w'=> ∃vx,e= .returned (.tuple #[vx,ι (zx b).2])/\SlP 17 Qk w' vx (zx b).1/\ql w w':=by
 obtain⟨bk,hi,bf,bg,bh⟩:=info_parts (P:=prog) (e:=293) (z:= Γf) (size:=17) (bytes:=160) ξ;obtain⟨bm,bn,bp,bq,br⟩:=info_parts (P:=prog) (e:=29) (z:= ι 0) (size:=1) (bytes:=8) ξ;have ab:=κ (Z6 v b w sl aC be);have ax:Hid (szC (jI b).1<=200):=κ (QY aC (k:=(jI b).1) (by rw[<-ad])).2.2.2;have G:Hid (zx b=if vg ((jI b).1.map λc=>(qv c).2)=0 then ((jI b).1.map λc=>(qv c).1,0) else ([],vg ((jI b).1.map λc=>(qv c).2))):=κ (by unfold zx;rw[ϐ ad]);have aS:=κ ad;clear sl ad;generalize (jI b).1=l at *
 go_enter func188,ntmps188
 go_wp2_with (go_at_call 240;(go_call ab.o as e w1 ⟨bM,rfl,s1,aK⟩;rw[aS.o];have bt:=κ s1;have ay:=κ aK;obtain⟨bH,cap,rfl,bC,aF⟩:=Ae s1;have aU:=κ aF;clear s1 aK aF))
 have aY:Hid (ItJ w1 w1 (δ ϋ 0 0) (δ ϋ 0 0) [] []):=κ ⟨je.nil _ _ _ _ _ _,World.ownsRow_nil _ _ _ _,ql.refl _⟩;clear ab
 go_loopw [6,7,23] (λu v am wr=> ∃(j:Nat),j<=l.length/\am= ι j/\(∃aq an ag ar ao ah,u= δ aq an ag/\v= δ ar ao ah/\ItJ w1 wr (δ aq an ag) (δ ar ao ah) ((l.take j).map λc=>(qv c).1) ((l.take j).map λc=>(qv c).2))) (λ_ _ am _=>l.length-(intOf am).toNat)
 case atStart=>exact⟨0,τ,rfl,_,_,_,_,_,_,rfl,rfl,aY.o⟩
 case round=>
  obtain⟨j,bA,rfl,aq,an,ag,ar,ao,ah,rfl,rfl,aB⟩:=hrel;have d:=κ aB;clear aB;by_cases hlt:j<l.length
  ·obtain⟨bv,bI,vb,rfl,bc,ak⟩:=aU.o j hlt;obtain⟨bw,c1,c2,aI,aE⟩:=ak.more d.o.more bc;have aW:=κ ak.sl;have au:=κ aE;have aX:=κ aI;obtain⟨aD,bD⟩:=Xa ax.o j hlt;have aT:=κ aD;have bB:(j:Int)<(l.length:Int):=by omega
   have ab:=κ (kv l j xu hlt);have av:Hid ((l.take j).length=j/\j<=200):=κ ⟨by simp;omega,τ⟩;clear ak aE aD;generalize l.take j=acc at *;generalize l.getD j xu=c at *;obtain⟨ap,af,rfl,_⟩:=aI
   go_wp2_with (first | (go_at_call 241;(go_call Wi c ap af _ (aX.o.keep W4) au.o aT.o as e w2 ⟨⟨bL,bK,bN,bO,rfl,s2,n2,aM,aN,aA⟩,aL⟩;have bb:=κ s2;obtain⟨O,H,rfl,_⟩:=id s2.bl;obtain⟨U,I,rfl,_⟩:=id s2.ms.asks;obtain⟨Y,J,rfl,_⟩:=id s2.ms.lost;obtain⟨aa,M,rfl,_⟩:=id s2.bo;have N:=(ql.alloc wr (.cells #[υ c.1,υ c.2.1,δ ap c.2.2.1.length af] 291)).size;have aO:=κ (wi d.o N n2);have aP:=κ (wi d.o N aM);have aQ:=κ (wi d.o N aN);have aR:=κ (US d.o aA aW.o N);have ba:=κ ((ql.alloc wr (.cells #[υ c.1,υ c.2.1,δ ap c.2.2.1.length af] 291)).trans aL);clear aL n2 aM aN aA s2 N;have ac:=κ ((d.o.on ba.o).on ((ql.alloc w2 (.cells #[ι (qv c).1.kind,μ (qv c).1.rep.snd,ω (qv c).1.rep.src,ω (qv c).1.rep.inf.sec,ω (qv c).1.rep.inf.frac,ω (qv c).1.rep.inf.stamp,ω (qv c).1.rep.inf.pkts,ω (qv c).1.rep.inf.octs,δ O (qv c).1.rep.bl.length H,ι (qv c).1.msg.kind,ω (qv c).1.msg.snd,ω (qv c).1.msg.med,δ U (qv c).1.msg.asks.length I,δ Y (qv c).1.msg.lost.length J,υ (qv c).1.oth.1,υ (qv c).1.oth.2.1,δ aa (qv c).1.oth.2.2.1.length M] 293)).al (.cells #[ι (qv c).1.kind,μ (qv c).1.rep.snd,ω (qv c).1.rep.src,ω (qv c).1.rep.inf.sec,ω (qv c).1.rep.inf.frac,ω (qv c).1.rep.inf.stamp,ω (qv c).1.rep.inf.pkts,ω (qv c).1.rep.inf.octs,δ O (qv c).1.rep.bl.length H,ι (qv c).1.msg.kind,ω (qv c).1.msg.snd,ω (qv c).1.msg.med,δ U (qv c).1.msg.asks.length I,δ Y (qv c).1.msg.lost.length J,υ (qv c).1.oth.1,υ (qv c).1.oth.2.1,δ aa (qv c).1.oth.2.2.1.length M] 293))))) | (refine jU rfl 293 (.tmp 10) (.tmp 30) rfl w2 _ #[ι (qv c).1.kind,μ (qv c).1.rep.snd,ω (qv c).1.rep.src,ω (qv c).1.rep.inf.sec,ω (qv c).1.rep.inf.frac,ω (qv c).1.rep.inf.stamp,ω (qv c).1.rep.inf.pkts,ω (qv c).1.rep.inf.octs,δ O (qv c).1.rep.bl.length H,ι (qv c).1.msg.kind,ω (qv c).1.msg.snd,ω (qv c).1.msg.med,δ U (qv c).1.msg.asks.length I,δ Y (qv c).1.msg.lost.length J,υ (qv c).1.oth.1,υ (qv c).1.oth.2.1,δ aa (qv c).1.oth.2.2.1.length M] rfl rfl rfl ξ rfl (all_oneCell_toArray W5) ?_) | (refine wpList_load_row rfl 293 (.tmp 10) rfl w2.heap.size rfl _ #[ι (qv c).1.kind,μ (qv c).1.rep.snd,ω (qv c).1.rep.src,ω (qv c).1.rep.inf.sec,ω (qv c).1.rep.inf.frac,ω (qv c).1.rep.inf.stamp,ω (qv c).1.rep.inf.pkts,ω (qv c).1.rep.inf.octs,δ O (qv c).1.rep.bl.length H,ι (qv c).1.msg.kind,ω (qv c).1.msg.snd,ω (qv c).1.msg.med,δ U (qv c).1.msg.asks.length I,δ Y (qv c).1.msg.lost.length J,υ (qv c).1.oth.1,υ (qv c).1.oth.2.1,δ aa (qv c).1.oth.2.2.1.length M] _ _ (heap_alloc_new w2 _) underlying293 rfl ξ ?_) | (at_builtin;refine jN _ rfl (.tmp 32) (.tmp 34) 294 rfl w1.heap.size 293 bk (Γf) 17 160 underlying294 hi bf bg bh rfl ζ _ (acc.map λc=>(qv c).1) rfl ac.o.row (w2.heap.size+1) [ι (qv c).1.kind,μ (qv c).1.rep.snd,ω (qv c).1.rep.src,ω (qv c).1.rep.inf.sec,ω (qv c).1.rep.inf.frac,ω (qv c).1.rep.inf.stamp,ω (qv c).1.rep.inf.pkts,ω (qv c).1.rep.inf.octs,δ O (qv c).1.rep.bl.length H,ι (qv c).1.msg.kind,ω (qv c).1.msg.snd,ω (qv c).1.msg.med,δ U (qv c).1.msg.asks.length I,δ Y (qv c).1.msg.lost.length J,υ (qv c).1.oth.1,υ (qv c).1.oth.2.1,δ aa (qv c).1.oth.2.2.1.length M] (qv c).1 rfl rfl (zS η) W5 ((Fg bb.o (Cd au.o) aO.o aP.o aQ.o aR.o).on (W4.al _)) (λb h=>gB ac.o.errs h) ζ (by have:=av.o;rw[A6];omega) ac.o.more.size ?_;intro bJ w8 ai aG bd;have ae:=κ (ac.o.put ai aG);obtain⟨bF,bE,bx,rfl,bi,bj⟩:=ai.shape;clear ai aG bd bi bj) | (at_builtin;refine qU _ rfl (.tmp 36) (.tmp 38) 416 rfl w1.heap.size 29 bm (ι 0) 8 underlying416 bn bp bq br rfl _ .i64 (acc.map λc=>(qv c).2) rfl (ae.o.on W4).errs _ [(qv c).2] rfl (SlI.lit .i64 w8 [(qv c).2] 29 _ 1 _ rfl rfl rfl η) (by have:=av.o;rw[A6];simp;omega) ζ (by have:=ae.o.more.size;simp;omega) ?_;intro v9 w9 aj aH aJ;have aZ:=κ ((ae.o.on W4).err aj aH aJ);obtain⟨bG,bz,az⟩:=xl aj;rw[show ((acc.map λc=>(qv c).2)++[(qv c).2]).length=acc.length+1 from by simp] at az;subst az;clear aj aH aJ))
   go_roundw
   case rel=>exact⟨j+1,τ,by go_num,_,_,_,_,_,_,rfl,rfl,by rw[ab.o,Ξ,Ξ];exact aZ.o⟩
   case measure=>simp[intOf];omega
  ·obtain rfl:j=l.length:=by omega
   rw[ϱ] at d
   have aw:Hid ((l.map λc=>(qv c).2).length<=1000):=κ (by
    rw[A6];by_cases he:0<l.length
    ·have:=(Xa ax.o 0 he).2;omega
    ·omega)
   by_cases hf:vg (l.map λc=>(qv c).2)=0
   ·have aV:=κ hf;rw[ϐ hf] at G;clear hf
    go_wp2_with (go_at_call 242;(go_call gh (l.map λc=>(qv c).2) _ _ (SlI.of_owns d.o.errs (by have:=aw.o;omega)) as e bs ⟨rfl,rfl⟩;rw[aV.o]))
    go_ret2
    exact⟨_,by rw[G.o];rfl,by rw[G.o];exact d.o.row.sl ζ,ay.o.trans d.o.more⟩
   ·have bu:(vg (l.map λc=>(qv c).2) != 0)=ό:=by simp[hf]
    rw[ώ hf] at G;clear hf
    go_wp2_with (go_at_call 242;(go_call gh (l.map λc=>(qv c).2) _ _ (SlI.of_owns d.o.errs (by have:=aw.o;omega)) as e bs ⟨rfl,rfl⟩))
    go_ret2
    exact⟨_,by rw[G.o];rfl,by rw[G.o];exact SlP.nil _ _ _,ay.o.trans d.o.more⟩
def Dr (b:List Int) (v:Value) (w:World) (H:SlI .u8 w v b) (d:Byt b) (G:b.length<=1000000):
  Calls prog 188 #[v] w λe w'=> ∃vx,e= .returned (.tuple #[vx,ι (zx b).2])/\SlP 17 Qk w' vx (zx b).1/\ql w w':=by
 by_cases h0:(jI b).2=0
 ·exact Wb b v w H d G h0
 ·exact Dq b v w H d G h0
end
section
open Go.RowKit Go.Lib
def go (x:Itm):List Int:=if x.kind=2 then (if x.msg.kind=1 then [x.msg.med] else if x.msg.kind=2 then x.msg.asks.map Prod.fst else []) else []
def xU (l:List Itm):List Int:=l.flatMap go
def Cr {x:Itm} (h:CY x):(go x).length<=100000:=by
 unfold go;split
 ·split
  ·simp
  ·split
   ·rw[A6];exact h.asks
   ·simp
 ·simp
def U6 (l m:List Itm):xU (l++m)=xU l++xU m:=by simp[xU]
def U5 (x:Itm):xU [x]=go x:=by simp[xU]
def wY: ∀{l:List Itm},(∀x∈l,CY x)->(xU l).length<=l.length* 100000
 | [],_=>by simp[xU]
 | x::l,h=>by
  have G:=Cr (h x η);have H:=wY (l:=l) λy d=>h y (by simp[d])
  show ((go x)++xU l).length<=_;rw[Ϗ,ϙ];omega
structure AsJ (w wr:World) (u:Value) (A:List Int):Prop where
 row:wr.ownsRow w.heap.size 38 1 u A.length (A.map (Value.int .u32))
 more:ql w wr
def AsJ.on {A:List Int} (h:AsJ w wr u A) (m:ql wr w'):AsJ w w' u A:=⟨jE h.row m,h.more.trans m⟩
def AsJ.put {A A':List Int} (h:AsJ w wr u A) (H:w'.ownsRow w.heap.size 38 1 d A'.length (A'.map (Value.int .u32))) (g:wr.grownBy w' u.ownBlock):AsJ w w' d A':=
 ⟨H,Below.grown h.more g h.more.size (λk G=>jG h.row G)⟩
def Wo (l:List Itm) (v:Value) (w:World) (aF:SlP 17 Qk w v l) (bl:l.length<=1000) (ay: ∀x∈l,CY x):
  Calls prog 189 #[v] w λe w'=> ∃vx,e= .returned vx/\(SlI .u32 w' vx (xU l)/\ ∀q,vx.ownBlock=ϊ q->w.heap.size<=q)/\ql w w':=by
 obtain⟨aE,hi,aB,aC,aD⟩:=info_parts (P:=prog) (e:=38) (z:= ω 0) (size:=1) (bytes:=4) ξ;obtain⟨bn,cap,rfl,bm,aw,aS⟩:=Mf aF;have aH:=κ aw;have an:=κ ay;have aN:Hid (AsJ w w (δ ϋ 0 0) []):=κ ⟨World.ownsRow_nil _ _ _ _,ql.refl _⟩;clear aF aw aS ay
 go_enter func189,ntmps189
 go_wp2
 go_loopw [3,10] (λu I wr=> ∃j:Nat,j<=l.length/\I= ι j/\AsJ w wr u (xU (l.take j))) (λ_ I _=>l.length-(intOf I).toNat)
 case atStart=>exact⟨0,τ,rfl,aN.o⟩
 case round=>
  obtain⟨j,bj,rfl,N⟩:=hrel;have d:=κ N;clear N;by_cases hlt:j<l.length
  ·obtain⟨b,aV,ai,ad,aj,ae,al,af,am,ag,rfl,au,aA,az⟩:=aH.o j hlt;have aK:=κ (Y0 aA d.o.more au);have ax:l.getD j wL∈l:=by rw[ϑ,ϖ hlt];exact ϛ hlt
   have aJ:=κ (an.o _ ax);have aM:=κ az.ms.asks;have bk:(j:Int)<(l.length:Int):=by omega
   have bg:b<wr.heap.size:=ϗ au d.o.more.size;have aa:Hid (xU (l.take (j+1))=xU (l.take j)++go (l.getD j wL)):=κ (by rw[kv l j wL hlt,U6,U5])
   have Y:Hid ((xU (l.take j)).length<=100000000):=κ (by
    have:=wY (l:=l.take j) λx aU=>an.o x (List.mem_of_mem_take aU)
    rw[Ϡ] at this
    omega)
   clear aA az ax;generalize xU (l.take j)=acc at *;generalize l.getD j wL=x at *
   go_upto_region 5 with (first | (refine wpList_load_mid rfl 293 (.tmp 12) rfl b (aV+j* 17) rfl (Γo x ai ad aj ae al af am ag) _ aK.o underlying293 rfl ξ ?_) | (refine jU rfl 293 (.tmp 5) (.tmp 13) rfl wr _ (Γo x ai ad aj ae al af am ag) rfl rfl rfl ξ rfl rfl ?_))
   obtain⟨ac,ah⟩:=ν (wr.alloc (.cells (Γo x ai ad aj ae al af am ag) 293));have ab:Hid (ql wr ac):=κ (by rw[<-ah];exact ql.alloc _ _);have H:Hid (ac.heap[wr.heap.size]? =ϊ (.cells (Γo x ai ad aj ae al af am ag) 293 (0,0))):=κ (by rw[<-ah];exact qj _ _);rw[ah];clear ah;have aR:wr.heap.size<ac.heap.size:=qn H.o;have t0:=β0 H.o;have t9:=β9 H.o;have aW:=β11 H.o;have aX:=β12 H.o;have aY:=β13 H.o;by_cases hk:x.kind=2
   ·have aQ:(x.kind != 2)=ύ:=by simp[hk]
    by_cases h1:x.msg.kind=1
    ·have aO:(x.msg.kind==1)=ό:=by simp[h1]
     have G:Hid (go x=[x.msg.med]):=κ (by unfold go;rw[ϐ hk,ϐ h1]);clear hk h1;have M:=κ (d.o.on ab.o)
     go_wp2_with (at_builtin;refine qU _ rfl (.tmp 22) (.tmp 26) 61 rfl w.heap.size 38 aE (ω 0) 4 underlying61 hi aB aC aD rfl _ .u32 acc rfl (M.o.on W4).row _ [x.msg.med] rfl (SlI.lit .u32 ac [x.msg.med] 38 _ 1 _ rfl rfl rfl η) (by have:=Y.o;simp;omega) ζ (by have:=M.o.more.size;simp;omega) ?_;intro v9 w9 U O ap;have ao:=κ ((M.o.on W4).put U O);clear U O ap)
     go_roundw
     case measure=>simp[intOf];omega
     case rel=>exact⟨j+1,τ,by go_num,by rw[aa.o,G.o];exact ao.o⟩
    ·have aO:(x.msg.kind==1)=ύ:=by simp[h1]
     by_cases h2:x.msg.kind=2
     ·have aP:(x.msg.kind==2)=ό:=by simp[h2]
      have G:Hid (go x=x.msg.asks.map Prod.fst):=κ (by unfold go;rw[ϐ hk,ώ h1,ϐ h2]);clear hk h1 h2;have M:=κ (d.o.on ab.o);go_wp2;have bb:=κ d.o.more;obtain⟨aG,rfl⟩: ∃aG:World,aG=wr:=⟨_,rfl⟩;have aq:=κ aJ.o.asks;generalize x.msg.asks=ak at *;have be:ak.length<=100000:=aq.o;clear t0 t9 aW aX aY H aR
      go_loopw [3,34] (λu I wr=> ∃i:Nat,i<=ak.length/\I= ι i/\AsJ w wr u (acc++(ak.take i).map Prod.fst)) (λ_ I _=>ak.length-(intOf I).toNat)
      case atStart=>exact⟨0,τ,rfl,by simpa using M.o⟩
      case round=>
       obtain⟨i,bh,rfl,N⟩:=hrel;have J:=κ N;clear N;by_cases hlt3:i<ak.length
       ·obtain⟨bc,bo,rfl,bf,av,aZ,ba⟩:=Dj aM.o i hlt3;obtain⟨bd,c1⟩:=av _ J.o.more;have bi:(i:Int)<(ak.length:Int):=by omega
        have aL:Hid (acc++(ak.take (i+1)).map Prod.fst=(acc++(ak.take i).map Prod.fst)++[(ak.getD i (0,0)).1]):=κ (by rw[kv ak i (0,0) hlt3,Ξ,ϧ];rfl);have aI:Hid ((acc++(ak.take i).map Prod.fst).length<=100100000):=κ (by have:=Y.o;have:=aq.o;rw[Ϗ,A6,Ϡ];omega);clear av aZ ba;generalize acc++(ak.take i).map Prod.fst=acc3 at *;generalize (ak.getD i (0,0)).1=y1 at *;generalize (ak.getD i (0,0)).2=y2 at *;have ar:=κ (J.o.on (ql.alloc wr (.cells #[ω y1,υ y2] 421)))
        go_wp2_with (at_builtin;refine qU _ rfl (.tmp 38) (.tmp 41) 61 rfl w.heap.size 38 aE (ω 0) 4 underlying61 hi aB aC aD rfl _ .u32 acc3 rfl (ar.o.on W4).row _ [y1] rfl (SlI.lit .u32 (wr.alloc (.cells #[ω y1,υ y2] 421)) [y1] 38 _ 1 _ rfl rfl η η) (by have:=aI.o;rw[M9];omega) ζ (by have:=J.o.more.size;simp;omega) ?_;intro v9 w9 U O ap;have ao:=κ ((ar.o.on W4).put U O);clear U O ap)
        go_roundw
        case measure=>simp[intOf];omega
        case rel=>exact⟨i+1,τ,by go_num,by rw[aL.o];exact ao.o⟩
       ·obtain rfl:i=ak.length:=by omega
        rw[ϱ] at J;go_wp2;go_roundw
        case measure=>simp[intOf];omega
        case rel=>exact⟨j+1,τ,by go_num,by rw[aa.o,G.o];exact J.o⟩
     ·have aP:(x.msg.kind==2)=ύ:=by simp[h2]
      have G:Hid (go x=[]):=κ (by unfold go;rw[ϐ hk,ώ h1,ώ h2]);clear hk h1 h2;go_wp2;go_roundw
      case measure=>simp[intOf];omega
      case rel=>exact⟨j+1,τ,by go_num,by rw[aa.o,G.o,Ω];exact d.o.on ab.o⟩
   ·have aQ:(x.kind != 2)=ό:=by simp[hk]
    have G:Hid (go x=[]):=κ (by unfold go;rw[ώ hk]);clear hk;go_wp2;go_roundw
    case measure=>simp[intOf];omega
    case rel=>exact⟨j+1,τ,by go_num,by rw[aa.o,G.o,Ω];exact d.o.on ab.o⟩
  ·obtain rfl:j=l.length:=by omega
   rw[ϱ] at d;have Y:Hid ((xU l).length<=100000000):=κ (by have:=wY (l:=l) an.o;omega);go_wp2;go_ret;exact⟨_,rfl,⟨SlI.of_owns d.o.row (by have:=Y.o;omega),λq aT=>jG d.o.row aT⟩,d.o.more⟩
end
structure Ds where
 lo:Bool
 st:Bool
 pt:Int
 pic:Int
 wd:Bool
 bs:Int
 tr:Int
 sy:Bool
 ky:Int
def ds0:Ds:=⟨ύ,ύ,0,0,ύ,0,0,ύ,0⟩
def b1 (b:Bool) (n:Int):Int:=if b then n else 0
def nB (s:RdS):Int:=num (tkB s.1 1)
def bit (n k:Int):Bool:=decide (n/k%2=1)
def zd (s:RdS):Int×Int×RdS:=if bit (nB s) 128 then (nB s,nB (tkS s 1),tkS (tkS s 1) 1) else (nB s,0,tkS s 1)
def gk (t:Int) (s:RdS):(Int×Bool)×RdS:=if bit t 128 then (if nB s<128 then ((nB s,ύ),tkS s 1) else (((nB s-128)* 256+nB (tkS s 1),ό),tkS (tkS s 1) 1)) else ((-1,ύ),s)
def Jl (t:Int) (s:RdS):Int×RdS:=if bit t 64 then (nB s,tkS s 1) else (-1,s)
def QP (t:Int) (s:RdS):Int×RdS:=if bit t 32||bit t 16 then (nB s,tkS s 1) else (0,s)
def mkD (f t:Int) (p:Int×Bool) (b q:Int):Ds:=⟨bit f 32,bit f 16,f%8,p.1,p.2,b,if bit t 32 then q/64 else -1,bit t 32&&bit q 32,if bit t 16 then q%32 else -1⟩
def Zs (f t:Int) (s:RdS):Ds×RdS:=
 (mkD f t (gk t s).1 (Jl t (gk t s).2).1 (QP t (Jl t (gk t s).2).2).1,(QP t (Jl t (gk t s).2).2).2)
def DE (n:Int) (x:Ds×RdS):Ds×Int×Int:=if x.2.2=3 then (ds0,0,3) else (x.1,n-x.2.1.length,0)
def qW (b:List Int):Ds×Int×Int:=DE b.length (Zs (zd (b,0)).1 (zd (b,0)).2.1 (zd (b,0)).2.2)
def zJ (b:List Int):Bool:=
 decide ((qW b).2.2=0)&&(qW b).1.st&&decide ((qW b).1.pt=0)&&decide ((qW b).2.1<b.length)&&decide (b.getD (qW b).2.1.toNat 0%2=0)
def GI (f t:Int) (s:RdS):(Zs f t s).2.1.length<=s.1.length:=by
 have d: ∀s:RdS,(tkS s 1).1.length<=s.1.length:=λs=>by unfold tkS tkL;rw[ϣ];omega
 unfold Zs;have H:(gk t s).2.1.length<=s.1.length:=by
  unfold gk;split
  ·split
   ·exact d _
   ·exact Ϙ (d _) (d _)
  ·exact ϕ _
 have G: ∀s,(Jl t s).2.1.length<=s.1.length:=λs=>by
  unfold Jl;split
  ·exact d _
  ·exact ϕ _
 have I: ∀s,(QP t s).2.1.length<=s.1.length:=λs=>by
  unfold QP;split
  ·exact d _
  ·exact ϕ _
 exact Ϙ (I _) (Ϙ (G _) H)
def orB: ∀m:Fin 256,((m.val:Int)/128%2=0->bits .or .u8 (m.val:Int) 128=(m.val:Int)+128)/\((m.val:Int)/64%2=0->bits .or .u8 (m.val:Int) 64=(m.val:Int)+64)/\((m.val:Int)/32%2=0->bits .or .u8 (m.val:Int) 32=(m.val:Int)+32)/\((m.val:Int)/16%2=0->bits .or .u8 (m.val:Int) 16=(m.val:Int)+16):=ϟ ξ
def Nw (h:0<=x/\x<=255):(x/128%2=0->bits .or .u8 x 128=x+128)/\(x/64%2=0->bits .or .u8 x 64=x+64)/\(x/32%2=0->bits .or .u8 x 32=x+32)/\(x/16%2=0->bits .or .u8 x 16=x+16):=by
 obtain⟨m,rfl⟩:=Γ h.1;exact orB ⟨m,τ⟩
def Nq: ∀m:Fin 256,(bits .and .u8 (m.val:Int) 128=if bit (m.val:Int) 128 then 128 else 0)/\(bits .and .u8 (m.val:Int) 64=if bit (m.val:Int) 64 then 64 else 0)/\(bits .and .u8 (m.val:Int) 32=if bit (m.val:Int) 32 then 32 else 0)/\(bits .and .u8 (m.val:Int) 16=if bit (m.val:Int) 16 then 16 else 0)/\bits .and .u8 (m.val:Int) 7=(m.val:Int)%8/\((bits .and .u8 (m.val:Int) 48 != 0)=(bit (m.val:Int) 32||bit (m.val:Int) 16)):=ϟ ξ
def Zw (h:0<=x/\x<=255):(bits .and .u8 x 128=if bit x 128 then 128 else 0)/\(bits .and .u8 x 64=if bit x 64 then 64 else 0)/\(bits .and .u8 x 32=if bit x 32 then 32 else 0)/\(bits .and .u8 x 16=if bit x 16 then 16 else 0)/\bits .and .u8 x 7=x%8/\((bits .and .u8 x 48 != 0)=(bit x 32||bit x 16)):=by
 obtain⟨m,rfl⟩:=Γ h.1;exact Nq ⟨m,τ⟩
def Mp: ∀m:Fin 256,((bits .and .u8 (m.val:Int) 128 != 0)=bit (m.val:Int) 128)/\((bits .and .u8 (m.val:Int) 64 != 0)=bit (m.val:Int) 64)/\((bits .and .u8 (m.val:Int) 32 != 0)=bit (m.val:Int) 32)/\((bits .and .u8 (m.val:Int) 16 != 0)=bit (m.val:Int) 16):=ϟ ξ
def JW (h:0<=x/\x<=255):((bits .and .u8 x 128 != 0)=bit x 128)/\((bits .and .u8 x 64 != 0)=bit x 64)/\((bits .and .u8 x 32 != 0)=bit x 32)/\((bits .and .u8 x 16 != 0)=bit x 16):=by
 obtain⟨m,rfl⟩:=Γ h.1;exact Mp ⟨m,τ⟩
end Go.Proofs.YtlmllmonabafjaaGreatDoor
