/- x -/
import Derived.Test.YtlmllmonabafjaaGreatDoorMh6
import Derived.Deep.WholeRow
namespace Go.Proofs.YtlmllmonabafjaaGreatDoor
open Option renaming some->ϊ,none->ϋ
open Bool renaming true->ό,false->ύ
open Go.Value renaming bool->μ,slice->δ,pointer->π,agg->θ
open Go.IntKind renaming i64->ι,u8->υ,u16->φ,u32->ω,i32->χ,u64->ψ
open _root_.Go.Proofs.Tryz
set_option linter.all false
set_option maxHeartbeats 8000000
open Go.RowKit
set_option maxRecDepth 100000
variable {w w' wr:World} {v u v' d vb:Value} {C D S:Nat->Prop} {s s' s0:RdS} {xs:List Value} {R b n base size T:Nat} {l E acc:List Int} {cs z:Array Value} {A:List Itm} {t:TypeId} {Q:Exit->Act->World->Prop} {e x:Int} {P:Program} {ops:Array Oper} {rest:List Oper} {c:qQ} {H:List Blk} {k:IntKind} {α:Type} {L:List α} {o:Oper}
def Ci {i:Nat} (h:i<l.length):l.getD i 0∈l:=by
 rw[ϒ,ϖ h];exact ϡ h
def Bw {e d:Nat} (I:n=w.heap.size) (H:base<=n) (M:d<=1000000) (J:cs.size=d* size):(w.alloc (.cells cs e)).ownsRow base e size (δ (ϊ ⟨n,0,ϋ⟩) d d) d cs.toList:=by
 subst I;exact World.ownsRow_lit w cs d H (by unfold maxLen;omega) J
def Fw {m:Int} (h:U16 m) (k:Nat):bits .and .u16 (m/2 ^ k) 1=if tb m k then 1 else 0:=by
 obtain⟨H,I⟩:=h;obtain⟨d,rfl⟩:=Ϻ H;have J:d/2 ^ k<=d:=Nat.div_le_self _ _;have e:((d:Int)/2 ^ k)=((d/2 ^ k:Nat):Int):=by simp
 rw[e,show (1:Int)=((1:Nat):Int) from rfl,u16_and_nat (d/2 ^ k) 1 τ ζ];unfold tb;rw[Ψ,Nat.testBit_eq_decide_div_mod_eq,Nat.and_one_is_mod];rcases Nat.mod_two_eq_zero_or_one (d/2 ^ k) with h | h<;>simp[h]
def Qi (p:Int×Int) (j:Nat):List Int:=p.1::((List.range j).filter (tb p.2)).map λk:Nat=>(p.1+k+1)%65536
def Il (p:Int×Int):Qi p 0=[p.1]:=rfl
def Pe (p:Int×Int) (j:Nat):Qi p (j+1)=Qi p j++(if tb p.2 j then [(p.1+j+1)%65536] else []):=by
 unfold Qi;rw[I0,I7,ϻ];by_cases h:tb p.2 j=ό
 ·simp[h]
 ·simp[h]
def Bs (p:Int×Int) (j:Nat) (h:j<=16):(Qi p j).length<=17:=by
 unfold Qi;rw[ϙ,B9];have:=D3 (tb p.2) (List.range j);rw[N6] at this;omega
def QJ (p:Int×Int) (w:World) (ag:U16 p.1) (U:U16 p.2):
  Calls prog 330 #[θ #[φ p.1,φ p.2]] w λe w'=> ∃v,e= .returned v/\w'.ownsRow w.heap.size 39 1 v (prN p).length ((prN p).map (Value.int .u16))/\ql w w':=by
 obtain⟨q,m⟩:=p;simp only at ag U;obtain⟨ao,hi,ak,am,an⟩:=info_parts (P:=prog) (e:=39) (z:= φ 0) (size:=1) (bytes:=2) ξ
 go_enter func330,ntmps330
 go_wp2
 go_loopw [3,8] (λv O wr=> ∃j:Nat,j<=16/\O= ι j/\wr.ownsRow (w.heap.size+1) 39 1 v (Qi (q,m) j).length ((Qi (q,m) j).map (Value.int .u16))/\ql (w.alloc (.cells #[φ q,φ m] 483)) wr) (λ_ O _=>16-(intOf O).toNat)
 case atStart=>
  refine⟨0,τ,rfl, ?_,ql.alloc _ _⟩;rw[Il];exact Bw (cs:= #[φ q]) η (ϔ _) ζ rfl
 case round=>
  obtain⟨j,ai,rfl,ac,H⟩:=hrel;have ap:=H.new 0 (v:= φ q) rfl;have aq:=H.new 1 (v:= φ m) rfl;have af:=κ ((ql.alloc w (.cells #[φ q,φ m] 483)).trans H);have M:=κ H;have I:=κ ac;have au:=Bs (q,m) j ai;by_cases hlt:j<16
  ·have ar:(j:Int)<16:=by omega
   have d:=Fw U j;have J:=κ (Pe (q,m) j);by_cases ht:tb m j=ό
   ·rw[ϐ ht] at d;have ah:(bits .and .u16 (m/2 ^ j) 1==1)=ό:=by rw[d];rfl
    obtain⟨n,aa⟩:=ν ((q+j+1)%65536);have av:IntKind.u16.wrap (IntKind.u16.wrap (q+(j:Int))+1)=n:=by rw[IntKind.wrap_u16,IntKind.wrap_u16];omega
    have N:Hid (Qi (q,m) (j+1)=Qi (q,m) j++[n]):=κ (by rw[J.o];simp only;rw[ϐ ht,aa]);clear d ht aa J H;generalize Qi (q,m) j=L at *;clear ac
    go_wp2_with (at_builtin;refine qU _ rfl (.tmp 17) (.tmp 24) 281 rfl (w.heap.size+1) 39 ao (φ 0) 2 underlying281 hi ak am an rfl _ .u16 L rfl (jE I.o X8) _ [n] rfl (SlI.lit .u16 wr [n] 39 _ 1 _ rfl rfl rfl η) (by simp only[ϙ,ϧ];omega) ζ (Ϙ η (M.o.al _).size) ?_;intro v5 w5 ab Y _;have ae:=κ ab;have ad:=κ ((M.o.al (.cells #[φ n] 39)).grown Y (M.o.al (.cells #[φ n] 39)).size (λz aj=>by have:=jG I.o aj;simpa using this));clear ab Y)
    go_roundw
    case rel=>exact⟨j+1,τ,by go_num,by rw[N.o];exact ae.o,ad.o⟩
    case measure=>simp[intOf];omega
   ·rw[ώ ht] at d;have ah:(bits .and .u16 (m/2 ^ j) 1==1)=ύ:=by rw[d];rfl
    have N:Hid (Qi (q,m) (j+1)=Qi (q,m) j):=κ (by rw[J.o];simp only;rw[ώ ht,ε]);clear d ht J;go_wp2;go_roundw
    case rel=>exact⟨j+1,τ,by go_num,by rw[N.o];exact I.o,M.o⟩
    case measure=>simp[intOf];omega
  ·obtain rfl:j=16:=by omega
   go_wp2;go_ret;exact⟨_,rfl,kq I.o (K5 _),af.o⟩
def GG {e:Nat} (h:w.ownsRow base e size v n xs): ∃oa cap,v= δ oa n cap/\(n:Int)<=9223372036854775807:=by
 rcases h.2 with ⟨rfl,d⟩ | ⟨g,cap,cur,rfl,_,_,I,H,_⟩
 ·exact⟨ϋ,0,by rw[d],τ⟩
 ·exact⟨_,cap,rfl,by unfold maxLen at H;omega⟩
def AY {e:Nat} (h:w.ownsRow base e size v n xs) (M:0<n): ∃g cap,v= δ (ϊ ⟨g,0,ϋ⟩) n cap/\base<=g/\g<w.heap.size/\(n:Int)<=9223372036854775807:=by
 rcases h.2 with ⟨rfl,J⟩ | ⟨g,cap,cur,rfl,d,H,N,I,_⟩
 ·omega
 ·exact⟨g,cap,rfl,d,lt_of_block H,by unfold maxLen at I;omega⟩
def Fc {n t:Int} {b:List Int} (h:t=206/\n=1):zy (n,t,b,())=1:=by unfold zy;rw[ϐ h]
def EZ {n t:Int} {b:List Int} (h:t=206/\n=4):zy (n,t,b,())=2:=by unfold zy;rw[ώ (by simp only;omega),ϐ h]
def EY {n t:Int} {b:List Int} (h:t=205/\n=1):zy (n,t,b,())=3:=by unfold zy;rw[ώ (by simp only;omega),ώ (by simp only;omega),ϐ h]
def Fd {n t:Int} {b:List Int} (d: ¬(t=206/\n=1)) (H: ¬(t=206/\n=4)) (I: ¬(t=205/\n=1)):zy (n,t,b,())=0:=by unfold zy;rw[ώ d,ώ H,ώ I]
def Ue (w:World):Calls prog 318 #[ι 1] w λe w'=>e= .returned (.tuple #[υ 206,υ 1])/\w=w':=Xu 1 w
def Ud (w:World):Calls prog 318 #[ι 2] w λe w'=>e= .returned (.tuple #[υ 206,υ 4])/\w=w':=Xu 2 w
def Uc (w:World):Calls prog 318 #[ι 3] w λe w'=>e= .returned (.tuple #[υ 205,υ 1])/\w=w':=Xu 3 w
def eqB {a b:Int} (h:a=b):(a==b)=ό:=by simpa using h
def neB {a b:Int} (h: ¬a=b):(a==b)=ύ:=by simpa using h
def XN (n t:Int) (B:List Int) (J:Option Addr) (H:Nat) (w:World):
  Calls prog 306 #[θ #[υ n,υ t,δ J B.length H]] w λe w'=>e= .returned (ι (zy (n,t,B,())))/\ql w w':=by
 go_enter func306,ntmps306
 go_wp2
 go_loopw [9] (λad wr=> ∃j:Nat,j<=3/\ad= ι j/\(1<=j-> ¬(t=206/\n=1))/\(2<=j-> ¬(t=206/\n=4))/\(3<=j-> ¬(t=205/\n=1))/\ql ((w.alloc (.cells #[υ n,υ t,δ J B.length H] 291)).alloc (.cells #[ι 1,ι 2,ι 3] 3)) wr) (λad _=>3-(intOf ad).toNat)
 case atStart=>exact⟨0,τ,rfl,(λh=>by omega),(λh=>by omega),(λh=>by omega),ql.refl _⟩
 case round=>
  obtain⟨j,ak,rfl,ae,af,ag,I⟩:=hrel;have U:=κ ae;have ac:=κ af;have ah:=κ ag;clear ae af ag;have ab:=κ (((ql.alloc w (.cells #[υ n,υ t,δ J B.length H] 291)).al (.cells #[ι 1,ι 2,ι 3] 3)).trans I);have ai:=β0 (qq I (qs (qj w (.cells #[υ n,υ t,δ J B.length H] 291)) (.cells #[ι 1,ι 2,ι 3] 3)));have aj:=β1 (qq I (qs (qj w (.cells #[υ n,υ t,δ J B.length H] 291)) (.cells #[ι 1,ι 2,ι 3] 3)));have am:=β0 (qq I (qC (w:=w.alloc (.cells #[υ n,υ t,δ J B.length H] 291)) (o:=(.cells #[ι 1,ι 2,ι 3] 3)) (n:=w.heap.size+1) η));have an:=β1 (qq I (qC (w:=w.alloc (.cells #[υ n,υ t,δ J B.length H] 291)) (o:=(.cells #[ι 1,ι 2,ι 3] 3)) (n:=w.heap.size+1) η));have ao:=β2 (qq I (qC (w:=w.alloc (.cells #[υ n,υ t,δ J B.length H] 291)) (o:=(.cells #[ι 1,ι 2,ι 3] 3)) (n:=w.heap.size+1) η));have O:=κ I;clear I;by_cases e0:j=0
  ·subst e0;by_cases ht:t=206
   ·have aa:=eqB ht;by_cases hn:n=1
    ·have Y:=eqB hn;have N:=κ (Fc (b:=B) ⟨ht,hn⟩);clear ht hn
     go_wp2_with (go_at_call 318;(go_call Ue _ as e M ⟨rfl,rfl⟩))
     go_ret;exact⟨by rw[N.o];rfl,ab.o⟩
    ·have Y:=neB hn;have d:=κ hn;clear ht hn
     go_wp2_with (go_at_call 318;(go_call Ue _ as e M ⟨rfl,rfl⟩))
     go_roundw
     case rel=>exact⟨1,τ,by first | rfl | go_num,(λ_=>(λh=>d.o h.2)),(λh=>by omega),(λh=>by omega),O.o⟩
     case measure=>simp[intOf]
   ·have aa:=neB ht;have d:=κ ht;clear ht
    go_wp2_with (go_at_call 318;(go_call Ue _ as e M ⟨rfl,rfl⟩))
    go_roundw
    case rel=>exact⟨1,τ,by first | rfl | go_num,(λ_=>(λh=>d.o h.1)),(λh=>by omega),(λh=>by omega),O.o⟩
    case measure=>simp[intOf]
  by_cases e1:j=1
  ·subst e1;clear e0;by_cases ht:t=206
   ·have aa:=eqB ht;by_cases hn:n=4
    ·have Y:=eqB hn;have N:=κ (EZ (b:=B) ⟨ht,hn⟩);clear ht hn
     go_wp2_with (go_at_call 318;(go_call Ud _ as e M ⟨rfl,rfl⟩))
     go_ret;exact⟨by rw[N.o];rfl,ab.o⟩
    ·have Y:=neB hn;have d:=κ hn;clear ht hn
     go_wp2_with (go_at_call 318;(go_call Ud _ as e M ⟨rfl,rfl⟩))
     go_roundw
     case rel=>exact⟨2,τ,by first | rfl | go_num,(λ_=>U.o τ),(λ_=>(λh=>d.o h.2)),(λh=>by omega),O.o⟩
     case measure=>simp[intOf]
   ·have aa:=neB ht;have d:=κ ht;clear ht
    go_wp2_with (go_at_call 318;(go_call Ud _ as e M ⟨rfl,rfl⟩))
    go_roundw
    case rel=>exact⟨2,τ,by first | rfl | go_num,(λ_=>U.o τ),(λ_=>(λh=>d.o h.1)),(λh=>by omega),O.o⟩
    case measure=>simp[intOf]
  by_cases e2:j=2
  ·subst e2;clear e0 e1;by_cases ht:t=205
   ·have aa:=eqB ht;by_cases hn:n=1
    ·have Y:=eqB hn;have N:=κ (EY (b:=B) ⟨ht,hn⟩);clear ht hn
     go_wp2_with (go_at_call 318;(go_call Uc _ as e M ⟨rfl,rfl⟩))
     go_ret;exact⟨by rw[N.o];rfl,ab.o⟩
    ·have Y:=neB hn;have d:=κ hn;clear ht hn
     go_wp2_with (go_at_call 318;(go_call Uc _ as e M ⟨rfl,rfl⟩))
     go_roundw
     case rel=>exact⟨3,τ,by first | rfl | go_num,(λ_=>U.o τ),(λ_=>ac.o τ),(λ_=>(λh=>d.o h.2)),O.o⟩
     case measure=>simp[intOf]
   ·have aa:=neB ht;have d:=κ ht;clear ht
    go_wp2_with (go_at_call 318;(go_call Uc _ as e M ⟨rfl,rfl⟩))
    go_roundw
    case rel=>exact⟨3,τ,by first | rfl | go_num,(λ_=>U.o τ),(λ_=>ac.o τ),(λ_=>(λh=>d.o h.1)),O.o⟩
    case measure=>simp[intOf]
  ·obtain rfl:j=3:=by omega
   have N:=κ (Fd (b:=B) (U.o τ) (ac.o τ) (ah.o τ));clear e0 e1 e2;go_wp2;go_ret;exact⟨by rw[N.o];rfl,ab.o⟩
structure DG (w:World) (va vl:Value) (m:Msg):Prop where
 asks:SlP 2 Vf w va m.asks
 lost:SlI .u16 w vl m.lost
def jX (w:World) (v:Value):Prop:= ∀g,v.ownBlock=ϊ g->w.heap.size<=g
def jX.nil (w:World):jX w (δ ϋ 0 0):=λg h=>by cases h
def Hw (x:Int):(qy x 4).length=4:=qK x 4 ζ
def Gk (x:Int):(qy x 1).length=1:=qK x 1 ζ
def XC {e:Nat} (h:w.ownsRow base e size v n xs) (m:jt S w w') (I: ∀b,v.ownBlock=ϊ b-> ¬S b):w'.ownsRow base e size v n xs:=by
 obtain⟨d,H⟩:=h;refine⟨d, ?_⟩;rcases H with h | ⟨g,cap,cur,e1,hb,hg,rest⟩
 ·exact ϑ h
 ·exact ϕ ⟨g,cap,cur,e1,hb,m.blk hg (I g (by rw[e1];rfl)),rest⟩
def WC {a0 I J:Value} (h:w.heap[b]? =ϊ (.cells #[a0,I,J] t (0,0))) (v0 d H:Value):(((w.setCell ⟨b,0,ϋ⟩ v0).setCell ⟨b,1,ϋ⟩ d).setCell ⟨b,2,ϋ⟩ H).heap[b]? =ϊ (.cells #[v0,d,H] t (0,0)):=
 qB (qp (qp (qp h 0 v0) 1 d) 2 H) rfl
def ql.st3 (h:ql w w') (b:Nat) (d:w.heap.size<=b) (v0 H I:Value):ql w (((w'.setCell ⟨b,0,ϋ⟩ v0).setCell ⟨b,1,ϋ⟩ H).setCell ⟨b,2,ϋ⟩ I):=
 ((h.st (p:=⟨b,0,ϋ⟩) d v0).st (p:=⟨b,1,ϋ⟩) d H).st (p:=⟨b,2,ϋ⟩) d I
def Dj {J:Option Addr} {c:Nat} {l:List (Int×Int)} (h:SlP 2 Vf w (δ J n c) l) (i:Nat) (hi:i<l.length): ∃b d,J=ϊ ⟨b,d,ϋ⟩/\b<w.heap.size/\
  (∀x,ql w x->x.cell? ⟨b,d+i* 2,ϋ⟩=ϊ (ω (l.getD i (0,0)).1)/\x.cell? ⟨b,d+i* 2+1,ϋ⟩=ϊ (υ (l.getD i (0,0)).2))/\U32 (l.getD i (0,0)).1/\U8 (l.getD i (0,0)).2:=by
 obtain⟨ab,Y,e,_,N,_⟩:=h;cases e;obtain⟨b,d,cs,e,H,aa,I,rfl,O,U⟩:=N i hi;have M:l.getD i (0,0)=l[i]:=by rw[ϒ,ϖ hi];rfl
 rw[M];refine⟨b,d,e,H,λx m=>⟨?_, ?_⟩,O,U⟩
 ·rw[m.cells b _ H];exact I 0 ζ
 ·rw[m.cells b _ H];exact I 1 ζ
structure AkJ (w0 w:World) (R:Nat) (C:Nat->Prop) (v:Value) (acc:List (Int×Int)) (s:RdS):Prop where
 rd:qu w R s.1 s.2 C
 row:je 2 Vf (λb=>b=R) w w0.heap.size 421 v acc
 away:jt (λb=>b=R) w0 w
 hC: ∀g,C g->g<w0.heap.size
 hR:R<w0.heap.size
section
variable {w0 w w':World} {R:Nat} {C:Nat->Prop} {v v':Value} {acc acc':List (Int×Int)} {s s':RdS}
def AkJ.read (h:AkJ w0 w R C v acc s) (r:qu w' R s'.1 s'.2 C) (a:jt (λb=>b=R) w w'):AkJ w0 w' R C v acc s':=⟨r,h.row.step a,h.away.trans a,h.hC,h.hR⟩
def AkJ.on (h:AkJ w0 w R C v acc s) (m:ql w w'):AkJ w0 w' R C v acc s:=⟨h.rd.more m,h.row.on m,h.away.more m,h.hC,h.hR⟩
def AkJ.put (h:AkJ w0 w R C v acc s) (O:je 2 Vf (λb=>b=R) w' w0.heap.size 421 v' acc') (d:w.grownBy w' v.ownBlock):AkJ w0 w' R C v' acc' s:=by
 have J: ∀g,v.ownBlock=ϊ g->w0.heap.size<=g:=λg e=>h.row.ge e
 have I:=h.away.size;have a:jt (λb=>v.ownBlock=ϊ b) w w':=⟨d.os,d.tape,d.output,d.size,λk H I=>d.block k H (λe=>I e.symm)⟩;refine⟨h.rd.off a (λe=>by have:=J R e;have:=h.hR;omega) (λg M e=>by have:=J g e;have:=h.hC g M;omega),O, ?_,h.hC,h.hR⟩
 exact⟨a.os.trans h.away.os,a.tape.trans h.away.tape,a.output.trans h.away.output,Ϙ I a.size,λk H N=>by
  rw[a.block k (ϗ H I) (λe=>by have:=J k e;omega)]
  exact h.away.block k H N⟩
end
def yg {acc:List (Int×Int)} (h: ¬s.1=[]):jm (n+1) acc s=jm n (acc++[(wu s).1]) (wu s).2:=by
 show (if s.1=[] then _ else _)=_;rw[ώ h]
def Xo (h: ¬s.1=[]):(wu s).2.1.length+1<=s.1.length:=by
 have d:=C1.2 h;have e:(wu s).2.1=((s.1.drop 4).drop 1).drop 3:=rfl;rw[e,Ϣ,Ϣ,Ϣ];omega
def VK (h: ¬s.1=[]):(0:Int)<(s.1.length:Int):=by
 have:=C1.2 h;omega
def Y7 {N:Nat->Prop} (h:qu w R s0.1 s0.2 N) (hR:R<w.heap.size):
  Calls prog 307 #[γ R] w λe w'=> ∃v',e= .returned v'/\AkJ w w' R (λg=>N g/\g<w.heap.size) v' (jm s0.1.length [] s0).1 (jm s0.1.length [] s0).2:=by
 obtain⟨aN,hi,aI,aJ,aK⟩:=info_parts (P:=prog) (e:=421) (z:= θ #[ω 0,υ 0]) (size:=2) (bytes:=8) ξ;obtain⟨C,aa⟩: ∃C:Nat->Prop,C=λg=>N g/\g<w.heap.size:=⟨_,rfl⟩
 have aw:Hid (AkJ w w R C (δ ϋ 0 0) [] s0):=κ (by rw[aa];exact⟨h.old,je.nil _ _ _ _ _ _,jt.refl _ _,λg h=>h.2,hR⟩);rw[<-aa];have aT:=h.small;clear aa h
 go_enter func307,ntmps307
 go_wp2
 go_loopw [3] (λv wr=> ∃acc s n,AkJ w wr R C v acc s/\s.1.length<=n/\jm n acc s=jm s0.1.length [] s0/\acc.length+s.1.length<=s0.1.length) (λv _=>s0.1.length-QO v)
 case atStart=>exact⟨[],s0,s0.1.length,aw.o,ϔ _,rfl,η⟩
 case round=>
  obtain⟨acc,s,n,ab,aR,J,aQ⟩:=hrel;have I:=κ ab;have aj:=κ J;obtain⟨aX,aV,aP,rfl,ap,aM⟩:=ab.row.shape;have az:=κ ap;clear ab J ap aM;by_cases hs:s.1=[]
  ·have J:=aj.o;obtain⟨l,e⟩:=s;simp only at hs;subst hs;rw[zE] at J;have ax:=κ J;clear J
   go_wp2_with (go_at_call 57;(go_call zn I.o.rd as e w9 ⟨rfl,rfl⟩))
   go_ret;exact⟨_,rfl,by rw[<-ax.o];exact I.o⟩
  ·have aS:=VK hs;have al:=Xo hs;have ae:=I.o.rd.byt;have an:=κ (Gc ae);obtain⟨n,rfl⟩: ∃k,n=k+1:=⟨n-1,by have:=C1.2 hs;omega⟩;have ay:Hid (jm n (acc++[(wu s).1]) (wu s).2=jm s0.1.length [] s0):=κ (by rw[<-yg hs];exact aj.o);have ai:=κ al;obtain⟨d,ac⟩: ∃X,num (tkB s.1 4)=X:=⟨_,rfl⟩;obtain⟨H,ad⟩: ∃X,num (tkB (tkS s 4).1 1)=X:=⟨_,rfl⟩;have aC:=κ ac;have aD:=κ ad;have O:Hid ((wu s).1=(d,H)):=κ (by rw[<-ac,<-ad];rfl);clear ae hs al ac ad
   go_wp2_with (first | (go_at_call 57;(go_call zn I.o.rd as e w9 ⟨rfl,rfl⟩)) | (go_at_call 54;(go_call jD I.o.rd as e w2 ⟨rfl,aq,ak⟩;rw[aC.o];have U:=κ (I.o.read (s':=tkS s 4) aq ak);clear aq ak)) | (go_at_call 52;(go_call jT U.o.rd as e au ⟨rfl,ag,a3⟩;rw[aD.o];have aB:=κ ((U.o.read (s':=tkS (tkS s 4) 1) ag a3).away.size);have Y:=κ ((U.o.read (s':=tkS (tkS s 4) 1) ag a3).on (ql.alloc au (.cells #[ω d,υ H] 421)));have av:=κ (qj au (.cells #[ω d,υ H] 421));clear ag a3)) | (go_at_call 328;(go_call Je Y.o.rd as e w4 ⟨rfl,ar,a4⟩;have aE:=κ (Y.o.read (s':=(wu s).2) ar a4);have ah:=κ (a4.blk av.o (λe=>by have:=Y.o.hR;have:=aB.o;omega));clear ar a4;have aG:=β0 ah.o;have aH:=β1 ah.o;have M:=κ (aE.o.on (ql.alloc w4 (.cells #[ω d,υ H] 421))))) | (at_builtin;refine jN _ rfl (.tmp 15) (.tmp 17) 280 rfl w.heap.size 421 aN (θ #[ω 0,υ 0]) 2 8 underlying280 hi aI aJ aK rfl ζ _ acc rfl M.o.row w4.heap.size [ω d,υ H] (d,H) rfl rfl (zS rfl) X9 (λ_ _=>⟨rfl,by have:=an.o.1;rw[O.o] at this;exact this,by have:=an.o.2.1;rw[O.o] at this;exact this⟩) (λb ae=>by have:=M.o.hR;have:=M.o.away.size;omega) ζ τ M.o.away.size ?_;intro aY w6 af am _;have aF:=κ (M.o.put af am);obtain⟨aW,aU,aO,rfl,ao,aL⟩:=af.shape;have aA:=κ ao;clear af am ao aL aG aH))
   go_roundw
   case rel=>exact⟨acc++[(d,H)],(wu s).2,n,aF.o,by have:=ai.o;omega,by have:=ay.o;rw[O.o] at this;exact this,by have:=ai.o;simp only[Ϗ,ϙ,ϧ];omega⟩
   case measure=>have:=aA.o;have:=az.o;simp[QO] at *;omega
structure LoJ (w0 w:World) (R:Nat) (C:Nat->Prop) (v:Value) (acc:List Int) (s:RdS):Prop where
 rd:qu w R s.1 s.2 C
 row:w.ownsRow w0.heap.size 39 1 v acc.length (acc.map (Value.int .u16))
 away:jt (λb=>b=R) w0 w
 hC: ∀g,C g->g<w0.heap.size
 hR:R<w0.heap.size
section
variable {w0 w w':World} {R:Nat} {C:Nat->Prop} {v v':Value} {acc acc':List Int} {s s':RdS}
def LoJ.read (h:LoJ w0 w R C v acc s) (r:qu w' R s'.1 s'.2 C) (a:jt (λb=>b=R) w w'):LoJ w0 w' R C v acc s':=⟨r,XC h.row a (λb d e=>by have:=jG h.row d;have:=h.hR;omega),h.away.trans a,h.hC,h.hR⟩
def LoJ.on (h:LoJ w0 w R C v acc s) (m:ql w w'):LoJ w0 w' R C v acc s:=⟨h.rd.more m,jE h.row m,h.away.more m,h.hC,h.hR⟩
def LoJ.put (h:LoJ w0 w R C v acc s) (O:w'.ownsRow w0.heap.size 39 1 v' acc'.length (acc'.map (Value.int .u16))) (d:w.grownBy w' v.ownBlock):LoJ w0 w' R C v' acc' s:=by
 have J: ∀g,v.ownBlock=ϊ g->w0.heap.size<=g:=λg e=>jG h.row e
 have I:=h.away.size;have a:jt (λb=>v.ownBlock=ϊ b) w w':=⟨d.os,d.tape,d.output,d.size,λk H I=>d.block k H (λe=>I e.symm)⟩;refine⟨h.rd.off a (λe=>by have:=J R e;have:=h.hR;omega) (λg M e=>by have:=J g e;have:=h.hC g M;omega),O, ?_,h.hC,h.hR⟩
 exact⟨a.os.trans h.away.os,a.tape.trans h.away.tape,a.output.trans h.away.output,Ϙ I a.size,λk H N=>by
  rw[a.block k (ϗ H I) (λe=>by have:=J k e;omega)]
  exact h.away.block k H N⟩
end
def uJ (h: ¬s.1=[]):jc (n+1) acc s=jc n (acc++prN (prS s).1) (gm acc (prS s).1 (prS s).2):=by
 show (if s.1=[] then _ else _)=_;rw[ώ h]
def VD (acc:List Int) (p:Int×Int) (s:RdS):(gm acc p s).1.length<=s.1.length:=by
 unfold gm;split
 ·exact vH s 2
 ·exact ϔ _
def WK (h: ¬s.1=[]):(prS s).2.1.length+1<=s.1.length:=by
 have d:=C1.2 h;have e:(prS s).2.1=(s.1.drop 2).drop 2:=rfl;rw[e,Ϣ,Ϣ];omega
def yd (h:qu w R l e C):
  Calls prog 57 #[γ R] w λd w'=>d= .returned (ι l.length)/\w=w':=(zn h).mono λ_ _ ⟨a,b⟩=>⟨a,b.symm⟩
def Xx {e g k c:Nat} (h:w.ownsRow base e 1 (δ (ϊ ⟨g,0,ϋ⟩) (k+1) c) acc.length (acc.map (Value.int .u16))) (d:acc.length=k+1):w.cell? ⟨g,k,ϋ⟩=ϊ (φ (acc.getD k 0)):=by
 rw[d] at h;rw[h.cellAt k τ,G7,ϒ,ϖ τ];rfl
def Bq (p:Int×Int):1<=(prN p).length/\(prN p).length<=17:=WM p
def Y6 {aM:Nat->Prop} (h:qu w R s0.1 s0.2 aM) (hR:R<w.heap.size):
  Calls prog 308 #[γ R] w λe w'=> ∃v',e= .returned v'/\LoJ w w' R (λg=>aM g/\g<w.heap.size) v' (jc s0.1.length [] (xK s0)).1 (jc s0.1.length [] (xK s0)).2:=by
 obtain⟨bd,hi,ba,bb,bc⟩:=info_parts (P:=prog) (e:=39) (z:= φ 0) (size:=1) (bytes:=2) ξ;obtain⟨C,aH⟩: ∃C:Nat->Prop,C=λg=>aM g/\g<w.heap.size:=⟨_,rfl⟩
 have bp:qu w R s0.1 s0.2 C:=by rw[aH];exact h.old
 have bi:Hid (∀g,C g->g<w.heap.size):=κ (by rw[aH];exact λg h=>h.2);rw[<-aH];have bU:=h.small;have aU:=κ bp;clear aH h bp;have bl:=κ (λw' (r:qu w' R s0.1 s0.2 C)=>zo (s:=s0) r 2)
 go_enter func308,ntmps308
 go_upto_if 7 with (go_at_call 57;(go_call yd aU.o as e w9 ⟨rfl,rfl⟩))
 go_cut [] from 7 to 9 (λbL=>LoJ w bL R C (δ ϋ 0 0) [] (xK s0))
 case first=>
  by_cases hs:s0.1.length=0
  ·have bs:((s0.1.length:Int)==0)=ό:=eqB τ;have an:xK s0=wrS s0 2:=by unfold xK;rw[ϐ hs]
   have aO:=κ an;clear an hs
   go_wp2_with (first | (go_at_call 55;(go_call bl.o _ aU.o as e I ⟨rfl,M,a3⟩;have U:Hid (LoJ w I R C (δ ϋ 0 0) [] (xK s0)):=κ (by rw[aO.o];exact⟨M,World.ownsRow_nil _ _ _ _,a3,bi.o,hR⟩);clear M a3)))
   go_meet;exact U.o
  ·have bs:((s0.1.length:Int)==0)=ύ:=neB τ;have an:xK s0=s0:=by unfold xK;rw[ώ hs]
   have aO:=κ an;clear an hs;go_wp2;go_meet;rw[aO.o];exact⟨aU.o,World.ownsRow_nil _ _ _ _,jt.refl _ _,bi.o,hR⟩
 case rest=>
 have bH:=κ hcut;clear hcut bl;have an:(xK s0).1.length<=s0.1.length:=by
  unfold xK;split
  ·exact vH _ _
  ·exact ϔ _
 go_wp2_with fail
 go_loopw [3] (λv wr=> ∃acc s n,LoJ w wr R C v acc s/\s.1.length<=n/\jc n acc s=jc s0.1.length [] (xK s0)/\acc.length+17* s.1.length<=17* s0.1.length/\(∀x∈acc,U16 x)) (λv _=>17* s0.1.length-QO v)
 case atStart=>exact⟨[],xK s0,s0.1.length,bH.o,an,rfl,by simp;omega,λx ao=>by cases ao⟩
 case round=>
  obtain⟨acc,s,n,aX,bT,aq,bS,bt⟩:=hrel;have aE:=κ bt;clear bt;have N:=κ aX;have bj:=κ aq;obtain⟨bV,bK,bN,rfl,aC,bJ⟩:=qT aX.row;have bF:=κ aC;clear aX aq bJ;by_cases hs:s.1=[]
  ·have aq:=bj.o;obtain⟨l,e⟩:=s;simp only at hs;subst hs;rw[wE] at aq;have bE:=κ aq;clear aq aC
   go_wp2_with (go_at_call 57;(go_call yd N.o.rd as e w9 ⟨rfl,rfl⟩))
   go_ret;exact⟨_,rfl,by rw[<-bE.o];exact N.o⟩
  ·have bs:=VK hs;have aI:=WK hs;have br:=N.o.rd.byt;obtain⟨be,bf,-⟩:=DZ br;obtain⟨n,rfl⟩: ∃k,n=k+1:=⟨n-1,by have:=C1.2 hs;omega⟩;have aD:Hid (jc n (acc++prN (prS s).1) (gm acc (prS s).1 (prS s).2)=jc s0.1.length [] (xK s0)):=κ (by rw[<-uJ hs];exact bj.o);have aN:=κ aI;have aJ:=VD acc (prS s).1 (prS s).2;obtain⟨d,aY⟩: ∃X,num (tkB s.1 2)=X:=⟨_,rfl⟩;obtain⟨H,aZ⟩: ∃X,num (tkB (tkS s 2).1 2)=X:=⟨_,rfl⟩;have aR:=κ aY;have aS:=κ aZ;have bq:(prS s).1=(d,H):=by rw[<-aY,<-aZ];rfl
   rw[bq] at aD aJ be bf;have am:=κ be;have aV:=κ bf;have O:=κ (Bq (d,H));clear br hs aY aZ bq be bf;have bG:=κ (λw' (r:qu w' R (prS s).2.1 (prS s).2.2 C)=>zo (s:=(prS s).2) r 2);by_cases ha:acc=[]
   ·subst ha;have e:gm [] (d,H) (prS s).2=(prS s).2:=by unfold gm;rw[ώ (λh=>h.1 rfl)]
    have av:Hid (jc n ([]++prN (d,H)) (prS s).2=jc s0.1.length [] (xK s0)):=κ (by rw[<-e];exact aD.o);have ae:Hid ((prS s).2.1.length+1<=s.1.length):=aN;obtain rfl:bK=0:=aC;clear e aJ aI
    go_wp2_with (first | (go_at_call 57;(go_call yd N.o.rd as e w9 ⟨rfl,rfl⟩)) | (go_at_call 53;((with_reducible refine(xn N.o.rd).mono ?_);rintro e w2 ⟨rfl,ak,af⟩;rw[aR.o];have Y:=κ (N.o.read (s':=tkS s 2) ak af);clear ak af)) | (go_at_call 53;((with_reducible refine(xn Y.o.rd).mono ?_);rintro e I ⟨rfl,M,a3⟩;rw[aS.o];have U:=κ ((Y.o.read (s':=(prS s).2) M a3).on (ql.alloc I (.cells #[φ d,φ H] 483)));have aQ:=κ ((Y.o.read (s':=(prS s).2) M a3).away.size);have ad:=κ (qj I (.cells #[φ d,φ H] 483));clear M a3)))
    generalize az:I.alloc (.cells #[φ d,φ H] 483)=x3 at *;clear az;generalize I.heap.size=P3 at *;have aj:=λ(x:qt x3)=>β0 (qq x.h ad.o)
    refine qD x3 (ql.refl _) ξ ξ ?_
    repeat (go_big_quiet_step (fail))
    refine wpQuiet_nil ?_;intro _ aA;obtain⟨J,rfl⟩:=aA;have al:=κ (U.o.on J.h);have aF:=aj J;have aG:J.w'.cell? ⟨P3,1,ϋ⟩=ϊ (φ H):=qm (qq J.h ad.o) 1 rfl;clear aj U
    go_wp2_with (first | (go_at_call 330;(go_call QJ (d,H) _ am.o aV.o as e w6 ⟨bB,rfl,ac,ai⟩;have aa:=κ (al.o.on ai);have S6:=κ (SlI.of_owns ac (by have:=O.o.2;omega));obtain⟨bz,bw,bo,rfl,aB,-⟩:=qT ac;clear ac ai aB)) | (at_builtin;refine qU _ rfl (.tmp 35) (.tmp 37) 281 rfl w.heap.size 39 bd (φ 0) 2 underlying281 hi ba bb bc rfl _ .u16 [] rfl aa.o.row _ (prN (d,H)) rfl S6.o (by have:=O.o.2;simp only[ϧ] at *;omega) ζ aa.o.away.size ?_;intro bC bD ab ag _;have ay:=κ (aa.o.put ab ag);obtain⟨bx,bv,bn,rfl,ah,-⟩:=qT ab;have ax:=κ ah;clear ab ag ah))
    go_roundw
    case rel=>exact⟨[]++prN (d,H),(prS s).2,n,ay.o,by have:=ae.o;omega,av.o,by have:=ae.o;have:=O.o.2;rw[Ϗ];simp only[ϧ] at *;omega,λx ao=>(ϯ.1 ao).elim (aE.o x) (Jw am.o x)⟩
    case measure=>have:=ax.o;have:=bF.o;have:=O.o.1;simp[QO,Ϗ] at *;omega
   ·obtain⟨k,ar⟩: ∃k,acc.length=k+1:=⟨acc.length-1,by have:=C1.2 ha;omega⟩;have au:=Kn ha;rw[ar,Nat.add_sub_cancel] at au;have aK:=aE.o _ (Ci (l:=acc) (i:=k) τ);have ap:=κ ar;rw[ar] at aC;subst aC;obtain⟨g,bM,bu,bO,bP,-⟩:=AY N.o.row τ;rw[ar] at bu;cases bu;obtain⟨y,aL⟩:=ν (acc.getD k 0);rw[aL] at aK au;have bm:=κ aL;have bk:=κ (λw=>Dx y d w aK am.o);have bQ:(0:Int)<(k:Int)+1:=by omega
    have bR:(k:Int)<=9223372036854775807:=by omega
    by_cases hd:0<ahd y d
    ·have e:gm acc (d,H) (prS s).2=(prS s).2:=by unfold gm;rw[ώ (λh=>h.2 (by rw[au];exact hd))]
     have av:Hid (jc n (acc++prN (d,H)) (prS s).2=jc s0.1.length [] (xK s0)):=κ (by rw[<-e];exact aD.o);have ae:Hid ((prS s).2.1.length+1<=s.1.length):=aN;have bI:decide (0<ahd y d)=ό:=Ϫ hd;clear e aJ aI hd ha ar au aK aL
     go_wp2_with (first | (go_at_call 57;(go_call yd N.o.rd as e w9 ⟨rfl,rfl⟩)) | (go_at_call 53;((with_reducible refine(xn N.o.rd).mono ?_);rintro e w2 ⟨rfl,ak,af⟩;rw[aR.o];have Y:=κ (N.o.read (s':=tkS s 2) ak af);clear ak af)) | (go_at_call 53;((with_reducible refine(xn Y.o.rd).mono ?_);rintro e I ⟨rfl,M,a3⟩;rw[aS.o];have U:=κ ((Y.o.read (s':=(prS s).2) M a3).on (ql.alloc I (.cells #[φ d,φ H] 483)));have aQ:=κ ((Y.o.read (s':=(prS s).2) M a3).away.size);have ad:=κ (qj I (.cells #[φ d,φ H] 483));clear M a3)))
     generalize az:I.alloc (.cells #[φ d,φ H] 483)=x3 at *;clear az
     have aw:Hid (∀x:qt x3,x.w'.cell? ⟨g,k,ϋ⟩=ϊ (φ y)):=κ (λx=>by
      have aW:=Xx (jE U.o.row x.h) ap.o
      rw[aW,bm.o])
     have aP:=aw.o;generalize I.heap.size=P3 at *;have aj:=λ(x:qt x3)=>β0 (qq x.h ad.o)
     refine qD x3 (ql.refl _) ξ ξ ?_
     repeat (go_big_quiet_step ((go_at_call 329;with_reducible exact kB ((bk.o _).mono λ_ _ ⟨e,h⟩=>⟨e,h.symm⟩))))
     refine wpQuiet_nil ?_;intro _ aA;obtain⟨J,rfl⟩:=aA;have al:=κ (U.o.on J.h);have aF:=aj J;have aG:J.w'.cell? ⟨P3,1,ϋ⟩=ϊ (φ H):=qm (qq J.h ad.o) 1 rfl;have bh:=κ (qq J.h ad.o);clear aj U aP aw;have aT:=al
     go_wp2_with (first | (go_at_call 330;(go_call QJ (d,H) _ am.o aV.o as e w6 ⟨bB,rfl,ac,ai⟩;have aa:=κ (aT.o.on ai);have S6:=κ (SlI.of_owns ac (by have:=O.o.2;omega));obtain⟨bz,bw,bo,rfl,aB,-⟩:=qT ac;clear ac ai aB)) | (at_builtin;refine qU _ rfl (.tmp 35) (.tmp 37) 281 rfl w.heap.size 39 bd (φ 0) 2 underlying281 hi ba bb bc rfl _ .u16 acc rfl aa.o.row _ (prN (d,H)) rfl S6.o (by have:=O.o.2;have:=ap.o;omega) ζ aa.o.away.size ?_;intro bC bD ab ag _;have ay:=κ (aa.o.put ab ag);obtain⟨bx,bv,bn,rfl,ah,-⟩:=qT ab;have ax:=κ ah;clear ab ag ah))
     go_roundw
     case rel=>exact⟨acc++prN (d,H),(prS s).2,n,ay.o,by have:=ae.o;omega,av.o,by have:=ae.o;have:=O.o.2;rw[Ϗ];omega,λx ao=>(ϯ.1 ao).elim (aE.o x) (Jw am.o x)⟩
     case measure=>have:=ax.o;have:=ap.o;have:=O.o.1;simp[QO,Ϗ] at *;omega
    ·have e:gm acc (d,H) (prS s).2=wrS (prS s).2 2:=by unfold gm;rw[ϐ ⟨ha,by rw[au];exact hd⟩]
     have av:Hid (jc n (acc++prN (d,H)) (wrS (prS s).2 2)=jc s0.1.length [] (xK s0)):=κ (by rw[<-e];exact aD.o);have ae:Hid ((wrS (prS s).2 2).1.length+1<=s.1.length):=κ (by have:=aN.o;have:=vH (prS s).2 2;omega);have bI:decide (0<ahd y d)=ύ:=Ϩ hd;clear e aJ aI hd ha ar au aK aL
     go_wp2_with (first | (go_at_call 57;(go_call yd N.o.rd as e w9 ⟨rfl,rfl⟩)) | (go_at_call 53;((with_reducible refine(xn N.o.rd).mono ?_);rintro e w2 ⟨rfl,ak,af⟩;rw[aR.o];have Y:=κ (N.o.read (s':=tkS s 2) ak af);clear ak af)) | (go_at_call 53;((with_reducible refine(xn Y.o.rd).mono ?_);rintro e I ⟨rfl,M,a3⟩;rw[aS.o];have U:=κ ((Y.o.read (s':=(prS s).2) M a3).on (ql.alloc I (.cells #[φ d,φ H] 483)));have aQ:=κ ((Y.o.read (s':=(prS s).2) M a3).away.size);have ad:=κ (qj I (.cells #[φ d,φ H] 483));clear M a3)))
     generalize az:I.alloc (.cells #[φ d,φ H] 483)=x3 at *;clear az
     have aw:Hid (∀x:qt x3,x.w'.cell? ⟨g,k,ϋ⟩=ϊ (φ y)):=κ (λx=>by
      have aW:=Xx (jE U.o.row x.h) ap.o
      rw[aW,bm.o])
     have aP:=aw.o;generalize I.heap.size=P3 at *;have aj:=λ(x:qt x3)=>β0 (qq x.h ad.o)
     refine qD x3 (ql.refl _) ξ ξ ?_
     repeat (go_big_quiet_step ((go_at_call 329;with_reducible exact kB ((bk.o _).mono λ_ _ ⟨e,h⟩=>⟨e,h.symm⟩))))
     refine wpQuiet_nil ?_;intro _ aA;obtain⟨J,rfl⟩:=aA;have al:=κ (U.o.on J.h);have aF:=aj J;have aG:J.w'.cell? ⟨P3,1,ϋ⟩=ϊ (φ H):=qm (qq J.h ad.o) 1 rfl;have bh:=κ (qq J.h ad.o);clear aj U aP aw
     go_wp2_with (first | (go_at_call 55;(go_call bG.o _ al.o.rd as e w5 ⟨rfl,bA,a5⟩;have aT:=κ (al.o.read (s':=wrS (prS s).2 2) bA a5);have bg:=κ (a5.blk bh.o (λe=>by have:=al.o.hR;have:=aQ.o;omega));clear bA a5 aF aG;have aF:=β0 bg.o;have aG:=β1 bg.o)) | (go_at_call 330;(go_call QJ (d,H) _ am.o aV.o as e w6 ⟨bB,rfl,ac,ai⟩;have aa:=κ (aT.o.on ai);have S6:=κ (SlI.of_owns ac (by have:=O.o.2;omega));obtain⟨bz,bw,bo,rfl,aB,-⟩:=qT ac;clear ac ai aB)) | (at_builtin;refine qU _ rfl (.tmp 35) (.tmp 37) 281 rfl w.heap.size 39 bd (φ 0) 2 underlying281 hi ba bb bc rfl _ .u16 acc rfl aa.o.row _ (prN (d,H)) rfl S6.o (by have:=O.o.2;have:=ap.o;omega) ζ aa.o.away.size ?_;intro bC bD ab ag _;have ay:=κ (aa.o.put ab ag);obtain⟨bx,bv,bn,rfl,ah,-⟩:=qT ab;have ax:=κ ah;clear ab ag ah))
     go_roundw
     case rel=>exact⟨acc++prN (d,H),(wrS (prS s).2 2),n,ay.o,by have:=ae.o;omega,av.o,by have:=ae.o;have:=O.o.2;rw[Ϗ];omega,λx ao=>(ϯ.1 ao).elim (aE.o x) (Jw am.o x)⟩
     case measure=>have:=ax.o;have:=ap.o;have:=O.o.1;simp[QO,Ϗ] at *;omega
def Ma {e:Nat} (h:w.ownsRow base e 1 v n xs):(n:Int)<=9223372036854775807:=by
 rcases h.2 with ⟨_,H⟩ | ⟨g,cap,cur,_,_,_,I,d,_⟩
 ·omega
 ·unfold maxLen at d;omega
structure RdB (w0 w:World) (R:Nat) (l:List Int) (e:Int) (C:Nat->Prop) (B1 B2:Nat) (z cs:Array Value) (T:Nat):Prop where
 rd:qu w R l e (λg=>C g/\g<w0.heap.size)
 away:jt (λb=>b=R) w0 w
 b1:w.heap[B1]? =ϊ (.cells z T (0,0))
 b2:w.heap[B2]? =ϊ (.cells cs T (0,0))
 n1:w0.heap.size<=B1
 n2:B1<B2
 hR:R<w0.heap.size
def RdB.new (z:Array Value) (T:Nat) (h:qu w R l e C):RdB w ((w.alloc (.cells z T)).alloc (.cells z T)) R l e C w.heap.size (w.heap.size+1) z z T:=
 ⟨(h.old.more X8).more X8,jt.of_more (X8.al _),qs (qj w _) _,qC η,ϔ _,F1 _,by obtain⟨v,d,_⟩:=h.blk;exact qn d⟩
def RdB.step {d:World} {l':List Int} {J:Int} {H I:Nat} (h:RdB d w R l e C H I z cs T) (r:qu w' R l' J (λg=>C g/\g<d.heap.size)) (a:jt (λb=>b=R) w w'):RdB d w' R l' J C H I z cs T:=
 ⟨r,h.away.trans a,a.blk h.b1 (by have:=h.n1;have:=h.hR;omega),a.blk h.b2 (by have:=h.n1;have:=h.n2;have:=h.hR;omega),h.n1,h.n2,h.hR⟩
def VX {d:World} {B:Nat} (h:jt (λb=>b=R) d w) (J:d.heap.size<=B) (o:Nat) (v:Value):jt (λb=>b=R) d (w.setCell ⟨B,o,ϋ⟩ v):=by
 have a:jt (λb=>b=B) w (w.setCell ⟨B,o,ϋ⟩ v):=(jt.refl (λb=>b=B) w).set (p:=⟨B,o,ϋ⟩) rfl v;exact⟨a.os.trans h.os,a.tape.trans h.tape,a.output.trans h.output,Ϙ h.size a.size,λk H I=>by rw[a.block k (ϗ H h.size) τ];exact h.block k H I⟩
def RdB.store {I:World} {H d:Nat} (h:RdB I w R l e C H d z cs T) (i:Nat) (v:Value):RdB I (w.setCell ⟨d,i,ϋ⟩ v) R l e C H d z (cs.setIfInBounds i v) T:=by
 have J:=h.n1;have M:=h.n2;have N:=h.hR;have a:jt (λb=>b=d) w (w.setCell ⟨d,i,ϋ⟩ v):=(jt.refl (λb=>b=d) w).set (p:=⟨d,i,ϋ⟩) rfl v;exact⟨h.rd.off a τ (λg O e=>by omega),VX h.away τ i v,a.blk h.b1 τ,qp h.b2 i v,h.n1,h.n2,h.hR⟩
def RdB.fill {I:World} {d H:Nat} (h:RdB I w R l e C d H z cs T) (i:Nat) (v:Value):RdB I (w.setCell ⟨d,i,ϋ⟩ v) R l e C d H (z.setIfInBounds i v) cs T:=by
 have J:=h.n1;have M:=h.n2;have N:=h.hR;have a:jt (λb=>b=d) w (w.setCell ⟨d,i,ϋ⟩ v):=(jt.refl (λb=>b=d) w).set (p:=⟨d,i,ϋ⟩) rfl v;exact⟨h.rd.off a τ (λg O e=>by omega),VX h.away τ i v,qp h.b1 i v,a.blk h.b2 τ,h.n1,h.n2,h.hR⟩
def kp (h:Byt s.1):U32 (xP s):=by
 have:=zv (tkB s.1 4) 4 (jL h 4) (zh s.1 4 ζ) ζ;unfold xP;exact⟨this.1,τ⟩
def At (q:Int):IntKind.i32.wrap q=(q+2147483648)%4294967296-2147483648:=by
 unfold IntKind.wrap;simp[IntKind.bits,IntKind.signed]
 try omega
def Kx (h:qu w R s.1 s.2 C):
  Calls prog 304 #[γ R] w λe w'=>e= .returned (θ #[ω (jA s).1.sec,ω (jA s).1.frac,ω (jA s).1.stamp,ω (jA s).1.pkts,ω (jA s).1.octs])/\qu w' R (jA s).2.1 (jA s).2.2 C/\jt (λb=>b=R) w w':=by
 obtain⟨L,E⟩:=s;simp only at h;have O:=RdB.new #[ω 0,ω 0,ω 0,ω 0,ω 0] 286 h;have ac:=h.byt;have ag:jA (L,E)=(⟨num (tkB L 4),num (tkB (tkL L 4) 4),num (tkB (tkL (tkL L 4) 4) 4),num (tkB (tkL (tkL (tkL L 4) 4) 4) 4),num (tkB (tkL (tkL (tkL (tkL L 4) 4) 4) 4) 4)⟩,((tkL (tkL (tkL (tkL (tkL L 4) 4) 4) 4) 4),(tkE (tkL (tkL (tkL (tkL L 4) 4) 4) 4) 4 (tkE (tkL (tkL (tkL L 4) 4) 4) 4 (tkE (tkL (tkL L 4) 4) 4 (tkE (tkL L 4) 4 (tkE L 4 E))))))):=rfl;have N:=κ ag;clear ag;have ad:Byt (tkL L 4):=ac.drop _;generalize aC:num (tkB L 4)=n0 at *;generalize ap:tkE L 4 E=E1 at *;generalize aw:tkL L 4=L1 at *;have ae:Byt (tkL L1 4):=ad.drop _;generalize aD:num (tkB L1 4)=n1 at *;generalize aq:tkE L1 4 E1=E2 at *;generalize ax:tkL L1 4=L2 at *;have af:Byt (tkL L2 4):=ae.drop _;generalize aE:num (tkB L2 4)=n2 at *;generalize ar:tkE L2 4 E2=E3 at *;generalize ay:tkL L2 4=L3 at *;have aB:Byt (tkL L3 4):=af.drop _;generalize aF:num (tkB L3 4)=n3 at *;generalize au:tkE L3 4 E3=E4 at *;generalize az:tkL L3 4=L4 at *;generalize aG:num (tkB L4 4)=n4 at *;generalize av:tkE L4 4 E4=E5 at *;generalize aA:tkL L4 4=L5 at *;clear ac ad ae af aB
 go_enter func304,ntmps304
 go_wp2_with first | (go_at_call 54;((with_reducible refine(jD O.rd).mono ?_);rintro e w10 ⟨rfl,aH,a0⟩;have H:=O.step aH a0;rw[aw,ap] at H;rw[aC];have U:=H.store 0 (ω n0);have aM:=β0 H.b2;have aR:=yw H.b2 0)) | (go_at_call 54;((with_reducible refine(jD U.rd).mono ?_);rintro e aW ⟨rfl,aI,ai⟩;have I:=U.step aI ai;rw[ax,aq] at I;rw[aD];have Y:=I.store 1 (ω n1);have c1:=β1 I.b2;have aS:=yw I.b2 1)) | (go_at_call 54;((with_reducible refine(jD Y.rd).mono ?_);rintro e aX ⟨rfl,aJ,aj⟩;have J:=Y.step aJ aj;rw[ay,ar] at J;rw[aE];have aa:=J.store 2 (ω n2);have c2:=β2 J.b2;have aT:=yw J.b2 2)) | (go_at_call 54;((with_reducible refine(jD aa.rd).mono ?_);rintro e aY ⟨rfl,aK,a3⟩;have M:=aa.step aK a3;rw[az,au] at M;rw[aF];have ab:=M.store 3 (ω n3);have c3:=β3 M.b2;have aU:=yw M.b2 3)) | (go_at_call 54;((with_reducible refine(jD ab.rd).mono ?_);rintro e aZ ⟨rfl,aL,a4⟩;have d:=ab.step aL a4;rw[aA,av] at d;rw[aG];have ah:=d.store 4 (ω n4);have c4:=β4 d.b2;have aV:=yw d.b2 4;have aN:=β0 d.b2;have aO:=β1 d.b2;have aP:=β2 d.b2;have aQ:=β3 d.b2;have ak:=β0 d.b1;have z0:=yw d.b1 0;have al:=β1 d.b1;have ba:=yw d.b1 1;have am:=β2 d.b1;have bb:=yw d.b1 2;have an:=β3 d.b1;have z3:=yw d.b1 3;have ao:=β4 d.b1;have z4:=yw d.b1 4))
 (refine bodyPost_ret (v:= θ #[ω n0,ω n1,ω n2,ω n3,ω n4]) ?rr1 rfl ?_;(case rr1=>(simp[results,results304,go_sem,ak,al,am,an,ao])))
 have Z:=(((((ah.fill 0 (ω n0)).fill 1 (ω n1)).fill 2 (ω n2)).fill 3 (ω n3)).fill 4 (ω n4));exact⟨by rw[N.o],by rw[N.o];exact Z.rd.mono λg h=>h.1,Z.away⟩
def Kz (h:qu w R s.1 s.2 C):
  Calls prog 305 #[γ R] w λe w'=>e= .returned (θ #[ω (qM s).1.src,υ (qM s).1.part,χ (qM s).1.miss,ω (qM s).1.high,ω (qM s).1.jit,ω (qM s).1.last,ω (qM s).1.dly])/\qu w' R (qM s).2.1 (qM s).2.2 C/\jt (λb=>b=R) w w':=by
 obtain⟨L,E⟩:=s;simp only at h;have aa:=RdB.new Γe 473 h;have ah:=h.byt;have an:qM (L,E)=(⟨num (tkB L 4),num (tkB (tkL L 4) 1),sgd (num (tkB (tkL (tkL L 4) 1) 3)) 24,num (tkB (tkL (tkL (tkL L 4) 1) 3) 4),num (tkB (tkL (tkL (tkL (tkL L 4) 1) 3) 4) 4),num (tkB (tkL (tkL (tkL (tkL (tkL L 4) 1) 3) 4) 4) 4),num (tkB (tkL (tkL (tkL (tkL (tkL (tkL L 4) 1) 3) 4) 4) 4) 4)⟩,((tkL (tkL (tkL (tkL (tkL (tkL (tkL L 4) 1) 3) 4) 4) 4) 4),(tkE (tkL (tkL (tkL (tkL (tkL (tkL L 4) 1) 3) 4) 4) 4) 4 (tkE (tkL (tkL (tkL (tkL (tkL L 4) 1) 3) 4) 4) 4 (tkE (tkL (tkL (tkL (tkL L 4) 1) 3) 4) 4 (tkE (tkL (tkL (tkL L 4) 1) 3) 4 (tkE (tkL (tkL L 4) 1) 3 (tkE (tkL L 4) 1 (tkE L 4 E))))))))):=rfl;have Y:=κ an;clear an;have ai:Byt (tkL L 4):=ah.drop _;generalize aR:num (tkB L 4)=n0 at *;generalize aC:tkE L 4 E=E1 at *;generalize aJ:tkL L 4=L1 at *;have U:Byt (tkL L1 1):=ai.drop _;generalize aS:num (tkB L1 1)=n1 at *;generalize aD:tkE L1 1 E1=E2 at *;generalize aK:tkL L1 1=L2 at *;have am:=zv (tkB L2 3) 3 (jL U 3) (zh L2 3 ζ) ζ;have aj:Byt (tkL L2 3):=U.drop _;generalize aT:num (tkB L2 3)=n2 at *;generalize aE:tkE L2 3 E2=E3 at *;generalize aL:tkL L2 3=L3 at *;have ba:U64 n2:=by
  unfold U64;omega
 have bz:IntKind.u64.wrap n2=n2:=by
  exact F5 am.1 (by show n2<18446744073709551616;omega)
 have ao:=KR n2 24 ζ ζ;have aZ:(sgd n2 24+2147483648)%4294967296-2147483648=sgd n2 24:=by
  have e:two (24-1)=8388608:=by decide
  rw[e] at ao;omega
 generalize aY:sgd n2 24=q at *;have bx:IntKind.i32.wrap q=q:=(At q).trans aZ;have ak:Byt (tkL L3 4):=aj.drop _;generalize aU:num (tkB L3 4)=n3 at *;generalize aF:tkE L3 4 E3=E4 at *;generalize aM:tkL L3 4=L4 at *;have al:Byt (tkL L4 4):=ak.drop _;generalize aV:num (tkB L4 4)=n4 at *;generalize aG:tkE L4 4 E4=E5 at *;generalize aN:tkL L4 4=L5 at *;have aQ:Byt (tkL L5 4):=al.drop _;generalize aW:num (tkB L5 4)=n5 at *;generalize aH:tkE L5 4 E5=E6 at *;generalize aO:tkL L5 4=L6 at *;generalize aX:num (tkB L6 4)=n6 at *;generalize aI:tkE L6 4 E6=E7 at *;generalize aP:tkL L6 4=L7 at *;clear ah ai U aj ak al aQ ao am
 go_enter func305,ntmps305
 go_wp2_with first | (go_at_call 54;((with_reducible refine(jD aa.rd).mono ?_);rintro e w10 ⟨rfl,bb,a0⟩;have H:=aa.step bb a0;rw[aJ,aC] at H;rw[aR];have ab:=H.store 0 (ω n0);have bi:=β0 H.b2;have bq:=yw H.b2 0)) | (go_at_call 52;(go_call jT ab.rd as e bA ⟨rfl,bc,aq⟩;have I:=ab.step bc aq;rw[aK,aD] at I;rw[aS];have ac:=I.store 1 (υ n1);have c1:=β1 I.b2;have br:=yw I.b2 1)) | (go_at_call 328;(go_call Je ac.rd as e bB ⟨rfl,bd,ar⟩;have J:=ac.step bd ar;rw[aL,aE] at J;rw[aT];have ad:=J.store 2 (χ q);have c2:=β2 J.b2;have bs:=yw J.b2 2)) | (go_at_call 327;(go_call U9 n2 24 ba ζ _ as e bG ⟨rfl,rfl⟩;rw[aY])) | (go_at_call 54;((with_reducible refine(jD ad.rd).mono ?_);rintro e bC ⟨rfl,be,a3⟩;have M:=ad.step be a3;rw[aM,aF] at M;rw[aU];have ae:=M.store 3 (ω n3);have c3:=β3 M.b2;have bt:=yw M.b2 3)) | (go_at_call 54;((with_reducible refine(jD ae.rd).mono ?_);rintro e bD ⟨rfl,bf,a4⟩;have N:=ae.step bf a4;rw[aN,aG] at N;rw[aV];have af:=N.store 4 (ω n4);have c4:=β4 N.b2;have bu:=yw N.b2 4)) | (go_at_call 54;((with_reducible refine(jD af.rd).mono ?_);rintro e bE ⟨rfl,bg,a5⟩;have O:=af.step bg a5;rw[aO,aH] at O;rw[aW];have ag:=O.store 5 (ω n5);have c5:=β5 O.b2;have bv:=yw O.b2 5)) | (go_at_call 54;((with_reducible refine(jD ag.rd).mono ?_);rintro e bF ⟨rfl,bh,au⟩;have d:=ag.step bh au;rw[aP,aI] at d;rw[aX];have ap:=d.store 6 (ω n6);have bj:=β6 d.b2;have bw:=yw d.b2 6;have bk:=β0 d.b2;have bl:=β1 d.b2;have bm:=β2 d.b2;have bn:=β3 d.b2;have bo:=β4 d.b2;have bp:=β5 d.b2;have av:=β0 d.b1;have z0:=yw d.b1 0;have aw:=β1 d.b1;have bH:=yw d.b1 1;have ax:=β2 d.b1;have bI:=yw d.b1 2;have ay:=β3 d.b1;have z3:=yw d.b1 3;have az:=β4 d.b1;have z4:=yw d.b1 4;have aA:=β5 d.b1;have z5:=yw d.b1 5;have aB:=β6 d.b1;have bJ:=yw d.b1 6))
 (refine bodyPost_ret (v:= θ #[ω n0,υ n1,χ q,ω n3,ω n4,ω n5,ω n6]) ?rr2 rfl ?_;(case rr2=>(simp[results,results305,go_sem,av,aw,ax,ay,az,aA,aB])))
 have Z:=(((((((ap.fill 0 (ω n0)).fill 1 (υ n1)).fill 2 (χ q)).fill 3 (ω n3)).fill 4 (ω n4)).fill 5 (ω n5)).fill 6 (ω n6));exact⟨by rw[Y.o],by rw[Y.o];exact Z.rd.mono λg h=>h.1,Z.away⟩
def Yv {l:List Blk} (h:SlP 7 Yj w v l) (M: ∀b,v.ownBlock=ϊ b-> ¬S b) (a:jt S w w'):SlP 7 Yj w' v l:=by
 obtain⟨aa,cap,rfl,H,I,J⟩:=h;refine⟨aa,cap,rfl,H,λi hi=> ?_,J⟩;obtain⟨b,ab,cs,rfl,d,U,N,Y⟩:=I i hi;exact⟨b,ab,cs,rfl,ϗ d a.size,U,λj O=>by rw[a.cells b _ d (M b rfl)];exact N j O,Y⟩
def JD (h:qu w R s.1 s.2 C):
  Calls prog 59 #[γ R] w λd w'=>d= .returned (ι (wM s))/\w'=w:=yT h
structure RpJ (w0 w:World) (R B5:Nat) (C:Nat->Prop) (o0 o1:Obj) (xs:List Value) (v:Value) (bl:List Blk) (s:RdS):Prop where
 rd:qu w R s.1 s.2 C
 b0:w.heap[w0.heap.size]? =ϊ o0
 b1:w.heap[w0.heap.size+1]? =ϊ o1
 b5:w.heap[B5]? =ϊ (.cells (xs++[v]).toArray 289 (0,0))
 row:je 7 Yj (λb=>b=R∨b=B5) w (B5+1) 473 v bl
 more:ql w0 w
 h1:w0.heap.size+1<R
 h2:R<B5
 hC: ∀g,C g->w0.heap.size+1<g/\g<B5
def RpJ.new {d w4 w5:World} {H I:Obj} (xs:List Value) (cs:Array Value) (O:cs=(xs++[δ ϋ 0 0]).toArray) (M:w4.heap[w.heap.size]? =ϊ H) (N:w4.heap[w.heap.size+1]? =ϊ I) (U:qu w5 R s.1 s.2 (λg=>d.heap.size<=g/\g<w4.heap.size)) (a5:jt (λb=>b=R) w4 w5) (J:ql w w4) (ac:w.heap.size+2<=d.heap.size) (aa:d.heap.size<=R) (ab:R<w4.heap.size):
  RpJ w (w5.alloc (.cells cs 289)) R w5.heap.size (λg=>d.heap.size<=g/\g<w4.heap.size) H I xs (δ ϋ 0 0) [] s:=by
 subst O;have Y:=a5.size;exact⟨U.more X8,qs (a5.blk M τ) _,qs (a5.blk N τ) _,qj w5 _,je.nil _ _ _ _ _ _,(Jv a5 J τ).al _,τ,τ,λg h=>⟨τ,τ⟩⟩
def RpJ.read {M:World} {d:Nat} {I J:Obj} (h:RpJ M w R d C I J xs v H s) (r:qu w' R s'.1 s'.2 C) (a:jt (λb=>b=R) w w'):RpJ M w' R d C I J xs v H s':=by
 have h1:=h.h1;have h2:=h.h2;exact⟨r,a.blk h.b0 τ,a.blk h.b1 τ,a.blk h.b5 τ,h.row.step (a.mono λk N=>ϑ N),Jv a h.more τ,h1,h2,h.hC⟩
def RpJ.on {M:World} {d:Nat} {I J:Obj} (h:RpJ M w R d C I J xs v H s) (m:ql w w'):RpJ M w' R d C I J xs v H s:=
 ⟨h.rd.more m,qq m h.b0,qq m h.b1,qq m h.b5,h.row.on m,h.more.trans m,h.h1,h.h2,h.hC⟩
def RpJ.put {J:World} {d:Nat} {U Y:Obj} {aa O:List Blk} (h:RpJ J w R d C U Y xs v aa s) (ab:xs.length=7)
  (ad:je 7 Yj (λb=>b=R∨b=d) w' (d+1) 473 v' O) (I:w.grownBy w' v.ownBlock):RpJ J (w'.setCell ⟨d,7,ϋ⟩ v') R d C U Y xs v' O s:=by
 have h1:=h.h1;have h2:=h.h2;have H: ∀g,v.ownBlock=ϊ g->d+1<=g:=λg e=>h.row.ge e
 have a:jt (λb=>v.ownBlock=ϊ b) w w':=⟨I.os,I.tape,I.output,I.size,λk N ae=>I.block k N (λe=>ae e.symm)⟩;have a5:jt (λb=>b=d) w' (w'.setCell ⟨d,7,ϋ⟩ v'):=(jt.refl (λb=>b=d) w').set (p:=⟨d,7,ϋ⟩) rfl v';have ac:ql J w':=jt.to_more h.more a (λk e=>by have:=H k e;omega);refine⟨(h.rd.off a (λe=>by have:=H R e;omega) (λg M e=>by have:=H g e;have:=(h.hC g M).2;omega)).off a5 τ (λg M e=>by have:=(h.hC g M).2;omega),a5.blk (a.blk h.b0 (λe=>by have:=H _ e;omega)) τ,a5.blk (a.blk h.b1 (λe=>by have:=H _ e;omega)) τ,qB (qp (a.blk h.b5 (λe=>by have:=H _ e;omega)) 7 v') ?_,ad.step (a5.mono λk N=>ϕ N),ac.st (by show J.heap.size<=d;omega) v',h1,h2,h.hC⟩
 match xs,ab with
 | [x0,x1,x2,x3,x4,x5,x6],_=>rfl
def RpJ.set {H:World} {d:Nat} {J M:Obj} {I:List Blk} (h:RpJ H w R d C J M xs v I s) (i:Nat) (hi:i<xs.length) (x:Value):RpJ H (w.setCell ⟨d,i,ϋ⟩ x) R d C J M (xs.set i x) v I s:=by
 have h1:=h.h1;have h2:=h.h2;have a5:jt (λb=>b=d) w (w.setCell ⟨d,i,ϋ⟩ x):=(jt.refl (λb=>b=d) w).set (p:=⟨d,i,ϋ⟩) rfl x;refine⟨h.rd.off a5 τ (λg N e=>by have:=(h.hC g N).2;omega),a5.blk h.b0 τ,a5.blk h.b1 τ,qB (qp h.b5 i x) ?_,h.row.step (a5.mono λk O=>ϕ O),h.more.st (by show H.heap.size<=d;omega) x,h1,h2,h.hC⟩;simp[List.setIfInBounds_toArray,List.set_append,hi]
def YY (n:Nat) (s:RdS) (acc:List Blk):acc++(js (n+1) s).1=(acc++[(qM s).1])++(js n (qM s).2).1/\(js (n+1) s).2=(js n (qM s).2).2:=by
 constructor
 ·show acc++((qM s).1::(js n (qM s).2).1)=_;simp
 ·rfl
def Ux (h:Byt s.1):QS (qM s).1:=by
 have d:=jK h 4;have N:=jK d 1;have H:=jK N 3;have I:=jK H 4;have J:=jK I 4;have O:=jK J 4;have U:=zv (tkB (tkS s 4).1 1) 1 (jL d 1) (zh _ 1 ζ) ζ;have Y:=KR (num (tkB (tkS (tkS s 4) 1).1 3)) 24 ζ ζ;have M:two (24-1)=8388608:=by decide
 rw[M] at Y;exact⟨kp h,⟨U.1,by show num (tkB (tkS s 4).1 1)<=255;omega⟩,⟨by show -2147483648<=sgd _ 24;omega,by show sgd _ 24<=2147483647;omega⟩,kp H,kp I,kp J,kp O⟩
def Bf (O:xk c):Zx (qG c).1:=by
 by_cases h:(qG c).2=0
 ·exact(YP (r:=(qG c).1) O (by rw[<-h])).2.1
 ·have:(qG c).1=Qh:=by
   unfold qG at h ⊢;have I: ∀r s,¬(yZ r s).2=0->(yZ r s).1=Qh:=by
    intro r s H;unfold yZ at H ⊢;split
    ·rename_i y;rw[ϐ y] at H;exact ϩ rfl H
    ·rfl
   split
   ·rfl
   ·rename_i J;rw[ώ J] at h;split
    ·rename_i d;rw[ϐ d] at h;exact I _ _ h
    ·rename_i d;rw[ώ d] at h;split
     ·rename_i M;rw[ϐ M] at h;exact I _ _ h
     ·rfl
  rw[this];exact⟨ζ,WY,λb N=>by cases N⟩
def Du (k t:Int) (B:List Int) (I:Option Addr) (H:Nat) (aa:Hid (SlI .u8 w (δ I B.length H) B)) (an:Hid (Byt B)) (ak:B.length<=1000000) (U:Hid (jx (k,t,B,())=ύ)):
  Calls prog 280 #[θ #[υ k,υ t,δ I B.length H]] w λe w'=>e= .returned (.tuple #[Γd,ι 1])/\ql w w':=by
 have O:ql w ((w.alloc (.cells #[υ k,υ t,δ I B.length H] 291)).alloc (.cells Γd 289)):=X8.al _;have M:((w.alloc (.cells #[υ k,υ t,δ I B.length H] 291)).alloc (.cells Γd 289)).heap[w.heap.size]? =ϊ (.cells #[υ k,υ t,δ I B.length H] 291):=qs (qj w _) _;have N:((w.alloc (.cells #[υ k,υ t,δ I B.length H] 291)).alloc (.cells Γd 289)).heap[w.heap.size+1]? =ϊ (.cells Γd 289):=qC η
 go_enter func280,ntmps280
 go_wp2_with (go_at_call 260;refine(xR (k,t,B,()) (aa.o.keep O) ak).mono ?_;rintro e am ⟨rfl,J⟩;rw[U.o];have Y:=O.trans J;have aj:=qq J M;have d:=qq J N;have ao:w.heap.size+2<=am.heap.size:=Ϙ η J.size;have ab:=β0 d;have z0:=yw d 0;have ac:=β1 d;have ap:=yw d 1;have ad:=β2 d;have aq:=yw d 2;have ae:=β3 d;have z3:=yw d 3;have af:=β4 d;have z4:=yw d 4;have ag:=β5 d;have z5:=yw d 5;have ah:=β6 d;have ar:=yw d 6;have ai:=β7 d;have au:=yw d 7;clear aj d M N)
 (refine bodyPost_ret (v:= .tuple #[Γd,ι 1]) ?rr1 rfl ?_;(case rr1=>(simp[results,results280,go_sem,ab,ac,ad,ae,af,ag,ah,ai])))
 exact⟨rfl,((((((((Y.st η _).st η _).st η _).st η _).st η _).st η _).st η _).st η _)⟩
def Y8 (k t:Int) (B:List Int) (I:Option Addr) (H:Nat) (U:Hid (SlI .u8 w (δ I B.length H) B)) (ad:Hid (Byt B)) (aa:B.length<=1000000) (ae:Hid (jx (k,t,B,())=ό)) (aq: ¬t=200) (ar: ¬t=201):
  Calls prog 280 #[θ #[υ k,υ t,δ I B.length H]] w λe w'=>e= .returned (.tuple #[Γd,ι 5])/\ql w w':=by
 have ab:ql w ((w.alloc (.cells #[υ k,υ t,δ I B.length H] 291)).alloc (.cells Γd 289)):=X8.al _;have av:((w.alloc (.cells #[υ k,υ t,δ I B.length H] 291)).alloc (.cells Γd 289)).heap[w.heap.size]? =ϊ (.cells #[υ k,υ t,δ I B.length H] 291):=qs (qj w _) _;have ay:((w.alloc (.cells #[υ k,υ t,δ I B.length H] 291)).alloc (.cells Γd 289)).heap[w.heap.size+1]? =ϊ (.cells Γd 289):=qC η;have aG:(t==200)=ύ:=by simpa using aq
 have aH:(t==201)=ύ:=by simpa using ar
 go_enter func280,ntmps280
 go_wp2_with first | (go_at_call 260;refine(xR (k,t,B,()) (U.o.keep ab) aa).mono ?_;rintro e N ⟨rfl,J⟩;rw[ae.o];have O:=ab.trans J;have Y:=qq J av;have aw:=qq J ay;have aB:w.heap.size+2<=N.heap.size:=Ϙ η J.size;have aD:=β2 Y) | (go_at_call 51;(go_call NV _ B N (U.o.keep O) ad.o aa as e w4 ⟨R,rfl,az,ac,M⟩;have au:=qq M Y;have ax:=qq M aw;have af:=O.trans M;have aA:R<w4.heap.size:=by (obtain⟨v,ap,_⟩:=ac.blk;exact qn ap))) | (go_at_call 54;(go_call jD ac as e w5 ⟨rfl,aC,a5⟩;have d:RpJ w (w5.alloc (.cells #[μ ύ,ω (num (tkB B 4)),ω 0,ω 0,ω 0,ω 0,ω 0,()] 289)) R w5.heap.size (λg=>N.heap.size<=g/\g<w4.heap.size) (.cells #[υ k,υ t,δ I B.length H] 291) (.cells Γd 289) [μ ύ,ω (num (tkB B 4)),ω 0,ω 0,ω 0,ω 0,ω 0] (δ ϋ 0 0) [] (tkL B 4,tkE B 4 0):=RpJ.new _ _ rfl au ax aC a5 af aB az aA;have aF:=β1 d.b0;have aE:=β0 d.b0;have ag:=β0 d.b1;have z0:=yw d.b1 0;have ah:=β1 d.b1;have aI:=yw d.b1 1;have ai:=β2 d.b1;have aJ:=yw d.b1 2;have aj:=β3 d.b1;have z3:=yw d.b1 3;have ak:=β4 d.b1;have z4:=yw d.b1 4;have am:=β5 d.b1;have z5:=yw d.b1 5;have an:=β6 d.b1;have aK:=yw d.b1 6;have ao:=β7 d.b1;have aL:=yw d.b1 7))
 (refine bodyPost_ret (v:= .tuple #[Γd,ι 5]) ?rr2 rfl ?_;(case rr2=>(simp[results,results280,go_sem,ag,ah,ai,aj,ak,am,an,ao])))
 exact⟨rfl,((((((((d.more.st η _).st η _).st η _).st η _).st η _).st η _).st η _).st η _)⟩
def XL (H:Nat) (t:Int) (snd:Bool) (inf:Inf) (s0:RdS) (B:List Int) (U:Option Addr) (O:Nat) (D:Rep×Int) (aM:Hid (SlI .u8 w (δ U B.length O) B)) (bu:Hid (Byt B)) (bi:B.length<=1000000) (cb:H<=31) (aG:Hid (jx ((H:Int),t,B,())=ό))
  (bk:t=if snd then 200 else 201) (bf:(if snd then jA (tkL B 4,tkE B 4 0) else (Jj,(tkL B 4,tkE B 4 0)))=(inf,s0)) (bv:Hid (yZ ⟨snd,num (tkB B 4),inf,(js H s0).1⟩ (js H s0).2=D)):
  Calls prog 280 #[θ #[υ (H:Int),υ t,δ U B.length O]] w λe w'=>(∃vb,e= .returned (.tuple #[θ #[μ D.1.snd,ω D.1.src,ω D.1.inf.sec,ω D.1.inf.frac,ω D.1.inf.stamp,ω D.1.inf.pkts,ω D.1.inf.octs,vb],ι D.2])/\SlP 7 Yj w' vb D.1.bl/\jX w vb)/\ql w w':=by
 obtain⟨bN,hi,bK,bL,bM⟩:=info_parts (P:=prog) (e:=473) (z:= Γe) (size:=7) (bytes:=28) ξ;obtain⟨k,av⟩: ∃k:Int,k=(H:Int):=⟨_,rfl⟩;rw[<-av] at aG ⊢;have aq:=κ av;clear av;have aB:ql w ((w.alloc (.cells #[υ k,υ t,δ U B.length O] 291)).alloc (.cells Γd 289)):=X8.al _;have bb:((w.alloc (.cells #[υ k,υ t,δ U B.length O] 291)).alloc (.cells Γd 289)).heap[w.heap.size]? =ϊ (.cells #[υ k,υ t,δ U B.length O] 291):=qs (qj w _) _;have bd:((w.alloc (.cells #[υ k,υ t,δ U B.length O] 291)).alloc (.cells Γd 289)).heap[w.heap.size+1]? =ϊ (.cells Γd 289):=qC η;have aH:=κ bk;have aD:=κ bf;clear bk bf
 go_enter func280,ntmps280
 go_upto_block 2 with first | (go_at_call 260;refine(xR (k,t,B,()) (aM.o.keep aB) bi).mono ?_;rintro e ag ⟨rfl,am⟩;rw[aG.o];have aI:=aB.trans am;have aZ:=qq am bb;have bE:=qq am bd;have bm:w.heap.size+2<=ag.heap.size:=Ϙ η am.size;have bC:=β2 aZ) | (go_at_call 51;(go_call NV _ B ag (aM.o.keep aI) bu.o bi as e w4 ⟨R,rfl,bg,bn,aC⟩;have ba:=qq aC aZ;have bc:=qq aC bE;have aJ:=aI.trans aC;have bh:R<w4.heap.size:=by (obtain⟨v,h1,_⟩:=bn.blk;exact qn h1))) | (go_at_call 54;(go_call jD bn as e w5 ⟨rfl,bo,a5⟩;have af:RpJ w (w5.alloc (.cells #[μ ύ,ω (num (tkB B 4)),ω 0,ω 0,ω 0,ω 0,ω 0,()] 289)) R w5.heap.size (λg=>ag.heap.size<=g/\g<w4.heap.size) (.cells #[υ k,υ t,δ U B.length O] 291) (.cells Γd 289) [μ ύ,ω (num (tkB B 4)),ω 0,ω 0,ω 0,ω 0,ω 0] (δ ϋ 0 0) [] (tkL B 4,tkE B 4 0):=RpJ.new _ _ rfl ba bc bo a5 aJ bm bg bh;have au:=β1 af.b0))
 have ap:=κ af;clear af au
 go_cut [] from 19 to 51 (λbR=>RpJ w bR R w5.heap.size (λg=>ag.heap.size<=g/\g<w4.heap.size) (.cells #[υ k,υ t,δ U B.length O] 291) (.cells Γd 289) [μ snd,ω (num (tkB B 4)),ω inf.sec,ω inf.frac,ω inf.stamp,ω inf.pkts,ω inf.octs] (δ ϋ 0 0) [] s0)
 case first=>
  cases snd
  ·have h1:=aH.o;have h2:=aD.o;simp only[Ϭ,C2,C7] at h1 h2;obtain⟨rfl,rfl⟩:=h2;subst h1;have au:=β1 ap.o.b0;go_wp2;go_meet;exact ap.o
  ·have h1:=aH.o;have h2:=aD.o;simp only[A7] at h1 h2;subst h1;have ah:inf=(jA (tkL B 4,tkE B 4 0)).1:=by rw[h2]
   have bD:s0=(jA (tkL B 4,tkE B 4 0)).2:=by rw[h2]
   subst ah bD;clear h2;have au:=β1 ap.o.b0;have af:RpJ w (w5.alloc (.cells #[μ ό,ω (num (tkB B 4)),ω 0,ω 0,ω 0,ω 0,ω 0,()] 289)) R w5.heap.size (λg=>ag.heap.size<=g/\g<w4.heap.size) (.cells #[υ k,υ 200,δ U B.length O] 291) (.cells Γd 289) [μ ό,ω (num (tkB B 4)),ω 0,ω 0,ω 0,ω 0,ω 0] (δ ϋ 0 0) [] (tkL B 4,tkE B 4 0):=RpJ.new _ _ rfl ba bc bo a5 aJ bm bg bh
   go_wp2_with ((go_at_call 304;(go_call Kx (s:=(tkL B 4,tkE B 4 0)) af.rd as e ct ⟨rfl,bp,aO⟩;have M:=af.read bp aO;have cl:=β2 M.b5;have cu:=yw M.b5 2;have cm:=β3 M.b5;have cv:=yw M.b5 3;have cn:=β4 M.b5;have cw:=yw M.b5 4;have co:=β5 M.b5;have cx:=yw M.b5 5;have cp:=β6 M.b5;have cy:=yw M.b5 6;have bz:=(((((M.set 2 η (ω (jA (tkL B 4,tkE B 4 0)).1.sec)).set 3 η (ω (jA (tkL B 4,tkE B 4 0)).1.frac)).set 4 η (ω (jA (tkL B 4,tkE B 4 0)).1.stamp)).set 5 η (ω (jA (tkL B 4,tkE B 4 0)).1.pkts)).set 6 η (ω (jA (tkL B 4,tkE B 4 0)).1.octs));clear bp aO)))
   go_meet;exact bz
 case rest=>
 have ar:=hcut;have bW:=β0 ar.b0;go_wp2;clear bC aB bb bd;have aE:=κ ar;clear ar;obtain⟨aL,bX⟩: ∃aL,aL=R:=⟨_,rfl⟩;obtain⟨I,aj⟩: ∃I,I=w5.heap.size:=⟨_,rfl⟩;obtain⟨C,be⟩: ∃C:Nat->Prop,C=λg=>ag.heap.size<=g/\g<w4.heap.size:=⟨_,rfl⟩
 rw[<-aj,<-be] at aE;have bU:=κ (P4 aj aq.o);rw[<-aj];clear aj be;have bw:=bv
 go_loopw [29] (λaA wr=> ∃j:Nat,j<=H/\aA= υ (j:Int)/\(∃v bl s,RpJ w wr R I C (.cells #[υ k,υ t,δ U B.length O] 291) (.cells Γd 289) [μ snd,ω (num (tkB B 4)),ω inf.sec,ω inf.frac,ω inf.stamp,ω inf.pkts,ω inf.octs] v bl s/\bl.length=j/\(js H s0).1=bl++(js (H-j) s).1/\(js H s0).2=(js (H-j) s).2)) (λaA _=>H-(intOf aA).toNat)
 case atStart=>exact⟨0,τ,rfl,⟨_,_,_,aE.o,rfl,η,rfl⟩⟩
 case round=>
  obtain⟨j,bZ,rfl,⟨v,bl,s,d,bj,ac,ad⟩⟩:=hrel;have Y:=κ d;have aF:=κ bj;clear d bj;by_cases hlt:j<H
  ·have bG:(j:Int)<k:=by rw[aq.o];omega
   have ah:H-j=(H-(j+1))+1:=by omega
   have ax:=YY (H-(j+1)) s bl;rw[ah,ax.1] at ac;rw[ah,ax.2] at ad;have bs:=κ ac;have bt:=κ ad;clear ac ad ax ah;have ca:((j:Int)+1)%256=(j:Int)+1:=by omega
   have bI: ¬(I=R∨v.ownBlock=ϊ I):=by
    rintro(e | e)
    ·have:=Y.o.h2;omega
    ·have:=Y.o.row.ge e;omega
   have bT:=λ(x:qz (λb=>b=R∨v.ownBlock=ϊ b) wr)=>β7 (x.h.blk Y.o.b5 bI)
   go_wp2_with fail
   refine QN (λb=>b=R∨v.ownBlock=ϊ b) wr 7 8 [3,4,5,7] ?_
   refine Qs3 ?_
   (refine Ql ?_;intro K J)
   refine(Kz (s:=s) (Y.o.rd.more (ql.drewN _ 1))).mono ?_;rintro e w8 ⟨rfl,bP,aP⟩;have aQ:jt (λb=>b=R∨v.ownBlock=ϊ b) wr w8:=((jt.refl _ _).drewN _).trans (aP.mono λb h=>ϑ h);refine⟨_,rfl,qi aQ,J _ _ ?_⟩;clear J K
   (refine Ql ?_;intro K J)
   have a9:=aQ.more (ql.alloc w8 (.cells #[ω (qM s).1.src,υ (qM s).1.part,χ (qM s).1.miss,ω (qM s).1.high,ω (qM s).1.jit,ω (qM s).1.last,ω (qM s).1.dly] 473));refine⟨qi a9,J _ _ ?_⟩;clear J K;have bA:=(Y.o.on (ql.drewN wr 1)).read bP aP;have N:=bA.on (ql.alloc w8 (.cells #[ω (qM s).1.src,υ (qM s).1.part,χ (qM s).1.miss,ω (qM s).1.high,ω (qM s).1.jit,ω (qM s).1.last,ω (qM s).1.dly] 473));have bO:=Ux (s:=s) Y.o.rd.byt
   (refine jR rfl rfl ?_;intro K J)
   refine zK (.tmp 32) (.tmp 35) 287 rfl (I+1) 473 bN (Γe) 7 28 underlying287 hi bK bL bM rfl ζ v bl rfl N.row w8.heap.size (qM s).1.cells (qM s).1 rfl rfl (zS rfl) (by simp[Blk.cells,Value.oneCell']) (λ_ _=>⟨rfl,bO⟩) (λb ak=>by have:=N.h2;have:=qn N.b5;omega) ζ (by have:=aF.o;omega) (by have:=qn N.b5;omega) ?_;intro cr w10 aw aa bF;have aN:jt (λb=>b=R∨v.ownBlock=ϊ b) wr w10:=a9.trans ⟨aa.os,aa.tape,aa.output,aa.size,λk bH bJ=>aa.block k bH (λe=>bJ (ϕ e.symm))⟩;have bx:=κ (N.put (by rfl) aw aa);have cq:w10.cell? ⟨I,7,ϋ⟩=ϊ v:=by
    have:w10.heap[I]? =_:=(aa.block I (qn N.b5) (λe=>by have:=N.row.ge e.symm;omega)).trans N.b5;exact qm this 7 rfl
   have bS:w10.frozen? ⟨I,7,ϋ⟩=ύ:=by
    have:w10.heap[I]? =_:=(aa.block I (qn N.b5) (λe=>by have:=N.row.ge e.symm;omega)).trans N.b5;exact yw this 7
   obtain⟨cd,cc,bV,rfl,ay,az⟩:=aw.shape;clear ay az aw aa bF;refine⟨qi aN,J _ _ ?_⟩;clear J K;go_simp
   iterate 1 (refine qE rfl rfl (qi aN) ?_;intro K J;go_big_quiet_op;go_big_quiet_on)
   (refine Qe ?_;intro K J)
   refine J _ _ ?_;clear J K;refine qA ?_;go_wp2;go_roundw
   case rel=>exact⟨j+1,τ,by go_num,⟨_,_,_,bx.o,by (have:=aF.o;simp;omega),bs.o,bt.o⟩⟩
   case measure=>simp[intOf];omega
  ·obtain rfl:j=H:=by omega
   rw[Nat.sub_self] at ac ad;have ac:(js j s0).1=bl:=by rw[ac];exact ε _
   have ad:(js j s0).2=s:=ad;have ab:=bw.o;rw[ac,ad] at ab;unfold yZ at ab;have d:=Y.o;have bG: ¬(j:Int)<k:=by rw[aq.o];omega
   obtain⟨ao,an,ai,rfl,ay,az⟩:=d.row.shape;have bB:=κ (d.row.sl ζ);have bq:Hid (∀b,(δ ao an ai).ownBlock=ϊ b-> ¬b=w.heap.size+1):=κ (λb ak e=>by have:=d.row.ge ak;have:=d.h1;have:=d.h2;omega);have br:Hid (jX w (δ ao an ai)):=κ (λb ak=>by have:=d.row.ge ak;have:=d.h1;have:=d.h2;omega);have aK:=κ d.more;clear ac ad ay az;have ce:=β0 d.b5;have cf:=β1 d.b5;have p2:=β2 d.b5;have cg:=β3 d.b5;have ch:=β4 d.b5;have ci:=β5 d.b5;have cj:=β6 d.b5;have ck:=β7 d.b5;have aR:=β0 d.b1;have z0:=yw d.b1 0;have aS:=β1 d.b1;have cz:=yw d.b1 1;have aT:=β2 d.b1;have cA:=yw d.b1 2;have aU:=β3 d.b1;have z3:=yw d.b1 3;have aV:=β4 d.b1;have z4:=yw d.b1 4;have aW:=β5 d.b1;have z5:=yw d.b1 5;have aX:=β6 d.b1;have cB:=yw d.b1 6;have aY:=β7 d.b1;have bS:=yw d.b1 7;by_cases he:wM s=0
   ·rw[ϐ he] at ab;have ae:=κ ab;clear ab d
    go_wp2_with (go_at_call 59;(go_call JD (s:=s) Y.o.rd as e bQ ⟨rfl,rfl⟩;rw[he]))
    (refine bodyPost_ret (v:= .tuple #[θ #[μ snd,ω (num (tkB B 4)),ω inf.sec,ω inf.frac,ω inf.stamp,ω inf.pkts,ω inf.octs,δ ao an ai],ι 0]) ?rr3 rfl ?_;(case rr3=>(simp[results,results280,go_sem,aR,aS,aT,aU,aV,aW,aX,aY])))
    refine⟨⟨δ ao an ai,by first | (rw[<-ae.o];done) | (rw[<-ae.o];rfl), ?_⟩,((((((((aK.o.st η _).st η _).st η _).st η _).st η _).st η _).st η _).st η _)⟩;rw[<-ae.o];exact⟨Yv bB.o bq.o ((((((((jt.refl (λb=>b=w.heap.size+1) _).set rfl _).set rfl _).set rfl _).set rfl _).set rfl _).set rfl _).set rfl _ |>.set rfl _),br.o⟩
   ·rw[ώ he] at ab;have ae:=κ ab;have bY:(wM s != 0)=ό:=by simpa using he
    clear ab d
    go_wp2_with (go_at_call 59;(go_call JD (s:=s) Y.o.rd as e bQ ⟨rfl,rfl⟩))
    (refine bodyPost_ret (v:= .tuple #[Γd,ι (wM s)]) ?rr4 rfl ?_;(case rr4=>(simp[results,results280,go_sem,aR,aS,aT,aU,aV,aW,aX,aY])))
    refine⟨⟨δ ϋ 0 0,by first | (rw[<-ae.o];done) | (rw[<-ae.o];rfl), ?_⟩,((((((((aK.o.st η _).st η _).st η _).st η _).st η _).st η _).st η _).st η _)⟩;rw[<-ae.o];exact⟨SlP.nil _ _ _,jX.nil w⟩
def We (c:qQ) (Y:SlI .u8 w vb c.2.2.1) (aa:xk c) (M:c.2.2.1.length<=1000000):
  Calls prog 280 #[θ #[υ c.1,υ c.2.1,vb]] w λe w'=>(∃vb,e= .returned (.tuple #[θ #[μ (qG c).1.snd,ω (qG c).1.src,ω (qG c).1.inf.sec,ω (qG c).1.inf.frac,ω (qG c).1.inf.stamp,ω (qG c).1.inf.pkts,ω (qG c).1.inf.octs,vb],ι (qG c).2])/\SlP 7 Yj w' vb (qG c).1.bl/\jX w vb)/\ql w w':=by
 obtain⟨k,t,B,⟨⟩⟩:=c;obtain⟨⟨ac,ad⟩,_,J⟩:=aa;simp only at *;have H:=κ Y;obtain⟨N,I,rfl,_⟩:=Y;cases hr:jx (k,t,B,()) with
 | false=>
  have e:qG (k,t,B,())=(Qh,1):=by unfold qG;rw[ϐ hr]
  rw[e];exact(Du k t B N I H (κ J) M (κ hr)).mono λe w' ⟨O,U⟩=>⟨⟨_,O,SlP.nil _ _ _,jX.nil w⟩,U⟩
 | true=>
  have ab:=((zO _).1 hr).1;simp only at ab;obtain⟨d,rfl⟩: ∃n:Nat,k=n:=⟨k.toNat,τ⟩;by_cases h200:t=200
  ·subst h200;have e:qG ((d:Int),200,B,())=yZ ⟨ό,num (tkB B 4),(jA (tkL B 4,tkE B 4 0)).1,(js d (jA (tkL B 4,tkE B 4 0)).2).1⟩ (js d (jA (tkL B 4,tkE B 4 0)).2).2:=by
    unfold qG;rw[ώ (by rw[hr];simp),ϐ rfl];rfl
   exact XL d 200 ό (jA (tkL B 4,tkE B 4 0)).1 (jA (tkL B 4,tkE B 4 0)).2 B N I _ H (κ J) M τ (κ hr) rfl rfl (κ e.symm)
  ·by_cases h201:t=201
   ·subst h201;have e:qG ((d:Int),201,B,())=yZ ⟨ύ,num (tkB B 4),Jj,(js d (tkL B 4,tkE B 4 0)).1⟩ (js d (tkL B 4,tkE B 4 0)).2:=by
     unfold qG;rw[ώ (by rw[hr];simp),ώ (show ¬(201:Int)=200 by decide),ϐ rfl];rfl
    exact XL d 201 ύ Jj (tkL B 4,tkE B 4 0) B N I _ H (κ J) M τ (κ hr) rfl rfl (κ e.symm)
   ·have e:qG ((d:Int),t,B,())=(Qh,5):=by unfold qG;rw[ώ (by rw[hr];simp),ώ h200,ώ h201]
    rw[e];exact(Y8 (d:Int) t B N I H (κ J) M (κ hr) h200 h201).mono λe w' ⟨O,U⟩=>⟨⟨_,O,SlP.nil _ _ _,jX.nil w⟩,U⟩
def jt.cons (h:jt (λk=>k=b) w w') (i:Nat) (v:Value):jt (λk=>k=b) w (w'.setCell ⟨b,i,ϋ⟩ v):=h.set (p:=⟨b,i,ϋ⟩) rfl v
def Jt {a0 J I a3 a4:Value} (h:w.heap[b]? =ϊ (.cells #[a0,J,I,a3,a4] t (0,0))) (v0 d H v3 v4:Value):(((((w.setCell ⟨b,0,ϋ⟩ v0).setCell ⟨b,1,ϋ⟩ d).setCell ⟨b,2,ϋ⟩ H).setCell ⟨b,3,ϋ⟩ v3).setCell ⟨b,4,ϋ⟩ v4).heap[b]? =ϊ (.cells #[v0,d,H,v3,v4] t (0,0)):=by
 have h:=qB (cs':= #[v0,J,I,a3,a4]) (qp h 0 v0) rfl;have h:=qB (cs':= #[v0,d,I,a3,a4]) (qp h 1 d) rfl;have h:=qB (cs':= #[v0,d,H,a3,a4]) (qp h 2 H) rfl;have h:=qB (cs':= #[v0,d,H,v3,a4]) (qp h 3 v3) rfl;exact qB (qp h 4 v4) rfl
def jt.st5 (w:World) (b:Nat) (v0 d H v3 v4:Value):jt (λk=>k=b) w (((((w.setCell ⟨b,0,ϋ⟩ v0).setCell ⟨b,1,ϋ⟩ d).setCell ⟨b,2,ϋ⟩ H).setCell ⟨b,3,ϋ⟩ v3).setCell ⟨b,4,ϋ⟩ v4):=((((((jt.refl (λk=>k=b) w).cons 0 v0).cons 1 d).cons 2 H).cons 3 v3).cons 4 v4)
def kG {a0 H a3 a4:Value} (h:w.heap[b]? =ϊ (.cells #[a0,d,H,a3,a4] t (0,0))):
  w.cell? ⟨b,0,ϋ⟩=ϊ a0/\w.cell? ⟨b,1,ϋ⟩=ϊ d/\w.cell? ⟨b,2,ϋ⟩=ϊ H/\w.cell? ⟨b,3,ϋ⟩=ϊ a3/\w.cell? ⟨b,4,ϋ⟩=ϊ a4:=
 ⟨qm h 0 rfl,qm h 1 rfl,qm h 2 rfl,qm h 3 rfl,qm h 4 rfl⟩
def Ws (h:w.heap[b]? =ϊ (.cells cs t (0,0))):
  w.frozen? ⟨b,0,ϋ⟩=ύ/\w.frozen? ⟨b,1,ϋ⟩=ύ/\w.frozen? ⟨b,2,ϋ⟩=ύ/\w.frozen? ⟨b,3,ϋ⟩=ύ/\w.frozen? ⟨b,4,ϋ⟩=ύ:=
 ⟨yw h 0,yw h 1,yw h 2,yw h 3,yw h 4⟩
def Ju {l:List (Int×Int)} (h:SlP 2 Vf w v l) (M: ∀b,v.ownBlock=ϊ b-> ¬S b) (a:jt S w w'):SlP 2 Vf w' v l:=by
 obtain⟨aa,cap,rfl,H,I,J⟩:=h;refine⟨aa,cap,rfl,H,λi hi=> ?_,J⟩;obtain⟨b,ab,cs,rfl,d,U,N,Y⟩:=I i hi;exact⟨b,ab,cs,rfl,ϗ d a.size,U,λj O=>by rw[a.cells b _ d (M b rfl)];exact N j O,Y⟩
structure MdJ (w0 w:World) (R Bm:Nat) (C:Nat->Prop) (o0 o1:Obj) (cs:Array Value) (s:RdS):Prop where
 rd:qu w R s.1 s.2 C
 b0:w.heap[w0.heap.size]? =ϊ o0
 b1:w.heap[w0.heap.size+1]? =ϊ o1
 bm:w.heap[Bm]? =ϊ (.cells cs 283 (0,0))
 more:ql w0 w
 h1:w0.heap.size+1<Bm
 h2:Bm<R
 hC: ∀g,C g->Bm<g
section
variable {w0 w w':World} {R Bm:Nat} {C:Nat->Prop} {o0 o1:Obj} {cs:Array Value} {s s':RdS}
def MdJ.read (h:MdJ w0 w R Bm C o0 o1 cs s) (r:qu w' R s'.1 s'.2 C) (a:jt (λb=>b=R) w w'):MdJ w0 w' R Bm C o0 o1 cs s':=by
 have h1:=h.h1;have h2:=h.h2;exact⟨r,a.blk h.b0 τ,a.blk h.b1 τ,a.blk h.bm τ,Jv a h.more τ,h1,h2,h.hC⟩
def MdJ.set (h:MdJ w0 w R Bm C o0 o1 cs s) (i:Nat) (x:Value):MdJ w0 (w.setCell ⟨Bm,i,ϋ⟩ x) R Bm C o0 o1 (cs.setIfInBounds i x) s:=by
 have h1:=h.h1;have h2:=h.h2;have a:jt (λb=>b=Bm) w (w.setCell ⟨Bm,i,ϋ⟩ x):=(jt.refl (λb=>b=Bm) w).set (p:=⟨Bm,i,ϋ⟩) rfl x;exact⟨h.rd.off a τ (λg d e=>by have:=h.hC g d;omega),a.blk h.b0 τ,a.blk h.b1 τ,qp h.bm i x,jt.to_more h.more a (λk H=>by omega),h1,h2,h.hC⟩
def MdJ.eq {cs':Array Value} (h:MdJ w0 w R Bm C o0 o1 cs s) (e:cs=cs'):MdJ w0 w R Bm C o0 o1 cs' s:=e▸h
end
def Er (a b:Int) (s:RdS):vD 1 a b s=vX ⟨1,a,b,[],[]⟩ s:=by unfold vD;rw[ώ ζ,ώ ζ]
def Eq (a b:Int) (s:RdS):vD 2 a b s=vX ⟨2,a,b,(jm s.1.length [] (zz b s)).1,[]⟩ (jm s.1.length [] (zz b s)).2:=by unfold vD;rw[ϐ rfl]
def Ep (a b:Int) (s:RdS):vD 3 a b s=vX ⟨3,a,b,[],(jc s.1.length [] (xK s)).1⟩ (jc s.1.length [] (xK s)).2:=by unfold vD;rw[ώ ζ,ϐ rfl]
def Z3 (b:Int) (s:RdS):(zz b s).1.length<=s.1.length:=by
 unfold zz;split
 ·exact vH s 2
 ·exact ϔ _
def uK: ∀(n m:Nat) (acc:List (Int×Int)) (s:RdS),s.1.length<=n->n<=m->jm m acc s=jm n acc s
 | 0,m,acc,s,h,_=>by
  obtain⟨l,e⟩:=s;obtain rfl:l=[]:=Ϥ (by simpa using h);rw[zE];rfl
 | n+1,m,acc,s,h,hm=>by
  obtain⟨m,rfl⟩: ∃k,m=k+1:=⟨m-1,τ⟩;by_cases hs:s.1=[]
  ·obtain⟨l,e⟩:=s;simp only at hs;subst hs;rw[zE,zE]
  ·rw[yg hs,yg hs];exact uK n m _ _ (by have:=Xo hs;omega) τ
def Dt (n t:Int) (B:List Int) (H:Option Addr) (d:Nat) (ad:Hid (SlI .u8 w (δ H B.length d) B)) (ae:B.length<=1000000) (aa:Hid (jx (n,t,B,())=ύ)):
  Calls prog 281 #[θ #[υ n,υ t,δ H B.length d]] w λe w'=>e= .returned (.tuple #[Γg,ι 1])/\ql w w':=by
 have ab:=κ (xR (w:=(w.alloc (.cells #[υ n,υ t,δ H B.length d] 291)).alloc (.cells Γg 283)) (n,t,B,()) (ad.o.keep (X8.al _)) ae);have Y:=κ (qC (w:=w.alloc (.cells #[υ n,υ t,δ H B.length d] 291)) (n:=w.heap.size+1) (o:=(.cells Γg 283)) η)
 go_enter func281,ntmps281
 go_wp2_with (go_at_call 260;(go_call ab.o as e U ⟨rfl,J⟩;rw[aa.o];have I:=κ (qq J Y.o);have ac:=κ (((ql.alloc w (.cells #[υ n,υ t,δ H B.length d] 291)).al (.cells Γg 283)).trans J);clear J;obtain⟨aq,ar,au,av,aw⟩:=kG I.o;obtain⟨ak,am,an,ao,ap⟩:=Ws I.o))
 have M:=Jt I.o (ι 0) (ω 0) (ω 0) (δ ϋ 0 0) (δ ϋ 0 0);have a5:=jt.st5 U (w.heap.size+1) (ι 0) (ω 0) (ω 0) (δ ϋ 0 0) (δ ϋ 0 0);have O:=jt.to_more ac.o a5 (λb e=>by omega);obtain⟨WF,N⟩:=ν ((((((U.setCell ⟨w.heap.size+1,0,ϋ⟩ (ι 0)).setCell ⟨w.heap.size+1,1,ϋ⟩ (ω 0)).setCell ⟨w.heap.size+1,2,ϋ⟩ (ω 0)).setCell ⟨w.heap.size+1,3,ϋ⟩ (δ ϋ 0 0)).setCell ⟨w.heap.size+1,4,ϋ⟩ (δ ϋ 0 0)));rw[N] at M O ⊢ a5;clear N;obtain⟨af,ag,ah,ai,aj⟩:=kG M
 (refine bodyPost_ret (v:= .tuple #[Γg,ι 1]) ?rr1 rfl ?_;(case rr1=>(simp[results,results281,go_sem,af,ag,ah,ai,aj])))
 exact⟨rfl,O⟩
def KA (n t:Int) (B:List Int) (H:Option Addr) (d:Nat) (ai:Hid (SlI .u8 w (δ H B.length d) B)) (aj:B.length<=1000000) (ae:Hid (jx (n,t,B,())=ό)) (ad:Hid (zy (n,t,B,())=0)):
  Calls prog 281 #[θ #[υ n,υ t,δ H B.length d]] w λe w'=>e= .returned (.tuple #[Γg,ι 5])/\ql w w':=by
 have af:=κ (xR (w:=(w.alloc (.cells #[υ n,υ t,δ H B.length d] 291)).alloc (.cells Γg 283)) (n,t,B,()) (ai.o.keep (X8.al _)) aj);have aa:=κ (qs (qj w (.cells #[υ n,υ t,δ H B.length d] 291)) (.cells Γg 283));have ab:=κ (qC (w:=w.alloc (.cells #[υ n,υ t,δ H B.length d] 291)) (n:=w.heap.size+1) (o:=(.cells Γg 283)) η)
 go_enter func281,ntmps281
 go_wp2_with (first | (go_at_call 260;(go_call af.o as e aF ⟨rfl,I⟩;rw[ae.o];have J:=κ (qq I aa.o);have ac:=κ (qq I ab.o);have ag:=κ (((ql.alloc w (.cells #[υ n,υ t,δ H B.length d] 291)).al (.cells Γg 283)).trans I);clear I;have aq:=β0 J.o;have ar:=β1 J.o;have au:=β2 J.o)) | (go_at_call 306;(go_call XN n t B H d _ as e w4 ⟨rfl,N⟩;rw[ad.o];have M:=κ (qs (qq N ac.o) (.cells Γg 283));have ah:=κ ((ag.o.trans N).al (.cells Γg 283));clear N aq ar au;obtain⟨aA,aB,aC,aD,aE⟩:=kG M.o;obtain⟨av,aw,ax,ay,az⟩:=Ws M.o)))
 generalize w4.alloc (.cells Γg 283)=w5 at *;have O:=Jt M.o (ι 0) (ω 0) (ω 0) (δ ϋ 0 0) (δ ϋ 0 0);have a5:=jt.st5 w5 (w.heap.size+1) (ι 0) (ω 0) (ω 0) (δ ϋ 0 0) (δ ϋ 0 0);have Y:=jt.to_more ah.o a5 (λb e=>by omega);obtain⟨WF,U⟩:=ν ((((((w5.setCell ⟨w.heap.size+1,0,ϋ⟩ (ι 0)).setCell ⟨w.heap.size+1,1,ϋ⟩ (ω 0)).setCell ⟨w.heap.size+1,2,ϋ⟩ (ω 0)).setCell ⟨w.heap.size+1,3,ϋ⟩ (δ ϋ 0 0)).setCell ⟨w.heap.size+1,4,ϋ⟩ (δ ϋ 0 0)));rw[U] at O Y ⊢ a5;clear U;obtain⟨ak,am,an,ao,ap⟩:=kG O
 (refine bodyPost_ret (v:= .tuple #[Γg,ι 5]) ?rr2 rfl ?_;(case rr2=>(simp[results,results281,go_sem,ak,am,an,ao,ap])))
 exact⟨rfl,Y⟩
def Cz (n t k:Int) (bA:k=1∨k=2∨k=3) (B:List Int) (ai:Option Addr) (ad:Nat) (D:Msg×Int) (bp:Hid (SlI .u8 w (δ ai B.length ad) B)) (bf:Hid (Byt B)) (bB:B.length<=1000000) (bS:Hid (jx (n,t,B,())=ό)) (bP:Hid (zy (n,t,B,())=k))
  (bg:Hid (vD k (xP (B,0)) (xP (tkS (B,0) 4)) (tkS (tkS (B,0) 4) 4)=D)):
  Calls prog 281 #[θ #[υ n,υ t,δ ai B.length ad]] w λe w'=>(∃va vl,e= .returned (.tuple #[θ #[ι D.1.kind,ω D.1.snd,ω D.1.med,va,vl],ι D.2])/\DG w' va vl D.1/\jX w va/\jX w vl)/\ql w w':=by
 have bj:=κ (xR (w:=(w.alloc (.cells #[υ n,υ t,δ ai B.length ad] 291)).alloc (.cells Γg 283)) (n,t,B,()) (bp.o.keep (X8.al _)) bB);have bb:=κ (qs (qj w (.cells #[υ n,υ t,δ ai B.length ad] 291)) (.cells Γg 283));have bc:=κ (qC (w:=w.alloc (.cells #[υ n,υ t,δ ai B.length ad] 291)) (n:=w.heap.size+1) (o:=(.cells Γg 283)) η);obtain⟨ak,aP⟩: ∃x,num (tkB B 4)=x:=⟨_,rfl⟩;obtain⟨H,aE⟩: ∃x,num (tkB (tkS (B,0) 4).1 4)=x:=⟨_,rfl⟩;obtain⟨d,aQ⟩: ∃x,tkS (tkS (B,0) 4) 4=x:=⟨_,rfl⟩;have bM:Hid (vD k ak H d=D):=κ (by rw[<-aP,<-aE,<-aQ];exact bg.o);have bh:=κ aP;have bi:=κ aE;have bk:=κ aQ;have cr:0<=H:=by
  have:=Jx (s:=tkS (B,0) 4) (jK (s:=(B,0)) bf.o 4);rw[<-aE];exact this.1
 clear aP aE aQ bg;have cq: ¬k=0:=by omega
 have bQ:=κ bA;clear bA
 go_enter func281,ntmps281
 go_upto_region 9 with (first | (go_at_call 260;(go_call bj.o as e cA ⟨rfl,aF⟩;rw[bS.o];have au:=κ (qq aF bb.o);have aH:=κ (qq aF bc.o);have bn:=κ (((ql.alloc w (.cells #[υ n,υ t,δ ai B.length ad] 291)).al (.cells Γg 283)).trans aF);clear aF;have cl:=β0 au.o;have cm:=β1 au.o;have ba:=β2 au.o)) | (go_at_call 306;(go_call XN n t B ai ad _ as e w4 ⟨rfl,ax⟩;rw[bP.o];have aG:=κ (qs (qq ax au.o) (.cells #[ι k,ω 0,ω 0,(),()] 283));have bd:=κ (qs (qq ax aH.o) (.cells #[ι k,ω 0,ω 0,(),()] 283));have aN:=κ ((bn.o.trans ax).al (.cells #[ι k,ω 0,ω 0,(),()] 283));have be:=κ (qj w4 (.cells #[ι k,ω 0,ω 0,(),()] 283));have bw:=κ (ϗ (qn aH.o) ax.size);clear ax cl cm ba;have ba:=β2 aG.o)) | (go_at_call 51;(go_call NV _ B _ (bp.o.keep aN.o) bf.o bB as e w6 ⟨R,rfl,bz,bG,ay⟩;have aL:Hid (MdJ w w6 R w4.heap.size (λg=>(w4.alloc (.cells #[ι k,ω 0,ω 0,(),()] 283)).heap.size<=g/\g<w6.heap.size) (.cells #[υ n,υ t,δ ai B.length ad] 291) (.cells Γg 283) #[ι k,ω 0,ω 0,(),()] (B,0)):=κ ⟨bG,qq ay aG.o,qq ay bd.o,qq ay be.o,aN.o.trans ay,bw.o,by (have:=bz;simp at this;omega),λg h=>by (have:=h.1;simp at this;omega)⟩;clear bz bG ay ba)) | (go_at_call 54;((with_reducible refine(jD aL.o.rd).mono ?_);rintro e cB ⟨rfl,bH,br⟩;rw[bh.o];have aC:=κ (aL.o.read (s':=tkS (B,0) 4) bH br);clear bH br;have cj:=β1 aC.o.bm;have cn:=yw aC.o.bm 1;have aM:=κ (aC.o.set 1 (ω ak)))) | (go_at_call 54;((with_reducible refine(jD aM.o.rd).mono ?_);rintro e w8 ⟨rfl,bI,bs⟩;rw[bi.o];have aD:=κ (aM.o.read (s':=tkS (tkS (B,0) 4) 4) bI bs);clear bI bs cj cn;have aU:=β2 aD.o.bm;have co:=yw aD.o.bm 2;have I:=κ ((aD.o.set 2 (ω H)).eq (cs':= #[ι k,ω ak,ω H,(),()]) rfl);have bE:=β0 I.o.bm)))
 rw[bk.o] at I;generalize ch:(λg=>(w4.alloc (.cells #[ι k,ω 0,ω 0,(),()] 283)).heap.size<=g/\g<w6.heap.size)=C at *;clear ch bb bc au aH bn aG bd aN be aL aC aM aD bj bh bi bk aU co bw;generalize w4.heap.size=Bm at *;generalize w8.setCell ⟨Bm,2,ϋ⟩ (ω H)=w9 at *;have bE:=β0 I.o.bm
 go_upto_block 0 with fail
 go_cut [] from 27 to 62 (λar=> ∃(ah aj:Option Addr) (af ag ac ae:Nat) (S:RdS) (m:Msg),MdJ w ar R Bm C (.cells #[υ n,υ t,δ ai B.length ad] 291) (.cells Γg 283) #[ι k,ω ak,ω H,δ ah af ac,δ aj ag ae] S/\vD k ak H d=vX m S/\(m.kind=k/\m.snd=ak/\m.med=H)/\DG ar (δ ah af ac) (δ aj ag ae) m/\(jX w (δ ah af ac)/\jX w (δ aj ag ae))/\ ∀b,((δ ah af ac).ownBlock=ϊ b∨(δ aj ag ae).ownBlock=ϊ b)-> ¬b=w.heap.size+1)
 case first=>
  rcases bQ.o with rfl | rfl | rfl
  ·go_wp2;go_meet;exact⟨_,_,_,_,_,_,d,_,I.o,Er _ _ _,⟨rfl,rfl,rfl⟩,⟨SlP.nil _ _ _,SlI.nil _ _⟩,⟨jX.nil w,jX.nil w⟩,λb h=>by rcases h with h | h<;>cases h⟩
  ·have aU:=β2 I.o.bm
   go_upto_region 11 with fail
   obtain⟨Q,bx⟩: ∃Q:Bool,Q=decide (¬H=0∨d.1.length=0∨ ¬d.1.length%8=0):=⟨_,rfl⟩;have ao:=κ bx;clear bx
   go_cut [44] from 31 to 43 (λv ar=>v= μ Q/\w9=ar)
   case first=>
    by_cases c1:H=0
    ·have bm:(H != 0)=ύ:=by simpa using c1
     by_cases c2:d.1.length=0
     ·have bV:((d.1.length:Int)==0)=ό:=eqB τ;have U:Hid (ό=Q):=κ (by rw[ao.o];exact(Ϫ (ϕ (ϑ c2))).symm);clear c1 c2
      go_wp2_with (go_at_call 57;(go_call yd I.o.rd as e w10 ⟨rfl,rfl⟩))
      go_meet;rw[<-U.o];exact⟨rfl,rfl⟩
     ·have bV:((d.1.length:Int)==0)=ύ:=neB τ;by_cases c3:d.1.length%8=0
      ·have bW:((d.1.length:Int)%8 != 0)=ύ:=by simp;omega
       have U:Hid (ύ=Q):=κ (by rw[ao.o];exact(Ϩ (by rintro(h | h | h);exact h c1;exact c2 h;exact h c3)).symm);clear c1 c2 c3
       go_wp2_with (go_at_call 57;(go_call yd I.o.rd as e w10 ⟨rfl,rfl⟩))
       go_meet;rw[<-U.o];exact⟨rfl,rfl⟩
      ·have bW:((d.1.length:Int)%8 != 0)=ό:=by simp;omega
       have U:Hid (ό=Q):=κ (by rw[ao.o];exact(Ϫ (ϕ (ϕ c3))).symm);clear c1 c2 c3
       go_wp2_with (go_at_call 57;(go_call yd I.o.rd as e w10 ⟨rfl,rfl⟩))
       go_meet;rw[<-U.o];exact⟨rfl,rfl⟩
    ·have bm:(H != 0)=ό:=by simpa using c1
     have U:Hid (ό=Q):=κ (by rw[ao.o];exact(Ϫ (ϑ c1)).symm);clear c1
     go_wp2_with (go_at_call 57;(go_call yd I.o.rd as e w10 ⟨rfl,rfl⟩))
     go_meet;rw[<-U.o];exact⟨rfl,rfl⟩
   case rest=>
   obtain⟨rfl,rfl⟩:=hcut
   go_upto_if 44 with fail
   go_cut [] from 45 to 46 (λar=>MdJ w ar R Bm C (.cells #[υ n,υ t,δ ai B.length ad] 291) (.cells Γg 283) #[ι 2,ω ak,ω H,(),()] (zz H d))
   case first=>
    have bT:=κ (zo (s:=d) I.o.rd 2);cases Q with
    | true=>
     have U:Hid (zz H d=wrS d 2):=κ (by unfold zz;rw[ϐ (Ϛ ao.o.symm)])
     go_wp2_with (first | (go_at_call 55;(go_call bT.o as e cz ⟨rfl,bF,bq⟩;have bU:=κ (I.o.read (s':=wrS d 2) bF bq);clear bF bq)))
     go_meet;rw[U.o];exact bU.o
    | false=>
     have U:Hid (zz H d=d):=κ (by unfold zz;rw[ώ (A5 ao.o.symm)]);go_wp2;go_meet;rw[U.o];exact I.o
   case rest=>
   have aq:=κ hcut;clear hcut I aU ao;have bR:=κ (Z3 H d);have ci:R<wc.heap.size:=by obtain⟨v,aO,_⟩:=aq.o.rd.blk;exact qn aO
   go_wp2_with (go_at_call 307;(go_call Y7 (s0:=zz H d) aq.o.rd ci as e aA ⟨ck,rfl,aa⟩;have ab:=κ aa;have ap:=κ (aq.o.read (s':=(jm (zz H d).1.length [] (zz H d)).2) (aa.rd.mono (λg h=>h.1)) aa.away);obtain⟨O,N,M,rfl,aS,aT⟩:=aa.row.shape;clear aS aT aa;have cx:=β3 ap.o.bm;have z3:=yw ap.o.bm 3;have J:=κ ((ap.o.set 3 (δ O N M)).eq (cs':= #[ι 2,ω ak,ω H,δ O N M,()]) rfl)))
   have aK:Hid (SlP 2 Vf (aA.setCell ⟨Bm,3,ϋ⟩ (δ O N M)) (δ O N M) (jm (zz H d).1.length [] (zz H d)).1):=κ (Ju (ab.o.row.sl ζ) (λb Y e=>by have:=ab.o.row.ge Y;have:=qn aq.o.bm;omega) ((jt.refl (λb=>b=Bm) aA).set (p:=⟨Bm,3,ϋ⟩) rfl _));have aJ:Hid (∀b,(δ O N M).ownBlock=ϊ b-> ¬b=w.heap.size+1):=κ (λb Y e=>by have:=ab.o.row.ge Y;have:=qn aq.o.b1;omega);have aI:Hid (jX w (δ O N M)):=κ (λb Y=>by have:=ab.o.row.ge Y;have:=qn aq.o.b1;omega);have bO:=κ (uK (zz H d).1.length d.1.length [] (zz H d) (ϔ _) bR.o);go_meet;exact⟨_,_,_,_,_,_,_,_,J.o,(by rw[Eq,bO.o]),⟨rfl,rfl,rfl⟩,⟨aK.o,SlI.nil _ _⟩,⟨aI.o,jX.nil w⟩,λb h=>by rcases h with h | h;exact aJ.o b h;cases h⟩
  ·go_wp2_with (go_at_call 308;(go_call Y6 (s0:=d) I.o.rd (by obtain⟨v,aO,_⟩:=I.o.rd.blk;exact qn aO) as e aA ⟨ck,rfl,aa⟩;have ab:=κ aa;have ap:=κ (I.o.read (s':=(jc d.1.length [] (xK d)).2) (aa.rd.mono (λg h=>h.1)) aa.away);obtain⟨O,N,M,rfl,aS,aT⟩:=qT aa.row;clear aS aT aa;have cy:=β4 ap.o.bm;have z4:=yw ap.o.bm 4;have J:=κ ((ap.o.set 4 (δ O N M)).eq (cs':= #[ι 3,ω ak,ω H,(),δ O N M]) rfl)))
   have aK:Hid (SlI .u16 (aA.setCell ⟨Bm,4,ϋ⟩ (δ O N M)) (δ O N M) (jc d.1.length [] (xK d)).1):=κ (SlI.off (SlI.of_owns ab.o.row (Ma ab.o.row)) (λb Y e=>by have:=jG ab.o.row Y;have:=qn I.o.bm;omega) ((jt.refl (λb=>b=Bm) aA).set (p:=⟨Bm,4,ϋ⟩) rfl _));have aJ:Hid (∀b,(δ O N M).ownBlock=ϊ b-> ¬b=w.heap.size+1):=κ (λb Y e=>by have:=jG ab.o.row Y;have:=qn I.o.b1;omega);have aI:Hid (jX w (δ O N M)):=κ (λb Y=>by have:=jG ab.o.row Y;have:=qn I.o.b1;omega);go_meet;exact⟨_,_,_,_,_,_,_,_,J.o,(by rw[Ep]),⟨rfl,rfl,rfl⟩,⟨SlP.nil _ _ _,aK.o⟩,⟨jX.nil w,aI.o⟩,λb h=>by rcases h with h | h;cases h;exact aJ.o b h⟩
 case rest=>
 obtain⟨ah,aj,af,ag,ac,ae,S,m,bD,bt,⟨rfl,rfl,rfl⟩,bJ,⟨bu,bv⟩,bC⟩:=hcut;have J:=κ bD;have bo:=κ bJ;have bK:=κ bu;have bL:=κ bv;have bl:=κ bC;have am:=bM.o;rw[bt] at am;unfold vX at am;clear bD bt bJ bu bv bC I bE;by_cases he:wM S=0
 ·rw[ϐ he] at am;have an:=κ am;have bN:=κ he;obtain⟨ct,cu,p2,cv,cw⟩:=kG J.o.bm;obtain⟨cc,cd,ce,cf,cg⟩:=kG J.o.b1;obtain⟨bX,bY,bZ,ca,cb⟩:=Ws J.o.b1;clear am he
  go_wp2_with (go_at_call 59;(go_call JD (s:=S) J.o.rd as e aB ⟨rfl,aR⟩;subst aR;rw[bN.o]))
  have av:=Jt J.o.b1 (ι m.kind) (ω m.snd) (ω m.med) (δ ah af ac) (δ aj ag ae);have a5:=jt.st5 aB (w.heap.size+1) (ι m.kind) (ω m.snd) (ω m.med) (δ ah af ac) (δ aj ag ae);have az:=jt.to_more J.o.more a5 (λb e=>by omega);obtain⟨WF,aw⟩:=ν ((((((aB.setCell ⟨w.heap.size+1,0,ϋ⟩ (ι m.kind)).setCell ⟨w.heap.size+1,1,ϋ⟩ (ω m.snd)).setCell ⟨w.heap.size+1,2,ϋ⟩ (ω m.med)).setCell ⟨w.heap.size+1,3,ϋ⟩ (δ ah af ac)).setCell ⟨w.heap.size+1,4,ϋ⟩ (δ aj ag ae)));rw[aw] at av az ⊢ a5;clear aw;obtain⟨aV,aW,aX,aY,aZ⟩:=kG av
  (refine bodyPost_ret (v:= .tuple #[θ #[ι m.kind,ω m.snd,ω m.med,δ ah af ac,δ aj ag ae],ι 0]) ?rr3 rfl ?_;(case rr3=>(simp[results,results281,go_sem,aV,aW,aX,aY,aZ])))
  refine⟨⟨δ ah af ac,δ aj ag ae,by first | (rw[<-an.o];done) | (rw[<-an.o];rfl), ?_⟩,az⟩;rw[<-an.o];exact⟨⟨Ju bo.o.asks (λb h=>bl.o b (ϑ h)) a5,SlI.off bo.o.lost (λb h=>bl.o b (ϕ h)) a5⟩,bK.o,bL.o⟩
 ·rw[ώ he] at am;have an:=κ am;have cp:(wM S != 0)=ό:=by simpa using he
  obtain⟨cc,cd,ce,cf,cg⟩:=kG J.o.b1;obtain⟨bX,bY,bZ,ca,cb⟩:=Ws J.o.b1;clear am he
  go_wp2_with (go_at_call 59;(go_call JD (s:=S) J.o.rd as e aB ⟨rfl,aR⟩;subst aR))
  have av:=Jt J.o.b1 (ι 0) (ω 0) (ω 0) (δ ϋ 0 0) (δ ϋ 0 0);have a5:=jt.st5 aB (w.heap.size+1) (ι 0) (ω 0) (ω 0) (δ ϋ 0 0) (δ ϋ 0 0);have az:=jt.to_more J.o.more a5 (λb e=>by omega);obtain⟨WF,aw⟩:=ν ((((((aB.setCell ⟨w.heap.size+1,0,ϋ⟩ (ι 0)).setCell ⟨w.heap.size+1,1,ϋ⟩ (ω 0)).setCell ⟨w.heap.size+1,2,ϋ⟩ (ω 0)).setCell ⟨w.heap.size+1,3,ϋ⟩ (δ ϋ 0 0)).setCell ⟨w.heap.size+1,4,ϋ⟩ (δ ϋ 0 0)));rw[aw] at av az ⊢ a5;clear aw;obtain⟨aV,aW,aX,aY,aZ⟩:=kG av
  (refine bodyPost_ret (v:= .tuple #[Γg,ι (wM S)]) ?rr4 rfl ?_;(case rr4=>(simp[results,results281,go_sem,aV,aW,aX,aY,aZ])))
  refine⟨⟨δ ϋ 0 0,δ ϋ 0 0,by first | (rw[<-an.o];done) | (rw[<-an.o];rfl), ?_⟩,az⟩;rw[<-an.o];exact⟨⟨SlP.nil _ _ _,SlI.nil _ _⟩,jX.nil w,jX.nil w⟩
def Wd (c:qQ) (O:SlI .u8 w vb c.2.2.1) (Y:xk c) (M:c.2.2.1.length<=1000000):
  Calls prog 281 #[θ #[υ c.1,υ c.2.1,vb]] w λe w'=>(∃va vl,e= .returned (.tuple #[θ #[ι (qJ c).1.kind,ω (qJ c).1.snd,ω (qJ c).1.med,va,vl],ι (qJ c).2])/\DG w' va vl (qJ c).1/\jX w va/\jX w vl)/\ql w w':=by
 obtain⟨n,t,B,⟨⟩⟩:=c;obtain⟨_,_,U⟩:=Y;simp only at *;have d:=κ O;obtain⟨N,H,rfl,_⟩:=O;cases hr:jx (n,t,B,()) with
 | false=>
  have e:qJ (n,t,B,())=(JI,1):=by unfold qJ;rw[ϐ hr]
  rw[e];exact(Dt n t B N H d M (κ hr)).mono λe w' ⟨I,J⟩=>⟨⟨_,_,I,⟨SlP.nil _ _ _,SlI.nil _ _⟩,jX.nil w,jX.nil w⟩,J⟩
 | true=>
  by_cases h0:zy (n,t,B,())=0
  ·have e:qJ (n,t,B,())=(JI,5):=by unfold qJ;rw[ώ (by rw[hr];simp),ϐ h0]
   rw[e];exact(KA n t B N H d M (κ hr) (κ h0)).mono λe w' ⟨I,J⟩=>⟨⟨_,_,I,⟨SlP.nil _ _ _,SlI.nil _ _⟩,jX.nil w,jX.nil w⟩,J⟩
  ·have e:qJ (n,t,B,())=vD (zy (n,t,B,())) (xP (B,0)) (xP (tkS (B,0) 4)) (tkS (tkS (B,0) 4) 4):=by unfold qJ;rw[ώ (by rw[hr];simp),ώ h0]
   rw[e];exact Cz n t _ (UP h0).2 B N H _ d (κ U) M (κ hr) (κ rfl) (κ rfl)
section
open Go.RowKit Go.Lib
structure Gq (w:World) (vb va vl vo:Value) (x:Itm):Prop where
 bl:SlP 7 Yj w vb x.rep.bl
 ms:DG w va vl x.msg
 bo:SlI .u8 w vo x.oth.2.2.1
def Hx (x:Itm) (vb va vl vo:Value):List Value:=[.int .i64 x.kind,.bool x.rep.snd,.int .u32 x.rep.src,.int .u32 x.rep.inf.sec,.int .u32 x.rep.inf.frac,.int .u32 x.rep.inf.stamp,.int .u32 x.rep.inf.pkts,.int .u32 x.rep.inf.octs,vb,.int .i64 x.msg.kind,.int .u32 x.msg.snd,.int .u32 x.msg.med,va,vl,.int .u8 x.oth.1,.int .u8 x.oth.2.1,vo]
def Qk:qL Itm:=λw cs x=> ∃vb va vl vo,cs=Hx x vb va vl vo/\Gq w vb va vl vo x/\Wu x
def Y0 {o:Nat} {cs:List Value} (h:w.rangeAt b o cs) (m:ql w w') (d:b<w.heap.size):w'.rangeAt b o cs:=λj v H=>by
 rw[m.cells b _ d];exact h j v H
def jU {a:Act} (N:o.guard=ϋ) (H:TypeId) (x y:Operand) (O:o.op= .store H x y)
  (I:World) (c d:Array Value) (Y:w=I.alloc (.cells c H)) (aa:a.eval x= γ I.heap.size) (ab:a.eval y= θ d)
  (hi:(P.info? H).map (·.size)=ϊ d.size) (U:c.size=d.size) (J:d.all (·.oneCell')=ό)
  (h:wpList P ops Q rest (a.put o.dst undef) (I.alloc (.cells d H))):wpList P ops Q (o::rest) a w:=by
 subst Y;refine wpList_plain N λK M=> ?_
 unfold Oper.wp execOp;simp only[O,aa,ab,Sem.run_bind,Sem.run_pure,Result.andThen_ok,run_storeAt_new I H c d hi U J];exact M _ _ h
def Mf {l:List Itm} (h:SlP 17 Qk w v l): ∃N cap,v= δ N l.length cap/\(l.length:Int)<=9223372036854775807/\(∀i,i<l.length-> ∃b ab O H U I Y J aa M,N=ϊ ⟨b,ab,ϋ⟩/\b<w.heap.size/\
  w.rangeAt b (ab+i* 17) (Hx (l.getD i wL) (δ O (l.getD i wL).rep.bl.length H) (δ U (l.getD i wL).msg.asks.length I) (δ Y (l.getD i wL).msg.lost.length J) (δ aa (l.getD i wL).oth.2.2.1.length M))/\
  Gq w (δ O (l.getD i wL).rep.bl.length H) (δ U (l.getD i wL).msg.asks.length I) (δ Y (l.getD i wL).msg.lost.length J) (δ aa (l.getD i wL).oth.2.2.1.length M) (l.getD i wL))/\ ∀x∈l,Wu x:=by
 obtain⟨N,cap,ae,af,ag,ak⟩:=id h;refine⟨N,cap,ae,af,λi hi=> ?_,Ei h (λcs y ⟨_,_,_,_,_,_,k⟩=>k)⟩;obtain⟨b,ab,cs,e,ah,am,ai,vb,an,ao,vo,rfl,d,al⟩:=ag i hi;have ad:l.getD i wL=l[i]:=by simp[hi]
 rw[ad];generalize l[i]=x at *;obtain⟨O,H,rfl,_⟩:=id d.bl;obtain⟨U,I,rfl,_⟩:=id d.ms.asks;obtain⟨Y,J,rfl,_⟩:=id d.ms.lost;obtain⟨aa,M,rfl,_⟩:=id d.bo;refine⟨b,ab,O,H,U,I,Y,J,aa,M,e,ah,λj v ac=> ?_,d⟩;have aj:j<17:=(ϟ.1 ac).1;rw[ai j aj];exact ac
def JC {a0 Y a3 a4 a5 aa ab ac a9 H I J M N O U:Value} (h:w.heap[b]? =ϊ (.cells #[a0,d,Y,a3,a4,a5,aa,ab,ac,a9,H,I,J,M,N,O,U] t (0,0))):
  (w.cell? ⟨b,0,ϋ⟩=ϊ a0/\w.cell? ⟨b,1,ϋ⟩=ϊ d/\w.cell? ⟨b,2,ϋ⟩=ϊ Y/\w.cell? ⟨b,3,ϋ⟩=ϊ a3/\w.cell? ⟨b,4,ϋ⟩=ϊ a4/\w.cell? ⟨b,5,ϋ⟩=ϊ a5/\w.cell? ⟨b,6,ϋ⟩=ϊ aa/\w.cell? ⟨b,7,ϋ⟩=ϊ ab/\w.cell? ⟨b,8,ϋ⟩=ϊ ac)/\
  (w.cell? ⟨b,9,ϋ⟩=ϊ a9/\w.cell? ⟨b,10,ϋ⟩=ϊ H/\w.cell? ⟨b,11,ϋ⟩=ϊ I/\w.cell? ⟨b,12,ϋ⟩=ϊ J/\w.cell? ⟨b,13,ϋ⟩=ϊ M)/\(w.cell? ⟨b,14,ϋ⟩=ϊ N/\w.cell? ⟨b,15,ϋ⟩=ϊ O/\w.cell? ⟨b,16,ϋ⟩=ϊ U):=
 ⟨⟨qm h 0 rfl,qm h 1 rfl,qm h 2 rfl,qm h 3 rfl,qm h 4 rfl,qm h 5 rfl,qm h 6 rfl,qm h 7 rfl,qm h 8 rfl⟩,⟨qm h 9 rfl,qm h 10 rfl,qm h 11 rfl,qm h 12 rfl,qm h 13 rfl⟩,qm h 14 rfl,qm h 15 rfl,qm h 16 rfl⟩
end
section
open Go.RowKit Go.Lib
structure CY (x:Itm):Prop where
 bl:x.rep.bl.length<=100000
 asks:x.msg.asks.length<=100000
 lost:x.msg.lost.length<=100000
 oth:x.oth.2.2.1.length<=1000000
end
section
open Go.RowKit Go.Lib
def PR {j:Nat} (h:j<l.length):l.drop j=l.getD j 0::l.drop (j+1):=by
 rw[F8 h,ϒ,ϖ h,ϣ]
def gh (l:List Int) (v:Value) (w:World) (aa:SlI .i64 w v l):
  Calls prog 242 #[v] w λe w'=>e= .returned (ι (vg l))/\w=w':=by
 obtain⟨ag,cap,rfl,ae,M,_⟩:=aa;have U:=κ M;clear M
 go_enter func242,ntmps242
 go_wp2
 go_loop [7] (λI=> ∃j:Nat,j<=l.length/\I= ι j/\vg l=vg (l.drop j)) (λI=>l.length-(intOf I).toNat)
 case atStart=>exact⟨0,τ,rfl,rfl⟩
 case round=>
  obtain⟨j,ad,rfl,N⟩:=hrel;have d:=κ N;clear N;by_cases hlt:j<l.length
  ·obtain⟨b,ah,rfl,ab,ac⟩:=U.o j hlt;have J:=κ (PR hlt);have af:(j:Int)<(l.length:Int):=by omega
   generalize l.getD j 0=x at *;by_cases hx:x=0
   ·have Y:(x != 0)=ύ:=by simp[hx]
    have H:=κ hx;clear hx;go_wp2
    go_round
    case rel=>exact⟨j+1,τ,by go_num,by rw[d.o,J.o];show (if x=0 then _ else _)=_;rw[ϐ H.o]⟩
    case measure=>simp[intOf];omega
   ·have Y:(x != 0)=ό:=by simp[hx]
    have H:=κ hx;clear hx;go_wp2;go_ret;exact⟨by rw[d.o,J.o];show _=Ending.returned (ι (if x=0 then _ else _));rw[ώ H.o];rfl,rfl⟩
  ·obtain rfl:j=l.length:=by omega
   have O:Hid (vg l=0):=κ (by rw[d.o,List.drop_length];rfl);go_wp2;go_ret;exact⟨by rw[O.o];rfl,rfl⟩
def Ww (w:World) (v vo:Value):Prop:=jX w v∨v=vo
def SlI.off2 (h:SlI k w v l) (I:l≠[]-> ∀b,v.ownBlock=ϊ b-> ¬D b) (a:jt D w w'):SlI k w' v l:=by
 by_cases e:l=[]
 ·subst e;obtain⟨J,cap,rfl,d,M,H⟩:=h;exact⟨J,cap,rfl,d,λi hi=>by simp at hi,H⟩
 ·exact h.off (I e) a
def SlI.old (h:SlI k w v l) (I:l≠[]) (d:v.ownBlock=ϊ b):b<w.heap.size:=by
 obtain⟨U,cap,rfl,N,H,O⟩:=h;obtain⟨M,Y,rfl,J,_⟩:=H 0 (C1.2 I);injection d with d
 subst d;exact J
end
section
open Go.RowKit Go.Lib
def wG: ∀(n:Nat) (acc:List (Int×Int)) (s:RdS),s.1.length<=n->(jm n acc s).1.length<=acc.length+s.1.length
 | 0,acc,s,_=>Ω _ _
 | n+1,acc,s,h=>by
  by_cases hs:s.1=[]
  ·obtain⟨l,e⟩:=s;simp only at hs;subst hs;rw[zE];exact Ω _ _
  ·rw[yg hs];have H:=Xo hs;have d:=wG n (acc++[(wu s).1]) (wu s).2 τ;rw[Ϗ,C9] at d;omega
def wF: ∀(n:Nat) (acc:List Int) (s:RdS),s.1.length<=n->(jc n acc s).1.length<=acc.length+17* s.1.length
 | 0,acc,s,_=>Ω _ _
 | n+1,acc,s,h=>by
  by_cases hs:s.1=[]
  ·obtain⟨l,e⟩:=s;simp only at hs;subst hs;rw[wE];exact Ω _ _
  ·rw[uJ hs];have H:=WK hs;have J:=VD acc (prS s).1 (prS s).2;have d:=wF n (acc++prN (prS s).1) (gm acc (prS s).1 (prS s).2) τ;have I:=(WM (prS s).1).2;rw[Ϗ] at d;omega
def Ps (s:RdS):(xK s).1.length<=s.1.length:=by
 unfold xK;split
 ·exact vH s 2
 ·exact ϔ _
def Kg (h:c.2.2.1.length<=400):(qJ c).1.asks.length<=100000/\(qJ c).1.lost.length<=100000:=by
 have I: ∀(m:Msg) (s:RdS),m.asks.length<=100000/\m.lost.length<=100000->(vX m s).1.asks.length<=100000/\(vX m s).1.lost.length<=100000:=by
  intro m s h;unfold vX;split
  ·exact h
  ·exact⟨Δ _,Δ _⟩
 have J:(tkS (tkS (c.2.2.1,0) 4) 4).1.length<=400:=Ϙ (uN _ _) (Ϙ (uN _ _) h);unfold qJ;split
 ·exact⟨Δ _,Δ _⟩
 ·split
  ·exact⟨Δ _,Δ _⟩
  ·unfold vD;generalize tkS (tkS (c.2.2.1,0) 4) 4=s at *;split
   ·have d:=Z3 (xP (tkS (c.2.2.1,0) 4)) s;have H:=wG s.1.length [] (zz (xP (tkS (c.2.2.1,0) 4)) s) d;exact I _ _ ⟨by simp only[ϧ] at H ⊢;omega,Δ _⟩
   ·split
    ·have d:=Ps s;have H:=wF s.1.length [] (xK s) d;exact I _ _ ⟨Δ _,by simp only[ϧ] at H ⊢;omega⟩
    ·exact I _ _ ⟨Δ _,Δ _⟩
end
section
open Go.RowKit Go.Lib
def je.other {R:qL α} {D':Nat->Prop} {e:Nat} (h:je n R D w base e v L) (k: ∀b,D' b->D b∨w.heap.size<=b):je n R D' w base e v L:=by
 obtain⟨⟨xs,H,I⟩,J⟩:=id h;refine⟨⟨xs,H,λi hi=>(I i hi).other λb d=> ?_⟩,λb d M=> ?_⟩
 ·rcases d with d | d
  ·exact(k b d).elim (λx=>ϑ (ϑ x)) ϕ
  ·exact ϑ (ϕ d)
 ·rcases k b M with x | x
  ·exact J b d x
  ·have:=h.lt d;omega
def je.beside {R:qL α} {e:Nat} {H:Value} (h:je n R (λb=>u.ownBlock=ϊ b) w base e v L) (g:w.grownBy w' u.ownBlock) (N:H.ownBlock=u.ownBlock∨H.ownBlock=ϊ w.heap.size):je n R (λb=>H.ownBlock=ϊ b) w' base e v L:=by
 have I:=h.other (D':=λb=>u.ownBlock=ϊ b∨w.heap.size<=b) (λb d=>d);have a:jt (λb=>u.ownBlock=ϊ b∨w.heap.size<=b) w w':=⟨g.os,g.tape,g.output,g.size,λk J M=>g.block k J (λe=>M (ϑ e.symm))⟩;refine(I.step a).other λb d=>ϑ ?_
 rcases N with e | e
 ·exact ϑ (by rw[<-e];exact d)
 ·rw[e] at d;injection d with d;exact ϕ τ
def Dd (s:SlI .u8 w d c.2.2.1) (I:xk c) (H:c.2.2.1≠[]-> ∀g,d.ownBlock=ϊ g-> ¬D g):jw yH D w [υ c.1,υ c.2.1,d] c:=
 λ_ a=>VU (s.off2 H a) I
def xl {e:Nat} (h:w.ownsRow base e size v n xs): ∃oa cap,v= δ oa n cap:=by
 rcases h.2 with ⟨rfl,d⟩ | ⟨g,cap,cur,rfl,_⟩
 ·exact⟨ϋ,0,by rw[d]⟩
 ·exact⟨_,cap,rfl⟩
structure ChJ (w wr:World) (u v:Value) (A:List qQ) (E:List Int):Prop where
 row:je 3 yH (λb=>v.ownBlock=ϊ b) wr w.heap.size 291 u A
 errs:wr.ownsRow w.heap.size 29 1 v E.length (E.map (Value.int .i64))
 more:ql w wr
def ChJ.on {A:List qQ} (h:ChJ w wr u v A E) (m:ql wr w'):ChJ w w' u v A E:=⟨h.row.on m,jE h.errs m,h.more.trans m⟩
def ChJ.put {A A':List qQ} (h:ChJ w wr u v A E) (J:je 3 yH (λb=>v.ownBlock=ϊ b) w' w.heap.size 291 d A') (g:wr.grownBy w' u.ownBlock):ChJ w w' d v A' E:=
 ⟨J,XB h.errs g (λb H e=>h.row.apart b e H),Below.grown h.more g h.more.size (λk I=>h.row.ge I)⟩
def ChJ.err {A:List qQ} {E':List Int} (h:ChJ w wr u v A E) (H:w'.ownsRow w.heap.size 29 1 v' E'.length (E'.map (Value.int .i64))) (g:wr.grownBy w' v.ownBlock) (I:v'.ownBlock=v.ownBlock∨v'.ownBlock=ϊ wr.heap.size):ChJ w w' u v' A E':=
 ⟨h.row.beside g I,H,Below.grown h.more g h.more.size (λk d=>jG h.errs d)⟩
end
section
open Go.RowKit Go.Lib
def If {g e:Nat} {cur:Array Value} (h:w.heap[g]? =ϊ (.cells cur e (0,0))) (cs:Array Value):(w.setRow g cs).heap[g]? =ϊ (.cells cs e (0,0)):=setRow_heap w g cur cs e (0,0) h
def En (w:World) (g:Nat) (cs:Array Value):jt (λk=>k=g) w (w.setRow g cs):=by
 refine⟨rfl,rfl,rfl,by simp[World.setRow],λb H d=> ?_⟩;unfold World.setRow;simp only;rw[G0,ώ (λe=>d e.symm)]
def zr {a:Act} (N:o.guard=ϋ) (H:TypeId) (x y:Operand) (O:o.op= .store H x y)
  (g:Nat) (t:TypeId) (c d:Array Value) (M:w.heap[g]? =ϊ (.cells c t (0,0))) (Y:a.eval x= γ g) (aa:a.eval y= θ d)
  (hi:(P.info? H).map (·.size)=ϊ d.size) (U:c.size=d.size) (I:d.all (·.oneCell')=ό)
  (h:wpList P ops Q rest (a.put o.dst undef) (w.setRow g d)):wpList P ops Q (o::rest) a w:=by
 refine wpList_plain N λK J=> ?_
 unfold Oper.wp execOp;simp only[O,Y,aa,Instr.storeAt,Instr.sureAddr,Sem.run_bind,Sem.run_pure,Result.andThen_ok,run_storeVar_row w g t H c d M hi U I];exact J _ _ h
def vR {J:Func} {p q:Tmp} {d:TypeId} (h:J.results= #[.cell p d,.tmp q]) (tmps:Array Value) (w:World) (g:Nat) (t:TypeId) (cs:Array Value) (H:TypeDesc) (I:Value)
  (O:tmps.getD p undef= γ g) (Y:tmps.getD q undef=I) (N:w.heap[g]? =ϊ (.cells cs t (0,0)))
  (ab:P.underlying d=ϊ H) (M:(match H with | .struct _ | .array _ _=>ό | _=>ύ)=ό) (hi:(P.info? d).map (·.size)=ϊ cs.size):
  (results J tmps).run P w= .ok (.tuple #[θ cs,I]) w:=by
 have U:tmps[p]?.getD undef= γ g:=by simpa using O
 have aa:tmps[q]?.getD undef=I:=by simpa using Y
 simp[results,h,U,aa,asAddr,run_loadVar_row w g t d cs (0,0) H N ab M hi]
def DL {B t:Nat} (h:w.heap[B]? =ϊ (.cells cs t (0,0))) (cs':Array Value): ∃W,w.setRow B cs'=W/\W.heap[B]? =ϊ (.cells cs' t (0,0))/\jt (λb=>b=B) w W:=⟨_,rfl,If h cs',En _ _ _⟩
def XO (c:qQ) (O:Option Addr) (M:Nat) (w:World) (s:SlI .u8 w (δ O c.2.2.1.length M) c.2.2.1) (ad:xk c) (au:c.2.2.1.length<=400) (Y:c.2.1=200∨c.2.1=201):
  Calls prog 241 #[θ #[υ c.1,υ c.2.1,δ O c.2.2.1.length M]] w λe w'=>(∃vb va vl vo,e= .returned (.tuple #[θ #[ι (qv c).1.kind,μ (qv c).1.rep.snd,ω (qv c).1.rep.src,ω (qv c).1.rep.inf.sec,ω (qv c).1.rep.inf.frac,ω (qv c).1.rep.inf.stamp,ω (qv c).1.rep.inf.pkts,ω (qv c).1.rep.inf.octs,vb,ι (qv c).1.msg.kind,ω (qv c).1.msg.snd,ω (qv c).1.msg.med,va,vl,υ (qv c).1.oth.1,υ (qv c).1.oth.2.1,vo],ι (qv c).2])/\Gq w' vb va vl vo (qv c).1/\jX w vb/\jX w va/\jX w vl/\Ww w vo (δ O c.2.2.1.length M))/\ql w w':=by
 have S:=κ s;have ag:=κ ad;have ao:c.2.2.1.length<=1000000:=by omega
 obtain⟨W0,N⟩:=ν ((w.alloc (.cells #[υ c.1,υ c.2.1,δ O c.2.2.1.length M] 291)).alloc (.cells Γf 293));have U:Hid (ql w W0):=κ (by rw[<-N];exact X8.al _);have aa:Hid (W0.heap[w.heap.size+1]? =ϊ (.cells Γf 293 (0,0))):=κ (by rw[<-N];exact qC η);have J:=κ N;clear s ad N;have af:Hid (qv c=(⟨1,(qG c).1,JI,Gj⟩,(qG c).2)):=κ (by unfold qv;rw[ϐ Y]);rw[af.o];have ah:=κ (We (w:=W0) c (S.o.keep U.o) ag.o ao);have I:(c.2.1==200)=ό∨((c.2.1==200)=ύ/\(c.2.1==201)=ό):=by
  rcases Y with h | h
  ·exact ϑ (by rw[h];rfl)
  ·exact ϕ ⟨by rw[h];rfl,by rw[h];rfl⟩
 clear Y;rcases I with b1 | ⟨b1,b2⟩
 all_goals
  go_enter func241,ntmps241
  go_wp2_with (first | (go_at_call 280;(go_call (J.o▸ah.o) as e w1 ⟨⟨vb,rfl,s1,ae⟩,m⟩;have ak:=κ s1;have aj:=κ ae;obtain⟨H,d,rfl,_⟩:=s1;have ai:=κ (U.o.trans (J.o▸m));have ab:=κ (qs (qq (J.o▸m) aa.o) (.cells #[μ (qG c).1.snd,ω (qG c).1.src,ω (qG c).1.inf.sec,ω (qG c).1.inf.frac,ω (qG c).1.inf.stamp,ω (qG c).1.inf.pkts,ω (qG c).1.inf.octs,δ H (qG c).1.bl.length d] 289));clear m ae)) | (refine jU rfl 289 (.tmp 4) (.tmp 19) rfl w1 _ #[μ (qG c).1.snd,ω (qG c).1.src,ω (qG c).1.inf.sec,ω (qG c).1.inf.frac,ω (qG c).1.inf.stamp,ω (qG c).1.inf.pkts,ω (qG c).1.inf.octs,δ H (qG c).1.bl.length d] rfl rfl rfl ξ rfl rfl ?_) | (refine wpList_load_row rfl 289 (.tmp 4) rfl w1.heap.size rfl _ #[μ (qG c).1.snd,ω (qG c).1.src,ω (qG c).1.inf.sec,ω (qG c).1.inf.frac,ω (qG c).1.inf.stamp,ω (qG c).1.inf.pkts,ω (qG c).1.inf.octs,δ H (qG c).1.bl.length d] _ _ (heap_alloc_new w1 _) underlying289 rfl ξ ?_) | (refine zr rfl 293 (.tmp 2) (.tmp 22) rfl (w.heap.size+1) _ _ #[ι 1,μ (qG c).1.snd,ω (qG c).1.src,ω (qG c).1.inf.sec,ω (qG c).1.inf.frac,ω (qG c).1.inf.stamp,ω (qG c).1.inf.pkts,ω (qG c).1.inf.octs,δ H (qG c).1.bl.length d,ι 0,ω 0,ω 0,(),(),υ 0,υ 0,()] ab.o rfl rfl ξ rfl (all_oneCell_toArray X9) ?_))
  obtain⟨WF,an,am,a3⟩:=DL ab.o #[ι 1,μ (qG c).1.snd,ω (qG c).1.src,ω (qG c).1.inf.sec,ω (qG c).1.inf.frac,ω (qG c).1.inf.stamp,ω (qG c).1.inf.pkts,ω (qG c).1.inf.octs,δ H (qG c).1.bl.length d,ι 0,ω 0,ω 0,(),(),υ 0,υ 0,()];rw[an];have ap:=jt.to_more (ai.o.al _) a3 (λb e=>by omega);have ac:jX W0 (δ H (qG c).1.bl.length d):=by rw[<-J.o];exact aj.o
  have ar:SlP 7 Yj WF (δ H (qG c).1.bl.length d) (qG c).1.bl:=Yv (ak.o.keep Ca X8) (λb I (e:b=w.heap.size+1)=>by have:=ac b I;have:=qn aa.o;omega) a3;have aq:jX w (δ H (qG c).1.bl.length d):=λb I=>by have:=ac b I;have:=U.o.size;omega
  refine bodyPost_ret (v:= .tuple #[θ #[ι 1,μ (qG c).1.snd,ω (qG c).1.src,ω (qG c).1.inf.sec,ω (qG c).1.inf.frac,ω (qG c).1.inf.stamp,ω (qG c).1.inf.pkts,ω (qG c).1.inf.octs,δ H (qG c).1.bl.length d,ι 0,ω 0,ω 0,(),(),υ 0,υ 0,()],ι (qG c).2]) (vR results241 _ _ (w.heap.size+1) _ _ _ _ rfl rfl am underlying293 rfl ξ) rfl ?_;exact⟨⟨_,_,_,_,rfl,⟨ar,⟨SlP.nil _ _ _,SlI.nil _ _⟩,SlI.nil _ _⟩,aq,jX.nil w,jX.nil w,ϑ (jX.nil w)⟩,ap⟩
def Wh (c:qQ) (U:Option Addr) (N:Nat) (w:World) (s:SlI .u8 w (δ U c.2.2.1.length N) c.2.2.1) (az:xk c) (aA:c.2.2.1.length<=400) (ac: ¬c.2.1=200) (ad: ¬c.2.1=201):
  Calls prog 241 #[θ #[υ c.1,υ c.2.1,δ U c.2.2.1.length N]] w λe w'=>(∃vb ag ah vo,e= .returned (.tuple #[θ #[ι (qv c).1.kind,μ (qv c).1.rep.snd,ω (qv c).1.rep.src,ω (qv c).1.rep.inf.sec,ω (qv c).1.rep.inf.frac,ω (qv c).1.rep.inf.stamp,ω (qv c).1.rep.inf.pkts,ω (qv c).1.rep.inf.octs,vb,ι (qv c).1.msg.kind,ω (qv c).1.msg.snd,ω (qv c).1.msg.med,ag,ah,υ (qv c).1.oth.1,υ (qv c).1.oth.2.1,vo],ι (qv c).2])/\Gq w' vb ag ah vo (qv c).1/\jX w vb/\jX w ag/\jX w ah/\Ww w vo (δ U c.2.2.1.length N))/\ql w w':=by
 have S:=κ s;have aB:=κ az;have aD:c.2.2.1.length<=1000000:=by omega
 obtain⟨W0,ae⟩:=ν ((w.alloc (.cells #[υ c.1,υ c.2.1,δ U c.2.2.1.length N] 291)).alloc (.cells Γf 293));have ab:Hid (ql w W0):=κ (by rw[<-ae];exact X8.al _);have ay:Hid (W0.heap[w.heap.size]? =ϊ (.cells #[υ c.1,υ c.2.1,δ U c.2.2.1.length N] 291 (0,0))):=κ (by rw[<-ae];exact qs (qj w _) _);have ai:Hid (W0.heap[w.heap.size+1]? =ϊ (.cells Γf 293 (0,0))):=κ (by rw[<-ae];exact qC η);have M:=κ ae;clear s az ae;have aJ:(c.2.1==200)=ύ:=beq_eq_false_iff_ne.2 ac;have aK:(c.2.1==201)=ύ:=beq_eq_false_iff_ne.2 ad;have av:=κ (Wd (w:=W0) c (S.o.keep ab.o) aB.o aD);by_cases h5:(qJ c).2=5
 ·have ak:Hid (qv c=(⟨3,Qh,JI,c⟩,0)):=κ (by unfold qv;rw[ώ (λe=>e.elim ac ad),ϐ h5]);rw[ak.o];have aC:((qJ c).2==5)=ό:=by rw[h5];rfl
  clear ac ad h5
  go_enter func241,ntmps241
  go_wp2_with (first | (go_at_call 281;(go_call (M.o▸av.o) as e w1 ⟨⟨ag,ah,rfl,s1,af,n2⟩,m⟩;have am:=κ s1;have aw:=κ af;have ax:=κ n2;obtain⟨⟨I,d,rfl,_⟩,⟨J,H,rfl,_⟩⟩:=id s1;have aj:=κ (ab.o.trans (M.o▸m));have aa:=κ (qs (qq (M.o▸m) ai.o) (.cells #[ι (qJ c).1.kind,ω (qJ c).1.snd,ω (qJ c).1.med,δ I (qJ c).1.asks.length d,δ J (qJ c).1.lost.length H] 283));have Y:=κ (qs (qq (M.o▸m) ay.o) (.cells #[ι (qJ c).1.kind,ω (qJ c).1.snd,ω (qJ c).1.med,δ I (qJ c).1.asks.length d,δ J (qJ c).1.lost.length H] 283));have aG:=β0 Y.o;have aH:=β1 Y.o;have aI:=β2 Y.o;clear m af n2 s1)) | (refine jU rfl 283 (.tmp 6) (.tmp 27) rfl w1 _ #[ι (qJ c).1.kind,ω (qJ c).1.snd,ω (qJ c).1.med,δ I (qJ c).1.asks.length d,δ J (qJ c).1.lost.length H] rfl rfl rfl ξ rfl rfl ?_) | (refine zr rfl 293 (.tmp 2) (.tmp 32) rfl (w.heap.size+1) _ _ #[ι 3,ύ,ω 0,ω 0,ω 0,ω 0,ω 0,ω 0,(),ι 0,ω 0,ω 0,(),(),υ c.1,υ c.2.1,δ U c.2.2.1.length N] aa.o rfl rfl ξ rfl (all_oneCell_toArray X9) ?_))
  obtain⟨WF,ao,an,a3⟩:=DL aa.o #[ι 3,ύ,ω 0,ω 0,ω 0,ω 0,ω 0,ω 0,(),ι 0,ω 0,ω 0,(),(),υ c.1,υ c.2.1,δ U c.2.2.1.length N];rw[ao];have ap:=jt.to_more (aj.o.al _) a3 (λb e=>by omega);have aq:SlI .u8 WF (δ U c.2.2.1.length N) c.2.2.1:=SlI.off2 (S.o.keep (aj.o.al _)) (λaA b O (e:b=w.heap.size+1)=>by have:=S.o.old aA O;omega) a3;refine bodyPost_ret (v:= .tuple #[θ #[ι 3,ύ,ω 0,ω 0,ω 0,ω 0,ω 0,ω 0,(),ι 0,ω 0,ω 0,(),(),υ c.1,υ c.2.1,δ U c.2.2.1.length N],ι 0]) (vR results241 _ _ (w.heap.size+1) _ _ _ _ rfl rfl an underlying293 rfl ξ) rfl ?_;exact⟨⟨_,_,_,_,rfl,⟨SlP.nil _ _ _,⟨SlP.nil _ _ _,SlI.nil _ _⟩,aq⟩,jX.nil w,jX.nil w,jX.nil w,ϕ rfl⟩,ap⟩
 ·have ak:Hid (qv c=(⟨2,Qh,(qJ c).1,Gj⟩,(qJ c).2)):=κ (by unfold qv;rw[ώ (λe=>e.elim ac ad),ώ h5]);rw[ak.o];have aC:((qJ c).2==5)=ύ:=beq_eq_false_iff_ne.2 h5;clear ac ad h5
  go_enter func241,ntmps241
  go_wp2_with (first | (go_at_call 281;(go_call (M.o▸av.o) as e w1 ⟨⟨ag,ah,rfl,s1,af,n2⟩,m⟩;have am:=κ s1;have aw:=κ af;have ax:=κ n2;obtain⟨⟨I,d,rfl,_⟩,⟨J,H,rfl,_⟩⟩:=id s1;have aj:=κ (ab.o.trans (M.o▸m));have aa:=κ (qs (qq (M.o▸m) ai.o) (.cells #[ι (qJ c).1.kind,ω (qJ c).1.snd,ω (qJ c).1.med,δ I (qJ c).1.asks.length d,δ J (qJ c).1.lost.length H] 283));have Y:=κ (qs (qq (M.o▸m) ay.o) (.cells #[ι (qJ c).1.kind,ω (qJ c).1.snd,ω (qJ c).1.med,δ I (qJ c).1.asks.length d,δ J (qJ c).1.lost.length H] 283));have aG:=β0 Y.o;have aH:=β1 Y.o;have aI:=β2 Y.o;clear m af n2 s1)) | (refine jU rfl 283 (.tmp 6) (.tmp 27) rfl w1 _ #[ι (qJ c).1.kind,ω (qJ c).1.snd,ω (qJ c).1.med,δ I (qJ c).1.asks.length d,δ J (qJ c).1.lost.length H] rfl rfl rfl ξ rfl rfl ?_) | (refine wpList_load_row rfl 283 (.tmp 6) rfl w1.heap.size rfl _ #[ι (qJ c).1.kind,ω (qJ c).1.snd,ω (qJ c).1.med,δ I (qJ c).1.asks.length d,δ J (qJ c).1.lost.length H] _ _ (heap_alloc_new w1 _) underlying283 rfl ξ ?_) | (refine zr rfl 293 (.tmp 2) (.tmp 34) rfl (w.heap.size+1) _ _ #[ι 2,ύ,ω 0,ω 0,ω 0,ω 0,ω 0,ω 0,(),ι (qJ c).1.kind,ω (qJ c).1.snd,ω (qJ c).1.med,δ I (qJ c).1.asks.length d,δ J (qJ c).1.lost.length H,υ 0,υ 0,()] aa.o rfl rfl ξ rfl (all_oneCell_toArray X9) ?_))
  obtain⟨WF,ao,an,a3⟩:=DL aa.o #[ι 2,ύ,ω 0,ω 0,ω 0,ω 0,ω 0,ω 0,(),ι (qJ c).1.kind,ω (qJ c).1.snd,ω (qJ c).1.med,δ I (qJ c).1.asks.length d,δ J (qJ c).1.lost.length H,υ 0,υ 0,()];rw[ao];have ap:=jt.to_more (aj.o.al _) a3 (λb e=>by omega);have ar:jX W0 (δ I (qJ c).1.asks.length d):=by rw[<-M.o];exact aw.o
  have au:jX W0 (δ J (qJ c).1.lost.length H):=by rw[<-M.o];exact ax.o
  have aq:DG WF (δ I (qJ c).1.asks.length d) (δ J (qJ c).1.lost.length H) (qJ c).1:=⟨Ju (am.o.asks.keep Cb X8) (λb O (e:b=w.heap.size+1)=>by have:=ar b O;have:=qn ai.o;omega) a3,SlI.off (am.o.lost.keep X8) (λb O (e:b=w.heap.size+1)=>by have:=au b O;have:=qn ai.o;omega) a3⟩;have aE:jX w (δ I (qJ c).1.asks.length d):=λb O=>by have:=ar b O;have:=ab.o.size;omega
  have aF:jX w (δ J (qJ c).1.lost.length H):=λb O=>by have:=au b O;have:=ab.o.size;omega
  refine bodyPost_ret (v:= .tuple #[θ #[ι 2,ύ,ω 0,ω 0,ω 0,ω 0,ω 0,ω 0,(),ι (qJ c).1.kind,ω (qJ c).1.snd,ω (qJ c).1.med,δ I (qJ c).1.asks.length d,δ J (qJ c).1.lost.length H,υ 0,υ 0,()],ι (qJ c).2]) (vR results241 _ _ (w.heap.size+1) _ _ _ _ rfl rfl an underlying293 rfl ξ) rfl ?_;exact⟨⟨_,_,_,_,rfl,⟨SlP.nil _ _ _,aq,SlI.nil _ _⟩,jX.nil w,aE,aF,ϑ (jX.nil w)⟩,ap⟩
def Wi (c:qQ) (H:Option Addr) (d:Nat) (w:World) (s:SlI .u8 w (δ H c.2.2.1.length d) c.2.2.1) (I:xk c) (J:c.2.2.1.length<=400):
  Calls prog 241 #[θ #[υ c.1,υ c.2.1,δ H c.2.2.1.length d]] w λe w'=>(∃vb va vl vo,e= .returned (.tuple #[θ #[ι (qv c).1.kind,μ (qv c).1.rep.snd,ω (qv c).1.rep.src,ω (qv c).1.rep.inf.sec,ω (qv c).1.rep.inf.frac,ω (qv c).1.rep.inf.stamp,ω (qv c).1.rep.inf.pkts,ω (qv c).1.rep.inf.octs,vb,ι (qv c).1.msg.kind,ω (qv c).1.msg.snd,ω (qv c).1.msg.med,va,vl,υ (qv c).1.oth.1,υ (qv c).1.oth.2.1,vo],ι (qv c).2])/\Gq w' vb va vl vo (qv c).1/\jX w vb/\jX w va/\jX w vl/\Ww w vo (δ H c.2.2.1.length d))/\ql w w':=by
 by_cases h1:c.2.1=200
 ·exact XO c H d w s I J (ϑ h1)
 ·by_cases h2:c.2.1=201
  ·exact XO c H d w s I J (ϕ h2)
  ·exact Wh c H d w s I J h1 h2
end
section
open Go.RowKit Go.Lib
def Fg {H vo:Value} {x:Itm} (s:Gq w vb d H vo x) (O:Wu x) (J: ∀g,vb.ownBlock=ϊ g-> ¬D g) (I: ∀g,d.ownBlock=ϊ g-> ¬D g) (M: ∀g,H.ownBlock=ϊ g-> ¬D g) (N:x.oth.2.2.1≠[]-> ∀g,vo.ownBlock=ϊ g-> ¬D g):jw Qk D w (Hx x vb d H vo) x:=
 λ_ a=>⟨vb,d,H,vo,rfl,⟨Yv s.bl J a,⟨Ju s.ms.asks I a,s.ms.lost.off M a⟩,s.bo.off2 N a⟩,O⟩
def Cd (d:xk c):Wu (qv c).1:=by
 unfold qv;split
 ·exact⟨Bf d,gC,WQ⟩
 split
 ·exact⟨WJ,gC,d⟩
 ·exact⟨WJ,Bg d,WQ⟩
def Xa {k:List qQ} (h:szC k<=200) (i:Nat) (hi:i<k.length):(k.getD i xu).2.2.1.length<=400/\k.length<=200:=by
 have I:(k.getD i xu).2.2.1.length+4<=szC k:=by
  have:=JZ k i hi;have:=DX k (i+1);omega
 have d: ∀j,j<=k.length->j<=szC (k.take j):=by
  intro j
  induction j with
  | zero=>intro _;omega
  | succ j ih=>
   intro J;have:=JZ k j τ;have:=ih τ;omega
 have H:=d k.length (ϔ _);rw[ϱ] at H;omega
structure ItJ (w wr:World) (u v:Value) (A:List Itm) (E:List Int):Prop where
 row:je 17 Qk (λb=>v.ownBlock=ϊ b) wr w.heap.size 293 u A
 errs:wr.ownsRow w.heap.size 29 1 v E.length (E.map (Value.int .i64))
 more:ql w wr
def ItJ.on (h:ItJ w wr u v A E) (m:ql wr w'):ItJ w w' u v A E:=⟨h.row.on m,jE h.errs m,h.more.trans m⟩
def ItJ.put {A':List Itm} (h:ItJ w wr u v A E) (J:je 17 Qk (λb=>v.ownBlock=ϊ b) w' w.heap.size 293 d A') (g:wr.grownBy w' u.ownBlock):ItJ w w' d v A' E:=
 ⟨J,XB h.errs g (λb H e=>h.row.apart b e H),Below.grown h.more g h.more.size (λk I=>h.row.ge I)⟩
def ItJ.err {E':List Int} (h:ItJ w wr u v A E) (H:w'.ownsRow w.heap.size 29 1 v' E'.length (E'.map (Value.int .i64))) (g:wr.grownBy w' v.ownBlock) (I:v'.ownBlock=v.ownBlock∨v'.ownBlock=ϊ wr.heap.size):ItJ w w' u v' A E':=
 ⟨h.row.beside g I,H,Below.grown h.more g h.more.size (λk d=>jG h.errs d)⟩
def wi {H:World} {x:Value} (h:ItJ w wr u v A E) (M:wr.heap.size<=H.heap.size) (f:jX H x): ∀g,x.ownBlock=ϊ g-> ¬(v.ownBlock=ϊ g∨u.ownBlock=ϊ g):=by
 intro g I d;have J:=f g I;rcases d with d | d
 ·have:=gB h.errs d;omega
 ·have:=h.row.lt d;omega
def US {Y:World} {N O:Option Addr} {U M:Nat} {c H:List Int} (h:ItJ w wr u v A E) (f:Ww Y (δ N c.length U) (δ O H.length M)) (ad:SlI .u8 w (δ O H.length M) H) (ac:wr.heap.size<=Y.heap.size):
  c≠[]-> ∀g,(δ N c.length U).ownBlock=ϊ g-> ¬(v.ownBlock=ϊ g∨u.ownBlock=ϊ g):=by
 intro ab g J d;rcases f with f | f
 ·exact wi h ac f g J d
 ·have I:=f;injection I with _ I _
  have aa:H≠[]:=λe=>ab (Ϥ (by rw[I,e];rfl))
  rw[f] at J;have ae:=ad.old aa J;rcases d with d | d
  ·have:=jG h.errs d;omega
  ·have:=h.row.ge d;omega
def Dq (b:List Int) (v:Value) (w:World) (I:SlI .u8 w v b) (O:Byt b) (U:b.length<=1000000) (d: ¬(jI b).2=0):
  Calls prog 188 #[v] w λe w'=> ∃vx,e= .returned (.tuple #[vx,ι (zx b).2])/\SlP 17 Qk w' vx (zx b).1/\ql w w':=by
 have M:=κ (Z6 v b w I O U);have J:Hid (zx b=([],(jI b).2)):=κ (by unfold zx;rw[ώ d]);have Y:((jI b).2 != 0)=ό:=by simp[d]
 clear I d;rw[J.o]
 go_enter func188,ntmps188
 go_wp2_with (go_at_call 240;(go_call M.o as e w1 ⟨aa,rfl,s1,H⟩;have N:=κ H;clear s1 H))
 go_ret2
 exact⟨_,rfl,SlP.nil _ _ _,N.o⟩
def Wb (b:List Int) (v:Value) (w:World) (sl:SlI .u8 w v b) (aD:Byt b) (bf:b.length<=1000000) (ae:(jI b).2=0):
  Calls prog 188 #[v] w λe w'=> ∃vx,e= .returned (.tuple #[vx,ι (zx b).2])/\SlP 17 Qk w' vx (zx b).1/\ql w w':=by
 obtain⟨bm,hi,bg,bh,bi⟩:=info_parts (P:=prog) (e:=293) (z:= Γf) (size:=17) (bytes:=160) ξ;obtain⟨bn,bp,bq,br,bs⟩:=info_parts (P:=prog) (e:=29) (z:= ι 0) (size:=1) (bytes:=8) ξ;have ac:=κ (Z6 v b w sl aD bf);have ay:Hid (szC (jI b).1<=200):=κ (QY aD (k:=(jI b).1) (by rw[<-ae])).2.2.2;have H:Hid (zx b=if vg ((jI b).1.map λc=>(qv c).2)=0 then ((jI b).1.map λc=>(qv c).1,0) else ([],vg ((jI b).1.map λc=>(qv c).2))):=κ (by unfold zx;rw[ϐ ae]);have aT:=κ ae;clear sl ae;generalize (jI b).1=l at *
 go_enter func188,ntmps188
 go_wp2_with (go_at_call 240;(go_call ac.o as e w1 ⟨bN,rfl,s1,aL⟩;rw[aT.o];have bu:=κ s1;have az:=κ aL;obtain⟨bI,cap,rfl,bD,aG⟩:=Ae s1;have aV:=κ aG;clear s1 aL aG))
 have aZ:Hid (ItJ w1 w1 (δ ϋ 0 0) (δ ϋ 0 0) [] []):=κ ⟨je.nil _ _ _ _ _ _,World.ownsRow_nil _ _ _ _,ql.refl _⟩;clear ac
 go_loopw [6,7,23] (λu v an wr=> ∃(j:Nat),j<=l.length/\an= ι j/\(∃ar ao ah au ap ai,u= δ ar ao ah/\v= δ au ap ai/\ItJ w1 wr (δ ar ao ah) (δ au ap ai) ((l.take j).map λc=>(qv c).1) ((l.take j).map λc=>(qv c).2))) (λ_ _ an _=>l.length-(intOf an).toNat)
 case atStart=>exact⟨0,τ,rfl,_,_,_,_,_,_,rfl,rfl,aZ.o⟩
 case round=>
  obtain⟨j,bB,rfl,ar,ao,ah,au,ap,ai,rfl,rfl,aC⟩:=hrel;have d:=κ aC;clear aC;by_cases hlt:j<l.length
  ·obtain⟨bw,bJ,vb,rfl,bd,am⟩:=aV.o j hlt;obtain⟨bx,c1,c2,aJ,aF⟩:=am.more d.o.more bd;have aX:=κ am.sl;have av:=κ aF;have aY:=κ aJ;obtain⟨aE,bE⟩:=Xa ay.o j hlt;have aU:=κ aE;have bC:(j:Int)<(l.length:Int):=by omega
   have ac:=κ (kv l j xu hlt);have aw:Hid ((l.take j).length=j/\j<=200):=κ ⟨by simp;omega,τ⟩;clear am aF aE;generalize l.take j=acc at *;generalize l.getD j xu=c at *;obtain⟨aq,ag,rfl,_⟩:=aJ
   go_wp2_with (first | (go_at_call 241;(go_call Wi c aq ag _ (aY.o.keep X8) av.o aU.o as e w2 ⟨⟨bM,bL,bO,bP,rfl,s2,n2,aN,aO,aB⟩,aM⟩;have bc:=κ s2;obtain⟨U,I,rfl,_⟩:=id s2.bl;obtain⟨Y,J,rfl,_⟩:=id s2.ms.asks;obtain⟨aa,M,rfl,_⟩:=id s2.ms.lost;obtain⟨ab,N,rfl,_⟩:=id s2.bo;have O:=(ql.alloc wr (.cells #[υ c.1,υ c.2.1,δ aq c.2.2.1.length ag] 291)).size;have aP:=κ (wi d.o O n2);have aQ:=κ (wi d.o O aN);have aR:=κ (wi d.o O aO);have aS:=κ (US d.o aB aX.o O);have bb:=κ ((ql.alloc wr (.cells #[υ c.1,υ c.2.1,δ aq c.2.2.1.length ag] 291)).trans aM);clear aM n2 aN aO aB s2 O;have ad:=κ ((d.o.on bb.o).on ((ql.alloc w2 (.cells #[ι (qv c).1.kind,μ (qv c).1.rep.snd,ω (qv c).1.rep.src,ω (qv c).1.rep.inf.sec,ω (qv c).1.rep.inf.frac,ω (qv c).1.rep.inf.stamp,ω (qv c).1.rep.inf.pkts,ω (qv c).1.rep.inf.octs,δ U (qv c).1.rep.bl.length I,ι (qv c).1.msg.kind,ω (qv c).1.msg.snd,ω (qv c).1.msg.med,δ Y (qv c).1.msg.asks.length J,δ aa (qv c).1.msg.lost.length M,υ (qv c).1.oth.1,υ (qv c).1.oth.2.1,δ ab (qv c).1.oth.2.2.1.length N] 293)).al (.cells #[ι (qv c).1.kind,μ (qv c).1.rep.snd,ω (qv c).1.rep.src,ω (qv c).1.rep.inf.sec,ω (qv c).1.rep.inf.frac,ω (qv c).1.rep.inf.stamp,ω (qv c).1.rep.inf.pkts,ω (qv c).1.rep.inf.octs,δ U (qv c).1.rep.bl.length I,ι (qv c).1.msg.kind,ω (qv c).1.msg.snd,ω (qv c).1.msg.med,δ Y (qv c).1.msg.asks.length J,δ aa (qv c).1.msg.lost.length M,υ (qv c).1.oth.1,υ (qv c).1.oth.2.1,δ ab (qv c).1.oth.2.2.1.length N] 293))))) | (refine jU rfl 293 (.tmp 10) (.tmp 30) rfl w2 _ #[ι (qv c).1.kind,μ (qv c).1.rep.snd,ω (qv c).1.rep.src,ω (qv c).1.rep.inf.sec,ω (qv c).1.rep.inf.frac,ω (qv c).1.rep.inf.stamp,ω (qv c).1.rep.inf.pkts,ω (qv c).1.rep.inf.octs,δ U (qv c).1.rep.bl.length I,ι (qv c).1.msg.kind,ω (qv c).1.msg.snd,ω (qv c).1.msg.med,δ Y (qv c).1.msg.asks.length J,δ aa (qv c).1.msg.lost.length M,υ (qv c).1.oth.1,υ (qv c).1.oth.2.1,δ ab (qv c).1.oth.2.2.1.length N] rfl rfl rfl ξ rfl (all_oneCell_toArray X9) ?_) | (refine wpList_load_row rfl 293 (.tmp 10) rfl w2.heap.size rfl _ #[ι (qv c).1.kind,μ (qv c).1.rep.snd,ω (qv c).1.rep.src,ω (qv c).1.rep.inf.sec,ω (qv c).1.rep.inf.frac,ω (qv c).1.rep.inf.stamp,ω (qv c).1.rep.inf.pkts,ω (qv c).1.rep.inf.octs,δ U (qv c).1.rep.bl.length I,ι (qv c).1.msg.kind,ω (qv c).1.msg.snd,ω (qv c).1.msg.med,δ Y (qv c).1.msg.asks.length J,δ aa (qv c).1.msg.lost.length M,υ (qv c).1.oth.1,υ (qv c).1.oth.2.1,δ ab (qv c).1.oth.2.2.1.length N] _ _ (heap_alloc_new w2 _) underlying293 rfl ξ ?_) | (at_builtin;refine jN _ rfl (.tmp 32) (.tmp 34) 294 rfl w1.heap.size 293 bm (Γf) 17 160 underlying294 hi bg bh bi rfl ζ _ (acc.map λc=>(qv c).1) rfl ad.o.row (w2.heap.size+1) [ι (qv c).1.kind,μ (qv c).1.rep.snd,ω (qv c).1.rep.src,ω (qv c).1.rep.inf.sec,ω (qv c).1.rep.inf.frac,ω (qv c).1.rep.inf.stamp,ω (qv c).1.rep.inf.pkts,ω (qv c).1.rep.inf.octs,δ U (qv c).1.rep.bl.length I,ι (qv c).1.msg.kind,ω (qv c).1.msg.snd,ω (qv c).1.msg.med,δ Y (qv c).1.msg.asks.length J,δ aa (qv c).1.msg.lost.length M,υ (qv c).1.oth.1,υ (qv c).1.oth.2.1,δ ab (qv c).1.oth.2.2.1.length N] (qv c).1 rfl rfl (zS η) X9 ((Fg bc.o (Cd av.o) aP.o aQ.o aR.o aS.o).on (X8.al _)) (λb h=>gB ad.o.errs h) ζ (by have:=aw.o;rw[B9];omega) ad.o.more.size ?_;intro bK w8 aj aH be;have af:=κ (ad.o.put aj aH);obtain⟨bG,bF,bz,rfl,bj,bk⟩:=aj.shape;clear aj aH be bj bk) | (at_builtin;refine qU _ rfl (.tmp 36) (.tmp 38) 416 rfl w1.heap.size 29 bn (ι 0) 8 underlying416 bp bq br bs rfl _ .i64 (acc.map λc=>(qv c).2) rfl (af.o.on X8).errs _ [(qv c).2] rfl (SlI.lit .i64 w8 [(qv c).2] 29 _ 1 _ rfl rfl rfl η) (by have:=aw.o;rw[B9];simp;omega) ζ (by have:=af.o.more.size;simp;omega) ?_;intro v9 w9 ak aI aK;have ba:=κ ((af.o.on X8).err ak aI aK);obtain⟨bH,bA,aA⟩:=xl ak;rw[show ((acc.map λc=>(qv c).2)++[(qv c).2]).length=acc.length+1 from by simp] at aA;subst aA;clear ak aI aK))
   go_roundw
   case rel=>exact⟨j+1,τ,by go_num,_,_,_,_,_,_,rfl,rfl,by rw[ac.o,ϻ,ϻ];exact ba.o⟩
   case measure=>simp[intOf];omega
  ·obtain rfl:j=l.length:=by omega
   rw[ϱ] at d
   have ax:Hid ((l.map λc=>(qv c).2).length<=1000):=κ (by
    rw[B9];by_cases he:0<l.length
    ·have:=(Xa ay.o 0 he).2;omega
    ·omega)
   by_cases hf:vg (l.map λc=>(qv c).2)=0
   ·have aW:=κ hf;rw[ϐ hf] at H;clear hf
    go_wp2_with (go_at_call 242;(go_call gh (l.map λc=>(qv c).2) _ _ (SlI.of_owns d.o.errs (by have:=ax.o;omega)) as e bt ⟨rfl,rfl⟩;rw[aW.o]))
    go_ret2
    exact⟨_,by rw[H.o];rfl,by rw[H.o];exact d.o.row.sl ζ,az.o.trans d.o.more⟩
   ·have bv:(vg (l.map λc=>(qv c).2) != 0)=ό:=by simp[hf]
    rw[ώ hf] at H;clear hf
    go_wp2_with (go_at_call 242;(go_call gh (l.map λc=>(qv c).2) _ _ (SlI.of_owns d.o.errs (by have:=ax.o;omega)) as e bt ⟨rfl,rfl⟩))
    go_ret2
    exact⟨_,by rw[H.o];rfl,by rw[H.o];exact SlP.nil _ _ _,az.o.trans d.o.more⟩
def Dr (b:List Int) (v:Value) (w:World) (I:SlI .u8 w v b) (d:Byt b) (H:b.length<=1000000):
  Calls prog 188 #[v] w λe w'=> ∃vx,e= .returned (.tuple #[vx,ι (zx b).2])/\SlP 17 Qk w' vx (zx b).1/\ql w w':=by
 by_cases h0:(jI b).2=0
 ·exact Wb b v w I d H h0
 ·exact Dq b v w I d H h0
end
section
open Go.RowKit Go.Lib
def go (x:Itm):List Int:=if x.kind=2 then (if x.msg.kind=1 then [x.msg.med] else if x.msg.kind=2 then x.msg.asks.map Prod.fst else []) else []
def xU (l:List Itm):List Int:=l.flatMap go
def Cr {x:Itm} (h:CY x):(go x).length<=100000:=by
 unfold go;split
 ·split
  ·simp
  ·split
   ·rw[B9];exact h.asks
   ·simp
 ·simp
def U6 (l m:List Itm):xU (l++m)=xU l++xU m:=by simp[xU]
def U5 (x:Itm):xU [x]=go x:=by simp[xU]
def wY: ∀{l:List Itm},(∀x∈l,CY x)->(xU l).length<=l.length* 100000
 | [],_=>by simp[xU]
 | x::l,h=>by
  have H:=Cr (h x η);have I:=wY (l:=l) λy d=>h y (by simp[d])
  show ((go x)++xU l).length<=_;rw[Ϗ,ϙ];omega
structure AsJ (w wr:World) (u:Value) (A:List Int):Prop where
 row:wr.ownsRow w.heap.size 38 1 u A.length (A.map (Value.int .u32))
 more:ql w wr
def AsJ.on {A:List Int} (h:AsJ w wr u A) (m:ql wr w'):AsJ w w' u A:=⟨jE h.row m,h.more.trans m⟩
def AsJ.put {A A':List Int} (h:AsJ w wr u A) (I:w'.ownsRow w.heap.size 38 1 d A'.length (A'.map (Value.int .u32))) (g:wr.grownBy w' u.ownBlock):AsJ w w' d A':=
 ⟨I,Below.grown h.more g h.more.size (λk H=>jG h.row H)⟩
def Wo (l:List Itm) (v:Value) (w:World) (aG:SlP 17 Qk w v l) (bm:l.length<=1000) (az: ∀x∈l,CY x):
  Calls prog 189 #[v] w λe w'=> ∃vx,e= .returned vx/\(SlI .u32 w' vx (xU l)/\ ∀q,vx.ownBlock=ϊ q->w.heap.size<=q)/\ql w w':=by
 obtain⟨aF,hi,aC,aD,aE⟩:=info_parts (P:=prog) (e:=38) (z:= ω 0) (size:=1) (bytes:=4) ξ;obtain⟨bo,cap,rfl,bn,ax,aT⟩:=Mf aG;have aI:=κ ax;have ao:=κ az;have aO:Hid (AsJ w w (δ ϋ 0 0) []):=κ ⟨World.ownsRow_nil _ _ _ _,ql.refl _⟩;clear aG ax aT az
 go_enter func189,ntmps189
 go_wp2
 go_loopw [3,10] (λu J wr=> ∃j:Nat,j<=l.length/\J= ι j/\AsJ w wr u (xU (l.take j))) (λ_ J _=>l.length-(intOf J).toNat)
 case atStart=>exact⟨0,τ,rfl,aO.o⟩
 case round=>
  obtain⟨j,bk,rfl,O⟩:=hrel;have d:=κ O;clear O;by_cases hlt:j<l.length
  ·obtain⟨b,aW,aj,ae,al,af,am,ag,an,ah,rfl,av,aB,aA⟩:=aI.o j hlt;have aL:=κ (Y0 aB d.o.more av);have ay:l.getD j wL∈l:=by rw[ϒ,ϖ hlt];exact ϡ hlt
   have aK:=κ (ao.o _ ay);have aN:=κ aA.ms.asks;have bl:(j:Int)<(l.length:Int):=by omega
   have bh:b<wr.heap.size:=ϗ av d.o.more.size;have ab:Hid (xU (l.take (j+1))=xU (l.take j)++go (l.getD j wL)):=κ (by rw[kv l j wL hlt,U6,U5])
   have aa:Hid ((xU (l.take j)).length<=100000000):=κ (by
    have:=wY (l:=l.take j) λx aV=>ao.o x (List.mem_of_mem_take aV)
    rw[Ϡ] at this
    omega)
   clear aB aA ay;generalize xU (l.take j)=acc at *;generalize l.getD j wL=x at *
   go_upto_region 5 with (first | (refine wpList_load_mid rfl 293 (.tmp 12) rfl b (aW+j* 17) rfl (Γo x aj ae al af am ag an ah) _ aL.o underlying293 rfl ξ ?_) | (refine jU rfl 293 (.tmp 5) (.tmp 13) rfl wr _ (Γo x aj ae al af am ag an ah) rfl rfl rfl ξ rfl rfl ?_))
   obtain⟨ad,ai⟩:=ν (wr.alloc (.cells (Γo x aj ae al af am ag an ah) 293));have ac:Hid (ql wr ad):=κ (by rw[<-ai];exact ql.alloc _ _);have I:Hid (ad.heap[wr.heap.size]? =ϊ (.cells (Γo x aj ae al af am ag an ah) 293 (0,0))):=κ (by rw[<-ai];exact qj _ _);rw[ai];clear ai;have aS:wr.heap.size<ad.heap.size:=qn I.o;have t0:=β0 I.o;have t9:=β9 I.o;have aX:=β11 I.o;have aY:=β12 I.o;have aZ:=β13 I.o;by_cases hk:x.kind=2
   ·have aR:(x.kind != 2)=ύ:=by simp[hk]
    by_cases h1:x.msg.kind=1
    ·have aP:(x.msg.kind==1)=ό:=by simp[h1]
     have H:Hid (go x=[x.msg.med]):=κ (by unfold go;rw[ϐ hk,ϐ h1]);clear hk h1;have N:=κ (d.o.on ac.o)
     go_wp2_with (at_builtin;refine qU _ rfl (.tmp 22) (.tmp 26) 61 rfl w.heap.size 38 aF (ω 0) 4 underlying61 hi aC aD aE rfl _ .u32 acc rfl (N.o.on X8).row _ [x.msg.med] rfl (SlI.lit .u32 ad [x.msg.med] 38 _ 1 _ rfl rfl rfl η) (by have:=aa.o;simp;omega) ζ (by have:=N.o.more.size;simp;omega) ?_;intro v9 w9 Y U aq;have ap:=κ ((N.o.on X8).put Y U);clear Y U aq)
     go_roundw
     case measure=>simp[intOf];omega
     case rel=>exact⟨j+1,τ,by go_num,by rw[ab.o,H.o];exact ap.o⟩
    ·have aP:(x.msg.kind==1)=ύ:=by simp[h1]
     by_cases h2:x.msg.kind=2
     ·have aQ:(x.msg.kind==2)=ό:=by simp[h2]
      have H:Hid (go x=x.msg.asks.map Prod.fst):=κ (by unfold go;rw[ϐ hk,ώ h1,ϐ h2]);clear hk h1 h2;have N:=κ (d.o.on ac.o);go_wp2;have bc:=κ d.o.more;obtain⟨aH,rfl⟩: ∃aH:World,aH=wr:=⟨_,rfl⟩;have ar:=κ aK.o.asks;generalize x.msg.asks=ak at *;have bf:ak.length<=100000:=ar.o;clear t0 t9 aX aY aZ I aS
      go_loopw [3,34] (λu J wr=> ∃i:Nat,i<=ak.length/\J= ι i/\AsJ w wr u (acc++(ak.take i).map Prod.fst)) (λ_ J _=>ak.length-(intOf J).toNat)
      case atStart=>exact⟨0,τ,rfl,by simpa using N.o⟩
      case round=>
       obtain⟨i,bi,rfl,O⟩:=hrel;have M:=κ O;clear O;by_cases hlt3:i<ak.length
       ·obtain⟨bd,bp,rfl,bg,aw,ba,bb⟩:=Dj aN.o i hlt3;obtain⟨be,c1⟩:=aw _ M.o.more;have bj:(i:Int)<(ak.length:Int):=by omega
        have aM:Hid (acc++(ak.take (i+1)).map Prod.fst=(acc++(ak.take i).map Prod.fst)++[(ak.getD i (0,0)).1]):=κ (by rw[kv ak i (0,0) hlt3,ϻ,ϭ];rfl);have aJ:Hid ((acc++(ak.take i).map Prod.fst).length<=100100000):=κ (by have:=aa.o;have:=ar.o;rw[Ϗ,B9,Ϡ];omega);clear aw ba bb;generalize acc++(ak.take i).map Prod.fst=acc3 at *;generalize (ak.getD i (0,0)).1=y1 at *;generalize (ak.getD i (0,0)).2=y2 at *;have au:=κ (M.o.on (ql.alloc wr (.cells #[ω y1,υ y2] 421)))
        go_wp2_with (at_builtin;refine qU _ rfl (.tmp 38) (.tmp 41) 61 rfl w.heap.size 38 aF (ω 0) 4 underlying61 hi aC aD aE rfl _ .u32 acc3 rfl (au.o.on X8).row _ [y1] rfl (SlI.lit .u32 (wr.alloc (.cells #[ω y1,υ y2] 421)) [y1] 38 _ 1 _ rfl rfl η η) (by have:=aJ.o;rw[C9];omega) ζ (by have:=M.o.more.size;simp;omega) ?_;intro v9 w9 Y U aq;have ap:=κ ((au.o.on X8).put Y U);clear Y U aq)
        go_roundw
        case measure=>simp[intOf];omega
        case rel=>exact⟨i+1,τ,by go_num,by rw[aM.o];exact ap.o⟩
       ·obtain rfl:i=ak.length:=by omega
        rw[ϱ] at M;go_wp2;go_roundw
        case measure=>simp[intOf];omega
        case rel=>exact⟨j+1,τ,by go_num,by rw[ab.o,H.o];exact M.o⟩
     ·have aQ:(x.msg.kind==2)=ύ:=by simp[h2]
      have H:Hid (go x=[]):=κ (by unfold go;rw[ϐ hk,ώ h1,ώ h2]);clear hk h1 h2;go_wp2;go_roundw
      case measure=>simp[intOf];omega
      case rel=>exact⟨j+1,τ,by go_num,by rw[ab.o,H.o,ε];exact d.o.on ac.o⟩
   ·have aR:(x.kind != 2)=ό:=by simp[hk]
    have H:Hid (go x=[]):=κ (by unfold go;rw[ώ hk]);clear hk;go_wp2;go_roundw
    case measure=>simp[intOf];omega
    case rel=>exact⟨j+1,τ,by go_num,by rw[ab.o,H.o,ε];exact d.o.on ac.o⟩
  ·obtain rfl:j=l.length:=by omega
   rw[ϱ] at d;have aa:Hid ((xU l).length<=100000000):=κ (by have:=wY (l:=l) ao.o;omega);go_wp2;go_ret;exact⟨_,rfl,⟨SlI.of_owns d.o.row (by have:=aa.o;omega),λq aU=>jG d.o.row aU⟩,d.o.more⟩
end
structure Ds where
 lo:Bool
 st:Bool
 pt:Int
 pic:Int
 wd:Bool
 bs:Int
 tr:Int
 sy:Bool
 ky:Int
def ds0:Ds:=⟨ύ,ύ,0,0,ύ,0,0,ύ,0⟩
def b1 (b:Bool) (n:Int):Int:=if b then n else 0
def nB (s:RdS):Int:=num (tkB s.1 1)
def bit (n k:Int):Bool:=decide (n/k%2=1)
def zd (s:RdS):Int×Int×RdS:=if bit (nB s) 128 then (nB s,nB (tkS s 1),tkS (tkS s 1) 1) else (nB s,0,tkS s 1)
def gk (t:Int) (s:RdS):(Int×Bool)×RdS:=if bit t 128 then (if nB s<128 then ((nB s,ύ),tkS s 1) else (((nB s-128)* 256+nB (tkS s 1),ό),tkS (tkS s 1) 1)) else ((-1,ύ),s)
def Jl (t:Int) (s:RdS):Int×RdS:=if bit t 64 then (nB s,tkS s 1) else (-1,s)
def QP (t:Int) (s:RdS):Int×RdS:=if bit t 32||bit t 16 then (nB s,tkS s 1) else (0,s)
def mkD (f t:Int) (p:Int×Bool) (b q:Int):Ds:=⟨bit f 32,bit f 16,f%8,p.1,p.2,b,if bit t 32 then q/64 else -1,bit t 32&&bit q 32,if bit t 16 then q%32 else -1⟩
def Zs (f t:Int) (s:RdS):Ds×RdS:=
 (mkD f t (gk t s).1 (Jl t (gk t s).2).1 (QP t (Jl t (gk t s).2).2).1,(QP t (Jl t (gk t s).2).2).2)
def DE (n:Int) (x:Ds×RdS):Ds×Int×Int:=if x.2.2=3 then (ds0,0,3) else (x.1,n-x.2.1.length,0)
def qW (b:List Int):Ds×Int×Int:=DE b.length (Zs (zd (b,0)).1 (zd (b,0)).2.1 (zd (b,0)).2.2)
def zJ (b:List Int):Bool:=
 decide ((qW b).2.2=0)&&(qW b).1.st&&decide ((qW b).1.pt=0)&&decide ((qW b).2.1<b.length)&&decide (b.getD (qW b).2.1.toNat 0%2=0)
def GI (f t:Int) (s:RdS):(Zs f t s).2.1.length<=s.1.length:=by
 have d: ∀s:RdS,(tkS s 1).1.length<=s.1.length:=λs=>by unfold tkS tkL;rw[Ϣ];omega
 unfold Zs;have I:(gk t s).2.1.length<=s.1.length:=by
  unfold gk;split
  ·split
   ·exact d _
   ·exact Ϙ (d _) (d _)
  ·exact ϔ _
 have H: ∀s,(Jl t s).2.1.length<=s.1.length:=λs=>by
  unfold Jl;split
  ·exact d _
  ·exact ϔ _
 have J: ∀s,(QP t s).2.1.length<=s.1.length:=λs=>by
  unfold QP;split
  ·exact d _
  ·exact ϔ _
 exact Ϙ (J _) (Ϙ (H _) I)
def orB: ∀m:Fin 256,((m.val:Int)/128%2=0->bits .or .u8 (m.val:Int) 128=(m.val:Int)+128)/\((m.val:Int)/64%2=0->bits .or .u8 (m.val:Int) 64=(m.val:Int)+64)/\((m.val:Int)/32%2=0->bits .or .u8 (m.val:Int) 32=(m.val:Int)+32)/\((m.val:Int)/16%2=0->bits .or .u8 (m.val:Int) 16=(m.val:Int)+16):=Ϛ ξ
def Nw (h:0<=x/\x<=255):(x/128%2=0->bits .or .u8 x 128=x+128)/\(x/64%2=0->bits .or .u8 x 64=x+64)/\(x/32%2=0->bits .or .u8 x 32=x+32)/\(x/16%2=0->bits .or .u8 x 16=x+16):=by
 obtain⟨m,rfl⟩:=Ϻ h.1;exact orB ⟨m,τ⟩
def Nq: ∀m:Fin 256,(bits .and .u8 (m.val:Int) 128=if bit (m.val:Int) 128 then 128 else 0)/\(bits .and .u8 (m.val:Int) 64=if bit (m.val:Int) 64 then 64 else 0)/\(bits .and .u8 (m.val:Int) 32=if bit (m.val:Int) 32 then 32 else 0)/\(bits .and .u8 (m.val:Int) 16=if bit (m.val:Int) 16 then 16 else 0)/\bits .and .u8 (m.val:Int) 7=(m.val:Int)%8/\((bits .and .u8 (m.val:Int) 48 != 0)=(bit (m.val:Int) 32||bit (m.val:Int) 16)):=Ϛ ξ
def Zw (h:0<=x/\x<=255):(bits .and .u8 x 128=if bit x 128 then 128 else 0)/\(bits .and .u8 x 64=if bit x 64 then 64 else 0)/\(bits .and .u8 x 32=if bit x 32 then 32 else 0)/\(bits .and .u8 x 16=if bit x 16 then 16 else 0)/\bits .and .u8 x 7=x%8/\((bits .and .u8 x 48 != 0)=(bit x 32||bit x 16)):=by
 obtain⟨m,rfl⟩:=Ϻ h.1;exact Nq ⟨m,τ⟩
def Mp: ∀m:Fin 256,((bits .and .u8 (m.val:Int) 128 != 0)=bit (m.val:Int) 128)/\((bits .and .u8 (m.val:Int) 64 != 0)=bit (m.val:Int) 64)/\((bits .and .u8 (m.val:Int) 32 != 0)=bit (m.val:Int) 32)/\((bits .and .u8 (m.val:Int) 16 != 0)=bit (m.val:Int) 16):=Ϛ ξ
def JW (h:0<=x/\x<=255):((bits .and .u8 x 128 != 0)=bit x 128)/\((bits .and .u8 x 64 != 0)=bit x 64)/\((bits .and .u8 x 32 != 0)=bit x 32)/\((bits .and .u8 x 16 != 0)=bit x 16):=by
 obtain⟨m,rfl⟩:=Ϻ h.1;exact Mp ⟨m,τ⟩
end Go.Proofs.YtlmllmonabafjaaGreatDoor
