/- x -/
import Derived.Test.YtlmllmonabafjaaGreatDoorMh11
import Derived.Test.YtlmllmonabafjaaGreatDoorMh9
namespace Go.Proofs.YtlmllmonabafjaaGreatDoor
open Option renaming some->ϊ,none->ϋ
open Bool renaming true->ό,false->ύ
open Go.Value renaming bool->μ,slice->δ,pointer->π,agg->θ
open Go.IntKind renaming i64->ι,u8->υ,u16->φ,u32->ω,i32->χ,u64->ψ
open _root_.Go.Proofs.Tryz
set_option linter.all false
set_option maxHeartbeats 8000000
open Go.RowKit
set_option maxRecDepth 100000
variable {w w' w0 W:World} {s s':RmS} {k:RmK} {F:List Nat} {v vp v' vr:Value} {T:Nat->Tg} {L:List Int}
def Kd (b:Bk) (x i f:Int):(jp b x i f).length<=b.length+1:=by
 unfold jp zi;split
 ·split
  ·split
   ·split
    ·exact SD _ _
    ·exact K5 _
   ·exact K5 _
  ·exact K5 _
 ·exact K5 _
def LJ (h:qI w0 w k s F) (sub:Int) (I:s.book.length<=1000000):
  Calls prog 107 #[γ k.B,ι sub,ι 7] w λe w'=>(∃v,e= .returned v)/\qI w0 w' k {s with book:=vM s.book sub 7} F/\qw F w w'/\jt (λx=>x=k.b) w w':=by
 obtain⟨T,vp,J,x⟩:=h;refine(MN x.bok sub 7 I).mono ?_;rintro e w' ⟨⟨v,rfl,_⟩,b,a⟩;obtain⟨d,H⟩:=x.book b a;exact⟨⟨v,rfl⟩,d,H,a⟩
def Lc (h:qI w0 w k s F) (sub:Int):
  Calls prog 123 #[γ k.tb,ι sub] w λe w'=>(∃v,e= .returned v)/\qI w0 w' k {s with tab:=(zM s.tab sub).1} F/\qw F w w'/\jt (λx=>x=k.td) w w':=by
 obtain⟨T,vp,I,x⟩:=h;refine(Zr x.tab sub).mono ?_;rintro e w' ⟨rfl,b,a⟩;obtain⟨d,H⟩:=x.table b (a.mono λ_ e=>ϕ (ϕ e));exact⟨⟨_,rfl⟩,d,H,a⟩
def La (h:qI w0 w k s F) (ab sub:Int) (acc:Bool) {l:LnS} (az:qh s.lanes sub=ϊ l) (bq:l.W.length<=1000000) (bA:s.book.length<=900000):
  Calls prog 77 #[γ k.R,θ #[ι ab,ι sub],acc] w λe w'=>e= .returned (.tuple #[])/\qI w0 w' k (s.write sub acc) F/\qw F w w':=by
 have aI:=κ (h.stay (ql.alloc w (.cells #[ι ab,ι sub] 37)));have aN:=h.adds (ql.alloc w (.cells #[ι ab,ι sub] 37)) (Fn:=[w.heap.size]) (λb d=>by simp at d;subst d;simp);have ac:=κ (qj w (.cells #[ι ab,ι sub] 37));obtain⟨W1,aw⟩:=ν (w.alloc (.cells #[ι ab,ι sub] 37));rw[aw] at aN ac aI;obtain⟨T,vp,bF,aB⟩:=aN;have ad:=κ aB;obtain⟨p,aU,aS⟩:=aB.laneAt az;have bm:=κ aS;have ao:=κ aU;have aH:=κ az;have bc:=λ(x:qt W1)=>β12 (qq x.h ad.o.blk)
 have be:=λ(x:qt W1)=>β1 (qq x.h ac.o)
 have bd: ∀x:qt W1,(Instr.lookup 90 (.map (ϊ k.ML)) (ι sub) ύ).run prog x.w'= .ok (γ p) x.w':=λx=>by
  have:=xq (ad.o.lnm.more x.h) sub ύ;rw[ao.o] at this;exact this
 have aF:=κ (λw (m:ql W1 w)=>As (bm.o.on m) bq acc);obtain⟨aa,id,I,ok,av⟩: ∃aa id I ok,qX l acc=(aa,id,I,ok):=⟨_,_,_,_,rfl⟩;rw[av] at aF;have bn:=κ av;clear h aB az aU aS av
 go_enter func77,ntmps77
 go_upto_region 1 with fail
 (try rw[aw])
 clear aw;refine qD _ (ql.refl _) ξ ξ ?_
 repeat (go_big_quiet_step (fail))
 refine wpQuiet_nil ?_;intro _ br;obtain⟨aY,rfl⟩:=br;obtain⟨W2,ax⟩:=ν (aY.w');have aq:Hid (ql W1 W2):=κ (by rw[<-ax];exact aY.h);rw[ax];clear ax bc be bd;obtain⟨c,aR⟩:=ν ((ok&&decide (I=1)));have an:=κ aR;clear aR
 go_upto_region 3 with (go_at_call 121;(go_call aF.o _ aq.o as e H ⟨rfl,aO,a3⟩;obtain⟨aM,t3⟩:=(ad.o.on aq.o).lanePut aH.o ao.o aO a3;have aD:=κ aM;have ar:Hid (qw ([w.heap.size]++F) W1 H):=κ ((ad.o.at.stay aq.o).trans t3);clear aO a3 aM t3))
 go_cut [28] from 24 (λv aj=>v= μ c/\aj=H)
 case first=>
  cases ok with
  | false=>
   go_wp2;go_meet;exact⟨by rw[<-an.o];rfl,rfl⟩
  | true=>
   go_wp2;go_meet;exact⟨by rw[<-an.o];by_cases e:I=1<;>simp[e],rfl⟩
 case rest=>
 obtain⟨rfl,bp⟩:=hcut;obtain rfl:=bp.symm
 go_upto_if 28 with fail
 go_cut [] from 29 (λaj=>qI w0 aj k {s with lanes:=qx s.lanes sub aa,book:=if c then jp s.book sub id I else s.book} ([w.heap.size]++F)/\qw ([w.heap.size]++F) H aj)
 case first=>
  cases c with
  | false=>
   go_wp2;go_meet;exact⟨aD.o,qw.refl _ _⟩
  | true=>
   have bi:=κ (ar.o.blk η ac.o);obtain⟨bw,bC,bG,U⟩:=aD.o;have ae:=κ U;have bt:k.R≠k.b:=λe=>by
    obtain⟨_,d,_⟩:=U.all .book;rw[<-e,(U.all .room).1] at d;cases d
   have bu:w.heap.size≠k.b:=λe=>by
    obtain⟨_,d,_⟩:=U.all .book;rw[<-e,(U.law (w.heap.size) η).1] at d;cases d
   have ak:=λ(x:qz (λb=>b=k.b) H)=>β0 (x.h.blk ae.o.blk bt)
   have al:=λ(x:qz (λb=>b=k.b) H)=>β1 (x.h.blk bi.o bu)
   clear U
   go_upto_region 4 with fail
   refine QN (λb=>b=k.b) H 9 9 [8] ?_
   refine Qs8 ?_
   (refine Ql ?_;intro K M)
   go_call gI (ae.o.on (ql.drewN H 1)).bok sub id I as e w4 ⟨rfl,aL,a4⟩;obtain⟨ai,t4⟩:=(ae.o.on (ql.drewN H 1)).book aL a4;have bf:=κ ai;have ah:Hid (qw ([w.heap.size]++F) H w4):=κ ((ae.o.at.stay (ql.drewN H 1)).trans t4);have aZ:Hid (jt (λb=>b=k.b) H w4):=κ (((jt.refl _ _).drewN 1).trans a4);clear aL a4 ai t4;refine⟨_,rfl,qi aZ.o,M _ _ ?_⟩;clear M K;refine qA ?_;go_wp2;go_meet;exact⟨bf.o,ah.o⟩
 case rest=>
 obtain⟨ai,t4⟩:=hcut;rename_i w4;have bj:=κ ((ar.o.trans t4).blk η ac.o);have ah:=κ (aI.o.trans ((ar.o.trans t4).sub (F':=F) (λb d=>ϓ _ d)));obtain⟨bx,bD,bH,aC⟩:=ai;have af:=κ aC;obtain⟨bv,aA,aT⟩:=aC.laneAt (x:=sub) (l:=aa) (xD _ _ _);obtain rfl:bv=p:=by rw[ao.o] at aA;injection aA with e;exact e.symm
 have am:=κ (JB aT);clear aC aA aT t4;obtain⟨au,ay⟩:=ν (aa.gone);rw[ay] at am;have bl:=κ ay;clear ay;have aG:Hid (s.write sub acc={s with lanes:=qx s.lanes sub aa,tab:=if au then (zM s.tab sub).1 else s.tab,book:=if au then vM (if c then jp s.book sub id I else s.book) sub 7 else if c then jp s.book sub id I else s.book}):=κ (by unfold RmS.write;rw[aH.o];simp only[bn.o];rw[an.o,bl.o]);cases au with
 | false=>
  go_wp2_with (go_at_call 69;(go_call am.o as e w6 ⟨rfl,O⟩;have ag:=κ O;clear O))
  (refine bodyPost_end (v:= .tuple #[]) ?re1 rfl ?_;(case re1=>simp[results,results77,go_sem]))
  exact⟨rfl,by rw[aG.o];exact(af.o.on ag.o).at.sub (λb d=>ϓ _ d),ah.o.trans ((af.o.at.stay ag.o).sub (λb d=>ϓ _ d))⟩
 | true=>
  go_upto_region 6 with (go_at_call 69;(go_call am.o as e w6 ⟨rfl,O⟩;have ag:=κ O;have N:=κ (af.o.on O);have aE:=κ (qq O bj.o);clear O))
  have aV:k.R≠k.b:=λe=>by
   obtain⟨_,d,_⟩:=N.o.all .book;rw[<-e,(N.o.all .room).1] at d;cases d
  have aW:w.heap.size≠k.b:=λe=>by
   obtain⟨_,d,_⟩:=N.o.all .book;rw[<-e,(N.o.law (w.heap.size) η).1] at d;cases d
  have ak:=λ(x:qz (λb=>b=k.b) w6)=>β0 (x.h.blk N.o.blk aV)
  have al:=λ(x:qz (λb=>b=k.b) w6)=>β1 (x.h.blk aE.o aW)
  refine QN (λb=>b=k.b) w6 8 8 [7] ?_
  refine Qs7 ?_
  (refine Ql ?_;intro K M)
  go_call LJ (N.o.on (ql.drewN w6 1)).at sub (by have:=Kd s.book sub id I;cases c<;>simp<;>omega) as e J ⟨⟨bB,rfl⟩,aP,aX,aK⟩;have bg:=κ aP;have aJ:Hid (qw ([w.heap.size]++F) w6 J):=κ ((N.o.at.stay (ql.drewN w6 1)).trans aX);have ba:Hid (jt (λb=>b=k.b) w6 J):=κ (((jt.refl _ _).drewN 1).trans aK);clear aP aX aK;refine⟨_,rfl,qi ba.o,M _ _ ?_⟩;clear M K ak al aV aW;refine qA ?_;have bk:=κ (aJ.o.blk η aE.o);obtain⟨bz,bE,bI,Y⟩:=bg.o;have ap:=κ Y;have bs:k.R≠k.td:=λe=>by
   obtain⟨_,_,_,d,_⟩:=Y.all .table;rw[<-e,(Y.all .room).1] at d;cases d
  have n2:w.heap.size≠k.td:=λe=>by
   obtain⟨_,_,_,d,_⟩:=Y.all .table;rw[<-e,(Y.law w.heap.size η).1] at d;cases d
  have ak:=λ(x:qz (λb=>b=k.td) J)=>β11 (x.h.blk ap.o.blk bs)
  have al:=λ(x:qz (λb=>b=k.td) J)=>β1 (x.h.blk bk.o n2)
  clear Y
  go_upto_region 7 with fail
  refine QN (λb=>b=k.td) J 7 7 [6] ?_
  refine Qs6 ?_
  (refine Ql ?_;intro K M)
  go_call Lc (ap.o.on (ql.drewN J 1)).at sub as e w9 ⟨⟨v9,rfl⟩,aQ,t9,a9⟩;have bh:=κ aQ;have bo:Hid (qw ([w.heap.size]++F) J w9):=κ ((ap.o.at.stay (ql.drewN J 1)).trans t9);have bb:Hid (jt (λb=>b=k.td) J w9):=κ (((jt.refl _ _).drewN 1).trans a9);clear aQ t9 a9;refine⟨_,rfl,qi bb.o,M _ _ ?_⟩;clear M K;refine qA ?_;go_wp2
  (refine bodyPost_end (v:= .tuple #[]) ?re2 rfl ?_;(case re2=>simp[results,results77,go_sem]))
  exact⟨rfl,by rw[aG.o];exact bh.o.sub (λb d=>ϓ _ d),ah.o.trans (((af.o.at.stay ag.o).trans (aJ.o.trans bo.o)).sub (λb d=>ϓ _ d))⟩
def Z4 (n sub:Int) (w:World):Calls prog 75 #[θ #[ι n,ι sub]] w λe w'=>e= .returned (ι (xB n))/\ql w w':=by
 by_cases h2:n=2
 ·subst h2
  go_enter func75,ntmps75
  go_wp2;go_ret;exact⟨rfl,ql.alloc _ _⟩
 ·by_cases h3:n=3
  ·subst h3
   go_enter func75,ntmps75
   go_wp2;go_ret;exact⟨rfl,ql.alloc _ _⟩
  ·have e:xB n=3:=by unfold xB;rw[ώ h2,ώ h3]
   have d:(n==2)=ύ:=by simp[h2]
   have H:(n==3)=ύ:=by simp[h3]
   rw[e];clear h2 h3 e
   go_enter func75,ntmps75
   go_wp2;go_ret;exact⟨rfl,ql.alloc _ _⟩
def CM (n sub:Int) (M:0<=n/\n<=4) (w:World):Calls prog 127 #[θ #[ι n,ι sub]] w λe w'=>e= .returned (.tuple #[θ #[ι (vi (n,sub)).1.1,ι (vi (n,sub)).1.2],μ (vi (n,sub)).2])/\ql w w':=by
 have d:=qj (w.alloc (.cells #[ι n,ι sub] 37)) (.cells #[ι 0,ι 0] 37);by_cases h0:n=0
 ·subst h0
  go_enter func127,ntmps127
  go_wp2
  (refine bodyPost_ret (v:= .tuple #[θ #[ι 0,ι 0],ύ]) ?rr1 rfl ?_;(case rr1=>(simp[results,results127,go_sem])))
  exact⟨rfl,ρ⟩
 ·by_cases h1:n=1
  ·subst h1
   go_enter func127,ntmps127
   go_wp2
   (refine bodyPost_ret (v:= .tuple #[θ #[ι 0,ι 0],ό]) ?rr2 rfl ?_;(case rr2=>(simp[results,results127,go_sem])))
   exact⟨rfl,ρ⟩
  ·by_cases h2:n=2
   ·subst h2
    go_enter func127,ntmps127
    go_wp2
    (refine bodyPost_ret (v:= .tuple #[θ #[ι 1,ι 0],ό]) ?rr3 rfl ?_;(case rr3=>(simp[results,results127,go_sem])))
    exact⟨rfl,ρ⟩
   ·have e:vi (n,sub)=((n-1,sub),ό):=by unfold vi;rw[ώ h0,ώ h1,ώ h2]
    have H:(n==0)=ύ:=by simp[h0]
    have I:(n==1)=ύ:=by simp[h1]
    have J:(n==2)=ύ:=by simp[h2]
    rw[e];clear e
    go_enter func127,ntmps127
    go_wp2
    (refine bodyPost_ret (v:= .tuple #[θ #[ι (n-1),ι sub],ό]) ?rr4 rfl ?_;(case rr4=>(simp[results,results127,go_sem])))
    exact⟨rfl,ρ⟩
def PZ {M:Nat->Prop} {p:Nat} {l:LnS} (h:zw M w p l) (n:Int) (N:n=1∨n=2∨n=3):
  Calls prog 126 #[γ p,ι n] w λe w'=>(∃v,e= .returned v/\w'.ownsRow w.heap.size 3 1 v (KG l n).length ((KG l n).map (Value.int .i64)))/\zw (xf M w w') w' p (vh l n)/\jt M w w':=by
 obtain⟨k,vo,rfl,x⟩:=h;rcases N with rfl | rfl | rfl
 ·refine(Z1 x).mono ?_;rintro e w' ⟨d,H,I⟩;exact⟨d,⟨k,vo,rfl,H⟩,I.mono λb J=>x.muts b J⟩
 ·refine(ZZ x).mono ?_;rintro e w' ⟨d,H,I⟩;exact⟨d,⟨k,vo,rfl,H⟩,I.mono λb J=>x.muts b J⟩
 ·refine(ZY x).mono ?_;rintro e w' ⟨d,H,I⟩;exact⟨d,⟨k,vo,rfl,H⟩,I.mono λb J=>x.muts b J⟩
def Kb (n:Int):xB n=1∨xB n=2∨xB n=3:=by
 unfold xB;split
 ·exact ϑ rfl
 ·split
  ·exact ϕ (ϑ rfl)
  ·exact ϕ (ϕ rfl)
def DrJ.step' {R:Nat} {H:Value} {b:Jb} {A:List Int} (d:DrJ w w' R v v' b H A):NQ w w' R v v' b:=⟨d.buf,d.away,d.own⟩
def FD (h:RmX T w0 w k vp vr s F):
  Calls prog 124 #[γ k.RQ] w λe w'=>(∃d cap,e= .returned (δ d s.queue.length cap))/\qI w0 w' k {s with queue:=[]} F/\qw F w w'/\jt (RgB k.RQ k.AQ) w w':=by
 obtain⟨f,q,J,M,I,N,css,g,a⟩:=h.que;have ad: ∀c∈q,∃d n cp,c=[δ d n cp]:=λc ab=>by
  obtain⟨b,_,ae⟩:=a.mem c ab;obtain⟨v,rfl,⟨d,cap,rfl,_⟩,_⟩:=ae.read;exact⟨d,_,cap,rfl⟩
 refine(IL w _ _ _ _ q J M I N css g ad).mono ?_;rintro e w' ⟨v,rfl,ac,⟨f',O,U,g'⟩,H⟩;obtain⟨d,cap,rfl⟩:=zA ac;obtain⟨Y,aa⟩:=h.ring (q:=[]) H (λD _=>⟨f',[],J,M,I,O,U,g',trivial⟩);rw[a.len];exact⟨⟨d,cap,rfl⟩,Y,aa,H⟩
def ZH {base e:Nat} (h:w.ownsRow base e 1 v L.length (L.map (Value.int .i64))):
  ∃oa cap,v= δ oa L.length cap/\L.length<=maxLen/\ ∀w':World,(∀g,base<=g->g<w.heap.size->w'.heap[g]? =w.heap[g]?)-> ∀i (hi:i<L.length),∃g,oa=ϊ ⟨g,0,ϋ⟩/\w'.cell? ⟨g,i,ϋ⟩=ϊ (ι L[i]):=by
 rcases id h.2 with ⟨rfl,d⟩ | ⟨g,cap,cur,rfl,H,I,M,N,_⟩
 ·exact⟨ϋ,0,by rw[d],τ,λw' _ i hi=>by omega⟩
 ·refine⟨_,cap,rfl,τ,λw' e i hi=>⟨g,rfl, ?_⟩⟩;have J:=h.cellAt i τ;rw[World.cell?_of_block (e g H (lt_of_block I)),J,G7,ϖ hi];rfl
def RmX.orgsF {M:Value} (h:RmX T w0 w k vp M s F):
  Calls prog 64 #[γ k.R] w λe w'=> ∃H cap Fn,e= .returned (δ H s.origins.length cap)/\s.origins.length<=9/\RmX T w0 w' k vp M s (Fn++F)/\ql w w'/\
   ∀w'':World,(∀b∈Fn,w''.heap[b]? =w'.heap[b]?)-> ∀i (hi:i<s.origins.length),∃b,H=ϊ ⟨b,0,ϋ⟩/\w''.cell? ⟨b,i* 2,ϋ⟩=ϊ (ι s.origins[i].1)/\w''.cell? ⟨b,i* 2+1,ϋ⟩=ϊ (ι s.origins[i].2):=by
 refine h.orgsRow.mono ?_;rintro e w' ⟨v,rfl,r,m⟩;have U:s.origins.length<=9:=by
  unfold RmS.origins;exact Ϙ (D3 _ _) ζ
 obtain⟨H,cap,rfl,_,Y⟩:=KT r;refine⟨H,cap,match H with | some a=>if w.heap.size<=a.block/\a.block<w'.heap.size then [a.block] else [] | none=>[],rfl,U,h.adds m (λb d=> ?_),m,λw'' J i hi=> ?_⟩
 ·cases H with
  | none=>simp at d
  | some a=>
   simp only at d;split at d
   ·rename_i I;simp at d;subst d;exact I
   ·simp at d
 ·obtain⟨b,rfl,O,I,N,c1⟩:=Y i hi;simp only[O,I,and_self,A7] at J;have e:=J b η;exact⟨b,rfl,by rw[World.cell?_of_block e];exact N,by rw[World.cell?_of_block e];exact c1⟩
def Kq (L:List Int): ∀s:RmS,(L.foldl RmS.drain1 s).strs=s.strs:=by
 induction L with
 | nil=>intro s;rfl
 | cons x L ih=>intro s;rw[A6,ih];rfl
def Kp (s:RmS) (o x:Og):(qh (s.drainO o).strs x).isSome=(qh s.strs x).isSome:=by
 unfold RmS.drainO;cases ho:qh s.strs o with
 | none=>rfl
 | some t=>
  simp only[Kq,qF];by_cases e:x=o
  ·rw[ϐ e,e,ho];rfl
  ·rw[ώ e]
def Y1 (L:List Og) (x:Og): ∀s:RmS,(qh (L.foldl RmS.drainO s).strs x).isSome=(qh s.strs x).isSome:=by
 induction L with
 | nil=>intro s;rfl
 | cons o L ih=>intro s;rw[A6,ih,Kp]
def QW {j:Nat} (h:j<6):subIds.take (j+1)=subIds.take j++[(j:Int)]:=by
 have:j=0∨j=1∨j=2∨j=3∨j=4∨j=5:=by omega
 rcases this with rfl | rfl | rfl | rfl | rfl | rfl<;>rfl
def UX (L:List Int): ∀s:RmS,(L.foldl RmS.drain1 s).ret=s.ret:=by
 induction L with
 | nil=>intro s;rfl
 | cons x L ih=>intro s;rw[A6,ih];rfl
def UW (s:RmS) (o:Og):(s.drainO o).ret=s.ret:=by
 unfold RmS.drainO;cases qh s.strs o with
 | none=>rfl
 | some t=>simp only[UX]
def PV (s:RmS) (w:Og):(s.drain w).ret=s.ret:=by
 unfold RmS.drain;split
 ·rfl
 ·split
  ·have: ∀(L:List Og) (s:RmS),(L.foldl RmS.drainO s).ret=s.ret:=by
    intro L
    induction L with
    | nil=>intro s;rfl
    | cons o L ih=>intro s;rw[A6,ih,UW]
   exact this _ _
  ·unfold RmS.drainL;cases qh s.lanes w.2<;>rfl
def Xt (h:qI w0 w k s F) (sub id f:Int):
  Calls prog 122 #[θ #[γ k.B],ι sub,ι id,ι f] w λe w'=>e= .returned (.tuple #[])/\qI w0 w' k {s with book:=jp s.book sub id f} F/\qw F w w'/\jt (λb=>b=k.b) w w':=by
 obtain⟨T,vp,I,x⟩:=h;refine(gI x.bok sub id f).mono ?_;rintro e w' ⟨rfl,b,a⟩;obtain⟨d,H⟩:=x.book b a;exact⟨rfl,d,H,a⟩
def qI.blk (h:qI w0 w k s F): ∃vp d,w.heap[k.R]? =ϊ (.cells (zH k vp d s) 95 (0,0)):=by
 obtain⟨T,vp,d,x⟩:=h;exact⟨vp,d,x.blk⟩
def qI.nb (h:qI w0 w k s F):k.R≠k.b/\(∀b∈F,b≠k.b)/\k.b<w.heap.size:=by
 obtain⟨T,vp,J,x⟩:=h;obtain⟨_,d,I⟩:=x.all .book;refine⟨λe=> ?_,λb H e=> ?_,I.map.lt⟩
 ·rw[<-e,(x.all .room).1] at d;cases d
 ·rw[<-e,(x.law b H).1] at d;cases d
def Hm (s s':RmS):Prop:=s'.ret=s.ret/\s'.queue=s.queue/\s'.tab=s.tab/\s'.book=s.book/\s'.lanes=s.lanes/\s'.strs=s.strs/\s'.pks=s.pks/\s'.reqs=s.reqs/\s'.cfg=s.cfg
def qI.self (h:qI w0 w k s F) (a:jt (λb=>b=k.R) w w') (blk: ∀vp d,w.heap[k.R]? =ϊ (.cells (zH k vp d s) 95 (0,0))->w'.heap[k.R]? =ϊ (.cells (zH k vp d s') 95 (0,0))) (r:Hm s s'):qI w0 w' k s' F/\qw F w w':=by
 obtain⟨T,vp,d,x⟩:=h;obtain⟨J,M,N,O,U,Y,aa,ab,ac⟩:=r;refine x.self a (blk vp d x.blk) (λu I H y=> ?_);cases u<;>first | exact ϩ rfl I | exact ϩ rfl H | (unfold RmK.Holds at y ⊢;(try simp only[J,M,N,O,U,Y,aa,ab,ac]);(try exact y))
def qI.cell (h:qI w0 w k s F) (i:Nat) (v:Value) (e: ∀vp d,(zH k vp d s).setIfInBounds i v=zH k vp d s') (r:Hm s s'):qI w0 (w.setCell ⟨k.R,i,ϋ⟩ v) k s' F/\qw F w (w.setCell ⟨k.R,i,ϋ⟩ v):=
 h.self (jt.set (S:=λb=>b=k.R) (jt.refl _ _) (p:=⟨k.R,i,ϋ⟩) rfl v) (λvp d b=>qB (qp b i v) (e vp d)) r
def IB (h:qI w0 w k s F):w.cell? ⟨k.R,16,ϋ⟩=ϊ (ι s.cnt.lost)/\w.frozen? ⟨k.R,16,ϋ⟩=ύ/\ ∃vp d,w.heap[k.R]? =ϊ (.cells (zH k vp d s) 95 (0,0)):=by
 obtain⟨T,vp,d,x⟩:=h;exact⟨qm x.blk 16 rfl,yw x.blk 16,vp,d,x.blk⟩
def ME (h:qI w0 w k s F) (w1 w2:Int) (acc:Bool) (cp:0<=w1/\w1<=4) (az:2<=w1->(qh s.lanes w2).isSome=ό) (co:0<=s.cnt.lost/\s.cnt.lost<=1000000000):
  Calls prog 78 #[γ k.R,θ #[ι w1,ι w2],acc] w λe w'=>e= .returned (.tuple #[])/\qI w0 w' k (s.endW (w1,w2)) F/\qw F w w':=by
 have ca:=κ (h.stay (ql.alloc w (.cells #[ι w1,ι w2] 37)));have bB:=h.adds (ql.alloc w (.cells #[ι w1,ι w2] 37)) (Fn:=[w.heap.size]) (λb H=>by simp at H;subst H;simp);have aC:=κ (qj w (.cells #[ι w1,ι w2] 37));obtain⟨W1,bC⟩:=ν (w.alloc (.cells #[ι w1,ι w2] 37));rw[bC] at bB aC ca;have bl:=κ bB;have cY:=κ az;have cZ:=κ co;have dp:=β0 aC.o;obtain⟨cA,cB⟩:=cp;clear h bB az co
 go_enter func78,ntmps78
 go_upto_block 0 with fail
 (try rw[bC])
 clear bC
 go_cut [5,6,7,8,9,10,11,12] from 17 to 94 (λ_ _ _ _ _ _ _ _ cI=>qI w0 cI k (s.drain (w1,w2)) ([w.heap.size]++F)/\qw ([w.heap.size]++F) W1 cI)
 case first=>
  by_cases e0:w1=0
  ·subst e0;obtain⟨T,vp,bL,J⟩:=bl.o;have I:=κ J;have dy: ¬RgB k.RQ k.AQ k.R:=by
    obtain⟨cE,cF,_⟩:=J.all .queue;rintro(e | e)
    ·rw[<-e,(J.all .room).1] at cE;cases cE
    ·rw[<-e,(J.all .room).1] at cF;cases cF
   have bs:=λ(x:qz (RgB k.RQ k.AQ) W1)=>x.h.blk I.o.blk dy
   have dC:=λx=>β16 (bs x);have dB:=λx=>β10 (bs x);clear bs
   have dL:(s.queue.length:Int)<=8:=by have:=J.que.fit;omega
   obtain⟨dM,dN⟩:=cZ.o;clear J
   go_upto_region 8 with fail
   refine QN (RgB k.RQ k.AQ) W1 15 16 [9,12,13,15] ?_
   refine Qs9 ?_
   (refine Ql ?_;intro K d)
   go_call FD (I.o.on (ql.drewN W1 1)) as e aS ⟨⟨cD,cap,rfl⟩,aK,cG,cf⟩;have aB:Hid (jt (RgB k.RQ k.AQ) W1 aS):=κ (((jt.refl _ _).drewN 1).trans cf);have dm:Hid (qw ([w.heap.size]++F) W1 aS):=κ ((I.o.at.stay (ql.drewN W1 1)).trans cG);have aD:=κ aK;clear aK cG cf;refine⟨_,rfl,qi aB.o,d _ _ ?_⟩;clear d K
   iterate 2 (refine qE rfl rfl (qi aB.o) ?_;intro K d;go_big_quiet_op;go_big_quiet_on)
   have di:=κ (IB aD.o);obtain⟨dE,dG,aU⟩:=di.o
   (refine Ql ?_;intro K d)
   refine⟨qi aB.o,d _ _ ?_⟩;clear d K
   (refine Ql ?_;intro K d)
   refine⟨qi aB.o,d _ _ ?_⟩;clear d K
   iterate 1 (refine qE rfl rfl (qi aB.o) ?_;intro K d;go_big_quiet_op;go_big_quiet_on)
   (refine Qe ?_;intro K d)
   refine d _ _ ?_;clear d K;refine qA ?_;have af:=aD.o.cell 16 (ι (s.cnt.lost+s.queue.length)) (s':={s with queue:=[],cnt:={s.cnt with lost:=s.cnt.lost+s.queue.length}}) (λ_ _=>rfl) ⟨rfl,rfl,rfl,rfl,rfl,rfl,rfl,rfl,rfl⟩;have af:=κ af;go_wp2;go_meet;exact⟨af.o.1,dm.o.trans af.o.2⟩
  ·by_cases e1:w1=1
   ·subst e1;obtain⟨T,vp,bL,J⟩:=bl.o;have I:=κ J;clear J;obtain⟨O,bH⟩:=ν (s.origins);have bW:=κ bH;have bX:=κ I.o.orgsF;rw[bH] at bX;clear bH
    go_wp2_with (go_at_call 64;(go_call bX.o as e aR ⟨cD,cap,Fn,rfl,cj,cJ,cy,aO⟩;have bc:=κ aO;have cW:=κ cJ.at;have dg:=κ cy;have da:=κ cj;clear aO cJ cy cj))
    have dk:=κ (I.o.at.stay dg.o);have ba:Hid (s.drain (1,w2)=O.foldl RmS.drainO s):=κ (by rw[<-bW.o];rfl);have dK:=da.o
    go_loopw [63] (λab wr=> ∃j:Nat,j<=O.length/\ab= ι j/\qI w0 wr k ((O.take j).foldl RmS.drainO s) (Fn++([w.heap.size]++F))/\qw (Fn++([w.heap.size]++F)) aR wr) (λab _=>O.length-(intOf ab).toNat)
    case atStart=>exact⟨0,τ,rfl,cW.o,qw.refl _ _⟩
    case round=>
     obtain⟨j,dv,rfl,N,M⟩:=hrel;have ax:=κ M;by_cases hlt:j<O.length
     ·have bF:(j:Int)<(O.length:Int):=by omega
      obtain⟨g,rfl,bA,c1⟩:=bc.o wr (λb H=>M.2 b (by simp[H])) j hlt;have br:Hid (O.take (j+1)=O.take j++[O[j]]):=κ (by rw[A9,ϖ hlt];rfl);have cl:(qh ((O.take j).foldl RmS.drainO s).strs O[j]).isSome=ό:=by
       rw[Y1];have:O[j]∈s.origins:=by rw[bW.o];exact ϡ hlt
       obtain⟨t,M⟩:=yB this;rw[M];rfl
      obtain⟨t,bI⟩:=ϥ.1 cl;have cd:=κ bI;clear cl M;generalize O[j]=o at *;generalize cu:(O.take j).foldl RmS.drainO s=sj at *;have dc:=κ cu;clear cu;obtain⟨U,o2⟩:=o;simp only at bA c1;obtain⟨aa,bd⟩:=ν (wr.alloc (.cells #[ι U,ι o2] 58));have ce:Hid (ql wr aa):=κ (by rw[<-bd];exact ql.alloc _ _);have bO:Hid (aa.heap[wr.heap.size]? =ϊ (.cells #[ι U,ι o2] 58 (0,0))):=κ (by rw[<-bd];exact qj wr _);have bx:=κ (ax.o.trans (N.stay ce.o));obtain⟨ag,dz,dA,cw⟩:=N;have ai:RmX ag w0 aa k dz dA sj ([wr.heap.size]++(Fn++([w.heap.size]++F))):=cw.adds ce.o (λb H=>by simp at H;subst H;exact⟨ϔ _,lt_of_block bO.o⟩);have aF:=κ ai;obtain⟨p,dj,v,aN,cx⟩:=ai.strAt bI;have ap:=κ cx;have aE:=κ aN;have bK: ¬ag k.R= .str (U,o2):=by rw[(ai.all .room).1];simp
      have bJ: ¬ag k.MS= .str (U,o2):=by rw[(ai.all .sts).1];simp
      have dx: ¬ag wr.heap.size= .str (U,o2):=by rw[(ai.law wr.heap.size η).1];simp
      have cN:=λ(x:qz (λb=>ag b= .str (U,o2)/\b≠p) aa)=>β13 (x.h.blk aF.o.blk (λq=>bK q.1))
      have bt:=λ(x:qz (λb=>ag b= .str (U,o2)/\b≠p) aa)=>x.h.blk bO.o (λq=>dx q.1)
      have aw:=λx=>β0 (bt x);have aX:=λx=>β1 (bt x);clear bt
      have bk: ∀x:qz (λb=>ag b= .str (U,o2)/\b≠p) aa,(Instr.lookup 91 (.map (ϊ k.MS)) (θ #[ι U,ι o2]) ύ).run prog x.w'= .ok (γ p) x.w':=λx=>by
       have:=ya (aF.o.stm.away x.h (λq=>bJ q.1)) (U,o2) ύ;rw[aE.o] at this;exact this
      have cO:=λ(x:qz (λb=>ag b= .str (U,o2)/\b≠p) aa)=>β0 (x.h.blk ap.o.blk (λq=>q.2 rfl))
      clear cw ai cx aN bI;have bU:Hid (∀x,(thJ t.buf.holds).foldl RmS.drain1 {sj with strs:=qx sj.strs (U,o2) {t with buf:=vP t.buf}}=x->sj.drainO (U,o2)=x):=κ (λx e=>by unfold RmS.drainO;rw[cd.o];exact e)
      go_upto_region 13 with fail
      (try rw[bd])
      clear bd bA c1;refine zp (λb=>ag b= .str (U,o2)/\b≠p) aa 12 [(0,ύ),(1,ύ),(2,ύ),(3,ύ),(4,ύ),(5,ύ),(6,ύ),(7,ύ),(8,ύ),(11,ύ),(9,ό),(10,ύ)] ξ ξ ?_
      refine Nx ?_
      (refine Ql ?_;intro K d)
      go_call Wn t.buf ap.o.ok dj v _ (ap.o.buf.on (ql.drewN aa 1)) as e w4 ⟨v4,rfl,v5,aI,_⟩;obtain⟨ch,t4⟩:=(aF.o.on (ql.drewN aa 1)).strBuf cd.o aE.o (ap.o.on (ql.drewN aa 1)) aI.step' aI.ok
      have bN:Hid (jt (λb=>ag b= .str (U,o2)/\b≠p) aa w4):=κ (((jt.refl _ _).drewN 1).trans (aI.away.mono (λb H=>by
       rcases H with rfl | H
       ·exact⟨ap.o.nb,C4 ap.o.ne⟩
       ·exact ap.o.nv _ H)))
      obtain⟨dO,dF,rfl,aL,cr⟩:=ZH aI.row;have bZ:=κ cr;have cV:=κ ch;have dl:=κ ((aF.o.at.stay (ql.drewN aa 1)).trans t4);have bp:Hid (k.b<aa.heap.size):=κ aF.o.at.nb.2.2;clear cr ch t4 aI;refine⟨_,rfl,qi bN.o,d _ _ ?_⟩;clear d K;obtain⟨L,ao⟩:=ν (thJ t.buf.holds);rw[ao] at bZ bU aL;unfold maxLen at aL;simp only[ao];clear ao
      iterate 1 (refine qE rfl rfl (qi bN.o) ?_;intro K d;go_big_quiet_op;go_big_quiet_on)
      refine qA ?_;clear cN bk cO aw aX;generalize {sj with strs:=qx sj.strs (U,o2) {t with buf:=vP t.buf}}=s4 at *;go_wp2;obtain⟨aA,rfl⟩: ∃aA:World,aA=wr:=⟨_,rfl⟩
      go_loopw [78] (λab wr=> ∃i:Nat,i<=L.length/\ab= ι i/\qI w0 wr k ((L.take i).foldl RmS.drain1 s4) ([aA.heap.size]++(Fn++([w.heap.size]++F)))/\qw ([aA.heap.size]++(Fn++([w.heap.size]++F))) w4 wr/\jt (λb=>b=k.b) w4 wr) (λab _=>L.length-(intOf ab).toNat)
      case atStart=>exact⟨0,τ,rfl,cV.o,qw.refl _ _,jt.refl _ _⟩
      case round=>
       obtain⟨i,hi,rfl,N,M,ac⟩:=hrel;have an:=κ N;have cc:=κ M;have bS:=κ ac;clear N M ac;by_cases hlt2:i<L.length
       ·have du:(i:Int)<(L.length:Int):=by omega
        obtain⟨dH,rfl,c2⟩:=bZ.o wr (λb bf ds=>bS.o.block b ds (by have:=bp.o;have bf:aa.heap.size<=b:=bf;omega)) i hlt2;have dd:Hid (L.take (i+1)=L.take i++[L[i]]):=κ (by rw[A9,ϖ hlt2];rfl);generalize L[i]=id at *;generalize ct:(L.take i).foldl RmS.drain1 s4=s5 at *;have db:=κ ct;clear ct;go_wp2;obtain⟨bi,cv⟩: ∃bi:World,bi=wr:=⟨_,rfl⟩;have dD:=κ cv;obtain rfl:=cv
        go_loopw [82,10] (λab dP wr=> ∃n:Nat,n<=6/\ab= ι n/\qI w0 wr k {s5 with book:=xG s5.book (subIds.take n) id 8} ([aA.heap.size]++(Fn++([w.heap.size]++F)))/\qw ([aA.heap.size]++(Fn++([w.heap.size]++F))) bi wr/\jt (λb=>b=k.b) bi wr) (λab _ _=>6-(intOf ab).toNat)
        case atStart=>exact⟨0,τ,rfl,an.o,qw.refl _ _,jt.refl _ _⟩
        case round=>
         obtain⟨n,cp,rfl,N,M,ac⟩:=hrel;have bY:=κ N;have cb:=κ M;have bQ:=κ ac;obtain⟨aj,ak,aU⟩:=N.blk;have bA:=β0 aU;clear N M ac;by_cases hlt3:n<6
         ·have dw:(n:Int)<6:=by omega
          have de:=κ (QW hlt3)
          go_wp2_with (go_at_call 122;(go_call Xt bY.o (n:Int) id 8 as e cH ⟨rfl,aJ,aQ,aH⟩;have bm:=κ aJ;have bz:=κ aQ;have aT:=κ aH;clear aJ aQ aH))
          go_roundw
          case rel=>exact⟨n+1,τ,by go_num,by have:=bm.o;unfold xG at this ⊢;rw[de.o,Ξ];exact this,cb.o.trans bz.o,bQ.o.trans aT.o⟩
          case measure=>simp[intOf];omega
         ·obtain rfl:n=6:=by omega
          have dw: ¬((6:Nat):Int)<6:=by omega
          go_wp2;go_roundw
          case rel=>exact⟨i+1,τ,by go_num,by rw[dd.o,Ξ,db.o];exact bY.o,cc.o.trans cb.o,bS.o.trans bQ.o⟩
          case measure=>simp[intOf];omega
       ·obtain rfl:i=L.length:=by omega
        have du: ¬(L.length:Int)<(L.length:Int):=by omega
        go_wp2;go_roundw
        case rel=>exact⟨j+1,τ,by go_num,by rw[br.o,Ξ,dc.o];have:=an.o;rw[ϱ] at this;rw[<-bU.o _ rfl] at this;obtain⟨ae,aj,ak,Y⟩:=this;exact⟨ae,aj,ak,Y.sub (λb H=>ϓ _ H)⟩,bx.o.trans ((dl.o.trans cc.o).sub (λb H=>ϓ _ H))⟩
        case measure=>simp[intOf];omega
     ·obtain rfl:j=O.length:=by omega
      have bF: ¬(O.length:Int)<(O.length:Int):=by omega
      go_wp2;go_meet;exact⟨by rw[ba.o];have:=N;rw[ϱ] at this;obtain⟨ae,aj,ak,Y⟩:=this;exact⟨ae,aj,ak,Y.sub (λb H=>ϓ _ H)⟩,(dk.o.trans (ax.o.sub (λb H=>ϓ _ H)))⟩
   ·have ci:2<=w1:=by omega
    obtain⟨T,vp,bL,J⟩:=bl.o;have I:=κ J;obtain⟨l,az⟩:=ϥ.1 (cY.o ci);obtain⟨p,aN,cn⟩:=J.laneAt az;have cX:=κ cn;have aE:=κ aN;have bV:=κ az;have bK: ¬T k.R= .lane w2:=by rw[(J.all .room).1];simp
    have bJ: ¬T k.ML= .lane w2:=by rw[(J.all .lns).1];simp
    have bh: ¬T w.heap.size= .lane w2:=by rw[(J.law w.heap.size η).1];simp
    have cM:=λ(x:qz (λb=>T b= .lane w2) W1)=>β12 (x.h.blk I.o.blk bK)
    have bu:=λ(x:qz (λb=>T b= .lane w2) W1)=>x.h.blk aC.o bh
    have cQ:=λx=>β0 (bu x);have cP:=λx=>β1 (bu x);clear bu
    have bk: ∀x:qz (λb=>T b= .lane w2) W1,(Instr.lookup 90 (.map (ϊ k.ML)) (ι w2) ύ).run prog x.w'= .ok (γ p) x.w':=λx=>by
     have:=xq (I.o.lnm.away x.h bJ) w2 ύ;rw[aE.o] at this;exact this
    have dr:(w1==0)=ύ:=by simp[e0]
    have bf:(w1==1)=ύ:=by simp[e1]
    have am:Hid (¬w1=0/\ ¬w1=1):=κ ⟨e0,e1⟩;clear J az aN cn e0 e1 cA cB ci
    go_upto_region 2 with fail
    refine zp (λb=>T b= .lane w2) W1 12 [(0,ύ),(1,ύ),(2,ύ),(3,ύ),(4,ύ),(5,ύ),(6,ύ),(7,ύ),(11,ύ),(8,ό),(9,ό),(10,ύ)] ξ ξ ?_
    refine Qs9 ?_
    (refine Ql ?_;intro K d)
    go_call Z4 w1 w2 _ as e aS ⟨rfl,md⟩;have ay:Hid (ql W1 aS):=κ ((ql.drewN W1 1).trans md);clear md;refine⟨_,rfl,qi (jt.of_more ay.o),d _ _ ?_⟩;clear d K
    (refine Ql ?_;intro K d)
    go_call PZ (cX.o.on ay.o) (xB w1) (Kb w1) as e aR ⟨⟨v3,rfl,cq⟩,ai,a3⟩;obtain⟨cg,t3⟩:=(I.o.on ay.o).lanePut bV.o aE.o ai a3;have bM:Hid (jt (λb=>T b= .lane w2) W1 aR):=κ ((jt.of_more ay.o).trans a3);have bP:=κ cg;have bx:Hid (qw ([w.heap.size]++F) W1 aR):=κ ((I.o.at.stay ay.o).trans t3);obtain⟨cD,cap,rfl,aL,aO⟩:=ZH cq;have bc:=κ aO;clear cq ai a3 cg t3 aO;refine⟨_,rfl,qi bM.o,d _ _ ?_⟩;clear d K;obtain⟨L,ao⟩:=ν (KG l (xB w1));have ba:Hid (s.drain (w1,w2)={s with lanes:=qx s.lanes w2 (vh l (xB w1)),book:=L.foldl (λb id=>jp b w2 id 8) s.book}):=κ (by unfold RmS.drain RmS.drainL;simp only[ώ am.o.1,ώ am.o.2,bV.o,ao]);rw[ao] at bc aL;unfold maxLen at aL;simp only[ao];clear ao
    iterate 1 (refine qE rfl rfl (qi bM.o) ?_;intro K d;go_big_quiet_op;go_big_quiet_on)
    refine qA ?_;clear cM cQ cP bk;have bp:Hid (k.b<aS.heap.size):=κ (ϗ I.o.at.nb.2.2 ay.o.size);obtain⟨dq,ck⟩:=ν (vh l (xB w1));rw[ck] at bP ba;clear ck;go_wp2
    go_loopw [28] (λab wr=> ∃j:Nat,j<=L.length/\ab= ι j/\qI w0 wr k {s with lanes:=qx s.lanes w2 dq,book:=(L.take j).foldl (λb id=>jp b w2 id 8) s.book} ([w.heap.size]++F)/\qw ([w.heap.size]++F) W1 wr/\jt (λb=>b=k.b) aR wr) (λab _=>L.length-(intOf ab).toNat)
    case atStart=>exact⟨0,τ,rfl,bP.o,bx.o,jt.refl _ _⟩
    case round=>
     obtain⟨j,dv,rfl,N,M,ac⟩:=hrel;have an:=κ N;have ax:=κ M;have bT:=κ ac;clear N M ac;by_cases hlt:j<L.length
     ·have bF:(j:Int)<(L.length:Int):=by omega
      obtain⟨g,rfl,dI⟩:=bc.o wr (λg dJ dt=>bT.o.block g dt (by have:=bp.o;omega)) j hlt;have br:Hid (L.take (j+1)=L.take j++[L[j]]):=κ (by rw[A9,ϖ hlt];rfl);generalize L[j]=id at *
      go_upto_region 5 with fail
      obtain⟨nb,cC,_⟩:=an.o.nb;obtain⟨aj,ak,aU⟩:=an.o.blk;have cL:=κ (ax.o.blk η aC.o);have bh:=cC w.heap.size η;have aw:=λ(x:qz (λb=>b=k.b) wr)=>β0 (x.h.blk aU nb)
      have cR:=λ(x:qz (λb=>b=k.b) wr)=>β1 (x.h.blk cL.o bh)
      refine QN (λb=>b=k.b) wr 8 8 [7] ?_
      refine Qs7 ?_
      (refine Ql ?_;intro K d)
      go_call Xt (an.o.on (ql.drewN wr 1)) w2 id 8 as e cH ⟨rfl,aJ,aQ,aH⟩;have bm:=κ aJ;have bz:=κ aQ;have aT:Hid (jt (λb=>b=k.b) wr cH):=κ (((jt.refl _ _).drewN 1).trans aH);clear aJ aQ aH;refine⟨_,rfl,qi aT.o,d _ _ ?_⟩;clear d K aw cR nb cC bh;refine qA ?_;go_wp2;go_roundw
      case rel=>exact⟨j+1,τ,by go_num,by rw[br.o,Ξ];exact bm.o,ax.o.trans ((an.o.stay (ql.drewN wr 1)).trans bz.o),bT.o.trans aT.o⟩
      case measure=>simp[intOf];omega
     ·obtain rfl:j=L.length:=by omega
      have bF: ¬(L.length:Int)<(L.length:Int):=by omega
      go_wp2;go_meet;exact⟨by rw[ba.o];have:=an.o;rw[ϱ] at this;exact this,ax.o⟩
 case rest=>
  obtain⟨aK,M⟩:=hcut;have aD:=κ aK;have df:=κ M;have bj:=κ (M.blk η aC.o);clear aK M dp;obtain⟨av,bg⟩:=ν (s.drain (w1,w2));rw[bg] at aD;have dr:=β0 bj.o;have bf:=β1 bj.o;obtain⟨aq,bD⟩:=ν ((vi (w1,w2)).1.1);obtain⟨ar,bE⟩:=ν ((vi (w1,w2)).1.2);obtain⟨ok,bG⟩:=ν ((vi (w1,w2)).2);have bR:=κ (CM w1 w2 ⟨cA,cB⟩ wc);rw[bD,bE,bG] at bR;have bb:Hid (s.goesR (w1,w2)=(!ok||(qh s.ret (aq,ar)).getD ύ)):=κ (by unfold RmS.goesR;rw[bG,<-bD,<-bE]);have bn:Hid (av.ret=s.ret):=κ (by rw[<-bg];exact PV s _);have bo:=κ bg;clear bg bD bE bG;have bq:=κ (ca.o.trans (df.o.sub (F':=F) (λb H=>ϓ _ H)))
  go_upto_region 24 with (go_at_call 127;(go_call bR.o as e w5 ⟨rfl,cz⟩;have dh:=κ cz;clear cz))
  obtain⟨W6,be⟩:=ν (w5.alloc (.cells #[ι aq,ι ar] 37));have ah:Hid (ql wc W6):=κ (by rw[<-be];exact dh.o.al _);have cK:Hid (W6.heap[w5.heap.size]? =ϊ (.cells #[ι aq,ι ar] 37 (0,0))):=κ (by rw[<-be];exact qj w5 _)
  (try rw[be])
  clear be;obtain⟨T,vp,bL,J⟩:=aD.o;have I:=κ J;clear J;have aV:=λ(x:qt W6)=>β8 (qq (ah.o.trans x.h) I.o.blk)
  have bv:=λ(x:qt W6)=>qq (ah.o.trans x.h) bj.o
  have aY:=λx=>β0 (bv x);have aZ:=λx=>β1 (bv x);clear bv
  have bw:=λ(x:qt W6)=>qq x.h cK.o
  have aw:=λx=>β0 (bw x);have aX:=λx=>β1 (bw x);clear bw
  have aW: ∀x:qt W6,(Instr.lookup 87 (.map (ϊ k.M1)) (θ #[ι aq,ι ar]) ύ).run prog x.w'= .ok (μ ((qh av.ret (aq,ar)).getD ύ)) x.w':=λx=>VH (I.o.retm.more (ah.o.trans x.h)) (aq,ar)
  rw[bn.o] at aW;obtain⟨g,cm⟩:=ν ((qh s.ret (aq,ar)).getD ύ);rw[cm] at aW bb;clear cm;cases ok with
  | false=>
   have am:Hid (s.endW (w1,w2)={av with ret:=qx av.ret (w1,w2) ό}):=κ (by unfold RmS.endW;rw[bb.o,bo.o,bn.o];rfl);refine qD _ (ql.refl _) ξ ξ ?_
   repeat (go_big_quiet_step (fail))
   refine wpQuiet_nil ?_;intro _ aP;obtain⟨Y,rfl⟩:=aP
   go_upto_region 25 with fail
   obtain⟨W7,au⟩:=ν (Y.w');have ad:Hid (ql W6 W7):=κ (by rw[<-au];exact Y.h)
   (try rw[au])
   clear au aW aw aX;have cS: ∀x:qt W7,x.w'.cell? ⟨k.R,8,ϋ⟩=ϊ (.map (ϊ k.M1)):=λx=>aV ⟨_,ad.o.trans x.h⟩
   have cT: ∀x:qt W7,x.w'.cell? ⟨w.heap.size,0,ϋ⟩=ϊ (ι w1):=λx=>aY ⟨_,ad.o.trans x.h⟩
   have cU: ∀x:qt W7,x.w'.cell? ⟨w.heap.size,1,ϋ⟩=ϊ (ι w2):=λx=>aZ ⟨_,ad.o.trans x.h⟩
   clear aV aY aZ;refine Qn W7 5 6 [5] ?_
   refine Qq5 ?_
   have aG:=κ (I.o.on (ah.o.trans (ad.o.trans (ql.drewN W7 1))));obtain⟨w9,N,aM,ac,_⟩:=aG.o.retm.update KX underlying87 (w1,w2) ό;unfold kO at N;have af:=κ (aG.o.retMap aM ac);have ae:=κ (I.o.at.stay (ah.o.trans (ad.o.trans (ql.drewN W7 1))));clear aM ac
   (refine Qe ?_;intro K d)
   refine d _ _ ?_;clear d K;refine qA ?_;go_wp2
   (refine bodyPost_end (v:= .tuple #[]) ?re1 rfl ?_;(case re1=>simp[results,results78,go_sem]))
   exact⟨rfl,by rw[am.o];obtain⟨ae,aj,ak,Y⟩:=af.o.1;exact⟨ae,aj,ak,Y.sub (λb H=>ϓ _ H)⟩,bq.o.trans ((ae.o.trans af.o.2).sub (λb H=>ϓ _ H))⟩
  | true=>
   cases g with
   | true=>
    have am:Hid (s.endW (w1,w2)={av with ret:=qx av.ret (w1,w2) ό}):=κ (by unfold RmS.endW;rw[bb.o,bo.o,bn.o];rfl);refine qD _ (ql.refl _) ξ ξ ?_
    repeat (go_big_quiet_step (fail))
    refine wpQuiet_nil ?_;intro _ aP;obtain⟨Y,rfl⟩:=aP
    go_upto_region 25 with fail
    obtain⟨W7,au⟩:=ν (Y.w');have ad:Hid (ql W6 W7):=κ (by rw[<-au];exact Y.h)
    (try rw[au])
    clear au aW aw aX;have cS: ∀x:qt W7,x.w'.cell? ⟨k.R,8,ϋ⟩=ϊ (.map (ϊ k.M1)):=λx=>aV ⟨_,ad.o.trans x.h⟩
    have cT: ∀x:qt W7,x.w'.cell? ⟨w.heap.size,0,ϋ⟩=ϊ (ι w1):=λx=>aY ⟨_,ad.o.trans x.h⟩
    have cU: ∀x:qt W7,x.w'.cell? ⟨w.heap.size,1,ϋ⟩=ϊ (ι w2):=λx=>aZ ⟨_,ad.o.trans x.h⟩
    clear aV aY aZ;refine Qn W7 5 6 [5] ?_
    refine Qq5 ?_
    have aG:=κ (I.o.on (ah.o.trans (ad.o.trans (ql.drewN W7 1))));obtain⟨w9,N,aM,ac,_⟩:=aG.o.retm.update KX underlying87 (w1,w2) ό;unfold kO at N;have af:=κ (aG.o.retMap aM ac);have ae:=κ (I.o.at.stay (ah.o.trans (ad.o.trans (ql.drewN W7 1))));clear aM ac
    (refine Qe ?_;intro K d)
    refine d _ _ ?_;clear d K;refine qA ?_;go_wp2
    (refine bodyPost_end (v:= .tuple #[]) ?re2 rfl ?_;(case re2=>simp[results,results78,go_sem]))
    exact⟨rfl,by rw[am.o];obtain⟨ae,aj,ak,Y⟩:=af.o.1;exact⟨ae,aj,ak,Y.sub (λb H=>ϓ _ H)⟩,bq.o.trans ((ae.o.trans af.o.2).sub (λb H=>ϓ _ H))⟩
   | false=>
    have am:Hid (s.endW (w1,w2)=av):=κ (by unfold RmS.endW;rw[bb.o,bo.o];rfl);refine qD _ (ql.refl _) ξ ξ ?_
    repeat (go_big_quiet_step (fail))
    refine wpQuiet_nil ?_;intro _ aP;obtain⟨Y,rfl⟩:=aP;go_wp2
    (refine bodyPost_end (v:= .tuple #[]) ?re3 rfl ?_;(case re3=>simp[results,results78,go_sem]))
    have dn:=I.o.at.stay (ah.o.trans Y.h);exact⟨rfl,by rw[am.o];exact⟨_,_,_,(I.o.on (ah.o.trans Y.h)).sub (λb H=>ϓ _ H)⟩,bq.o.trans (dn.sub (λb H=>ϓ _ H))⟩
def NoU (w:World) (b:Nat):Prop:= ∀o k n,k≠IntKind.i64->w.cell? ⟨b,o,ϋ⟩≠ϊ (.int k n)
section
variable {S:Nat->Prop} {w w':World}
def SlI.noU {k:IntKind} {l:List Int} (h:SlI k w v l) (O:k≠ .i64) (a:jt S w w') (U: ∀b,S b->NoU w b):SlI k w' v l:=by
 obtain⟨Y,cap,I,J,M,N⟩:=h;refine⟨Y,cap,I,J,λi hi=> ?_,N⟩;obtain⟨b,aa,e,d,H⟩:=M i hi;exact⟨b,aa,e,ϗ d a.size,by rw[a.cells b _ d (λs=>U b s _ _ _ O H)];exact H⟩
def SlP.noU {α:Type} {n:Nat} {R:qL α} {l:List α} (h:SlP n R w v l) (a:jt S w w') (af: ∀b,S b->NoU w b)
  (ae: ∀cs x,R w cs x->R w' cs x/\ ∃j k m,j<n/\k≠IntKind.i64/\cs[j]? =ϊ (.int k m)):SlP n R w' v l:=by
 obtain⟨ah,cap,I,J,M,N⟩:=h;refine⟨ah,cap,I,J,λi hi=> ?_,N⟩;obtain⟨b,ai,cs,e,d,ac,H,O⟩:=M i hi;obtain⟨U,j,k,m,Y,ab,ad⟩:=ae cs _ O;refine⟨b,ai,cs,e,ϗ d a.size,ac,λag aa=> ?_,U⟩;rw[a.cells b _ d (λs=>af b s _ _ _ ab ((H j Y).trans ad))];exact H ag aa
def Qk.noU {cs:List Value} {x:Itm} (h:Qk w cs x) (a:jt S w w') (d: ∀b,S b->NoU w b):Qk w' cs x/\ ∃j k m,j<17/\k≠IntKind.i64/\cs[j]? =ϊ (.int k m):=by
 obtain⟨vb,I,J,vo,rfl,s,H⟩:=h;refine⟨⟨vb,I,J,vo,rfl,⟨s.bl.noU a d ?_,⟨s.ms.asks.noU a d ?_,s.ms.lost.noU ζ a d⟩,s.bo.noU ζ a d⟩,H⟩,10,_,_,ζ, ?_,rfl⟩
 ·rintro cs x ⟨rfl,h⟩;exact⟨⟨rfl,h⟩,0,_,_,ζ,ζ,rfl⟩
 ·rintro cs x ⟨rfl,h⟩;exact⟨⟨rfl,h⟩,0,_,_,ζ,ζ,rfl⟩
 ·decide
def PC {l:List Itm} (h:SlP 17 Qk w v l) (a:jt S w w') (d: ∀b,S b->NoU w b):SlP 17 Qk w' v l:=h.noU a d λ_ _ H=>H.noU a d
end
def Kf {c:qQ} (H:c.1<=31):(qG c).1.bl.length<=100000:=by
 have d: ∀(r:Rep) (s:RdS),r.bl.length<=100000->(yZ r s).1.bl.length<=100000:=by
  intro r s h;unfold yZ;split
  ·exact h
  ·exact Δ _
 unfold qG;split
 ·decide
 ·split
  ·exact d _ _ (by simp only;rw[uz];omega)
  ·split
   ·exact d _ _ (by simp only;rw[uz];omega)
   ·decide
def GK {b:List Int} (U:Byt b) (h:(zx b).2=0):(zx b).1.length<=200/\ ∀x∈(zx b).1,CY x:=by
 have d:(jI b).2=0:=by
  cases H:decide ((jI b).2=0) with
  | true=>exact Ϛ H
  | false=>
   have:=A5 H;unfold zx at h;rw[ώ this] at h;exact ϩ h this
 obtain⟨M,_,_,N⟩:=QY U (k:=(jI b).1) (by rw[<-d]);obtain⟨_,O,_⟩:=Cc M;have Y:(zx b).1=(jI b).1.map λc=>(qv c).1:=by
  unfold zx at h ⊢;rw[ϐ d] at h ⊢;split at h
  ·rename_i I;rw[ϐ I]
  ·rename_i I;exact ϩ h I
 generalize (jI b).1=l at *;rw[Y];refine⟨?_,λx aa=> ?_⟩
 ·rw[B9];by_cases d:0<l.length
  ·exact(Xa N 0 d).2
  ·omega
 ·obtain⟨c,H,rfl⟩:=E0.1 aa;obtain⟨ab,_,ac⟩:=(zO c).1 (O c H);have J:=Kg (c:=c) τ;unfold qv;split
  ·exact⟨Kf ab,Δ _,Δ _,Δ _⟩
  split
  ·exact⟨Δ _,Δ _,Δ _,by show c.2.2.1.length<=1000000;omega⟩
  ·exact⟨Δ _,J.1,J.2,Δ _⟩
def RmX.ints (h:RmX T w0 w k vp vr s F) (m:ql w w') {N:IntKind} (ac:SlI N w' v L) (aa: ∀q,v.ownBlock=ϊ q->w.heap.size<=q):
  ∃H cap Fn,v= δ H L.length cap/\(L.length:Int)<=9223372036854775807/\RmX T w0 w' k vp vr s (Fn++F)/\ ∀w'':World,(∀b∈Fn,w''.heap[b]? =w'.heap[b]?)-> ∀i (hi:i<L.length),∃b I,H=ϊ ⟨b,I,ϋ⟩/\w''.cell? ⟨b,I+i,ϋ⟩=ϊ (.int N L[i]):=by
 obtain⟨H,cap,rfl,Y,ab,_⟩:=ac;refine⟨H,cap,match H with | some a=>if w.heap.size<=a.block/\a.block<w'.heap.size then [a.block] else [] | none=>[],rfl,Y,h.adds m (λb d=> ?_),λw'' M i hi=> ?_⟩
 ·cases H with
  | none=>simp at d
  | some a=>
   simp only at d;split at d
   ·rename_i J;simp at d;subst d;exact J
   ·simp at d
 ·obtain⟨b,I,rfl,J,O⟩:=ab i hi;have U:=aa b rfl;simp only[U,J,and_self,A7] at M;have e:=M b η;refine⟨b,I,rfl, ?_⟩;rw[World.cell?_of_block e,O];simp[hi]
def Ub (n:Int) (w:World):Calls prog 89 #[ι n] w λe w'=>e= .returned (μ (jj n))/\w'=w:=by
 have H:Hid (jj n=decide (0<=n/\n<3)):=κ rfl;by_cases h1:0<=n
 ·by_cases h2:n<3
  ·have d:jj n=ό:=by rw[H.o];simp[h1,h2]
   rw[d];clear d H
   go_enter func89,ntmps89
   go_wp2;go_ret;exact⟨rfl,rfl⟩
  ·have d:jj n=ύ:=by rw[H.o];simp[h2]
   rw[d];clear d H
   go_enter func89,ntmps89
   go_wp2;go_ret;exact⟨rfl,rfl⟩
 ·have d:jj n=ύ:=by rw[H.o];simp[h1]
  rw[d];clear d H
  go_enter func89,ntmps89
  go_wp2;go_ret;exact⟨rfl,rfl⟩
def Zy (s:RmS):Prop:= ∀x sb,qh s.tab.u x=ϊ sb->sb.2.1=ό-> ∀n,jj n=ό->(qh s.strs (sb.2.2,n)).isSome=ό
structure zQ (s s':RmS):Prop where
 tab:s'.tab=s.tab
 lanes:s'.lanes=s.lanes
 strs: ∀x,(qh s'.strs x).isSome=(qh s.strs x).isSome
def zQ.refl (s:RmS):zQ s s:=⟨rfl,rfl,λ_=>rfl⟩
def zQ.trans {a b c:RmS} (h:zQ a b) (k:zQ b c):zQ a c:=⟨k.tab.trans h.tab,k.lanes.trans h.lanes,λx=>(k.strs x).trans (h.strs x)⟩
def Um (s:RmS) (x:Int):zQ s (s.tell1 x):=by
 unfold RmS.tell1;cases qh s.tab.u x with
 | none=>exact zQ.refl s
 | some sb=>
  simp only;split
  ·cases qh s.lanes x with
   | none=>exact zQ.refl s
   | some l=>
    simp only;split
    ·cases ht:qh s.strs (sb.2.2,l.cur) with
     | none=>exact zQ.refl s
     | some t=>
      refine⟨rfl,rfl,λo=> ?_⟩;simp only[qF];split
      ·rename_i e;rw[e,ht];rfl
      ·rfl
    ·exact zQ.refl s
  ·exact zQ.refl s
def QV (L:List Int): ∀s:RmS,zQ s (L.foldl RmS.tell1 s):=by
 induction L with
 | nil=>exact zQ.refl
 | cons x L ih=>exact λs=>(Um s x).trans (ih _)
def Ul (L:List Int): ∀s:RmS,zQ s (L.foldl RmS.tellS s):=by
 induction L with
 | nil=>exact zQ.refl
 | cons x L ih=>exact λs=>(QV _ s).trans (ih _)
def zQ.subs (h:zQ s s') (k:zc s):zc s':=⟨by rw[h.tab];exact k.keys,by rw[h.tab,h.lanes];exact k.lane,by rw[h.tab];exact k.few⟩
def zQ.pub (h:zQ s s') (k:Zy s):Zy s':=λx J d H n I=>by
 rw[h.tab] at d;rw[h.strs];exact k x J d H n I
section
variable {w0 w w':World} {k:RmK} {s:RmS} {F F':List Nat}
def qI.noU (h:qI w0 w k s F):NoU w k.R:=by
 obtain⟨T,vp,N,x⟩:=h;obtain⟨xs,d,_⟩:=(x.all .pks).1.row;obtain⟨O,H,_⟩:=(x.all .reqs).1.row;obtain⟨M,c1,rfl⟩:=xl d;obtain⟨o2,c2,rfl⟩:=xl H;intro o J n I;rw[cell_of_row w k.R o _ _ _ x.blk];unfold zH
 match o with
 | 0 | 1 | 2 | 3 | 4 | 5 | 6 | 7 | 8 | 9 | 10 | 11 | 12 | 13 | 14 | 15 | 16 | 17 | 18 | 19 | 20=>simp;try (intro e;exact ϩ e.symm I)
 | n+21=>simp
def Mt (h:qI w0 w k s F) (bA:zc s) (ap:Zy s) (b:List Int) (v:Value) (bL:SlI .u8 w v b) (d:Byt b) (cr:b.length<=1000000) (co:0<=s.cnt.malf/\s.cnt.malf<=1000000000/\0<=s.cnt.told/\s.cnt.told<=1000000000):
  Calls prog 130 #[γ k.R,v] w λe w'=>e= .returned (.tuple #[])/\qI w0 w' k (s.tell b) F/\qw F w w':=by
 have aw:=κ h;have ay:=κ (Dr b v w bL d cr);have an:=κ (GK (b:=b) d);have aM:=κ bA;have bZ:=κ ap;obtain⟨cT,cU,t0,t1⟩:=co;obtain⟨bp,aW⟩:=ν ((zx b).2);have bg:=κ aW;rw[aW] at ay an;obtain⟨cZ,cK,rfl,_⟩:=bL;clear h bA ap aW d;by_cases he:bp=0
 ·subst he;have ak:Hid (s.tell b=(xU (zx b).1).foldl RmS.tellS {s with cnt:={s.cnt with told:=s.cnt.told+1}}):=κ (by unfold RmS.tell;rw[ϐ bg.o]);obtain⟨bF,bu⟩:=ν ((zx b).1);rw[bu] at ay an ak;clear bu;obtain⟨bq,br⟩:=an.o rfl;have bV:=κ bq;have bW:=κ br;clear bq br an
  go_enter func130,ntmps130
  go_upto_region 3 with (go_at_call 188;(go_call ay.o as e w1 ⟨bN,rfl,s1,U⟩;have bm:=κ s1;have cj:=κ U;have ac:=κ (aw.o.on U);have aD:=κ (aw.o.stay U);clear s1 U))
  obtain⟨vp,cu,ab⟩:=ac.o.blk;have cI:=β19 ab;have cM:=yw ab 19;clear ab;have ad:=κ (ac.o.cell 19 (ι (s.cnt.told+1)) (s':={s with cnt:={s.cnt with told:=s.cnt.told+1}}) (λ_ _=>rfl) ⟨rfl,rfl,rfl,rfl,rfl,rfl,rfl,rfl,rfl⟩);have aT:=κ (PC bm.o (jt.set (S:=λb=>b=k.R) (jt.refl _ _) (p:=⟨k.R,19,ϋ⟩) rfl (ι (s.cnt.told+1))) (λb d=>by rw[d];exact ac.o.noU));have bo:=κ (aD.o.trans ad.o.2);obtain⟨W2,bs⟩:=ν (w1.setCell ⟨k.R,19,ϋ⟩ (ι (s.cnt.told+1)));rw[bs] at ad aT bo;obtain⟨st,aI⟩: ∃st:RmS,{s with cnt:={s.cnt with told:=s.cnt.told+1}}=st:=⟨_,rfl⟩;have aR:=κ ad.o.1;rw[aI] at aR ak;have ce:Hid (zc st):=κ (by rw[<-aI];exact⟨aM.o.keys,aM.o.lane,aM.o.few⟩);have ca:Hid (Zy st):=κ (by rw[<-aI];exact bZ.o);have bU:=κ (Wo bF bN W2 aT.o (by have:=bV.o;omega) bW.o);generalize xU bF=A at *;clear aI ad aT ac aD bm cj
  go_wp2_with (first | ((try rw[bs]);(go_at_call 189;(go_call bU.o as e cv ⟨db,rfl,⟨aa,bI⟩,aZ⟩;obtain⟨cA,dc,dh,bP⟩:=aR.o;obtain⟨cV,cap,av,rfl,cR,ar,bx⟩:=bP.ints aZ aa bI;have cc:=κ bx;have bS:=κ ar.at;have ck:=κ (bo.o.trans (aR.o.stay aZ));clear aa bI aZ bP ar bx))))
  go_loopw [41] (λah wr=> ∃j:Nat,j<=A.length/\ah= ι j/\qI w0 wr k ((A.take j).foldl RmS.tellS st) (av++F)/\qw (av++F) cv wr) (λah _=>A.length-(intOf ah).toNat)
  case atStart=>exact⟨0,τ,rfl,bS.o,qw.refl _ _⟩
  case round=>
   obtain⟨j,cQ,rfl,aq,M⟩:=hrel;have ax:=κ aq;have aQ:=κ M;clear aq M;by_cases hlt:j<A.length
   ·have cq:(j:Int)<(A.length:Int):=by omega
    obtain⟨cF,cX,rfl,cO⟩:=cc.o wr (λb d=>aQ.o.2 b (by simp[d])) j hlt;have ch:Hid (A.take (j+1)=A.take j++[A[j]]):=κ (by rw[A9,ϖ hlt];rfl);generalize A[j]=src at *;have bn:=κ (Ul (A.take j) st);generalize bC:(A.take j).foldl RmS.tellS st=sj at *;have cf:=κ bC;clear bC;obtain⟨cD,df,dk,bd⟩:=ax.o;have aO:=κ (bn.o.subs ce.o);have bj:=κ (FO bd.tab src aO.o.keys aO.o.few);obtain⟨L,aE⟩:=ν (prR (zV src) sj.tab.u);have bY:Hid (∀x∈L,∃bc l,qh sj.tab.u x=ϊ bc/\qh sj.lanes x=ϊ l):=κ (λx bD=>by rw[<-aE] at bD;exact Vq aO.o bD);have bX:Hid (sj.tellS src=L.foldl RmS.tell1 sj):=κ (by unfold RmS.tellS;rw[aE]);rw[aE] at bj;have cm:=β11 bd.blk;clear aE bd
    go_wp2_with (go_at_call 190;(go_call bj.o as e w4 ⟨⟨vb,rfl,bK,bJ⟩,ba⟩;obtain⟨cB,dd,di,ar⟩:=ax.o;obtain⟨cW,cJ,be,rfl,cS,bQ,bz⟩:=ar.ints ba bK bJ;have cd:=κ bz;have bT:=κ bQ.at;have cl:=κ (aQ.o.trans (ax.o.stay ba));clear bK bJ ba ar bQ bz))
    go_loopw [52] (λah wr=> ∃i:Nat,i<=L.length/\ah= ι i/\qI w0 wr k ((L.take i).foldl RmS.tell1 sj) (be++(av++F))/\qw (be++(av++F)) w4 wr) (λah _=>L.length-(intOf ah).toNat)
    case atStart=>exact⟨0,τ,rfl,bT.o,qw.refl _ _⟩
    case round=>
     obtain⟨i,hi,rfl,aq,M⟩:=hrel;have N:=κ aq;have ai:=κ M;clear aq M;by_cases hlt2:i<L.length
     ·have cp:(i:Int)<(L.length:Int):=by omega
      obtain⟨cG,cY,rfl,cP⟩:=cd.o wr (λb d=>ai.o.2 b (by simp[d])) i hlt2;have aB:Hid (L.take (i+1)=L.take i++[L[i]]):=κ (by rw[A9,ϖ hlt2];rfl);obtain⟨bc,l,aH,aG⟩:=bY.o _ (ϡ hlt2);generalize L[i]=x at *;have aU:=κ (QV (L.take i) sj);generalize bB:(L.take i).foldl RmS.tell1 sj=si at *;have az:=κ bB;clear bB;rw[<-aU.o.tab] at aH;rw[<-aU.o.lanes] at aG;obtain⟨cC,de,dj,au⟩:=N.o;have O:=κ au;have cb:=κ (aU.o.pub (bn.o.pub ca.o));obtain⟨ct,bw,bt⟩:=au.laneAt aG;have af:=κ (LH au.tab x);have bh:=κ bt;have bi:=κ aG;have aN:=κ aH;rw[aH] at af;simp only[ϣ] at af;have cm:=β11 au.blk;obtain⟨s1,s2,aa⟩:=bc;simp only at af
      have aL:Hid (∀w',ql wr w'->(Instr.lookup 90 (.map (ϊ k.ML)) (ι x) ύ).run prog w'= .ok (γ ct) w'):=κ (λw' m=>by
       have:=xq (O.o.lnm.more m) x ύ;rw[bw] at this
       exact this)
      clear au aG bt aH bw;cases s2 with
      | false=>
       have ae:Hid (si.tell1 x=si):=κ (by unfold RmS.tell1;rw[aN.o];rfl)
       go_wp2_with (go_at_call 90;(go_call af.o as e w5 ⟨rfl,H⟩;have I:=κ H;clear H))
       go_roundw
       case rel=>exact⟨i+1,τ,by go_num,by rw[aB.o,Ξ,az.o];show qI w0 _ k (si.tell1 x) _;rw[ae.o];exact N.o.on I.o,ai.o.trans (N.o.stay I.o)⟩
       case measure=>simp[intOf];omega
      | true=>
       obtain⟨bH,aY⟩:=ν (l.wanted);obtain⟨J,aX⟩:=ν (l.cur);obtain⟨bG,bv⟩:=ν (l.tgt);have aA:=κ (λw m=>Xb (bh.o.on (w':=w) m));rw[aY,aX,bv] at aA;have ae:Hid (si.tell1 x=if bH&&jj J then (match qh si.strs (aa,J) with | none=>si | some t=>{si with strs:=qx si.strs (aa,J) {t with askedOf:=ό}}) else si):=κ (by unfold RmS.tell1;rw[aN.o];simp only[bi.o,A7];rw[aY,aX];rfl);clear aY aX bv bh bi;cases bH with
       | false=>
        have am:Hid (si.tell1 x=si):=κ (by rw[ae.o];rfl)
        go_wp2_with (first | (go_at_call 90;(go_call af.o as e w5 ⟨rfl,H⟩;have I:=κ H;have aV:=β12 (qq H O.o.blk);have bb:=aL.o w5 H;clear H)) | (go_at_call 67;(go_call aA.o _ I.o as e w6 ⟨rfl,Y⟩;have ag:=κ Y;clear Y)) | (go_at_call 89;(go_call aP.o _ as e bO ⟨rfl,rfl⟩)))
        go_roundw
        case rel=>exact⟨i+1,τ,by go_num,by rw[aB.o,Ξ,az.o];show qI w0 _ k (si.tell1 x) _;rw[am.o];exact N.o.on ((I.o.trans ag.o).al _),ai.o.trans (N.o.stay ((I.o.trans ag.o).al _))⟩
        case measure=>simp[intOf];omega
       | true=>
        obtain⟨bM,aJ⟩:=ν (jj J);have aP:Hid (∀w,Calls prog 89 #[ι J] w λe w'=>e= .returned (μ bM)/\w'=w):=κ (λw=>by rw[<-aJ];exact Ub J w);rw[aJ] at ae;have ci:=κ aJ;clear aJ;cases bM with
        | false=>
         have am:Hid (si.tell1 x=si):=κ (by rw[ae.o];rfl)
         go_wp2_with (first | (go_at_call 90;(go_call af.o as e w5 ⟨rfl,H⟩;have I:=κ H;have aV:=β12 (qq H O.o.blk);have bb:=aL.o w5 H;clear H)) | (go_at_call 67;(go_call aA.o _ I.o as e w6 ⟨rfl,Y⟩;have ag:=κ Y;clear Y)) | (go_at_call 89;(go_call aP.o _ as e bO ⟨rfl,rfl⟩)))
         go_roundw
         case rel=>exact⟨i+1,τ,by go_num,by rw[aB.o,Ξ,az.o];show qI w0 _ k (si.tell1 x) _;rw[am.o];exact N.o.on ((I.o.trans ag.o).al _),ai.o.trans (N.o.stay ((I.o.trans ag.o).al _))⟩
         case measure=>simp[intOf];omega
        | true=>
         obtain⟨t,M⟩:=ϥ.1 (cb.o x _ aN.o rfl J ci.o);have am:Hid (si.tell1 x={si with strs:=qx si.strs (aa,J) {t with askedOf:=ό}}):=κ (by rw[ae.o];simp only[M];rfl);obtain⟨p,cz,dg,ap,bE⟩:=O.o.strAt M;have cg:=κ M;have bk:=κ ap;have bl:=κ bE;clear M ap bE ae
         go_upto_region 14 with (first | (go_at_call 90;(go_call af.o as e w5 ⟨rfl,H⟩;have I:=κ H;have aV:=β12 (qq H O.o.blk);have bb:=aL.o w5 H;clear H)) | (go_at_call 67;(go_call aA.o _ I.o as e w6 ⟨rfl,Y⟩;have ag:=κ Y;clear Y)) | (go_at_call 89;(go_call aP.o _ as e bO ⟨rfl,cn⟩;obtain rfl:=cn.symm)))
         obtain⟨aj,aF⟩:=ν (w6.alloc (.cells #[ι J,ι bG] 103));have aS:Hid (ql wr aj):=κ (by rw[<-aF];exact(I.o.trans ag.o).al _);have bR:Hid (aj.heap[w6.heap.size]? =ϊ (.cells #[ι J,ι bG] 103 (0,0))):=κ (by rw[<-aF];exact qj w6 _)
         (try rw[aF])
         clear aF aV bb;have cw:=λ(x:qt aj)=>β13 (qq (aS.o.trans x.h) O.o.blk)
         have cy:=λ(x:qt aj)=>β0 (qq x.h bR.o)
         have cx: ∀x:qt aj,(Instr.lookup 91 (.map (ϊ k.MS)) (θ #[ι aa,ι J]) ύ).run prog x.w'= .ok (γ p) x.w':=λx=>by
          have:=ya (O.o.stm.more (aS.o.trans x.h)) (aa,J) ύ;rw[bk.o] at this;exact this
         refine Qn aj 11 12 [9,11] ?_
         refine Qq9 ?_
         (refine Ql ?_;intro K ao)
         refine⟨qk ρ,ao _ _ ?_⟩;clear ao K
         refine Qq1 ?_
         have aC:=κ (aS.o.dr 1);have aK:=κ (qq aC.o bl.o.blk);have da:=β7 aK.o;have cN:=yw aK.o 7;have bf:=κ ((O.o.on aC.o).strSet (t':={t with askedOf:=ό}) cg.o bk.o (bl.o.on aC.o) (jt.set (S:=λb=>b=p) (jt.refl _ _) (p:=⟨p,7,ϋ⟩) rfl (μ ό)) (qB (qp aK.o 7 _) rfl) rfl)
         (refine Qe ?_;intro K ao)
         refine ao _ _ ?_;clear ao K;refine qA ?_;go_wp2;go_roundw
         case rel=>exact⟨i+1,τ,by go_num,by rw[aB.o,Ξ,az.o];show qI w0 _ k (si.tell1 x) _;rw[am.o];exact bf.o.1,ai.o.trans ((N.o.stay aC.o).trans bf.o.2)⟩
         case measure=>simp[intOf];omega
     ·obtain rfl:i=L.length:=by omega
      have cp: ¬(L.length:Int)<(L.length:Int):=by omega
      go_wp2;go_roundw
      case rel=>exact⟨j+1,τ,by go_num,by rw[ch.o,Ξ,cf.o];show qI w0 _ k (sj.tellS src) _;rw[bX.o];have:=N.o;rw[ϱ] at this;exact this.sub (λb d=>ϓ _ d),cl.o.trans (ai.o.sub (λb d=>ϓ _ d))⟩
      case measure=>simp[intOf];omega
   ·obtain rfl:j=A.length:=by omega
    have cq: ¬(A.length:Int)<(A.length:Int):=by omega
    go_wp2
    (refine bodyPost_end (v:= .tuple #[]) ?re1 rfl ?_;(case re1=>simp[results,results130,go_sem]))
    exact⟨rfl,by rw[ak.o];have:=ax.o;rw[ϱ] at this;exact this.sub (λb d=>ϓ _ d),ck.o.trans (aQ.o.sub (λb d=>ϓ _ d))⟩
 ·have ak:Hid (s.tell b={s with cnt:={s.cnt with malf:=s.cnt.malf+1}}):=κ (by unfold RmS.tell;rw[bg.o,ώ he]);have cE:(bp != 0)=ό:=by simp[he]
  clear he an
  go_enter func130,ntmps130
  go_upto_region 2 with (go_at_call 188;(go_call ay.o as e w1 ⟨bN,rfl,s1,U⟩;have ac:=κ (aw.o.on U);have aD:=κ (aw.o.stay U);clear s1 U))
  obtain⟨vp,cu,ab⟩:=ac.o.blk;have cH:=β17 ab;have cL:=yw ab 17;clear ab;have ad:=κ (ac.o.cell 17 (ι (s.cnt.malf+1)) (s':={s with cnt:={s.cnt with malf:=s.cnt.malf+1}}) (λ_ _=>rfl) ⟨rfl,rfl,rfl,rfl,rfl,rfl,rfl,rfl,rfl⟩);go_wp2
  (refine bodyPost_ret (v:= .tuple #[]) ?re2 rfl ?_;(case re2=>simp[results,results130,go_sem]))
  exact⟨rfl,by rw[ak.o];exact ad.o.1,aD.o.trans ad.o.2⟩
end
section
variable {T:Nat->Tg} {w0 w w':World} {k k':RmK} {vp vr vp' vr':Value} {s s':RmS} {F:List Nat} {t1 t2:Tg}
def RmX.own2 (h:RmX T w0 w k vp vr s F) (I:t1≠ .no/\t1≠ .data) (M:t2≠ .no/\t2≠ .data) (a:jt (λb=>T b=t1∨T b=t2) w w')
  (aa:k'.Holds (jZ T t1 w w') w' vp' vr' s' t1) (ab:k'.Holds (jZ T t1 w w') w' vp' vr' s' t2)
  (rest: ∀u,u≠t1->u≠t2->u≠ .no->k.Holds (jZ T t1 w w') w' vp vr s u->k'.Holds (jZ T t1 w w') w' vp' vr' s' u):RmX (jZ T t1 w w') w0 w' k' vp' vr' s' F/\qw F w w':=by
 have J:=h.fresh
 have Y: ∀b,(T b=t1∨T b=t2)->w0.heap.size<=b:=λb d=>h.ge b (by
  rcases d with d | d
  ·rw[d];exact I.1
  ·rw[d];exact M.1)
 refine⟨⟨λu=> ?_,λb d=> ?_,λb d=> ?_,a.to_more h.more Y⟩,a.size,λb d=>a.block b (h.law b d).2.2 (λe=>by
  rcases e with e | e
  ·exact I.1 (by rw[<-e];exact(h.law b d).1)
  ·exact M.1 (by rw[<-e];exact(h.law b d).1))⟩
 ·by_cases e:u=t1
  ·subst e;exact aa
  ·by_cases e2:u=t2
   ·subst e2;exact ab
   ·by_cases en:u= .no
    ·subst en;exact Q9 J a.size
    ·refine rest u e e2 en (Holds.frame (h.all u) a (λb d=>⟨λH=> ?_,λH=> ?_⟩) (λb=>jF J en e b) (λb d=> ?_) en)
     ·rcases d with d | d
      ·exact e (H.symm.trans d)
      ·exact e2 (H.symm.trans d)
     ·rcases d with d | d
      ·exact I.2 (d.symm.trans H)
      ·exact M.2 (d.symm.trans H)
     ·exact(jF J η (C4 I.2) b).2 d
 ·unfold jZ at d;split at d
  ·have:=h.more.size;omega
  ·exact h.ge b d
 ·obtain⟨N,O,U⟩:=h.law b d;refine⟨?_,O,ϗ U a.size⟩;unfold jZ;rw[ώ τ];exact N
def VO (I: ∀b,w.heap.size<=b->T b= .no) {t:Tg} (M:t≠ .no) (N: ∀g,v.ownBlock=ϊ g->T g=t) (H:w.heap.size<=W.heap.size) (O:v'.ownBlock=v.ownBlock∨v'.ownBlock=ϊ W.heap.size) (J: ∀g,v'.ownBlock=ϊ g->g<w'.heap.size):
  ∀g,v'.ownBlock=ϊ g->jZ T t w w' g=t:=λg d=>(jd I M g).2 (by
 rcases O with e | e
 ·exact ϑ (N g (by rw[<-e];exact d))
 ·rw[e] at d;injection d with d
  subst d
  exact ϕ ⟨rfl,H,J _ e⟩)
def RmX.pksPut (h:RmX T w0 w k vp vr s F) {y:AcS} (a:jt (λb=>vp.ownBlock=ϊ b∨b=k.R) w w') (Y:w.heap.size<=W.heap.size)
  (row:je 13 RAc (λb=>(T b≠ .data/\T b≠ .pks)/\b<w.heap.size) w' 0 65 v' (s.pks++[y])) (ac:v'.ownBlock=vp.ownBlock∨v'.ownBlock=ϊ W.heap.size)
  (N:w'.heap[k.R]? =ϊ (.cells (zH k v' vr s) 95 (0,0))):qI w0 w' k {s with pks:=s.pks++[y]} F/\qw F w w':=by
 obtain⟨J,_⟩:=h.all .room;obtain⟨_,M⟩:=h.all .pks;have H:=h.fresh;have ab:je 13 RAc (λb=>jZ T .pks w w' b≠ .data/\jZ T .pks w w' b≠ .pks) w' 0 65 v' (s.pks++[y]):=row.other λb d=>by
  by_cases e:b<w.heap.size
  ·refine ϑ ⟨⟨λI=>d.1 ((jF H η η _).2 I),λI=>d.2 ((jd H η _).2 (ϑ I))⟩,e⟩
  ·by_cases e3:b<w'.heap.size
   ·exact ϩ ((jd H η _).2 (ϕ ⟨rfl,τ,e3⟩)) d.2
   ·exact ϕ τ
 obtain⟨x,y⟩:=h.own2 (k':=k) (t1:= .pks) (t2:= .room) (vp':=v') (vr':=vr) (s':={s with pks:=s.pks++[y]}) ⟨η,η⟩ ⟨η,η⟩ (a.mono λb d=>by
   rcases d with d | rfl
   ·exact ϑ (M b d)
   ·exact ϕ J)
  ⟨ab,VO H η M Y ac (λg aa=>row.lt aa)⟩
  ⟨(jF H η η _).2 J,N⟩
  (λu O U ad z=>by cases u<;>first | exact z | exact ϩ rfl O | exact ϩ rfl U)
 exact⟨⟨_,_,_,x⟩,y⟩
def RmX.reqsPut (h:RmX T w0 w k vp vr s F) {y:RqS} (a:jt (λb=>vr.ownBlock=ϊ b∨b=k.R) w w') (Y:w.heap.size<=W.heap.size)
  (row:je 4 RRq (λb=>(T b≠ .data/\T b≠ .reqs)/\b<w.heap.size) w' 0 296 v' (s.reqs++[y])) (ac:v'.ownBlock=vr.ownBlock∨v'.ownBlock=ϊ W.heap.size)
  (N:w'.heap[k.R]? =ϊ (.cells (zH k vp v' s) 95 (0,0))):qI w0 w' k {s with reqs:=s.reqs++[y]} F/\qw F w w':=by
 obtain⟨J,_⟩:=h.all .room;obtain⟨_,M⟩:=h.all .reqs;have H:=h.fresh;have ab:je 4 RRq (λb=>jZ T .reqs w w' b≠ .data/\jZ T .reqs w w' b≠ .reqs) w' 0 296 v' (s.reqs++[y]):=row.other λb d=>by
  by_cases e:b<w.heap.size
  ·refine ϑ ⟨⟨λI=>d.1 ((jF H η η _).2 I),λI=>d.2 ((jd H η _).2 (ϑ I))⟩,e⟩
  ·by_cases e3:b<w'.heap.size
   ·exact ϩ ((jd H η _).2 (ϕ ⟨rfl,τ,e3⟩)) d.2
   ·exact ϕ τ
 obtain⟨x,y⟩:=h.own2 (k':=k) (t1:= .reqs) (t2:= .room) (vp':=vp) (vr':=v') (s':={s with reqs:=s.reqs++[y]}) ⟨η,η⟩ ⟨η,η⟩ (a.mono λb d=>by
   rcases d with d | rfl
   ·exact ϑ (M b d)
   ·exact ϕ J)
  ⟨ab,VO H η M Y ac (λg aa=>row.lt aa)⟩
  ⟨(jF H η η _).2 J,N⟩
  (λu O U ad z=>by cases u<;>first | exact z | exact ϩ rfl O | exact ϩ rfl U)
 exact⟨⟨_,_,_,x⟩,y⟩
def Ns (h:qI w0 w k s F) (sub id:Int):
  Calls prog 193 #[γ k.B,θ #[ι sub,ι id]] w λe w'=>(∃v,e= .returned (ι v))/\qI w0 w' k {s with book:=(vT s.book (sub,id)).1} F/\qw F w w'/\jt (λx=>x=k.b) w w':=by
 obtain⟨T,vp,I,x⟩:=h;refine(Nu x.bok (sub,id)).mono ?_;rintro e w' ⟨rfl,b,a⟩;obtain⟨d,H⟩:=x.book b a;exact⟨⟨_,rfl⟩,d,H,a⟩
end
end Go.Proofs.YtlmllmonabafjaaGreatDoor
