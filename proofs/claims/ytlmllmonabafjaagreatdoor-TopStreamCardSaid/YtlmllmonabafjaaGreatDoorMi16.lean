/- x -/
import Derived.Test.YtlmllmonabafjaaGreatDoorMi15
import Derived.Defers
import Derived.Recover
import Derived.Laws.Concat
import Derived.Shelf.Strings.Split
import Derived.Shelf.Strings.OnBuilder
import Derived.Shelf.Strconv.Itoa3
import Derived.Shelf.LaysM
namespace Go.Proofs.YtlmllmonabafjaaGreatDoor
open Option renaming some->ϊ,none->ϋ
open Bool renaming true->ό,false->ύ
open Go.Value renaming bool->μ,slice->δ,pointer->π,agg->θ
open Go.IntKind renaming i64->ι,u8->υ,u16->φ,u32->ω,i32->χ,u64->ψ
open _root_.Go.Proofs.Tryz
set_option linter.all false
set_option maxHeartbeats 8000000
open Go.RowKit
set_option maxRecDepth 100000
variable {F:List Nat} {w w' G d:World} {pb cap b B g R:Nat} {l r:List UInt8} {L:List ByteArray} {jo:Int->Int} {v:Value} {s:RmS} {P:Program}
def Pl (w00:World) (pb:Nat) (o:Option RmS) (F:List Nat) (w:World):Prop:=pb∈F/\(∀b∈F,w00.heap.size<=b/\b<w.heap.size)/\ql w00 w/\match o with
 | none=>w.heap[pb]? =ϊ (.cells #[.pointer ϋ] 214 (0,0))
 | some s=> ∃R,RmR w00 w R s F/\w.heap[pb]? =ϊ (.cells #[.pointer (ϊ ⟨R,0,ϋ⟩)] 214 (0,0))
def PS (pb:Nat) (F:List Nat) (w w':World):Prop:=w.heap.size<=w'.heap.size/\ ∀b∈F,b≠pb->w'.heap[b]? =w.heap[b]?
section
variable {w00 w w' w'':World} {pb:Nat} {o:Option RmS} {F F' Fn:List Nat}
def PS.refl:PS pb F w w:=⟨ϕ _,λ_ _ _=>rfl⟩
def PS.trans (h:PS pb F w w') (k:PS pb F w' w''):PS pb F w w'':=⟨Ϙ h.1 k.1,λb d G=>(k.2 b d G).trans (h.2 b d G)⟩
def PS.sub (h:PS pb F w w') (H: ∀b∈F',b∈F):PS pb F' w w':=⟨h.1,λb d G=>h.2 b (H b d) G⟩
def PS.blk (h:PS pb F w w') {x:Obj} (d:b∈F) (G:b≠pb) (k:w.heap[b]? =ϊ x):w'.heap[b]? =ϊ x:=by rw[h.2 b d G];exact k
def Pl.lt (h:Pl w00 pb o F w): ∀b∈F,b<w.heap.size:=λb d=>(h.2.1 b d).2
def Pl.mut (h:Pl w00 pb o F w) (a:jt (λb=>b∈F') w w') (J: ∀b∈F',b∈F) (I:pb∉F'):Pl w00 pb o F w':=by
 obtain⟨M,H,N,d⟩:=h;refine⟨M,λb G=>⟨(H b G).1,ϗ (H b G).2 a.size⟩,a.to_more N (λb G=>(H b (J b G)).1), ?_⟩;cases o with
 | none=>exact a.blk d I
 | some s=>exact d.elim λR d=>⟨R,d.1.mut (a.mono J),a.blk d.2 I⟩
def Pl.on (h:Pl w00 pb o F w) (m:ql w w'):Pl w00 pb o F w':=h.mut (F':=[]) (jt.of_more m) (λ_ d=>by cases d) (λd=>by cases d)
def Pl.stay (h:Pl w00 pb o F w) (m:ql w w'):PS pb F w w':=⟨m.size,λb d _=>m.block b (h.lt b d)⟩
def Pl.sub (h:Pl w00 pb o F w) (G: ∀b∈F',b∈F) (M:pb∈F'):Pl w00 pb o F' w:=by
 obtain⟨N,H,I,d⟩:=h;refine⟨M,λb J=>H b (G b J),I, ?_⟩;cases o with
 | none=>exact d
 | some s=>exact d.elim λR d=>⟨R,d.1.sub G,d.2⟩
def Pl.mutA (h:Pl w00 pb o F w) (a:jt (λb=>b∈F') w w') (N: ∀b∈F',b∈F) (M:pb∉F') (J: ∀b∈Fn,b∈F∨w.heap.size<=b/\b<w'.heap.size):Pl w00 pb o (Fn++F) w':=by
 obtain⟨O,d,I,G⟩:=h;have U:=I.size;refine⟨ϓ _ O,λb H=> ?_,a.to_more I (λb H=>(d b (N b H)).1), ?_⟩
 ·rcases ϡ.1 H with e | e
  ·rcases J b e with f | f
   ·exact⟨(d b f).1,ϗ (d b f).2 a.size⟩
   ·exact⟨τ,f.2⟩
  ·exact⟨(d b e).1,ϗ (d b e).2 a.size⟩
 ·cases o with
  | none=>exact a.blk G M
  | some s=>exact G.elim λR G=>⟨R,G.1.mutA (a.mono N) J,a.blk G.2 M⟩
def Pl.adds (h:Pl w00 pb o F w) (m:ql w w') (G: ∀b∈Fn,w.heap.size<=b/\b<w'.heap.size):Pl w00 pb o (Fn++F) w':=h.mutA (F':=[]) (jt.of_more m) (λ_ d=>by cases d) (λd=>by cases d) (λb d=>ϔ (G b d))
end
def SlP.rest {d:Nat} {x:ByteArray} (h:SlP 1 RTx w (δ (ϊ ⟨b,d,ϋ⟩) (L.length+1) cap) (x::L)):SlP 1 RTx w (δ (ϊ ⟨b,d+1,ϋ⟩) L.length (cap-1)) L:=by
 obtain⟨ad,aa,e,H,I,J,ab,ac⟩:=h;injection e with e1 e2 e3
 subst e1 e3;rw[ϙ] at H J;refine⟨_,_,rfl,τ,λi hi=> ?_,τ,τ,λh=>by cases h⟩;obtain⟨Y,ae,cs,e,M,U,N,G⟩:=I (i+1) (by rw[ϙ];omega);injection e with e
 injection e with e6 e7 _
 subst e6 e7;refine⟨b,d+1,cs,rfl,M,U,λj O=> ?_,by rw[List.getElem_cons_succ] at G;exact G⟩;rw[<-N j O]
 congr 2
 omega
def NZ (p:Addr) (w:World):
  CallsD prog 158 #[π (ϊ p)] .returning w λe H w'=>e= .returned (.tuple #[])/\H= .returning/\w'=w:=by
 refine callsD_of_wpS func158 rfl λd cs G=> ?_
 apply wpS_seq;apply wpS_region;simp[wpOpsS,go_sem,recoverD,G,ntmps158,Exit.thenS];apply wpS_seq;apply wpS_region;simp[wpOpsS,go_sem,Exit.thenS];refine wpS_cond (t:=ύ) (by simp[Act.eval,Array.replicate]) ?_;refine wpS_of_wp (wp_skip ?_);cases d
 simp_all [bodyPostS,results,results158,Exit.thenS]
def Sk (more:List UInt8):List UInt8:=if more=[] then [111,107] else [111,107,32]++more
def Pl.room (h:Pl d pb (ϊ s) F w): ∃R,RmR d w R s F/\w.heap[pb]? =ϊ (.cells #[γ R] 214 (0,0)):=h.2.2.2
def NL {M:World} {aq:Nat} {o ai:Option RmS} {ah az:ByteArray} {more:List UInt8} {args:List ByteArray} {ap:List Int}
  (h:Pl M pb o F w) (aj:SlP 1 RTx w (δ (ϊ ⟨b,aq,ϋ⟩) (args.length+1) cap) (ah::args))
  (hF: ∀w,Calls prog 161 #[.string ah] w λe w'=>e= .returned (.string az)/\w'=w) (ag:Ol az args ap)
  (aY:(ah.toList==([114,111,111,109]:List UInt8))=o.isNone) (aV:more.length<=1000)
  (aB: ∀(F:List Nat) (w:World) (g cap:Nat),Pl M pb o F w->g∈F->g≠pb->(∀i y,ap[i]? =ϊ y->w.cell? ⟨g,i,ϋ⟩=ϊ (ι y))->Calls prog 162 #[γ pb,.string ah,δ (ϊ ⟨g,0,ϋ⟩) ap.length cap] w λe w'=>e= .returned (.string ⟨more.toArray⟩)/\Pl M pb ai F w'/\PS pb F w w'):
  Calls prog 101 #[γ pb,δ (ϊ ⟨b,aq,ϋ⟩) (args.length+1) cap] w λe w'=>e= .returned (.string ⟨(Sk more).toArray⟩)/\Pl M pb ai F w'/\PS pb F w w':=by
 obtain⟨W1,an⟩:=ν (w.alloc (.cells #[.string ⟨#[]⟩] 9));have af:Hid (ql w W1):=κ (by rw[<-an];exact ql.alloc _ _);have au:Hid (W1.heap[w.heap.size]? =ϊ (.cells #[.string ⟨#[]⟩] 9 (0,0))):=κ (by rw[<-an];exact qj _ _);have aa:Hid (Pl M pb o ([w.heap.size]++F) W1):=κ (h.adds af.o (λb G=>by simp at G;subst G;exact⟨ϕ _,qn au.o⟩));have ao:Hid (pb≠w.heap.size):=κ (λe=>by have:=h.lt pb h.1;omega);have ax:Hid (PS pb F w W1):=κ (h.stay af.o);have aS:args.length+1<=cap:=by
  obtain⟨bc,aP,e,_,_,aL,_⟩:=id aj;injection e with _ _ e3
  subst e3;exact aL
 have aX:=ag.pos;have aT:=ag.few;obtain⟨aO,bb,e0,al⟩:=aj.strs af.o 0 η;injection e0 with e0
 injection e0 with e1 e2 _
 subst e1 e2;rw[G7] at al;rw[List.getElem_cons_zero] at al;have aw:=κ (λw' (m:ql w w')=>Rs ag (ϊ ⟨b,aq+1,ϋ⟩) (cap-1) w' (SlP.keep Tm aj.rest m));have aZ:(1:Int)<=(args.length:Int)+1:=by omega
 have ba: ¬cap=1:=by omega
 have aJ:=κ h.lt;clear h aj ag
 go_enter_defers func101,ntmps101
 go_upto_region 3 with fail
 clear al an;refine zC W1 6 [(0,ύ),(2,ύ),(3,ύ),(1,ό),(4,ό),(5,ύ)] ξ ξ ?_
 refine Qq3 ?_
 (refine Ql ?_;intro K Y)
 go_call hF _ as e w5 ⟨rfl,rfl⟩;refine⟨_,rfl,qk ((ql.refl _).dr 1),Y _ _ ?_⟩;clear Y K
 (refine Ql ?_;intro K Y)
 go_call aw.o _ (af.o.dr 1) as e w6 ⟨⟨g,aK,rfl,aC,aD,aE⟩,aH⟩;have ab:Hid (ql W1 w6):=κ (((ql.refl W1).dr 1).trans aH);refine⟨_,rfl,qk ab.o,Y _ _ ?_⟩;clear Y K
 iterate 1 (refine qE rfl rfl (qk ab.o) ?_;intro K Y;go_big_quiet_op;go_big_quiet_on)
 refine qA ?_;have aG:W1.heap.size<=g:=aC;have av:Hid (Pl M pb o ([g]++([w.heap.size]++F)) w6):=κ (aa.o.adds ab.o (λb G=>by simp at G;subst G;exact⟨aG,aD⟩));have aF:g≠pb:=λe=>by have:=aa.o.lt pb aa.o.1;omega
 have ay:Hid (PS pb ([w.heap.size]++F) W1 w6):=κ (aa.o.stay ab.o);have ad:=κ (aB _ w6 g aK av.o η aF aE);have aI:Hid (w6.heap[w.heap.size]? =ϊ (.cells #[.string ⟨#[]⟩] 9 (0,0))):=κ (qq ab.o au.o);have ac:Hid (∀d,PS pb ([g]++([w.heap.size]++F)) w6 d->d.heap[w.heap.size]? =ϊ (.cells #[.string ⟨#[]⟩] 9 (0,0))):=κ (λd t=>t.blk η (λe=>ao.o e.symm) aI.o)
 have ae:Hid (∀d v,Pl M pb ai ([g]++([w.heap.size]++F)) d->PS pb ([g]++([w.heap.size]++F)) w6 d->Pl M pb ai F (d.setCell ⟨w.heap.size,0,ϋ⟩ v)/\PS pb F w (d.setCell ⟨w.heap.size,0,ϋ⟩ v)):=κ (λd v I H=>by
  have a:jt (λb=>b∈[w.heap.size]) d (d.setCell ⟨w.heap.size,0,ϋ⟩ v):=(jt.refl _ _).set η _;refine⟨(I.mut a (λb G=>by simp at G;subst G;simp) (λG=>by simp at G;exact ao.o G)).sub (λb G=>by simp[G]) ?_, ?_⟩
  ·have:=aa.o.1;rcases ϡ.1 this with e | e
   ·simp at e;exact ϩ e ao.o
   ·exact e
  ·refine ax.o.trans ((ay.o.sub (λb G=>by simp[G])).trans ((H.sub (λb G=>by simp[G])).trans ⟨a.size,λb G aW=> ?_⟩));have aU:b<w.heap.size:=aJ.o b G
   exact a.block b (by have:=ax.o.1;have:=ay.o.1;have:=H.1;omega) (λe=>by simp at e;omega))
 have aR:=λw=>run_string_add_lists (P:=prog) w [111,107,32] more ζ τ
 clear aC aD aE aH hF aB aw aF aG;cases o with
 | none=>
  by_cases hq:more=[]
  ·subst hq
   go_wp2_with ((go_at_call 162;(go_call ad.o as e d ⟨rfl,I,H⟩;have J:=κ (ac.o d H);have am:=yw J.o 0;have U:=β0 J.o;have N:=κ (ae.o d (.string ⟨#[111,107]⟩) I H);clear I H)))
   refine leaves_cons (f:=158) (args:= #[γ w.heap.size]) η (by simp[go_sem]) ?_;refine(NZ ⟨w.heap.size,0,ϋ⟩ _).mono ?_;rintro e ar w'' ⟨rfl,rfl,rfl⟩;have O: ∀v,(d.setCell ⟨w.heap.size,0,ϋ⟩ v).cell? ⟨w.heap.size,0,ϋ⟩=ϊ v:=λv=>World.cell?_setCell_same' _ _ v (by rw[U];rfl)
   simp[Leaves,settle,results,results101,go_sem,O];exact⟨by rfl,N.o⟩
  ·have aN:(more==([]:List UInt8))=ύ:=by simp[hq]
   have ak:Hid (Sk more=[111,107,32]++more):=κ (ώ hq);clear hq
   go_wp2_with ((go_at_call 162;(go_call ad.o as e d ⟨rfl,I,H⟩;have J:=κ (ac.o d H);have am:=yw J.o 0;have U:=β0 J.o;have N:=κ (ae.o d (.string ⟨([111,107,32]++more).toArray⟩) I H);clear I H)))
   refine leaves_cons (f:=158) (args:= #[γ w.heap.size]) η (by simp[go_sem]) ?_;refine(NZ ⟨w.heap.size,0,ϋ⟩ _).mono ?_;rintro e ar w'' ⟨rfl,rfl,rfl⟩;have O: ∀v,(d.setCell ⟨w.heap.size,0,ϋ⟩ v).cell? ⟨w.heap.size,0,ϋ⟩=ϊ v:=λv=>World.cell?_setCell_same' _ _ v (by rw[U];rfl)
   rw[ak.o];simp[Leaves,settle,results,results101,go_sem,O];exact N.o
 | some s=>
  obtain⟨R,aM,aA⟩:=av.o.room;have aQ:=β0 aA;clear aM aA;by_cases hq:more=[]
  ·subst hq
   go_wp2_with ((go_at_call 162;(go_call ad.o as e d ⟨rfl,I,H⟩;have J:=κ (ac.o d H);have am:=yw J.o 0;have U:=β0 J.o;have N:=κ (ae.o d (.string ⟨#[111,107]⟩) I H);clear I H)))
   refine leaves_cons (f:=158) (args:= #[γ w.heap.size]) η (by simp[go_sem]) ?_;refine(NZ ⟨w.heap.size,0,ϋ⟩ _).mono ?_;rintro e ar w'' ⟨rfl,rfl,rfl⟩;have O: ∀v,(d.setCell ⟨w.heap.size,0,ϋ⟩ v).cell? ⟨w.heap.size,0,ϋ⟩=ϊ v:=λv=>World.cell?_setCell_same' _ _ v (by rw[U];rfl)
   simp[Leaves,settle,results,results101,go_sem,O];exact⟨by rfl,N.o⟩
  ·have aN:(more==([]:List UInt8))=ύ:=by simp[hq]
   have ak:Hid (Sk more=[111,107,32]++more):=κ (ώ hq);clear hq
   go_wp2_with ((go_at_call 162;(go_call ad.o as e d ⟨rfl,I,H⟩;have J:=κ (ac.o d H);have am:=yw J.o 0;have U:=β0 J.o;have N:=κ (ae.o d (.string ⟨([111,107,32]++more).toArray⟩) I H);clear I H)))
   refine leaves_cons (f:=158) (args:= #[γ w.heap.size]) η (by simp[go_sem]) ?_;refine(NZ ⟨w.heap.size,0,ϋ⟩ _).mono ?_;rintro e ar w'' ⟨rfl,rfl,rfl⟩;have O: ∀v,(d.setCell ⟨w.heap.size,0,ϋ⟩ v).cell? ⟨w.heap.size,0,ϋ⟩=ϊ v:=λv=>World.cell?_setCell_same' _ _ v (by rw[U];rfl)
   rw[ak.o];simp[Leaves,settle,results,results101,go_sem,O];exact N.o
def pkT:Pk:=⟨ύ,96,1,9,7,[],ύ,0,[],[16,0]⟩
def pkU:List Int:=[128,96,0,1,0,0,0,9,0,0,0,7,16,0]
def tpB:pkB pkT=pkU:=by decide
def cfT:CfR:=⟨2,2,1,1,2,1⟩
def tp0:RmS:=ud cfT
def tp1:RmS:=(tp0.publish 0 7 8 9).1
def tp2:RmS:=(tp1.join 0 50 5 100).1
def tp3:RmS:=(tp2.subscribe 0 0 0).1
def tp4:RmS:=(tp3.arrive pkU).1
def wkT:List Og:=[(0,0),(1,0),(2,0),(3,0),(4,0)]
def tpP (j:Nat):RmS:=(wkT.take j).foldl (λs w=>(s.pick w ό).1) tp4
def tp5:RmS:=tpP 5
def tq1:(tp0.publish 0 7 8 9).2=0:=by kernel_rfl
def tq2:(tp1.join 0 50 5 100).2=0:=by kernel_rfl
def tq3:(tp2.subscribe 0 0 0).2=0:=by kernel_rfl
def tq4:(tp3.arrive pkU).2=0:=by kernel_rfl
def tq5:tp4.workers=wkT:=by kernel_rfl
def tq6: ∀j<5,(tpP j).may (wkT.getD j (0,0))=ό:=by decide+kernel
def tq7:(tp5.ln 0).W=[(0,[128,96,0,5,0,0,0,100,0,0,0,50,16,0])]:=by kernel_rfl
def RmR.away {s':RmS} (h:RmR G w R s F) (H:RmR G w' R s' F) (t:qw F w w'):jt (λb=>G.heap.size<=b/\b∉F) w w':=by
 have m:=h.more;have d:=H.more;refine⟨d.os.trans m.os.symm,d.tape.trans m.tape.symm,d.output.trans m.output.symm,t.1,λb J I=> ?_⟩;by_cases e:b<G.heap.size
 ·rw[d.block b e,m.block b e]
 ·exact t.2 b (P0 λc=>I ⟨τ,c⟩)
def Pl.step {s':RmS} (h:Pl G pb (ϊ s) F w) (d:w.heap[pb]? =ϊ (.cells #[γ R] 214 (0,0))) (H:RmR G w' R s' F) (t:qw F w w'):Pl G pb (ϊ s') F w'/\PS pb F w w':=
 ⟨⟨h.1,λb d=>⟨(h.2.1 b d).1,ϗ (h.2.1 b d).2 t.1⟩,H.more,R,H,t.blk h.1 d⟩,t.1,λb d _=>t.2 b d⟩
def tk0:qV 0 tp0:=uQ (c:=cfT) rfl
def tk2:qV 2 tp2:=(tk0.publish 0 7 8 9 ζ).join 0 50 5 100
def tk4:qV 4 tp4:=(tk2.subscribe 0 0 0).arrive (b:=pkU) (Byt.of_all ζ) ζ
def te1:tp0.publish 0 7 8 9=(tp1,0):=V1 rfl tq1
def te2:tp1.join 0 50 5 100=(tp2,0):=V1 rfl tq2
def te3:tp2.subscribe 0 0 0=(tp3,0):=V1 rfl tq3
def te4:tp3.arrive pkU=(tp4,0):=V1 rfl tq4
def do1 (h:Pl G pb (ϊ tp0) F w) (d:g∈F) (ah:g≠pb) (H: ∀i y,([0,7,8,9]:List Int)[i]? =ϊ y->w.cell? ⟨g,i,ϋ⟩=ϊ (ι y)):
  Calls prog 162 #[γ pb,.string ⟨#[112,117,98,108,105,115,104]⟩,δ (ϊ ⟨g,0,ϋ⟩) 4 cap] w λe w'=>e= .returned (.string ⟨#[]⟩)/\Pl G pb (ϊ tp1) F w'/\PS pb F w w':=by
 obtain⟨R,Y,M⟩:=h.room;have ab:=κ h;have I:=κ Y;have aa:=κ M;have ag:w.cell? ⟨pb,0,ϋ⟩=ϊ (π (ϊ ⟨R,0,ϋ⟩)):=qm M 0 rfl;have ac: ∀x:qz (λb=>G.heap.size<=b/\b∉F) w,x.w'.cell? ⟨g,0,ϋ⟩=ϊ (ι 0):=λx=>x.cell (h.lt g d) (λc=>c.2 d) (H 0 _ rfl)
 have ad: ∀x:qz (λb=>G.heap.size<=b/\b∉F) w,x.w'.cell? ⟨g,1,ϋ⟩=ϊ (ι 7):=λx=>x.cell (h.lt g d) (λc=>c.2 d) (H 1 _ rfl)
 have ae: ∀x:qz (λb=>G.heap.size<=b/\b∉F) w,x.w'.cell? ⟨g,2,ϋ⟩=ϊ (ι 8):=λx=>x.cell (h.lt g d) (λc=>c.2 d) (H 2 _ rfl)
 have af: ∀x:qz (λb=>G.heap.size<=b/\b∉F) w,x.w'.cell? ⟨g,3,ϋ⟩=ϊ (ι 9):=λx=>x.cell (h.lt g d) (λc=>c.2 d) (H 3 _ rfl)
 clear h Y M H
 go_enter func162,ntmps162
 go_upto_region 8 with fail
 refine QN (λb=>G.heap.size<=b/\b∉F) w 19 19 [17] ?_
 refine qaz ?_
 (refine Ql ?_;intro K N)
 go_call MU (I.o.on (ql.drewN w 1)) rfl 0 7 8 9 te1 as e w5 ⟨rfl,J,t5⟩;have O:Hid (jt (λb=>G.heap.size<=b/\b∉F) w w5):=κ (((jt.refl _ w).drewN 1).trans ((I.o.on (ql.drewN w 1)).away J t5));refine⟨_,rfl,qi O.o,N _ _ ?_⟩;clear N K
 iterate 1 (refine qE rfl rfl (qi O.o) ?_;intro K N;go_big_quiet_op;go_big_quiet_on)
 refine qA ?_;have U:=κ (ab.o.step aa.o J (qw.trans (I.o.stay (ql.drewN w 1)) t5));clear J t5;go_wp2;go_ret;exact⟨rfl,U.o.1,U.o.2⟩
def do2 (h:Pl G pb (ϊ tp1) F w) (d:g∈F) (ah:g≠pb) (H: ∀i y,([0,50,5,100]:List Int)[i]? =ϊ y->w.cell? ⟨g,i,ϋ⟩=ϊ (ι y)):
  Calls prog 162 #[γ pb,.string ⟨#[106,111,105,110]⟩,δ (ϊ ⟨g,0,ϋ⟩) 4 cap] w λe w'=>e= .returned (.string ⟨#[]⟩)/\Pl G pb (ϊ tp2) F w'/\PS pb F w w':=by
 obtain⟨R,Y,M⟩:=h.room;have ab:=κ h;have I:=κ Y;have aa:=κ M;have ag:w.cell? ⟨pb,0,ϋ⟩=ϊ (π (ϊ ⟨R,0,ϋ⟩)):=qm M 0 rfl;have ac: ∀x:qz (λb=>G.heap.size<=b/\b∉F) w,x.w'.cell? ⟨g,0,ϋ⟩=ϊ (ι 0):=λx=>x.cell (h.lt g d) (λc=>c.2 d) (H 0 _ rfl)
 have ad: ∀x:qz (λb=>G.heap.size<=b/\b∉F) w,x.w'.cell? ⟨g,1,ϋ⟩=ϊ (ι 50):=λx=>x.cell (h.lt g d) (λc=>c.2 d) (H 1 _ rfl)
 have ae: ∀x:qz (λb=>G.heap.size<=b/\b∉F) w,x.w'.cell? ⟨g,2,ϋ⟩=ϊ (ι 5):=λx=>x.cell (h.lt g d) (λc=>c.2 d) (H 2 _ rfl)
 have af: ∀x:qz (λb=>G.heap.size<=b/\b∉F) w,x.w'.cell? ⟨g,3,ϋ⟩=ϊ (ι 100):=λx=>x.cell (h.lt g d) (λc=>c.2 d) (H 3 _ rfl)
 clear h Y M H
 go_enter func162,ntmps162
 go_upto_region 10 with fail
 refine QN (λb=>G.heap.size<=b/\b∉F) w 18 18 [16] ?_
 refine qaA ?_
 (refine Ql ?_;intro K N)
 go_call Me (I.o.on (ql.drewN w 1)) rfl 0 50 5 100 ⟨ζ,ζ⟩ ⟨ζ,ζ⟩ te2 as e w5 ⟨rfl,J,t5⟩;have O:Hid (jt (λb=>G.heap.size<=b/\b∉F) w w5):=κ (((jt.refl _ w).drewN 1).trans ((I.o.on (ql.drewN w 1)).away J t5));refine⟨_,rfl,qi O.o,N _ _ ?_⟩;clear N K
 iterate 1 (refine qE rfl rfl (qi O.o) ?_;intro K N;go_big_quiet_op;go_big_quiet_on)
 refine qA ?_;have U:=κ (ab.o.step aa.o J (qw.trans (I.o.stay (ql.drewN w 1)) t5));clear J t5;go_wp2;go_ret;exact⟨rfl,U.o.1,U.o.2⟩
def do3 (h:Pl d pb (ϊ tp2) F w) (G:g∈F) (ag:g≠pb) (H: ∀i y,([0,0,0]:List Int)[i]? =ϊ y->w.cell? ⟨g,i,ϋ⟩=ϊ (ι y)):
  Calls prog 162 #[γ pb,.string ⟨#[116,97,107,101]⟩,δ (ϊ ⟨g,0,ϋ⟩) 3 cap] w λe w'=>e= .returned (.string ⟨#[]⟩)/\Pl d pb (ϊ tp3) F w'/\PS pb F w w':=by
 obtain⟨R,Y,M⟩:=h.room;have ab:=κ h;have I:=κ Y;have aa:=κ M;have af:w.cell? ⟨pb,0,ϋ⟩=ϊ (π (ϊ ⟨R,0,ϋ⟩)):=qm M 0 rfl;have ac: ∀x:qz (λb=>d.heap.size<=b/\b∉F) w,x.w'.cell? ⟨g,0,ϋ⟩=ϊ (ι 0):=λx=>x.cell (h.lt g G) (λc=>c.2 G) (H 0 _ rfl)
 have ad: ∀x:qz (λb=>d.heap.size<=b/\b∉F) w,x.w'.cell? ⟨g,1,ϋ⟩=ϊ (ι 0):=λx=>x.cell (h.lt g G) (λc=>c.2 G) (H 1 _ rfl)
 have ae: ∀x:qz (λb=>d.heap.size<=b/\b∉F) w,x.w'.cell? ⟨g,2,ϋ⟩=ϊ (ι 0):=λx=>x.cell (h.lt g G) (λc=>c.2 G) (H 2 _ rfl)
 clear h Y M H
 go_enter func162,ntmps162
 go_upto_region 12 with fail
 refine QN (λb=>d.heap.size<=b/\b∉F) w 12 12 [10] ?_
 refine Nx ?_
 (refine Ql ?_;intro K N)
 go_call LQ (I.o.on (ql.drewN w 1)) tk2 ζ 0 0 0 te3 as e w5 ⟨rfl,J,t5⟩;have O:Hid (jt (λb=>d.heap.size<=b/\b∉F) w w5):=κ (((jt.refl _ w).drewN 1).trans ((I.o.on (ql.drewN w 1)).away J t5));refine⟨_,rfl,qi O.o,N _ _ ?_⟩;clear N K
 iterate 1 (refine qE rfl rfl (qi O.o) ?_;intro K N;go_big_quiet_op;go_big_quiet_on)
 refine qA ?_;have U:=κ (ab.o.step aa.o J (qw.trans (I.o.stay (ql.drewN w 1)) t5));clear J t5;go_wp2;go_ret;exact⟨rfl,U.o.1,U.o.2⟩
def TU (w:World):Calls prog 9 #[θ #[ι 2,ι 2,ι 1,ι 1,ι 2,ι 1]] w λe w'=> ∃R,e= .returned (.tuple #[γ R,ι 0])/\RmR w w' R tp0 []/\ql w w':=JN cfT rfl w
def Tn {U:World} (h:Pl U pb ϋ F w) (ae:g∈F) (an:g≠pb) (I: ∀i y,([2,2,1,1,2,1]:List Int)[i]? =ϊ y->w.cell? ⟨g,i,ϋ⟩=ϊ (ι y)):
  Calls prog 215 #[γ pb,δ (ϊ ⟨g,0,ϋ⟩) 6 cap] w λe w'=>e= .returned (ι 0)/\Pl U pb (ϊ tp0) F w'/\PS pb F w w':=by
 have ab:w.heap[pb]? =ϊ (.cells #[π ϋ] 214 (0,0)):=h.2.2.2;have G:=κ h;have ad:=κ ab;have J:=h.lt g ae;have ag: ∀x:qt w,x.w'.cell? ⟨g,0,ϋ⟩=ϊ (ι 2):=λx=>by rw[x.h.cells _ _ J];exact I 0 _ rfl
 have ah: ∀x:qt w,x.w'.cell? ⟨g,1,ϋ⟩=ϊ (ι 2):=λx=>by rw[x.h.cells _ _ J];exact I 1 _ rfl
 have ai: ∀x:qt w,x.w'.cell? ⟨g,2,ϋ⟩=ϊ (ι 1):=λx=>by rw[x.h.cells _ _ J];exact I 2 _ rfl
 have aj: ∀x:qt w,x.w'.cell? ⟨g,3,ϋ⟩=ϊ (ι 1):=λx=>by rw[x.h.cells _ _ J];exact I 3 _ rfl
 have ak: ∀x:qt w,x.w'.cell? ⟨g,4,ϋ⟩=ϊ (ι 2):=λx=>by rw[x.h.cells _ _ J];exact I 4 _ rfl
 have al: ∀x:qt w,x.w'.cell? ⟨g,5,ϋ⟩=ϊ (ι 1):=λx=>by rw[x.h.cells _ _ J];exact I 5 _ rfl
 clear h ab I
 go_enter func215,ntmps215
 go_upto_region 1 with fail
 refine Qn w 26 26 [20] ?_
 refine qaC ?_
 (refine Ql ?_;intro K N)
 go_call TU _ as e w5 ⟨R,rfl,aa,ac⟩;have H:Hid (ql w w5):=κ (((ql.refl w).dr 1).trans ac);refine⟨_,rfl,qk H.o,N _ _ ?_⟩;clear N K
 iterate 5 (refine qE rfl rfl (qk H.o) ?_;intro K N;go_big_quiet_op;go_big_quiet_on)
 refine qA ?_;have Y:Hid (RmR U w5 R tp0 F):=κ ((aa.based (Fn:=F) (G.o.2.2.1.dr 1) (λb d=>G.o.2.1 b d)).sub (λb d=>Θ _ d));have M:=κ (qq H.o ad.o);have ao:=β0 M.o;have am:=yw M.o 0;clear aa ac;go_wp2;go_ret;have a:jt (λb=>b∈[pb]) w5 (w5.setCell ⟨pb,0,ϋ⟩ (γ R)):=(jt.refl _ _).set η _;have O:=G.o.1;refine⟨rfl,⟨O,λb d=>⟨(G.o.2.1 b d).1,ϗ (G.o.2.1 b d).2 (Ϙ H.o.size a.size)⟩,a.to_more Y.o.more (λb d=>by simp at d;subst d;exact(G.o.2.1 _ O).1),R,Y.o.mut (a.mono λb d=>by simp at d;subst d;exact O), ?_⟩,Ϙ H.o.size a.size,λb d af=> ?_⟩
 ·have e:=M.o;simp[World.setCell,F4,e]
 ·rw[a.block b (by have:=G.o.lt b d;have:=H.o.size;omega) (λe=>by simp at e;exact af e),H.o.block b (G.o.lt b d)]
def do0 {I:World} (h:Pl I pb ϋ F w) (O:g∈F) (U:g≠pb) (H: ∀i y,([2,2,1,1,2,1]:List Int)[i]? =ϊ y->w.cell? ⟨g,i,ϋ⟩=ϊ (ι y)):
  Calls prog 162 #[γ pb,.string ⟨#[114,111,111,109]⟩,δ (ϊ ⟨g,0,ϋ⟩) 6 cap] w λe w'=>e= .returned (.string ⟨#[]⟩)/\Pl I pb (ϊ tp0) F w'/\PS pb F w w':=by
 have G:w.heap[pb]? =ϊ (.cells #[π ϋ] 214 (0,0)):=h.2.2.2;have Y:w.cell? ⟨pb,0,ϋ⟩=ϊ (π ϋ):=qm G 0 rfl;have M:=κ (Tn (cap:=cap) h O U H);clear h G H
 go_enter func162,ntmps162
 go_wp2_with ((go_at_call 215;(go_call M.o as e w5 ⟨rfl,d,t5⟩;have J:=κ d;have N:=κ t5;clear d t5)))
 go_ret;exact⟨rfl,J.o,N.o⟩
def qas:uf pkT:=⟨ζ,ζ,ζ,ζ,λi=>by simp[U32,pkT],ζ,xh,Byt.of_all ζ⟩
def tkR:jJ pkT=ό:=by decide
def TK (w:World) (v:Value) (I:SlI .u8 w v [16,0]):Calls prog 37 #[θ #[μ ύ,υ 96,φ 1,ω 9,ω 7,(),ύ,φ 0,(),v]] w λe w'=>(∃v,e= .returned (.tuple #[v,ι 0])/\SlI .u8 w' v pkU)/\ql w w':=
 (gi pkT _ _ _ _ ⟨SlI.nil _ _,SlI.nil _ _,I⟩ qas tkR).mono λe w' ⟨⟨v,G,d⟩,H⟩=>⟨⟨v,G,by rw[tpB] at d;exact SlI.of_owns d ζ⟩,H⟩
def Te (O:g<w.heap.size) (I: ∀i y,([7,1,9]:List Int)[i]? =ϊ y->w.cell? ⟨g,i,ϋ⟩=ϊ (ι y)) (U:SlI .u8 w v [16,0]):
  Calls prog 216 #[δ (ϊ ⟨g,0,ϋ⟩) 3 cap,v] w λe w'=>(∃v',e= .returned v'/\SlI .u8 w' v' pkU)/\ql w w':=by
 have ab: ∀x:qt w,x.w'.cell? ⟨g,0,ϋ⟩=ϊ (ι 7):=λx=>by rw[x.h.cells _ _ O];exact I 0 _ rfl
 have ac: ∀x:qt w,x.w'.cell? ⟨g,1,ϋ⟩=ϊ (ι 1):=λx=>by rw[x.h.cells _ _ O];exact I 1 _ rfl
 have ad: ∀x:qt w,x.w'.cell? ⟨g,2,ϋ⟩=ϊ (ι 9):=λx=>by rw[x.h.cells _ _ O];exact I 2 _ rfl
 have af:=κ U;obtain⟨ak,aj,rfl,_⟩:=id U;clear I U
 go_enter func216,ntmps216
 go_upto_region 1 with fail
 refine Qn w 14 15 [13,14] ?_
 refine qaD ?_
 (refine Ql ?_;intro K G)
 have J:Hid (((w.drewN 1).alloc (.cells #[μ ύ,υ 0,φ 0,ω 0,ω 0] 60)).heap[w.heap.size]? =ϊ (.cells #[μ ύ,υ 0,φ 0,ω 0,ω 0] 60 (0,0))):=κ (qj (w.drewN 1) _);have M:Hid (ql w ((w.drewN 1).alloc (.cells #[μ ύ,υ 0,φ 0,ω 0,ω 0] 60))):=κ (((ql.refl w).dr 1).al _);refine⟨qk M.o,G _ _ ?_⟩;clear G K ab ac ad;refine jR rfl rfl ?_;intro K G;refine xw 60 (.tmp 5) (.tmp 20) rfl w.heap.size 60 _ #[μ ύ,υ 96,φ 1,ω 9,ω 7] J.o rfl rfl ξ rfl W5 ?_;have H:=κ (M.o.row (ϕ _) #[μ ύ,υ 96,φ 1,ω 9,ω 7]);have d:=κ (jM J.o #[μ ύ,υ 96,φ 1,ω 9,ω 7]);refine⟨qk H.o,G _ _ ?_⟩;clear G K;refine qA ?_;obtain⟨ai,N⟩:=ν (((w.drewN 1).alloc (.cells #[μ ύ,υ 0,φ 0,ω 0,ω 0] 60)).setRow w.heap.size #[μ ύ,υ 96,φ 1,ω 9,ω 7]);rw[N] at H d
 (try rw[N])
 clear N J M;have am:=β0 d.o;have an:=β1 d.o;have ao:=β2 d.o;have ap:=β3 d.o;have aq:=β4 d.o;have ae:=κ (TK ai (δ ak 2 aj) (af.o.keep H.o))
 go_wp2_with ((go_at_call 37;(go_call ae.o as e w5 ⟨⟨v5,rfl,aa⟩,Y⟩;have ah:=κ aa;have ag:=κ (H.o.trans Y);clear aa Y)))
 go_ret;exact⟨⟨_,rfl,ah.o⟩,ag.o⟩
def do4 {ac:World} (h:Pl ac pb (ϊ tp3) F w) (aj:g∈F) (am:g≠pb) (O: ∀i y,([7,1,9]:List Int)[i]? =ϊ y->w.cell? ⟨g,i,ϋ⟩=ϊ (ι y)):
  Calls prog 162 #[γ pb,.string ⟨#[107,101,121]⟩,δ (ϊ ⟨g,0,ϋ⟩) 3 cap] w λe w'=>e= .returned (.string ⟨#[]⟩)/\Pl ac pb (ϊ tp4) F w'/\PS pb F w w':=by
 obtain⟨R,N,G⟩:=h.room;have al:w.cell? ⟨pb,0,ϋ⟩=ϊ (π (ϊ ⟨R,0,ϋ⟩)):=qm G 0 rfl;have ag:=κ h;have H:=κ N;have ae:=κ G;have U:=h.lt g aj;have d:=κ (ql.alloc w (.cells #[υ 16,υ 0] 5));have ai:=κ (SlI.lit .u8 w [16,0] 5 #[υ 16,υ 0] 2 w.heap.size rfl rfl rfl η);have af:=κ (Te (cap:=cap) (ϗ U d.o.size) (λi y ak=>by rw[d.o.cells _ _ U];exact O i y ak) ai.o);clear h N G O
 go_enter func162,ntmps162
 go_wp2_with (first | (go_at_call 216;(go_call af.o as e w5 ⟨⟨v5,rfl,aa⟩,Y⟩;have ah:=κ aa;have J:=κ (d.o.trans Y);have ad:=κ (H.o.on J.o);clear aa Y)) | (go_at_call 33;(go_call LC ad.o pkU v5 ah.o (Byt.of_all ζ) ζ (by decide+kernel) te4 as e w6 ⟨rfl,M,ab⟩;have I:=κ (ag.o.step ae.o M ((H.o.stay J.o).trans ab));clear M ab)))
 go_ret;exact⟨rfl,I.o.1,I.o.2⟩
section
open Go.Shelf Go.RowKit
def Ru:Go.Shelf.Ren:=⟨fun | 146=>98 | 221=>156 | 268=>209 | 138=>210 | 143=>211 | 195=>261 | 197=>262 | 218=>263 | 219=>264 | 260=>290 | 217=>291 | 225=>292 | 224=>293 | 267=>294 | 266=>319 | 314=>320 | n=>n,fun | 9=>9 | 31=>215 | 3=>3 | 4=>4 | 0=>0 | 105=>435 | 21=>21 | 5=>5 | 46=>335 | 119=>486 | 139=>489 | 138=>488 | 146=>490 | 51=>38 | n=>n,fun | 1=>0 | 3=>1 | 4=>2 | n=>n⟩
def lays146:Go.Proofs.LaysM.n146 prog Ru:=by
 constructor
 all_goals first | kernel_rfl | (intro w;rfl) | (constructor<;>first | kernel_rfl | (intro w;rfl)) | exact λw h=>Go.Proofs.cell_of_shapedOpen_int (zero:= #[ι 0]) (t:=3) h (ϟ ξ) ξ rfl ξ ξ underlying3
def OC:Go.Shelf.Ren:=⟨fun | 156=>299 | 165=>325 | 166=>100 | 169=>103 | 240=>157 | 241=>335 | 276=>212 | 277=>336 | n=>n,fun | 31=>215 | 9=>9 | 3=>3 | 4=>4 | 0=>0 | 20=>20 | 72=>212 | 76=>220 | 70=>210 | 37=>35 | 75=>219 | 127=>321 | 164=>392 | 5=>5 | 80=>224 | n=>n,fun | n=>n⟩
def OF:Go.Proofs.Lays.n156 prog OC:=by
 constructor
 all_goals first | kernel_rfl | (intro w;rfl)
def Rt:Go.Shelf.Ren:=⟨fun | 171=>159 | 243=>213 | 246=>265 | 283=>295 | 284=>296 | 285=>297 | 286=>298 | 129=>230 | 317=>321 | 318=>322 | 319=>323 | 320=>324 | 337=>333 | 338=>334 | n=>n,fun | 3=>3 | 9=>9 | 2=>2 | 4=>4 | 171=>463 | 0=>0 | 53=>231 | 37=>35 | 5=>5 | 173=>465 | 212=>493 | 51=>38 | 20=>20 | 213=>494 | 46=>335 | 232=>503 | 233=>504 | n=>n,fun | 17=>3 | 18=>4 | 19=>5 | n=>n⟩
def Tl:Go.Proofs.LaysM.n171 prog Rt:=by
 constructor
 all_goals first | kernel_rfl | (intro w;rfl) | (constructor<;>first | kernel_rfl | (intro w;rfl))
def OQ:Nat:=0
def N9:String:=(Rows.topEndsRow.laid.map Prod.fst).getD 2 default
def bldX:Builder.Extra prog OC:={sizeBuilder:=by kernel_rfl,liesBuilder:=by kernel_rfl,t5:=underlying5,a5:=isAgg5,z5:=sizeOf5,v5:=zeroValue5,infoByte:=by kernel_rfl,cellsByte:=by kernel_rfl,sizeByte:=by kernel_rfl,neB5:=by decide}
def So (s d:ByteArray) {G:Int} (w:World) (J:s.size<4294967281) (I:w.cell? ⟨OQ,0,ϋ⟩=ϊ (ι G)) (H:1<=d.size):
  Calls prog 98 #[.string s,.string d] w λe w'=>e= .returned (δ (ϊ ⟨w.heap.size,0,ϋ⟩) (Lib.countB s d+1) (Lib.countB s d+1))/\w'=w.alloc (.cells ((Lib.splitB d 0 (Lib.countB s d) s).map Value.string).toArray 9):=
 Any.strings_Split {lays146 with} ξ s d G w J I H
def Se (w:World) (k:Nat) (os:Array Obj):ql w (Go.Sort.grow (w.drewN k) os):=⟨rfl,rfl,rfl,by simp[Go.Sort.grow,World.drewN],λb d=>by show (w.heap++os)[b]? =_;exact Array.getElem?_append_left d⟩
def Tu (n:Int) (h:0<=n/\n<=1000000000000) (w:World) (d:Lib.TabIs prog w N9 .u64 Lib.pow10Tab):
  Calls prog 159 #[ι n] w λe w'=>e= .returned (.string ⟨(Lib.itoa n).toArray⟩)/\ql w w':=by
 refine(Any.strconv_Itoa Tl n τ τ w d).mono ?_;rintro e w' ⟨rfl,k,os,rfl⟩;exact⟨rfl,Se w k os⟩
def Tt (d o c:Nat) (xs:List ByteArray) (G:ByteArray) (w:World) (J: ∀(j:Nat) x,xs[j]? =ϊ x->w.cell? ⟨d,o+j,ϋ⟩=ϊ (.string x)) (I:d<w.heap.size) (O:xs.length<=1000) (M:xs.length<=c) (H:Lib.join (xs.map (·.data.toList)) G.data.toList=r) (N:r.length<=1000):
  Calls prog 299 #[δ (ϊ ⟨d,o,ϋ⟩) xs.length c,.string G] w λe w'=>e= .returned (.string ⟨r.toArray⟩)/\ql w w':=by
 have h:=Any.strings_Join {OF with} bldX d o c xs G w J I τ M (by rw[H];omega);rw[H] at h;exact h
def Ts (B b:Nat) (l:List UInt8) (w:World) (h:Lib.IsBuilder 212 5 B b (Lib.byteCells l) w) (d:B<=w.heap.size):
  Calls prog 103 #[γ b] w λe w'=>e= .returned (.string ⟨l.toArray⟩)/\Below B w w':=
 Any.Builder_String_any {OF with} bldX B b l w h d
end
def NK (h:Lib.TabIs prog w N9 .u64 Lib.pow10Tab) (m:ql w w'):Lib.TabIs prog w' N9 .u64 Lib.pow10Tab:=Joins.tab_stays (g:=3) ξ h m (ϕ _)
def itB (n:Int):ByteArray:=⟨(Lib.itoa n).toArray⟩
def je.tx {base:Nat} {D:Nat->Prop} (h:je 1 RTx D w base 9 v L) (aa:0<L.length): ∃g cap,v= δ (ϊ ⟨g,0,ϋ⟩) L.length cap/\L.length<=cap/\g<w.heap.size/\ ∀(j:Nat) x,L[j]? =ϊ x->w.cell? ⟨g,0+j,ϋ⟩=ϊ (.string x):=by
 have M:=h.sl ζ;obtain⟨⟨xs,O,r⟩,_⟩:=h;rcases id O.2 with ⟨rfl,U⟩ | ⟨g,cap,cur,rfl,Y,I,H,ab,_⟩
 ·omega
 ·refine⟨g,cap,rfl,H,lt_of_block I,λj x N=> ?_⟩;obtain⟨J,e⟩:=Ϛ.1 N;obtain⟨b,ac,d,G⟩:=M.strs (ql.refl _) j J;injection d with d
  injection d with e3 e4 _
  subst e3 e4;rw[G,e]
def RE (ae:ByteArray) (d:List Int) (g cap:Nat) (w:World) (ai: ∀i y,d[i]? =ϊ y->w.cell? ⟨g,i,ϋ⟩=ϊ (ι y)) (N:g<w.heap.size) (aE:0<d.length) (aO:d.length<=20) (J: ∀n∈d,0<=n/\n<=1000000000000) (am:Lib.TabIs prog w N9 .u64 Lib.pow10Tab)
  (ak:Lib.join (d.map Lib.itoa) ae.data.toList=r) (aD:r.length<=1000):
  Calls prog 268 #[.string ae,δ (ϊ ⟨g,0,ϋ⟩) d.length cap] w λe w'=>e= .returned (.string ⟨r.toArray⟩)/\ql w w':=by
 obtain⟨aK,hi,aF,aG,aH⟩:=info_parts (P:=prog) (e:=9) (z:= .string ByteArray.empty) (size:=1) (bytes:=16) ξ;have av:=κ (λw' (m:ql w w')=>NK am m);have an:Hid (∀wr,ql w wr-> ∀i (hi:i<d.length),wr.cell? ⟨g,i,ϋ⟩=ϊ (ι d[i])):=κ (λwr m i hi=>by rw[m.cells _ _ N];exact ai i _ (ϖ hi));have ar:Hid (∀i (hi:i<d.length),0<=d[i]/\d[i]<=1000000000000):=κ (λi hi=>J _ (ϛ hi));have aq:=κ ak;clear ai J am ak
 go_enter func268,ntmps268
 go_wp2
 go_loopw [5,10] (λu ab wr=> ∃i:Nat,i<=d.length/\ab= ι i/\(∃ad ac U,u= δ ad ac U)/\je 1 RTx (λ_=>False) wr w.heap.size 9 u ((d.take i).map itB)/\ql w wr) (λ_ ab _=>d.length-(intOf ab).toNat)
 case atStart=>exact⟨0,τ,rfl,⟨_,_,_,rfl⟩,je.nil _ _ _ _ _ _,ql.refl _⟩
 case round=>
  obtain⟨i,aP,rfl,⟨ad,ac,U,rfl⟩,J,aj⟩:=hrel;have O:=κ J;have M:=κ aj;clear J aj;by_cases hlt:i<d.length
  ·have aC:(i:Int)<(d.length:Int):=by omega
   have aM:=an.o wr M.o i hlt;have ap:=κ (Tu d[i] (ar.o i hlt) wr (av.o wr M.o));have aw:Hid ((d.take (i+1)).map itB=(d.take i).map itB++[itB d[i]]):=κ (by rw[ϵ hlt,Ξ];rfl);have aQ:((d.take i).map itB).length<=20:=by rw[A6,Ϡ];omega
   generalize d[i]=y at *;generalize (d.take i).map itB=fl at *;have ao:Hid (∀b,(δ ad ac U).ownBlock=ϊ b->w.heap.size<=b):=κ (λb h=>O.o.ge h)
   go_wp2_with (first | (go_at_call 159;(go_call ap.o as e w5 ⟨rfl,H⟩;have I:=κ (M.o.trans H);have ax:=κ ((O.o.on H).on (ql.alloc w5 (.cells #[.string (itB y)] 9)));clear H)) | (at_builtin;(refine jN (R:=RTx) (D:=λ_=>False) _ rfl (.tmp 14) (.tmp 17) 215 rfl w.heap.size 9 aK (.string ByteArray.empty) 1 16 underlying215 hi aF aG aH rfl ζ _ fl rfl ax.o w5.heap.size [.string (itB y)] (itB y) rfl rfl (zS (by simp[itB])) W5 (λw' _=>rfl) (λb h=>h.elim) ζ τ (I.o.al _).size ?_;intro v' w8 G N aB;have aL:Hid (ql w w8):=κ (Below.grown (I.o.al _) N (I.o.al _).size ao.o);obtain⟨aS,aR,aN,rfl,aI,aJ⟩:=G.shape;have ay:=κ G;clear G N aB aI aJ)))
   go_roundw
   case rel=>exact⟨i+1,τ,by go_num,⟨_,_,_,rfl⟩,by rw[aw.o];exact ay.o,aL.o⟩
   case measure=>simp[intOf];omega
  ·obtain rfl:i=d.length:=by omega
   have aC: ¬(d.length:Int)<(d.length:Int):=by omega
   have G:=O.o;rw[ϱ] at G;obtain⟨aA,az,Y,af,ag,ah⟩:=G.tx (by rw[A6];exact aE);have aa:=Tt aA 0 az (d.map itB) ae wr ah ag (by rw[A6];omega) af (r:=r) (by rw[<-aq.o,Q7];rfl) aD;rw[A6] at aa Y;have au:=κ aa;clear aa;rw[Y];clear G Y af ag ah
   go_wp2_with ((go_at_call 299;(go_call au.o as e w5 ⟨rfl,H⟩;have I:=κ (M.o.trans H);clear H)))
   go_ret;exact⟨rfl,I.o⟩
def SH (x:ByteArray) (g cap:Nat) (w:World) (d:w.cell? ⟨g,0,ϋ⟩=ϊ (.string x)) (O:g<w.heap.size) (N:1<=cap) (U:x.data.toList.length<=1000):
  Calls prog 300 #[δ (ϊ ⟨g,0,ϋ⟩) 1 cap] w λe w'=>e= .returned (.string x)/\ql w w':=by
 have G:(⟨x.data.toList.toArray⟩:ByteArray)=x:=by simp
 have J:Hid (Calls prog 299 #[δ (ϊ ⟨g,0,ϋ⟩) 1 cap,.string ⟨#[32]⟩] w λe w'=>e= .returned (.string x)/\ql w w'):=κ (by
  have h:=Tt g 0 cap [x] ⟨#[32]⟩ w (λj y H=>by
   have:j=0:=by
    have:=(Ϛ.1 H).1;simp at this;exact this
   subst this;have:x=y:=by simpa using H
   subst this
   exact d) O η N (r:=x.data.toList) (Lib.join_one _ _) U
  rw[G] at h
  exact h)
 clear d G
 go_enter func300,ntmps300
 go_wp2_with ((go_at_call 299;(go_call J.o as e w5 ⟨rfl,I⟩;have M:=κ I;clear I)))
 go_ret;exact⟨rfl,M.o⟩
def Rh (j:Nat) (h:j<5):tpP (j+1)=((tpP j).pick (wkT.getD j (0,0)) ό).1:=by
 match j,h with
 | 0,_=>rfl
 | 1,_=>rfl
 | 2,_=>rfl
 | 3,_=>rfl
 | 4,_=>rfl
def Sq {j:Nat} (h:j<5):(tpP j).pick ((wkT.getD j (0,0)).1,(wkT.getD j (0,0)).2) ό=(tpP (j+1),ό):=by
 refine V1 (Rh j h).symm ?_;have:=tq6 j h;unfold RmS.pick;rw[ϐ this]
def tkP (j:Nat) (d:j<=5):qV (4+j) (tpP j):=by
 induction j with
 | zero=>exact tk4
 | succ j ih=>
  rw[Rh j τ];exact(ih τ).pick _ _
def Tw {H:World} (h:Pl H pb (ϊ tp4) F w):
  Calls prog 267 #[γ pb,ι 1] w λe w'=>e= .returned (ι 5)/\Pl H pb (ϊ tp5) F w'/\PS pb F w w':=by
 have J:=κ h;clear h
 go_enter func267,ntmps267
 go_wp2
 go_loopw [5,9] (λu I wr=>(I= ι 0/\u= ι 0/\w=wr)∨(I= ι 1/\u= ι 5/\Pl H pb (ϊ tp5) F wr/\PS pb F w wr)) (λ_ I _=>1-(intOf I).toNat)
 case atStart=>exact ϒ ⟨rfl,rfl,rfl⟩
 case round=>
  rcases hrel with ⟨rfl,rfl,rfl⟩ | ⟨rfl,rfl,M,t5⟩
  ·obtain⟨R,ax,au⟩:=J.o.room;have U:w.cell? ⟨pb,0,ϋ⟩=ϊ (π (ϊ ⟨R,0,ϋ⟩)):=qm au 0 rfl;have af:=κ (RZ ax);rw[tq5] at af;clear ax au
   go_wp2_with ((go_at_call 26;(go_call af.o as e w8 ⟨aU,rfl,ak,aC⟩;obtain⟨aT,cap,rfl,aB⟩:=LP ak;have ag:=κ aB;have ah:=κ ak;have aq:=κ aC;clear ak aB aC)))
   obtain⟨d,rfl,_,_⟩:=ag.o.2 _ (ql.refl _) 0 ζ;have az:w.heap.size<=d:=ah.o.ge rfl;have aS:d<w8.heap.size:=ah.o.lt rfl
   have ao:Hid (∀j (ab:j<5),w8.cell? ⟨d,j* 2,ϋ⟩=ϊ (ι (wkT.getD j (0,0)).1)/\w8.cell? ⟨d,j* 2+1,ϋ⟩=ϊ (ι (wkT.getD j (0,0)).2)):=κ (λj ab=>by
    obtain⟨b,e,aO,aP⟩:=ag.o.2 _ (ql.refl _) j ab;injection e with e
    injection e with e _ _
    subst e;have e:wkT.getD j (0,0)=wkT[j]:=by rw[ϑ,ϖ ab];rfl
    rw[e]
    exact⟨aO,aP⟩)
   have am:Hid (Pl H pb (ϊ tp4) ([d]++F) w8):=κ (J.o.adds aq.o (λb G=>by simp at G;subst G;exact⟨az,aS⟩));have aQ:Hid (d≠pb):=κ (λe=>by have:=J.o.lt pb J.o.1;omega);have aM:=κ (J.o.stay aq.o);clear az ag ah af U
   go_loopw [5,17] (λu I aE=> ∃j:Nat,j<=5/\I= ι j/\u= ι j/\Pl H pb (ϊ (tpP j)) ([d]++F) aE/\PS pb ([d]++F) w8 aE) (λ_ I _=>5-(intOf I).toNat)
   case atStart=>exact⟨0,τ,rfl,rfl,am.o,PS.refl⟩
   case round=>
    obtain⟨j,ab,rfl,rfl,aA,aD⟩:=hrel;have Y:=κ aA;have ai:=κ aD;clear aA aD am;by_cases hlt:j<5
    ·have aR:(j:Int)<5:=by omega
     have al:=ai.o.2 d η aQ.o;obtain⟨U,c1⟩:=ao.o j hlt;rw[<-World.cell?_of_block al] at U c1;have ap:=κ (Sq hlt);have aJ:=κ (tkP j τ);have aI:Hid (4+j<=1000):=κ τ;generalize wkT.getD j (0,0)=y at *;obtain⟨ac,ad⟩:=y;simp only at U c1 ap;obtain⟨W1,aj⟩:=ν (wr.alloc (.cells #[ι ac,ι ad] 37));have ar:Hid (ql wr W1):=κ (by rw[<-aj];exact ql.alloc _ _);have N:Hid (W1.heap[wr.heap.size]? =ϊ (.cells #[ι ac,ι ad] 37 (0,0))):=κ (by rw[<-aj];exact qj wr _);have O:Hid (Pl H pb (ϊ (tpP j)) ([wr.heap.size]++([d]++F)) W1):=κ (Y.o.adds ar.o (λb G=>by simp at G;subst G;exact⟨ϕ _,qn N.o⟩));obtain⟨aL,ay,av⟩:=O.o.room;have ae:=κ ay;have an:=κ av;have aK: ∀x:qz (λb=>H.heap.size<=b/\b∉[wr.heap.size]++([d]++F)) W1,x.w'.cell? ⟨pb,0,ϋ⟩=ϊ (π (ϊ ⟨aL,0,ϋ⟩)):=λx=>x.cell (O.o.lt pb O.o.1) (λc=>c.2 O.o.1) (qm an.o 0 rfl)
     have aG: ∀x:qz (λb=>H.heap.size<=b/\b∉[wr.heap.size]++([d]++F)) W1,x.w'.cell? ⟨wr.heap.size,0,ϋ⟩=ϊ (ι ac):=λx=>x.cell (qn N.o) (λc=>c.2 η) (qm N.o 0 rfl)
     have aH: ∀x:qz (λb=>H.heap.size<=b/\b∉[wr.heap.size]++([d]++F)) W1,x.w'.cell? ⟨wr.heap.size,1,ϋ⟩=ϊ (ι ad):=λx=>x.cell (qn N.o) (λc=>c.2 η) (qm N.o 1 rfl)
     clear ay av al ao
     go_upto_region 7 with fail
     clear aj U c1;refine QN (λb=>H.heap.size<=b/\b∉[wr.heap.size]++([d]++F)) W1 6 6 [5] ?_
     refine Qs5 ?_
     clear aK aG aH
     (refine Ql ?_;intro K aw)
     go_call F7 (ae.o.on (ql.drewN W1 1)) aJ.o (qaw aI.o) ac ad ό ap.o as e w5 ⟨rfl,M,t5⟩;have aF:Hid (jt (λb=>H.heap.size<=b/\b∉[wr.heap.size]++([d]++F)) W1 w5):=κ (((jt.refl _ W1).drewN 1).trans ((ae.o.on (ql.drewN W1 1)).away M t5));refine⟨_,rfl,qi aF.o,aw _ _ ?_⟩;clear aw K;refine qA ?_;have aa:=κ (O.o.step an.o M (qw.trans (ae.o.stay (ql.drewN W1 1)) t5));clear M t5;go_wp2;go_roundw
     case rel=>exact⟨j+1,τ,by go_num,by go_num,aa.o.1.sub (λb G=>ϓ _ G) Y.o.1,ai.o.trans ((Y.o.stay ar.o).trans (aa.o.2.sub (λb G=>ϓ _ G)))⟩
     case measure=>simp[intOf];omega
    ·obtain rfl:j=5:=by omega
     have aR: ¬((5:Nat):Int)<5:=by omega
     go_wp2;go_roundw
     case rel=>exact ϔ ⟨by go_num,by go_num,Y.o.sub (λb G=>ϓ _ G) J.o.1,aM.o.trans (ai.o.sub (λb G=>ϓ _ G))⟩
     case measure=>simp[intOf]
  ·have aa:=κ M;have aN:=κ t5;clear M t5;go_wp2;go_ret;exact⟨rfl,aa.o,aN.o⟩
def wrB:List Int:=[128,96,0,5,0,0,0,100,0,0,0,50,16,0]
def TY:Lib.itoa 5=[53]:=by simp[Lib.itoa,Lib.decDigits]
def qat:Lib.join ([0,5,100].map Lib.itoa) [58]=[48,58,53,58,49,48,48]:=by simp[Lib.itoa,Lib.decDigits,Lib.join,List.intercalate]
def rdT:jl wrB=(⟨ύ,96,5,100,50,[],ύ,0,[],[16,0]⟩,0):=by kernel_rfl
def TP (O:SlI .u8 w v wrB):Calls prog 16 #[v] w λe w'=> ∃I J M d G H,e= .returned (.tuple #[θ #[μ ύ,υ 96,φ 5,ω 100,ω 50,δ I 0 d,ύ,φ 0,δ J 0 G,δ M 2 H],ι 0])/\ql w w':=by
 refine(Ky v wrB w O (Byt.of_all ζ) ζ).mono ?_;rintro e w' ⟨U,vb,Y,N,ps,m⟩;rw[rdT] at N ps;obtain⟨⟨I,d,rfl,-⟩,⟨J,G,rfl,-⟩,⟨M,H,rfl,-⟩⟩:=ps;exact⟨I,J,M,d,G,H,N,m⟩
def qak {Y:World} (h:RmR Y w R tp5 F):Calls prog 14 #[γ R,ι 0] w λe w'=> ∃g cap b H d,e= .returned (δ (ϊ ⟨g,0,ϋ⟩) 1 cap)/\w'.cell? ⟨g,0,ϋ⟩=ϊ (ι 0)/\w'.cell? ⟨g,1,ϋ⟩=ϊ (δ (ϊ ⟨b,H,ϋ⟩) 14 d)/\SlI .u8 w' (δ (ϊ ⟨b,H,ϋ⟩) 14 d) wrB/\ql w w':=by
 refine(MO h 0 (by rw[tq7];decide)).mono ?_;rintro e w' ⟨⟨v,rfl,G⟩,m⟩;rw[tq7] at G;have U:=G.sl ζ;obtain⟨ah,cap,rfl,_,N,_⟩:=U;obtain⟨g,H,cs,rfl,ae,ad,J,v,rfl,I,_,_,af,_⟩:=N 0 ζ;obtain⟨⟨xs,⟨_,O⟩,_⟩,_⟩:=id G;rcases O with ⟨e,_⟩ | ⟨g',aa,cur,e,ab,_⟩
 ·cases e
 ·injection e with e1 _ _
  injection e1 with e1
  injection e1 with e1 e2 _
  subst e1 e2;obtain⟨ai,d,rfl,_⟩:=id I;obtain⟨b,M,rfl,ac,ag⟩:=I.addr ζ;exact⟨g,cap,b,M,d,rfl,J 0 ζ,J 1 ζ,I,m⟩
def SY {aH:World} (h:Pl aH pb (ϊ tp5) F w) (aA:Lib.TabIs prog aH N9 .u64 Lib.pow10Tab):
  Calls prog 269 #[γ pb,ι 0] w λe w'=>e= .returned (.string ⟨#[48,58,53,58,49,48,48]⟩)/\ql w w':=by
 obtain⟨aZ,hi,aU,aV,aW⟩:=info_parts (P:=prog) (e:=9) (z:= .string ByteArray.empty) (size:=1) (bytes:=16) ξ;obtain⟨R,aw,av⟩:=h.room;have an:w.cell? ⟨pb,0,ϋ⟩=ϊ (π (ϊ ⟨R,0,ϋ⟩)):=qm av 0 rfl;have aM:=κ (NK aA h.2.2.1);have ai:=κ (qak aw);clear h aw av aA
 go_enter func269,ntmps269
 go_wp2_with ((go_at_call 14;(go_call ai.o as e w8 ⟨g,cap,b,ag,af,rfl,ao,ap,aG,aD⟩;have am:=κ aG;have aj:=κ aD;clear aG aD)))
 go_loopw [5,17] (λu H wr=>(H= ι 0/\u= δ ϋ 0 0/\w8=wr)∨(H= ι 1/\(∃aF ad,u= δ aF 1 ad)/\je 1 RTx (λ_=>False) wr w8.heap.size 9 u [⟨#[48,58,53,58,49,48,48]⟩]/\ql w8 wr)) (λ_ H _=>1-(intOf H).toNat)
 case atStart=>exact ϒ ⟨rfl,rfl,rfl⟩
 case round=>
  rcases hrel with ⟨rfl,rfl,rfl⟩ | ⟨rfl,⟨aF,ad,rfl⟩,az,ay⟩
  ·have ah:=κ (TP (am.o.keep (ql.alloc w8 (.cells #[ι 0,δ (ϊ ⟨b,ag,ϋ⟩) 14 af] 56))))
   go_upto_region 6 with ((go_at_call 16;(go_call ah.o as e w9 ⟨N,O,U,I,J,M,rfl,aE⟩;have ac:=κ aE;clear aE)))
   have G:=qq ac.o (qj w8 (.cells #[ι 0,δ (ϊ ⟨b,ag,ϋ⟩) 14 af] 56));have aa:=qj w9 (.cells #[μ ύ,υ 96,φ 5,ω 100,ω 50,δ N 0 I,ύ,φ 0,δ O 0 J,δ U 2 M] 63);have G:=qs G (.cells #[μ ύ,υ 96,φ 5,ω 100,ω 50,δ N 0 I,ύ,φ 0,δ O 0 J,δ U 2 M] 63);have aP:=κ (((ql.alloc w8 (.cells #[ι 0,δ (ϊ ⟨b,ag,ϋ⟩) 14 af] 56)).trans ac.o).al (.cells #[μ ύ,υ 96,φ 5,ω 100,ω 50,δ N 0 I,ύ,φ 0,δ O 0 J,δ U 2 M] 63));generalize w9.alloc (.cells #[μ ύ,υ 96,φ 5,ω 100,ω 50,δ N 0 I,ύ,φ 0,δ O 0 J,δ U 2 M] 63)=W9 at *;have be:=β0 G;have bf:=β2 aa;have bg:=β3 aa;have Y:=qj W9 (.cells #[ι 0,ι 5,ι 100] 3);have ak:=κ (aP.o.al (.cells #[ι 0,ι 5,ι 100] 3))
   have aL:Hid (Calls prog 268 #[.string ⟨#[58]⟩,δ (ϊ ⟨W9.heap.size,0,ϋ⟩) 3 3] (W9.alloc (.cells #[ι 0,ι 5,ι 100] 3)) λe w'=>e= .returned (.string ⟨#[48,58,53,58,49,48,48]⟩)/\ql (W9.alloc (.cells #[ι 0,ι 5,ι 100] 3)) w'):=κ (RE ⟨#[58]⟩ [0,5,100] W9.heap.size 3 _ (λi y d=>qm Y i (by
    match i,d with
    | 0,d=>simpa using d
    | 1,d=>simpa using d
    | 2,d=>simpa using d)) (qn Y) ζ ζ ζ (NK aM.o (aj.o.trans ak.o)) qat ζ)
   clear G aa Y ao ap ah ac am ai an
   go_wp2_with (first | (go_at_call 268;(go_call aL.o as e w10 ⟨rfl,aB⟩;have ab:=κ (ak.o.trans aB);clear aB)) | (at_builtin;(refine jN (R:=RTx) (D:=λ_=>False) _ rfl (.tmp 27) (.tmp 40) 215 rfl w8.heap.size 9 aZ (.string ByteArray.empty) 1 16 underlying215 hi aU aV aW rfl ζ _ [] rfl (je.nil _ _ _ _ _ _) w10.heap.size [.string ⟨#[48,58,53,58,49,48,48]⟩] ⟨#[48,58,53,58,49,48,48]⟩ rfl rfl (zS η) W5 (λw' _=>rfl) (λb h=>h.elim) ζ ζ (ab.o.al _).size ?_;intro v' bb ae ax aT;have aN:Hid (ql w8 bb):=κ (Below.grown (ab.o.al _) ax (ab.o.al _).size (λb h=>by cases h));obtain⟨bh,ba,bd,rfl,aX,aY⟩:=ae.shape;obtain rfl:ba=1:=aX;have aQ:=κ ae;clear ae ax aT aY)))
   go_roundw
   case rel=>exact ϔ ⟨by go_num,⟨_,_,rfl⟩,aQ.o,aN.o⟩
   case measure=>simp[intOf]
  ·clear an ao ap;have aK:=κ az;have aJ:=κ ay;clear az ay;obtain⟨aS,bc,aR,aq,ar,au⟩:=aK.o.tx ζ;injection aR with e3 e4 e5
   subst e3 e5;have aI:=κ (SH ⟨#[48,58,53,58,49,48,48]⟩ aS ad wr (au 0 _ rfl) ar aq ζ);clear aq ar au e4
   go_wp2_with ((go_at_call 300;(go_call aI.o as e w5 ⟨rfl,aC⟩;have aO:=κ aC;clear aC)))
   go_ret;exact⟨rfl,aj.o.trans (aJ.o.trans aO.o)⟩
def Oq (w:World) (base:Nat) (t u H e:TypeId) (i:TypeInfo) (M:P.underlying t=ϊ (.slice e)) (N:P.underlying u=ϊ .string) (hi:P.info? e=ϊ i) (aa:i.zero=ϊ (υ 0))
  (J:i.size=1) (U:i.bytes=1) (v:Value) (n:Nat) (xs:List Value) (G:w.ownsRow base e 1 v n xs) (s:ByteArray)
  (O:n+s.size<=maxLen) (ab:n+s.size<=140737488355328) (af:base<=w.heap.size):
  ∃v' w',(Builtin.append_ #[t,u] H #[v,.string s]).run P w= .ok v' w'/\w'.ownsRow base e 1 v' (n+s.size) (xs++Lib.strCells s)/\w.grownBy w' v.ownBlock/\(∀g,v'.ownBlock=ϊ g->v.ownBlock=ϊ g∨w.heap.size<=g):=by
 obtain⟨v',w',I,ad,ae,_⟩:=Lib.run_append_own_string (P:=P) w base t u H e i M N hi aa J U v n xs G s O ab af;refine⟨v',w',I,ad,ae,λg Y=> ?_⟩;rcases id G.2 with ⟨rfl,ac⟩ | ⟨b,cap,cur,rfl,aj,ah,am,ak,ag,an⟩
 ·subst ac;obtain rfl:xs=[]:=Ϧ (by simpa using G.1);obtain⟨ao,w2,d,ai,_⟩:=Lib.run_append_own_string (P:=P) w w.heap.size t u H e i M N hi aa J U _ 0 [] (World.ownsRow_nil w _ e 1) s O ab (ϕ _);rw[I] at d;injection d with e1 e2
  subst e1;exact ϔ (jS ai Y)
 ·by_cases hroom:n+s.size<=cap
  ·have al:cur.size=cap:=by simpa using ag
   have d:=Lib.run_append_room_string (P:=P) w t u H e i M N hi J b n cap cur ah s hroom τ;rw[I] at d;injection d with e1 e2
   subst e1;exact ϒ Y
  ·have d:=Lib.run_append_grow_string (P:=P) w t u H e i (υ 0) M N hi aa ⟨b,0,ϋ⟩ n cap xs (by rw[J];simpa using G.1) (G.cells (g:=b) rfl) s τ (by simp only[maxLen] at O;omega) (by rw[U];exact growslice_fits τ τ);rw[I] at d;injection d with e1 e2
   subst e1;refine ϔ (Nat.le_of_eq ?_);injection Y
def Oo {ops:Array Oper} {rest:List Oper} {o:Oper} {a:Act} {Q:Exit->Act->World->Prop} (Y:o.guard=ϋ) (d x:Operand) (t u:TypeId)
  (aa:o.op= .call {callee:= .builtin .append,args:= #[d,x],argTypes:= #[t,u]})
  (base:Nat) (e:TypeId) (i:TypeInfo) (af:P.underlying t=ϊ (.slice e)) (ag:P.underlying u=ϊ .string) (hi:P.info? e=ϊ i) (ai:i.zero=ϊ (υ 0)) (ae:i.size=1) (O:i.bytes=1)
  (v:Value) (n:Nat) (xs:List Value) (ad:a.eval d=v) (ab:w.ownsRow base e 1 v n xs) (s:ByteArray) (ah:a.eval x= .string s)
  (J:n+s.size<=maxLen) (U:n+s.size<=140737488355328) (N:base<=w.heap.size)
  (h: ∀v' w',w'.ownsRow base e 1 v' (n+s.size) (xs++Lib.strCells s)->w.grownBy w' v.ownBlock->(∀g,v'.ownBlock=ϊ g->v.ownBlock=ϊ g∨w.heap.size<=g)->wpList P ops Q rest (a.put o.dst v') w'):wpList P ops Q (o::rest) a w:=by
 refine wpList_plain Y λK M=> ?_
 obtain⟨v',w',ac,G,H,I⟩:=Oq (P:=P) w base t u o.type e i af ag hi ai ae O v n xs ab s J U N;unfold Oper.wp execOp;simp only[aa,resolve,invoke,builtin,Sem.run_bind,Sem.run_pure,Result.andThen_ok,J3,Ϭ,D5,ad,ah,ac];exact M _ _ (h v' w' G H I)
def Bd (B:Nat) (F:List Nat) (w:World) (b:Nat) (l:List UInt8):Prop:=b∈F/\B<=b/\ ∃p v,(p= .pointer ϋ∨p= .pointer (ϊ ⟨b,0,ϋ⟩))/\w.heap[b]? =ϊ (.cells #[p,v] 212 (0,0))/\w.ownsRow B 5 1 v l.length (Lib.byteCells l)/\v.ownBlock≠ϊ b/\ ∀g,v.ownBlock=ϊ g->g∈F
def Bd.is (h:Bd B F w b l):Lib.IsBuilder 212 5 B b (Lib.byteCells l) w:=by
 obtain⟨_,d,p,v,J,G,I,H,_⟩:=h;rcases J with rfl | rfl
 ·exact ϒ ⟨d,v,G,by rw[Lib.byteCells_length];exact I,H⟩
 ·exact ϔ ⟨d,v,G,by rw[Lib.byteCells_length];exact I,H⟩
def Bd.more (h:Bd B F w b l) (t:qw F w w'):Bd B F w' b l:=by
 obtain⟨hF,J,p,v,O,d,N,M,G⟩:=h;refine⟨hF,J,p,v,O,by rw[t.2 b hF];exact d, ?_,M,G⟩;obtain⟨H,I⟩:=N;refine⟨H, ?_⟩;rcases I with h | ⟨g,cap,cur,e1,d,hgg,rest⟩
 ·exact ϒ h
 ·exact ϔ ⟨g,cap,cur,e1,d,by rw[t.2 g (G g (by rw[e1];rfl))];exact hgg,rest⟩
def Ro (h:Bd B F w b l):
  Calls prog 157 #[γ b] w λe w'=>e= .returned (.tuple #[])/\(∃v,w'.heap[b]? =ϊ (.cells #[γ b,v] 212 (0,0))/\w'.ownsRow B 5 1 v l.length (Lib.byteCells l)/\v.ownBlock≠ϊ b/\ ∀g,v.ownBlock=ϊ g->g∈F)/\jt (λx=>x∈F) w w':=by
 have d:=h.is;obtain⟨hF,N,p,v,O,G,J,H,I⟩:=h;rcases d with d | d
 ·refine(Any.Builder_copyCheck_fresh {OF with} bldX.toX72 b w d.cell0 d.shape d.frozen0).mono ?_;rintro e w' ⟨rfl,rfl⟩;refine⟨rfl,⟨v,by simp[World.setCell,F4,G], ?_,H,I⟩,(jt.refl _ _).set hF _⟩;exact J.kept (row:=ϊ b) ⟨rfl,rfl,rfl,by simp[World.setCell],λk _ M=>Below.heap_setCell _ _ _ _ (λe=>M (by simp[e]))⟩ (ϔ H)
 ·refine(Any.Builder_copyCheck_used {OF with} bldX.toX72 b w d.cell0).mono ?_;rintro e w' ⟨rfl,rfl⟩;have e0:=d.cell0;rw[Lib.cell_of_heap G] at e0;injection e0 with e0
  subst e0;exact⟨rfl,⟨v,G,J,H,I⟩,jt.refl _ _⟩
def Sn {v':Value} (hF:b∈F) (I:B<=b) (d:w.heap[b]? =ϊ (.cells #[γ b,v] 212 (0,0))) (H:w.ownsRow B 5 1 v' l.length (Lib.byteCells l)) (J: ∀g,v'.ownBlock=ϊ g->g∈F):
  Bd B F (w.setCell ⟨b,1,ϋ⟩ v') b l:=by
 have G:=Lib.ownBlock_ne H d bldX.neB5;exact⟨hF,I,_,v',ϔ rfl,by simp[World.setCell,F4,d],H.kept (row:=ϊ b) ⟨rfl,rfl,rfl,by simp[World.setCell],λk _ M=>Below.heap_setCell _ _ _ _ (λe=>M (by simp[e]))⟩ (ϔ G),G,J⟩
def qay (h:Bd B F w b l) (s:ByteArray) (aw:l.length+s.size<=100000):
  Calls prog 100 #[γ b,.string s] w λe w'=>e= .returned (.tuple #[ι s.size,.nilIface])/\jt (λx=>x∈F) w w'/\ ∃g,(g∈F∨w.heap.size<=g/\g<w'.heap.size)/\Bd B (g::F) w' b (l++s.data.toList):=by
 obtain⟨ap,hi,am,an,ao⟩:=info_parts (P:=prog) (e:=5) (z:= υ 0) (size:=1) (bytes:=1) ξ;have hF:=h.1;have ae:=h.2.1;have ax:b<w.heap.size:=by obtain⟨_,_,_,_,_,ag,_⟩:=h;exact lt_of_block ag
 have ad:=κ (Ro h);clear h
 go_enter func100,ntmps100
 go_wp2_with (first | (go_at_call 157;(go_call ad.o as e w1 ⟨rfl,⟨v,H,Y,al,O⟩,M⟩;obtain⟨I,J,rfl⟩:=xl Y;have ay:w.heap.size<=w1.heap.size:=M.size;have aq:w1.cell? ⟨b,0,ϋ⟩=ϊ (π (ϊ ⟨b,0,ϋ⟩)):=(by rw[Lib.cell_of_heap H];rfl);have c1:w1.cell? ⟨b,1,ϋ⟩=ϊ (δ I l.length J):=(by rw[Lib.cell_of_heap H];rfl))) | (at_builtin;refine Oo rfl _ _ 35 9 rfl B 5 ap underlying35 underlying9 hi am an ao _ _ _ rfl Y s rfl ?c3 ?c4 ?c5 ?_))
 case c3=>unfold maxLen;omega
 case c4=>omega
 case c5=>omega
 intro v' w2 aa U af;have ak:b<w1.heap.size:=by omega
 have G:w2.heap[b]? =ϊ (.cells #[γ b,δ I l.length J] 212 (0,0)):=by
  rw[U.block b ak (λe=>al e.symm)];exact H
 have ar:w2.cell? ⟨b,0,ϋ⟩=ϊ (π (ϊ ⟨b,0,ϋ⟩)):=by rw[Lib.cell_of_heap G];rfl
 have au:w2.cell? ⟨b,1,ϋ⟩=ϊ (δ I l.length J):=by rw[Lib.cell_of_heap G];rfl
 have av:w2.frozen? ⟨b,1,ϋ⟩=ύ:=Lib.frozen_of_heap G 1;have ac:jt (λx=>x∈F) w w2:=M.trans ((jt.of_grown U).mono λk d=>O k d);obtain⟨g,aj,ah,N,ab,cap,rfl⟩: ∃g,(g∈F∨w.heap.size<=g/\g<w2.heap.size)/\(∀k,v'.ownBlock=ϊ k->k∈g::F)/\ ∃N ab cap,v'= δ N ab cap:=by
  rcases id aa.2 with ⟨rfl,_⟩ | ⟨g,cap,cur,rfl,_,ai,_⟩
  ·exact⟨b,ϒ hF,(λk d=>by cases d),_,_,_,rfl⟩
  ·refine⟨g, ?_,(λk d=>by injection d with d;subst d;exact Ϟ),_,_,_,rfl⟩;rcases af g rfl with e | e
   ·exact ϒ (O g e)
   ·exact ϔ ⟨τ,lt_of_block ai⟩
 go_wp2
 go_ret2
 refine⟨rfl,ac.set hF _,g, ?_,Sn (Ϩ _ hF) ae G ?_ ah⟩
 ·simpa [World.setCell] using aj
 ·rw[Ϗ,Lib.byteCells_append,<-Lib.strCells_eq];exact aa
def qah (h:Bd B F w b l) (aA:l.length<=100000):
  Calls prog 102 #[γ b,υ 10] w λe w'=>e= .returned .nilIface/\jt (λx=>x∈F) w w'/\ ∃g,(g∈F∨w.heap.size<=g/\g<w'.heap.size)/\Bd B (g::F) w' b (l++[10]):=by
 obtain⟨au,hi,ap,aq,ar⟩:=info_parts (P:=prog) (e:=5) (z:= υ 0) (size:=1) (bytes:=1) ξ;have hF:=h.1;have ai:=h.2.1;have aB:b<w.heap.size:=by obtain⟨_,_,_,_,_,ak,_⟩:=h;exact lt_of_block ak
 have ae:=κ (Ro h);have ah: ∀l:List UInt8,Lib.byteCells l=(l.map λc=>(c.toNat:Int)).map (Value.int .u8):=λl=>by unfold Lib.byteCells;rw[Q7];rfl
 clear h
 go_enter func102,ntmps102
 go_wp2_with (first | (go_at_call 157;(go_call ae.o as e w1 ⟨rfl,⟨v,M,N,ao,aa⟩,Y⟩;obtain⟨H,I,rfl⟩:=xl N;have aD:w.heap.size<=w1.heap.size:=Y.size;have av:w1.cell? ⟨b,0,ϋ⟩=ϊ (π (ϊ ⟨b,0,ϋ⟩)):=(by rw[Lib.cell_of_heap M];rfl);have c1:w1.cell? ⟨b,1,ϋ⟩=ϊ (δ H l.length I):=(by rw[Lib.cell_of_heap M];rfl);have ac:w1.ownsRow B 5 1 (δ H l.length I) (l.map λc=>(c.toNat:Int)).length ((l.map λc=>(c.toNat:Int)).map (Value.int .u8)):=(by rw[A6,<-ah];exact N))) | (at_builtin;refine qU _ rfl _ _ 35 rfl B 5 au (υ 0) 1 underlying35 hi ap aq ar rfl _ .u8 (l.map λc=>(c.toNat:Int)) rfl (ac.alloc _) _ [10] rfl (SlI.lit .u8 w1 [10] 5 _ 1 _ η rfl η η) (by simp;omega) ζ (by simp;omega) ?_))
 intro v' w2 O ab aj;have aC:b<w1.heap.size:=by omega
 have G:w2.heap[b]? =ϊ (.cells #[γ b,δ H l.length I] 212 (0,0)):=by
  rw[ab.block b (by simp;omega) (λe=>ao e.symm)];exact qs M _
 have aw:w2.cell? ⟨b,0,ϋ⟩=ϊ (π (ϊ ⟨b,0,ϋ⟩)):=by rw[Lib.cell_of_heap G];rfl
 have ax:w2.cell? ⟨b,1,ϋ⟩=ϊ (δ H l.length I):=by rw[Lib.cell_of_heap G];rfl
 have az:w2.frozen? ⟨b,1,ϋ⟩=ύ:=Lib.frozen_of_heap G 1;have ad:jt (λx=>x∈F) w w2:=(Y.more W4).trans ((jt.of_grown ab).mono λk d=>aa k d);obtain⟨g,an,al,J,U,cap,rfl⟩: ∃g,(g∈F∨w.heap.size<=g/\g<w2.heap.size)/\(∀k,v'.ownBlock=ϊ k->k∈g::F)/\ ∃J U cap,v'= δ J U cap:=by
  rcases id O.2 with ⟨rfl,_⟩ | ⟨g,cap,cur,rfl,_,am,_⟩
  ·exact⟨b,ϒ hF,(λk d=>by cases d),_,_,_,rfl⟩
  ·refine⟨g, ?_,(λk d=>by injection d with d;subst d;exact Ϟ),_,_,_,rfl⟩;rcases aj with e | e
   ·exact ϒ (aa g e.symm)
   ·have ay:g=w1.heap.size+1:=by simpa [Value.ownBlock] using e
    exact ϔ ⟨τ,lt_of_block am⟩
 have af:Hid (w2.ownsRow B 5 1 (δ J U cap) (l++[10]).length (Lib.byteCells (l++[10]))):=κ (by
  have ag:Lib.byteCells (l++[10])=List.map (Value.int .u8∘λc:UInt8=>(c.toNat:Int)) l++[υ 10]:=by unfold Lib.byteCells;rw[Ξ];rfl
  rw[Ϗ,ag]
  exact O)
 clear O N ac;go_wp2;go_ret;refine⟨rfl,ad.set hF _,g, ?_,Sn (Ϩ _ hF) ai G ?_ al⟩
 ·simpa [World.setCell] using an
 ·exact af.o
structure Om (s:ByteArray) (ps:List ByteArray):Prop where
 split:Lib.splitB ⟨#[32]⟩ 0 (Lib.countB s ⟨#[32]⟩) s=ps
 cnt:Lib.countB s ⟨#[32]⟩+1=ps.length
 few:ps.length<=100
 size:s.size<4294967281
 ne: ∀x∈ps,(x.data.toList==([]:List UInt8))=ύ
def Sh {s:ByteArray} {ps:List ByteArray} (h:Om s ps) {aC:Int} (w:World) (au:w.cell? ⟨OQ,0,ϋ⟩=ϊ (ι aC)):
  Calls prog 99 #[.string s] w λe w'=>(∃H cap,e= .returned (δ H ps.length cap)/\SlP 1 RTx w' (δ H ps.length cap) ps)/\ql w w':=by
 obtain⟨aA,hi,av,aw,ax⟩:=info_parts (P:=prog) (e:=9) (z:= .string ByteArray.empty) (size:=1) (bytes:=16) ξ;obtain⟨ab,ac,aF,ad,ae⟩:=h;have aa:=κ (So s ⟨#[32]⟩ w ad au ζ);rw[ab,ac] at aa;have ak:Hid (∀i (hi:i<ps.length),(ps[i].toList==([]:List UInt8))=ύ):=κ (λi hi=>by rw[ByteArray.toList_eq];exact ae _ (ϛ hi));clear ab ac ad ae
 go_enter func99,ntmps99
 go_wp2_with ((go_at_call 98;(go_call aa.o as e w1 ⟨rfl,M⟩;have ao:Hid (ql w w1):=κ (by rw[M];exact ql.alloc _ _);have ai:Hid (w1.heap[w.heap.size]? =ϊ (.cells (ps.map Value.string).toArray 9 (0,0))):=κ (by rw[M];exact qj _ _);clear M)))
 go_loopw [3,9] (λu O wr=> ∃i:Nat,i<=ps.length/\O= ι i/\(∃Y U J,u= δ Y U J)/\je 1 RTx (λ_=>False) wr w1.heap.size 9 u (ps.take i)/\ql w1 wr) (λ_ O _=>ps.length-(intOf O).toNat)
 case atStart=>exact⟨0,τ,rfl,⟨_,_,_,rfl⟩,je.nil _ _ _ _ _ _,ql.refl _⟩
 case round=>
  obtain⟨i,aG,rfl,⟨Y,U,J,rfl⟩,ah,ag⟩:=hrel;have I:=κ ah;have G:=κ ag;clear ah ag;by_cases hlt:i<ps.length
  ·have ar:(i:Int)<(ps.length:Int):=by omega
   have aD:wr.cell? ⟨w.heap.size,i,ϋ⟩=ϊ (.string ps[i]):=qm (qq G.o ai.o) i (by simp[ϖ hlt]);have aH:=ak.o i hlt;have an:Hid (ps.take (i+1)=ps.take i++[ps[i]]):=κ (ϵ hlt);have aI:(ps.take i).length<=100:=by rw[Ϡ];omega
   generalize ps[i]=x at *;generalize ps.take i=fl at *;have am:=κ (I.o.on (ql.alloc wr (.cells #[.string x] 9)));have aj:Hid (∀b,(δ Y U J).ownBlock=ϊ b->w1.heap.size<=b):=κ (λb h=>I.o.ge h)
   go_wp2_with (at_builtin;(refine jN (R:=RTx) (D:=λ_=>False) _ rfl (.tmp 15) (.tmp 17) 215 rfl w1.heap.size 9 aA (.string ByteArray.empty) 1 16 underlying215 hi av aw ax rfl ζ _ fl rfl am.o wr.heap.size [.string x] x rfl rfl (zS η) W5 (λw' _=>rfl) (λb h=>h.elim) ζ τ (G.o.al _).size ?_;intro v' w8 d af aq;have aB:Hid (ql w1 w8):=κ (Below.grown (G.o.al _) af (G.o.al _).size aj.o);obtain⟨aK,aJ,aE,rfl,ay,az⟩:=d.shape;have ap:=κ d;clear d af aq ay az))
   go_roundw
   case rel=>exact⟨i+1,τ,by go_num,⟨_,_,_,rfl⟩,by rw[an.o];exact ap.o,aB.o⟩
   case measure=>simp[intOf];omega
  ·obtain rfl:i=ps.length:=by omega
   have ar: ¬(ps.length:Int)<(ps.length:Int):=by omega
   go_wp2;go_ret;have d:=I.o;rw[ϱ] at d;have N:=d.sl ζ;obtain⟨H,cap,e,_⟩:=id N;rw[e] at N ⊢;exact⟨⟨H,cap,rfl,N⟩,ao.o.trans G.o⟩
def scT:ByteArray:=⟨#[114,111,111,109,32,50,32,50,32,49,32,49,32,50,32,49,10,112,117,98,108,105,115,104,32,48,32,55,32,56,32,57,10,106,111,105,110,32,48,32,53,48,32,53,32,49,48,48,10,116,97,107,101,32,48,32,48,32,48,10,107,101,121,32,55,32,49,32,57,10,116,117,114,110,32,49,10,119,114,111,116,101,32,48]⟩
def scL:List ByteArray:=[⟨#[114,111,111,109,32,50,32,50,32,49,32,49,32,50,32,49]⟩,⟨#[112,117,98,108,105,115,104,32,48,32,55,32,56,32,57]⟩,⟨#[106,111,105,110,32,48,32,53,48,32,53,32,49,48,48]⟩,⟨#[116,97,107,101,32,48,32,48,32,48]⟩,⟨#[107,101,121,32,55,32,49,32,57]⟩,⟨#[116,117,114,110,32,49]⟩,⟨#[119,114,111,116,101,32,48]⟩]
def scS:Lib.splitB ⟨#[10]⟩ 0 (Lib.countB scT ⟨#[10]⟩) scT=scL:=by kernel_rfl
def scC:Lib.countB scT ⟨#[10]⟩=6:=by kernel_rfl
def qag (w:World):Calls prog 161 #[.string ⟨#[114,111,111,109]⟩] w λe w'=>e= .returned (.string ⟨#[110,110,110,110,110,110]⟩)/\w'=w:=by
 go_enter func161,ntmps161
 go_wp2;go_ret;exact⟨rfl,rfl⟩
def TH:Om ⟨#[114,111,111,109,32,50,32,50,32,49,32,49,32,50,32,49]⟩ [⟨#[114,111,111,109]⟩,⟨#[50]⟩,⟨#[50]⟩,⟨#[49]⟩,⟨#[49]⟩,⟨#[50]⟩,⟨#[49]⟩]:=⟨ξ,ξ,ζ,ζ,ζ⟩
def qar:Ol ⟨#[110,110,110,110,110,110]⟩ [⟨#[50]⟩,⟨#[50]⟩,⟨#[49]⟩,⟨#[49]⟩,⟨#[50]⟩,⟨#[49]⟩] [2,2,1,1,2,1]:=⟨rfl,ζ,ζ,rfl,λi h d G=>by
 match i,h with
 | 0,_=>exact(⟨ζ,ζ,ζ,ζ,ζ⟩:NH ⟨#[50]⟩ 999999999 2)
 | 1,_=>exact(⟨ζ,ζ,ζ,ζ,ζ⟩:NH ⟨#[50]⟩ 999999999 2)
 | 2,_=>exact(⟨ζ,ζ,ζ,ζ,ζ⟩:NH ⟨#[49]⟩ 999999999 1)
 | 3,_=>exact(⟨ζ,ζ,ζ,ζ,ζ⟩:NH ⟨#[49]⟩ 999999999 1)
 | 4,_=>exact(⟨ζ,ζ,ζ,ζ,ζ⟩:NH ⟨#[50]⟩ 999999999 2)
 | 5,_=>exact(⟨ζ,ζ,ζ,ζ,ζ⟩:NH ⟨#[49]⟩ 999999999 1)⟩
def qaf (w:World):Calls prog 161 #[.string ⟨#[112,117,98,108,105,115,104]⟩] w λe w'=>e= .returned (.string ⟨#[110,110,110,110]⟩)/\w'=w:=by
 go_enter func161,ntmps161
 go_wp2;go_ret;exact⟨rfl,rfl⟩
def TG:Om ⟨#[112,117,98,108,105,115,104,32,48,32,55,32,56,32,57]⟩ [⟨#[112,117,98,108,105,115,104]⟩,⟨#[48]⟩,⟨#[55]⟩,⟨#[56]⟩,⟨#[57]⟩]:=⟨ξ,ξ,ζ,ζ,ζ⟩
def qaq:Ol ⟨#[110,110,110,110]⟩ [⟨#[48]⟩,⟨#[55]⟩,⟨#[56]⟩,⟨#[57]⟩] [0,7,8,9]:=⟨rfl,ζ,ζ,rfl,λi h d G=>by
 match i,h with
 | 0,_=>exact(⟨ζ,ζ,ζ,ζ,ζ⟩:NH ⟨#[48]⟩ 999999999 0)
 | 1,_=>exact(⟨ζ,ζ,ζ,ζ,ζ⟩:NH ⟨#[55]⟩ 999999999 7)
 | 2,_=>exact(⟨ζ,ζ,ζ,ζ,ζ⟩:NH ⟨#[56]⟩ 999999999 8)
 | 3,_=>exact(⟨ζ,ζ,ζ,ζ,ζ⟩:NH ⟨#[57]⟩ 999999999 9)⟩
def qae (w:World):Calls prog 161 #[.string ⟨#[106,111,105,110]⟩] w λe w'=>e= .returned (.string ⟨#[110,110,115,110]⟩)/\w'=w:=by
 go_enter func161,ntmps161
 go_wp2;go_ret;exact⟨rfl,rfl⟩
def TE:Om ⟨#[106,111,105,110,32,48,32,53,48,32,53,32,49,48,48]⟩ [⟨#[106,111,105,110]⟩,⟨#[48]⟩,⟨#[53,48]⟩,⟨#[53]⟩,⟨#[49,48,48]⟩]:=⟨ξ,ξ,ζ,ζ,ζ⟩
def qap:Ol ⟨#[110,110,115,110]⟩ [⟨#[48]⟩,⟨#[53,48]⟩,⟨#[53]⟩,⟨#[49,48,48]⟩] [0,50,5,100]:=⟨rfl,ζ,ζ,rfl,λi h d G=>by
 match i,h with
 | 0,_=>exact(⟨ζ,ζ,ζ,ζ,ζ⟩:NH ⟨#[48]⟩ 999999999 0)
 | 1,_=>exact(⟨ζ,ζ,ζ,ζ,ζ⟩:NH ⟨#[53,48]⟩ 999999999 50)
 | 2,_=>exact(⟨ζ,ζ,ζ,ζ,ζ⟩:NH ⟨#[53]⟩ 65535 5)
 | 3,_=>exact(⟨ζ,ζ,ζ,ζ,ζ⟩:NH ⟨#[49,48,48]⟩ 999999999 100)⟩
def qad (w:World):Calls prog 161 #[.string ⟨#[116,97,107,101]⟩] w λe w'=>e= .returned (.string ⟨#[110,110,110]⟩)/\w'=w:=by
 go_enter func161,ntmps161
 go_wp2;go_ret;exact⟨rfl,rfl⟩
def TC:Om ⟨#[116,97,107,101,32,48,32,48,32,48]⟩ [⟨#[116,97,107,101]⟩,⟨#[48]⟩,⟨#[48]⟩,⟨#[48]⟩]:=⟨ξ,ξ,ζ,ζ,ζ⟩
def qao:Ol ⟨#[110,110,110]⟩ [⟨#[48]⟩,⟨#[48]⟩,⟨#[48]⟩] [0,0,0]:=⟨rfl,ζ,ζ,rfl,λi h d G=>by
 match i,h with
 | 0,_=>exact(⟨ζ,ζ,ζ,ζ,ζ⟩:NH ⟨#[48]⟩ 999999999 0)
 | 1,_=>exact(⟨ζ,ζ,ζ,ζ,ζ⟩:NH ⟨#[48]⟩ 999999999 0)
 | 2,_=>exact(⟨ζ,ζ,ζ,ζ,ζ⟩:NH ⟨#[48]⟩ 999999999 0)⟩
def qac (w:World):Calls prog 161 #[.string ⟨#[107,101,121]⟩] w λe w'=>e= .returned (.string ⟨#[110,115,110]⟩)/\w'=w:=by
 go_enter func161,ntmps161
 go_wp2;go_ret;exact⟨rfl,rfl⟩
def TB:Om ⟨#[107,101,121,32,55,32,49,32,57]⟩ [⟨#[107,101,121]⟩,⟨#[55]⟩,⟨#[49]⟩,⟨#[57]⟩]:=⟨ξ,ξ,ζ,ζ,ζ⟩
def qan:Ol ⟨#[110,115,110]⟩ [⟨#[55]⟩,⟨#[49]⟩,⟨#[57]⟩] [7,1,9]:=⟨rfl,ζ,ζ,rfl,λi h d G=>by
 match i,h with
 | 0,_=>exact(⟨ζ,ζ,ζ,ζ,ζ⟩:NH ⟨#[55]⟩ 999999999 7)
 | 1,_=>exact(⟨ζ,ζ,ζ,ζ,ζ⟩:NH ⟨#[49]⟩ 65535 1)
 | 2,_=>exact(⟨ζ,ζ,ζ,ζ,ζ⟩:NH ⟨#[57]⟩ 999999999 9)⟩
def qab (w:World):Calls prog 161 #[.string ⟨#[116,117,114,110]⟩] w λe w'=>e= .returned (.string ⟨#[116]⟩)/\w'=w:=by
 go_enter func161,ntmps161
 go_wp2;go_ret;exact⟨rfl,rfl⟩
def Tz:Om ⟨#[116,117,114,110,32,49]⟩ [⟨#[116,117,114,110]⟩,⟨#[49]⟩]:=⟨ξ,ξ,ζ,ζ,ζ⟩
def qam:Ol ⟨#[116]⟩ [⟨#[49]⟩] [1]:=⟨rfl,ζ,ζ,rfl,λi h d G=>by
 match i,h with
 | 0,_=>exact(⟨ζ,ζ,ζ,ζ,ζ⟩:NH ⟨#[49]⟩ 20 1)⟩
def qaa (w:World):Calls prog 161 #[.string ⟨#[119,114,111,116,101]⟩] w λe w'=>e= .returned (.string ⟨#[110]⟩)/\w'=w:=by
 go_enter func161,ntmps161
 go_wp2;go_ret;exact⟨rfl,rfl⟩
def Ty:Om ⟨#[119,114,111,116,101,32,48]⟩ [⟨#[119,114,111,116,101]⟩,⟨#[48]⟩]:=⟨ξ,ξ,ζ,ζ,ζ⟩
def qal:Ol ⟨#[110]⟩ [⟨#[48]⟩] [0]:=⟨rfl,ζ,ζ,rfl,λi h d G=>by
 match i,h with
 | 0,_=>exact(⟨ζ,ζ,ζ,ζ,ζ⟩:NH ⟨#[48]⟩ 999999999 0)⟩
def TO {H:World} (h:Pl H pb (ϊ tp4) F w) (ac:Lib.TabIs prog H N9 .u64 Lib.pow10Tab) (N: ∀i y,([1]:List Int)[i]? =ϊ y->w.cell? ⟨g,i,ϋ⟩=ϊ (ι y)):
  Calls prog 218 #[γ pb,.string ⟨#[116,117,114,110]⟩,δ (ϊ ⟨g,0,ϋ⟩) 1 cap] w λe w'=>e= .returned (.string ⟨#[53]⟩)/\Pl H pb (ϊ tp5) F w'/\PS pb F w w':=by
 obtain⟨R,ab,M⟩:=h.room;have ad:w.cell? ⟨pb,0,ϋ⟩=ϊ (π (ϊ ⟨R,0,ϋ⟩)):=qm M 0 rfl;have c1:=N 0 1 rfl;have O:=κ (Tw h);clear h ab M N
 go_enter func218,ntmps218
 go_wp2_with (first | (go_at_call 267;(go_call O.o as e w5 ⟨rfl,d,t5⟩;have I:=κ d;have Y:=κ t5;have J:=κ (Tu 5 ζ w5 (NK ac d.2.2.1));rw[TY] at J;clear d t5)) | (go_at_call 159;(go_call J.o as e w6 ⟨rfl,G⟩;have U:=κ (I.o.on G);have aa:=κ (Y.o.trans (I.o.stay G));clear G)))
 go_ret;exact⟨rfl,U.o,aa.o⟩
def do5 (h:Pl d pb (ϊ tp4) F w) (U:Lib.TabIs prog d N9 .u64 Lib.pow10Tab) (I: ∀i y,([1]:List Int)[i]? =ϊ y->w.cell? ⟨g,i,ϋ⟩=ϊ (ι y)):
  Calls prog 162 #[γ pb,.string ⟨#[116,117,114,110]⟩,δ (ϊ ⟨g,0,ϋ⟩) 1 cap] w λe w'=>e= .returned (.string ⟨#[53]⟩)/\Pl d pb (ϊ tp5) F w'/\PS pb F w w':=by
 obtain⟨R,O,H⟩:=h.room;have Y:w.cell? ⟨pb,0,ϋ⟩=ϊ (π (ϊ ⟨R,0,ϋ⟩)):=qm H 0 rfl;have J:=κ (TO (cap:=cap) h U I);clear h O H I
 go_enter func162,ntmps162
 go_wp2_with ((go_at_call 218;(go_call J.o as e w5 ⟨rfl,G,t5⟩;have M:=κ G;have N:=κ t5;clear G t5)))
 go_ret;exact⟨rfl,M.o,N.o⟩
def TN (h:Pl G pb (ϊ tp5) F w) (Y:Lib.TabIs prog G N9 .u64 Lib.pow10Tab) (J: ∀i y,([0]:List Int)[i]? =ϊ y->w.cell? ⟨g,i,ϋ⟩=ϊ (ι y)):
  Calls prog 218 #[γ pb,.string ⟨#[119,114,111,116,101]⟩,δ (ϊ ⟨g,0,ϋ⟩) 1 cap] w λe w'=>e= .returned (.string ⟨#[48,58,53,58,49,48,48]⟩)/\Pl G pb (ϊ tp5) F w'/\PS pb F w w':=by
 obtain⟨R,U,I⟩:=h.room;have aa:w.cell? ⟨pb,0,ϋ⟩=ϊ (π (ϊ ⟨R,0,ϋ⟩)):=qm I 0 rfl;have c1:=J 0 0 rfl;have M:=κ (SY h Y);have H:=κ h;clear h U I J
 go_enter func218,ntmps218
 go_wp2_with ((go_at_call 269;(go_call M.o as e w5 ⟨rfl,d⟩;have N:=κ (H.o.on d);have O:=κ (H.o.stay d);clear d)))
 go_ret;exact⟨rfl,N.o,O.o⟩
def do6 (h:Pl d pb (ϊ tp5) F w) (U:Lib.TabIs prog d N9 .u64 Lib.pow10Tab) (I: ∀i y,([0]:List Int)[i]? =ϊ y->w.cell? ⟨g,i,ϋ⟩=ϊ (ι y)):
  Calls prog 162 #[γ pb,.string ⟨#[119,114,111,116,101]⟩,δ (ϊ ⟨g,0,ϋ⟩) 1 cap] w λe w'=>e= .returned (.string ⟨#[48,58,53,58,49,48,48]⟩)/\Pl d pb (ϊ tp5) F w'/\PS pb F w w':=by
 obtain⟨R,O,H⟩:=h.room;have Y:w.cell? ⟨pb,0,ϋ⟩=ϊ (π (ϊ ⟨R,0,ϋ⟩)):=qm H 0 rfl;have J:=κ (TN (cap:=cap) h U I);clear h O H I
 go_enter func162,ntmps162
 go_wp2_with ((go_at_call 218;(go_call J.o as e w5 ⟨rfl,G,t5⟩;have M:=κ G;have N:=κ t5;clear G t5)))
 go_ret;exact⟨rfl,M.o,N.o⟩
def SW:Nat->ByteArray
 | 0=>⟨#[114,111,111,109,32,50,32,50,32,49,32,49,32,50,32,49]⟩
 | 1=>⟨#[112,117,98,108,105,115,104,32,48,32,55,32,56,32,57]⟩
 | 2=>⟨#[106,111,105,110,32,48,32,53,48,32,53,32,49,48,48]⟩
 | 3=>⟨#[116,97,107,101,32,48,32,48,32,48]⟩
 | 4=>⟨#[107,101,121,32,55,32,49,32,57]⟩
 | 5=>⟨#[116,117,114,110,32,49]⟩
 | _=>⟨#[119,114,111,116,101,32,48]⟩
def RT:Nat->List ByteArray
 | 0=>[⟨#[114,111,111,109]⟩,⟨#[50]⟩,⟨#[50]⟩,⟨#[49]⟩,⟨#[49]⟩,⟨#[50]⟩,⟨#[49]⟩]
 | 1=>[⟨#[112,117,98,108,105,115,104]⟩,⟨#[48]⟩,⟨#[55]⟩,⟨#[56]⟩,⟨#[57]⟩]
 | 2=>[⟨#[106,111,105,110]⟩,⟨#[48]⟩,⟨#[53,48]⟩,⟨#[53]⟩,⟨#[49,48,48]⟩]
 | 3=>[⟨#[116,97,107,101]⟩,⟨#[48]⟩,⟨#[48]⟩,⟨#[48]⟩]
 | 4=>[⟨#[107,101,121]⟩,⟨#[55]⟩,⟨#[49]⟩,⟨#[57]⟩]
 | 5=>[⟨#[116,117,114,110]⟩,⟨#[49]⟩]
 | _=>[⟨#[119,114,111,116,101]⟩,⟨#[48]⟩]
def RV:Nat->List UInt8
 | 0=>[111,107]
 | 1=>[111,107]
 | 2=>[111,107]
 | 3=>[111,107]
 | 4=>[111,107]
 | 5=>[111,107,32,53]
 | _=>[111,107,32,48,58,53,58,49,48,48]
def scR:Nat->Option RmS
 | 0=>ϋ
 | 1=>ϊ tp0
 | 2=>ϊ tp1
 | 3=>ϊ tp2
 | 4=>ϊ tp3
 | 5=>ϊ tp4
 | 6=>ϊ tp5
 | _=>ϊ tp5
def Oj (j:Nat):List UInt8:=(List.range j).flatMap λk=>RV k++[10]
def RD (j:Nat):Oj (j+1)=Oj j++RV j++[10]:=by
 unfold Oj;rw[Q8,N6];simp
def R6: ∀j,j<7->(Oj j).length<=100/\(RV j).length<=20:=by decide
def Tx: ∀j,j<7->Om (SW j) (RT j)
 | 0,_=>TH
 | 1,_=>TG
 | 2,_=>TE
 | 3,_=>TC
 | 4,_=>TB
 | 5,_=>Tz
 | 6,_=>Ty
def Sp: ∀j,j<7->0<(RT j).length:=by decide
def TI {M:World} (N:Lib.TabIs prog M N9 .u64 Lib.pow10Tab): ∀j,j<7-> ∀(F:List Nat) (w:World) (c J cap:Nat),Pl M pb (scR j) F w->SlP 1 RTx w (δ (ϊ ⟨c,J,ϋ⟩) (RT j).length cap) (RT j)->
  Calls prog 101 #[γ pb,δ (ϊ ⟨c,J,ϋ⟩) (RT j).length cap] w λe w'=>e= .returned (.string ⟨(RV j).toArray⟩)/\Pl M pb (scR (j+1)) F w'/\PS pb F w w'
 | 0,_=>λF w c J cap h G=>NL (more:=[]) h G qag qar (by rw[ByteArray.toList_eq];decide) ζ (λF w g cap h H I d=>do0 h H I d)
 | 1,_=>λF w c J cap h G=>NL (more:=[]) h G qaf qaq (by rw[ByteArray.toList_eq];decide) ζ (λF w g cap h H I d=>do1 h H I d)
 | 2,_=>λF w c J cap h G=>NL (more:=[]) h G qae qap (by rw[ByteArray.toList_eq];decide) ζ (λF w g cap h H I d=>do2 h H I d)
 | 3,_=>λF w c J cap h G=>NL (more:=[]) h G qad qao (by rw[ByteArray.toList_eq];decide) ζ (λF w g cap h H I d=>do3 h H I d)
 | 4,_=>λF w c J cap h G=>NL (more:=[]) h G qac qan (by rw[ByteArray.toList_eq];decide) ζ (λF w g cap h H I d=>do4 h H I d)
 | 5,_=>λF w c J cap h G=>NL (more:=[53]) h G qab qam (by rw[ByteArray.toList_eq];decide) ζ (λF w g cap h H I d=>do5 h N d)
 | 6,_=>λF w c J cap h G=>NL (more:=[48,58,53,58,49,48,48]) h G qaa qal (by rw[ByteArray.toList_eq];decide) ζ (λF w g cap h H I d=>do6 h N d)
def St: ∀j,j<7->(scL.map Value.string).toArray[j]? =ϊ (.string (SW j)):=by
 intro j d
 match j,d with
 | 0,_=>rfl
 | 1,_=>rfl
 | 2,_=>rfl
 | 3,_=>rfl
 | 4,_=>rfl
 | 5,_=>rfl
 | 6,_=>rfl
def scOut:List UInt8:=[111,107,10,111,107,10,111,107,10,111,107,10,111,107,10,111,107,32,53,10,111,107,32,48,58,53,58,49,48,48,10]
def TM:Oj 7=scOut:=by decide
def qai {aX:Int} (w:World) (ar:w.cell? ⟨OQ,0,ϋ⟩=ϊ (ι aX)) (aT:Lib.TabIs prog w N9 .u64 Lib.pow10Tab):
  Calls prog 39 #[.string scT] w λe w'=>e= .returned (.tuple #[.string ⟨scOut.toArray⟩,ι 0])/\ql w w':=by
 have bA:(scT.size:Int)=84:=by decide
 have aR:OQ<w.heap.size:=(Gb ar).2;obtain⟨W1,ap⟩:=ν (w.alloc (.cells #[π ϋ,()] 212));obtain⟨W2,aq⟩:=ν (W1.alloc (.cells #[π ϋ] 214));have aj:ql w W1:=by rw[<-ap];exact ql.alloc _ _
 have O:ql W1 W2:=by rw[<-aq];exact ql.alloc _ _
 have au:W1.heap.size=w.heap.size+1:=by rw[<-ap];simp
 have aS:W2.heap.size=w.heap.size+2:=by rw[<-aq];simp[au]
 have aF:=κ (λw' (m:ql w w')=>show w'.cell? ⟨OQ,0,ϋ⟩=ϊ (ι aX) from by rw[m.cells _ _ aR];exact ar);have ai:=κ (So scT ⟨#[10]⟩ W2 ζ (aF.o _ (aj.trans O)) ζ);rw[scS,scC] at ai;have bh:=κ aT;have aA:Hid (W2.heap[w.heap.size]? =ϊ (.cells #[π ϋ,()] 212 (0,0))):=κ (qq O (by rw[<-ap];exact qj _ _));have aB:Hid (W2.heap[W1.heap.size]? =ϊ (.cells #[π ϋ] 214 (0,0))):=κ (by rw[<-aq];exact qj _ _);have bk:=κ (aj.trans O);have aG:=κ au;have aH:=κ aS;clear ar aT aR aj O au aS
 go_enter func39,ntmps39
 go_wp2_with ((go_at_call 98;(go_call ai.o as e J ⟨rfl,ab⟩;have ak:Hid (ql W2 J):=κ (by rw[ab];exact ql.alloc _ _);have I:Hid (J.heap[W2.heap.size]? =ϊ (.cells (scL.map Value.string).toArray 9 (0,0))):=κ (by rw[ab];exact qj _ _);clear ab)))
 have br:=aG.o;have bs:=aH.o;have bt:=qn I.o;have aO:Hid (∃G,W1.heap.size∉G/\W2.heap.size∉G/\Pl w W1.heap.size (scR 0) ([W1.heap.size,W2.heap.size]++G) J/\Bd w.heap.size G J w.heap.size (Oj 0)/\J.heap[W2.heap.size]? =ϊ (.cells (scL.map Value.string).toArray 9 (0,0))):=κ
  ⟨[w.heap.size],(by simp;omega),(by simp;omega),⟨η,λb d=>by simp at d;omega,bk.o.trans ak.o,qq ak.o aB.o⟩,⟨η,ϕ _,_,_,ϒ rfl,qq ak.o aA.o,World.ownsRow_nil _ _ _ _,by simp[Value.ownBlock],λg h=>by cases h⟩,I.o⟩
 clear br bs bt ai I aB aA
 go_loopw [15] (λav wr=> ∃j:Nat,j<=7/\av= ι j/\ ∃G,W1.heap.size∉G/\W2.heap.size∉G/\Pl w W1.heap.size (scR j) ([W1.heap.size,W2.heap.size]++G) wr/\Bd w.heap.size G wr w.heap.size (Oj j)/\wr.heap[W2.heap.size]? =ϊ (.cells (scL.map Value.string).toArray 9 (0,0))) (λav _=>7-(intOf av).toNat)
 case atStart=>exact⟨0,τ,rfl,aO.o⟩
 case round=>
  obtain⟨j,bz,rfl,G,ax,n2,M,d,ae⟩:=hrel;have U:=κ ax;have al:=κ n2;have ah:=κ M;have be:=κ d;have bf:=κ ae;by_cases hlt:j<7
  ·have bq:(j:Int)<7:=by omega
   have bw:wr.cell? ⟨W2.heap.size,j,ϋ⟩=ϊ (.string (SW j)):=qm ae j (St j hlt);have aJ:=κ (Sh (Tx j hlt) wr (aF.o wr M.2.2.1));have aE:=κ (TI (pb:=W1.heap.size) bh.o j hlt);obtain⟨bv,aV⟩:=ν (RT j);have aU:=Sp j hlt;rw[aV] at aJ aE aU;obtain⟨t1,t2⟩:=R6 j hlt;have bp:=κ (RD j);have aD:=κ (⟨t1,t2⟩:(Oj j).length<=100/\(RV j).length<=20);generalize SW j=ln at *;clear ax n2 M d ae aV t1 t2 aO
   go_wp2_with (first | (go_at_call 99;(go_call aJ.o as e w1 ⟨⟨bu,cap,rfl,s1⟩,aw⟩;obtain⟨c,af,cs,rfl,_,_,_,_⟩:=(show ∃b af cs,bu=ϊ ⟨b,af,ϋ⟩/\b<w1.heap.size/\cs.length=1/\(∀j,j<1->w1.cell? ⟨b,af+0* 1+j,ϋ⟩=cs[j]?)/\RTx w1 cs bv[0] from (by obtain⟨bB,bx,e,_,ad,_⟩:=s1;injection e with e1 e2 ab;subst e1;exact ad 0 aU));have bc:=κ (ah.o.on aw);have bg:=κ (aE.o _ w1 c af cap bc.o s1);have bo:=κ (ah.o.stay aw);clear s1 aw)) | (go_at_call 101;(go_call bg.o as e w2 ⟨rfl,ad,t2⟩;have ag:=κ ad;have ao:=κ (bo.o.trans t2);have ba:=κ (be.o.more (F:=G) ⟨ao.o.1,λb d=>ao.o.2 b (ϓ _ d) (λe=>U.o (e▸d))⟩);have bi:=κ (ao.o.blk η (λe=>by have:=aG.o;have:=aH.o;omega) bf.o);clear ad t2)) | (go_at_call 100;(go_call qay ba.o ⟨(RV j).toArray⟩ (by have:=aD.o;simp[ByteArray.size];omega) as e bC ⟨rfl,a3,H,aY,aP⟩;have ay:=κ a3;have am:=κ aY;have I:=κ aP;clear a3 aY aP)) | (go_at_call 102;(go_call qah I.o (by have:=aD.o;simp;omega) as e w4 ⟨rfl,a4,ac,aZ,aQ⟩;have az:=κ a4;have an:=κ aZ;have bb:=κ aQ;clear a4 aZ aQ)))
   have Y:W1.heap.size∉H::G:=λe=>by
    rcases ϰ.1 e with e | e
    ·rcases am.o with f | f
     ·exact U.o (e▸f)
     ·have:=ag.o.lt W1.heap.size η;omega
    ·exact U.o e
   have aa:W2.heap.size∉H::G:=λe=>by
    rcases ϰ.1 e with e | e
    ·rcases am.o with f | f
     ·exact al.o (e▸f)
     ·have:=ag.o.lt W2.heap.size η;omega
    ·exact al.o e
   have N:=ag.o.mutA (Fn:=[H]) ay.o (λb d=>ϓ _ d) U.o (λb d=>by
    simp at d;subst d
    exact am.o.elim (λf=>ϒ (ϓ _ f)) ϔ)
   have aK:=ay.o.blk bi.o al.o
   have aC:=N.mutA (Fn:=[ac]) az.o (λb d=>by
    rcases ϰ.1 d with e | e
    ·rw[e];simp
    ·exact ϓ _ (ϓ _ e)) Y (λb d=>by
    simp at d;subst d;rcases an.o with f | f
    ·refine ϒ ?_;rcases ϰ.1 f with e | e
     ·rw[e];simp
     ·exact ϓ _ (ϓ _ e)
    ·exact ϔ f)
   have aL:=az.o.blk aK aa;have aM:W1.heap.size∉ac::H::G:=λe=>by
    rcases ϰ.1 e with e | e
    ·rcases an.o with f | f
     ·exact Y (e▸f)
     ·have:=N.lt W1.heap.size η;omega
    ·exact Y e
   have aN:W2.heap.size∉ac::H::G:=λe=>by
    rcases ϰ.1 e with e | e
    ·rcases an.o with f | f
     ·exact aa (e▸f)
     ·have:=N.lt W2.heap.size η;omega
    ·exact aa e
   have bd:=κ (aC.sub (F':=[W1.heap.size,W2.heap.size]++(ac::H::G)) (λb d=>by
    rcases ϡ.1 d with e | e
    ·exact ϓ _ (ϓ _ (Θ _ e))
    ·rcases ϰ.1 e with e | e
     ·rw[e];simp
     ·rcases ϰ.1 e with e | e
      ·rw[e];simp
      ·exact ϓ _ (ϓ _ (ϓ _ e))) η)
   have bj:=κ aL;have bm:=κ aM;have bn:=κ aN;clear Y aa N aK aC aL aM aN;go_roundw
   case rel=>exact⟨j+1,τ,by go_num,_,bm.o,bn.o,bd.o,by rw[bp.o];exact bb.o,bj.o⟩
   case measure=>simp[intOf];omega
  ·obtain rfl:j=7:=by omega
   have bq: ¬((7:Nat):Int)<7:=by omega
   have aI:=κ (Ts w.heap.size w.heap.size (Oj 7) wr d.is M.2.2.1.size);rw[TM] at aI;clear ax n2 M d ae
   go_wp2_with ((go_at_call 103;(go_call aI.o as e w5 ⟨rfl,aW⟩;have bl:=κ aW;clear aW)))
   go_ret2
   exact⟨rfl,Below.trans ah.o.2.2.1 bl.o⟩
def RC {M:Int} (w:World) (d:w.cell? ⟨OQ,0,ϋ⟩=ϊ (ι M)) (G:Lib.TabIs prog w N9 .u64 Lib.pow10Tab):
  Calls prog 8 #[] w λe w'=>e= .returned (μ ό)/\ql w w':=by
 have I:Hid (Calls prog 39 #[.string ⟨#[114,111,111,109,32,50,32,50,32,49,32,49,32,50,32,49,10,112,117,98,108,105,115,104,32,48,32,55,32,56,32,57,10,106,111,105,110,32,48,32,53,48,32,53,32,49,48,48,10,116,97,107,101,32,48,32,48,32,48,10,107,101,121,32,55,32,49,32,57,10,116,117,114,110,32,49,10,119,114,111,116,101,32,48]⟩] w λe w'=>e= .returned (.tuple #[.string ⟨#[111,107,10,111,107,10,111,107,10,111,107,10,111,107,10,111,107,32,53,10,111,107,32,48,58,53,58,49,48,48,10]⟩,ι 0])/\ql w w'):=κ (qai w d G);clear d G
 go_enter func8,ntmps8
 go_wp2_with ((go_at_call 39;(go_call I.o as e w5 ⟨rfl,H⟩;have J:=κ H;clear H)))
 go_ret;exact⟨rfl,J.o⟩
structure StI (n:Nat) (s:RmS) (jo:Int->Int):Prop where
 st:Oa n s jo
 pu:Of s
def StI.act {n:Nat} (h:StI n s jo) (d:(s.tab.u.map Prod.fst).Nodup) (a:A22) (G:Byt a.b) (H:a.b.length<=400) (M: ∀v∈[a.s0,a.s1,a.s2],0<=v/\v<=4294967295) (J:U16 a.seq) (I:U32 a.own):StI (n+1) (doR s a).1 (MR jo a (doR s a).2.1):=
 ⟨h.st.act d a G H M J I,h.pu.act d a⟩
def OS (c:CfR) (aa:Option Addr) (n cap:Nat) (w:World) {Y:Int} (d:w.cell? ⟨OQ,0,ϋ⟩=ϊ (ι Y)) (I:Lib.TabIs prog w N9 .u64 Lib.pow10Tab) (h:xY c=ύ):
  Calls prog 3 #[θ #[ι c.room,ι c.hold,ι c.wait,ι c.space,ι c.retry,ι c.most],δ aa n cap] w λe w'=>e= .returned (μ ό)/\ql w w':=by
 have N:=κ (YL c h);have M:=κ (λw' (m:ql w w')=>RC w' (by rw[m.cells _ _ (Gb d).2];exact d) (NK I m));clear h d I
 go_enter func3,ntmps3
 go_wp2_with (first | (go_at_call 8;(go_call M.o _ W4 as e w1 ⟨rfl,G⟩;have ab:=κ (λw' (m:ql w1 w')=>cfq c (G.trans m));obtain⟨H,ac,ad,ae,af,ag,ah⟩:=cfq c G;have O:=κ H;clear G H)) | (go_at_call 9;(go_call N.o _ as e w2 ⟨rfl,J⟩;have U:Hid (ql w w2):=κ (O.o.trans J);clear J)))
 go_ret;exact⟨rfl,U.o⟩
def OD (c:CfR) (v:Value) (l:List A22) (w:World) {ah:Int} (I:w.cell? ⟨OQ,0,ϋ⟩=ϊ (ι ah)) (aa:Lib.TabIs prog w N9 .u64 Lib.pow10Tab) (h:xY c=ό) (J:SlP 14 uh w v l) (Y:yk l=ό):
  Calls prog 3 #[θ #[ι c.room,ι c.hold,ι c.wait,ι c.space,ι c.retry,ι c.most],v] w λe w'=>e= .returned (μ ό)/\ql w w':=by
 have ae:=κ (JN c h);have M:=κ (λw1 (d:ql w w1)=>uS v l w1 (J.keep kj d));rw[Y] at M;have ad:=κ (λw' (m:ql w w')=>RC w' (by rw[m.cells _ _ (Gb I).2];exact I) (NK aa m));clear h Y I aa;obtain⟨al,cap,rfl,_⟩:=Yt J;clear J
 go_enter func3,ntmps3
 go_wp2_with (first | (go_at_call 8;(go_call ad.o _ W4 as e w1 ⟨rfl,d⟩;have af:=κ (λw' (m:ql w1 w')=>cfq c (d.trans m));obtain⟨O,am,an,ao,ap,aq,ar⟩:=cfq c d;have N:=κ O;clear d O)) | (go_at_call 9;(go_call ae.o _ as e w2 ⟨R,rfl,U,ab⟩;have H:Hid (ql w1 w2):=κ ab;have ac:=κ U;clear U ab)) | (go_at_call 10;(go_call M.o _ (N.o.trans H.o) as e ai ⟨rfl,G⟩;have aj:=κ (ac.o.on G);have ag:Hid (ql w ai):=κ (N.o.trans (H.o.trans G));obtain⟨-,-,-,au,-⟩:=af.o _ (H.o.trans G);have ak:=κ (H.o.trans G);clear G)))
 go_ret;exact⟨rfl,ag.o⟩
def V7.pubs {W:Nat} {d:Int->Int} {sf:Og->Option Int} (h:V7 w W B jo d sf):w.rangeAt W 84 [ι (d 0),ι (d 1),ι (d 2),ι (d 3),ι (d 4),ι (d 5)]:=λj v G=>by
 have H:j=0∨j=1∨j=2∨j=3∨j=4∨j=5:=by
  have:=(Ϛ.1 G).1;simp at this;omega
 rcases H with rfl | rfl | rfl | rfl | rfl | rfl<;>(simp at G;subst G)
 ·exact(h.pub 0 ζ).1
 ·exact(h.pub 1 ζ).1
 ·exact(h.pub 2 ζ).1
 ·exact(h.pub 3 ζ).1
 ·exact(h.pub 4 ζ).1
 ·exact(h.pub 5 ζ).1
def StI.start {c:CfR} (h:xY c=ό):StI 0 (ud c) (λ_=>0):=⟨Oa.start h,Of.start c⟩
def StI.whose {n:Nat} (h:StI n s jo) (J:(s.tab.u.map Prod.fst).Nodup) (a:A22) {M:Int->Int} (d:StI (n+1) (doR s a).1 M):
  ∀y:Nat,y<6-> ∀k (H:k<((doR s a).1.ln (y:Int)).W.length),0<=max (EF s (y:Int)) (EF (doR s a).1 (y:Int))->(acP (doR s a).1.pks ((doR s a).1.ln (y:Int)).W[k].1).o.1=max (EF s (y:Int)) (EF (doR s a).1 (y:Int)):=
 λy _ k H I=>Sr h.st.ok J h.st.pb a d.st.ok d.st.pb (λz G e f=>(h.pu z G e f).1) (λz G e f=>(d.pu z G e f).1) (y:Int) k H I
def OO (c:CfR) (v:Value) (l:List A22) (w:World) {bw:Int} (ao:w.cell? ⟨OQ,0,ϋ⟩=ϊ (ι bw)) (O:Lib.TabIs prog w N9 .u64 Lib.pow10Tab) (h:xY c=ό) (aq:SlP 14 uh w v l) (an:yk l=ύ):
  Calls prog 3 #[θ #[ι c.room,ι c.hold,ι c.wait,ι c.space,ι c.retry,ι c.most],v] w λe w'=>e= .returned (μ ό)/\ql w w':=by
 have bo:=κ (JN c h);have aO:=κ (StI.start h);have aF:=κ (λw1 (U:ql w w1)=>uS v l w1 (aq.keep kj U));rw[an] at aF;have bn:=κ (λw' (m:ql w w')=>RC w' (by rw[m.cells _ _ (Gb ao).2];exact ao) (NK O m));obtain⟨bJ,cap,rfl,bI,aZ⟩:=Yt aq;have aE:=κ aZ;have aN:=κ (Xj an);have bH:l.length<=120:=aN.o.1;clear h aq an aZ ao O
 go_enter func3,ntmps3
 go_wp2_with (first | (go_at_call 8;(go_call bn.o _ W4 as e w1 ⟨rfl,U⟩;have bp:=κ (λw' (m:ql w1 w')=>cfq c (U.trans m));obtain⟨aT,bK,bL,bM,bN,ap,bk⟩:=cfq c U;have M:=κ aT;clear U aT)) | (go_at_call 9;(go_call bo.o _ as e w2 ⟨R,rfl,ak,bi⟩;have ac:Hid (ql w1 w2):=κ bi;have ax:=κ ak;clear ak bi)) | (go_at_call 10;(go_call aF.o _ (M.o.trans ac.o) as e bA ⟨rfl,Y⟩;have ay:=κ (ax.o.on Y);have bC:Hid (ql w bA):=κ (M.o.trans (ac.o.trans Y));obtain⟨-,-,-,bz,-⟩:=bp.o _ (ac.o.trans Y);have bB:=κ (ac.o.trans Y);clear Y)) | (go_at_call 11;(go_call Td _ as e w4 ⟨W,B,rfl,bt,bs,ap,bj⟩;have az:=κ (ay.o.adds (Fn:=[W,B]) bj (λb H=>by simp at H;omega));have aU:=κ ap;clear bt bs ap bj)))
 go_loopw [40] (λi wr=> ∃j:Nat,j<=l.length/\i= ι j/\ ∃s jo sf,RmR w1 wr R s [W,B]/\StI j s jo/\V7 wr W B jo (EF s) sf) (λi _=>l.length-(intOf i).toNat)
 case atStart=>exact⟨0,τ,rfl,_,_,_,az.o,aO.o,aU.o.congr (λ_ _=>rfl) (λ_=>rfl)⟩
 case round=>
  obtain⟨j,bG,rfl,s,jo,sf,N,am,bd⟩:=hrel;have I:=κ N;have ab:=κ am;have aQ:=κ bd;clear N am bd ax ay az aO aU bz;by_cases hlt:j<l.length
  ·obtain⟨b,bx,G,d,rfl,H,O,be,ba,bc,bb,bg⟩:=aE.o j hlt;have aL:=κ (O wr (M.o.trans I.o.more));have aG:=κ (aN.o.2 j hlt);have aM:=κ (be.keep ((M.o.trans I.o.more).al (.cells #[ι (l.getD j jv).act,ι (l.getD j jv).sub,ι (l.getD j jv).pub,ι (l.getD j jv).layer,δ G (l.getD j jv).b.length d,ι (l.getD j jv).w.1,ι (l.getD j jv).w.2,μ (l.getD j jv).acc,ω (l.getD j jv).own,ω (l.getD j jv).stamp,φ (l.getD j jv).seq,ω (l.getD j jv).s0,ω (l.getD j jv).s1,ω (l.getD j jv).s2] 42)));have aD:=κ ba;have aP:=κ bc;have aJ:=κ bb;have bq:=κ bg;have bv:(j:Int)<(l.length:Int):=by omega
   clear O be ba bc bb bg H;generalize l.getD j jv=x at *;have aK:=κ (I.o.adds (Fn:=[wr.heap.size]) (ql.alloc wr (.cells #[ι x.act,ι x.sub,ι x.pub,ι x.layer,δ G x.b.length d,ι x.w.1,ι x.w.2,x.acc,ω x.own,ω x.stamp,φ x.seq,ω x.s0,ω x.s1,ω x.s2] 42)) (λb H=>by simp at H;have:=World.size_alloc wr (.cells #[ι x.act,ι x.sub,ι x.pub,ι x.layer,δ G x.b.length d,ι x.w.1,ι x.w.2,x.acc,ω x.own,ω x.stamp,φ x.seq,ω x.s0,ω x.s1,ω x.s2] 42);omega));have aR:=κ (aQ.o.more (ql.alloc wr (.cells #[ι x.act,ι x.sub,ι x.pub,ι x.layer,δ G x.b.length d,ι x.w.1,ι x.w.2,x.acc,ω x.own,ω x.stamp,φ x.seq,ω x.s0,ω x.s1,ω x.s2] 42)));have au:=κ (qj wr (.cells #[ι x.act,ι x.sub,ι x.pub,ι x.layer,δ G x.b.length d,ι x.w.1,ι x.w.2,x.acc,ω x.own,ω x.stamp,φ x.seq,ω x.s0,ω x.s1,ω x.s2] 42));have ah:=κ (HV aK.o ab.o.st.ok τ x G d aM.o aD.o aG.o aJ.o aP.o);have J:=κ (ab.o.act I.o.tkeys x aD.o aG.o bq.o aJ.o aP.o);have ai:=κ (λ(w5:World) (bf:Nat) (ae:RmR w1 w5 R (doR s x).1 [bf,wr.heap.size,W,B]) (bk:V7 w5 W B jo (EF s) sf)=>TT x ae η η bk ab.o.st.ok I.o.tkeys J.o.st.ok G d);have aS:=κ (ab.o.whose I.o.tkeys x J.o);generalize doR s x=sr at *;obtain⟨s2,bE,bD⟩:=sr;simp only at ah ai J aS
   go_upto_region 11 with (first | (refine wpList_load_mid rfl 42 (.tmp 42) rfl b (bx+j* 14) rfl [ι x.act,ι x.sub,ι x.pub,ι x.layer,δ G x.b.length d,ι x.w.1,ι x.w.2,x.acc,ω x.own,ω x.stamp,φ x.seq,ω x.s0,ω x.s1,ω x.s2] _ aL.o underlying42 rfl ξ ?_) | (go_at_call 12;(go_call ah.o as e w5 ⟨rfl,ae,t5⟩;have aa:=κ ae;have aj:=κ (aR.o.stay t5 η η);have av:=κ (t5.blk η au.o);clear ae t5)))
   clear ah aR aK aM au aQ;generalize EF s=p at *;have aI:=κ (V7.pubs aj.o)
   go_upto_region 12 with (refine wpList_load_mid rfl 46 (.tmp 52) rfl W 84 rfl [ι (p 0),ι (p 1),ι (p 2),ι (p 3),ι (p 4),ι (p 5)] _ aI.o underlying46 rfl ξ ?_)
   obtain⟨W6,af⟩:=ν (w5.alloc (.cells #[ι (p 0),ι (p 1),ι (p 2),ι (p 3),ι (p 4),ι (p 5)] 46));have ad:Hid (ql w5 W6):=κ (by rw[<-af];exact ql.alloc _ _)
   have ag:Hid (AN 6 46 W6 w5.heap.size (λk=>p k)):=κ (by rw[<-af];exact⟨_,qj w5 _,rfl,λk am=>by
    have bu:k=0∨k=1∨k=2∨k=3∨k=4∨k=5:=by omega
    rcases bu with rfl | rfl | rfl | rfl | rfl | rfl<;>rfl⟩)
   have aA:Hid (RmR w1 W6 R s2 [w5.heap.size,wr.heap.size,W,B]):=κ (aa.o.adds (Fn:=[w5.heap.size]) ad.o (λb H=>by simp at H;subst H;exact⟨ϕ _,ag.o.lt⟩));have aV:=κ (aj.o.more ad.o);have aw:=κ (qq ad.o av.o);have aC:Hid (w5.heap.size≠W/\w5.heap.size≠B):=κ (by have bF:=aa.o.lt W η;have ak:=aa.o.lt B η;omega);rw[af];clear af aI aa aj av ad;generalize w5.heap.size=bf at *;generalize wr.heap.size=xb at *;have aH:=κ (ai.o W6 bf aA.o aV.o)
   go_upto_region 13 with (first | (refine wpList_load_mid rfl 42 (.tmp 9) rfl xb 0 rfl [ι x.act,ι x.sub,ι x.pub,ι x.layer,δ G x.b.length d,ι x.w.1,ι x.w.2,x.acc,ω x.own,ω x.stamp,φ x.seq,ω x.s0,ω x.s1,ω x.s2] _ (xy aw.o) underlying42 rfl ξ ?_) | (go_at_call 13;(go_call aH.o as e ee ⟨rfl,bl,aY,aX⟩;have aB:=κ aY;have aW:=κ bl;have ar:=κ (ag.o.away aX (λh=>h.elim aC.o.1 aC.o.2));clear bl aY aX)))
   clear ai aH aA aV ag aw aL aE;go_wp2;refine Si (κ J.o.st) τ aS aB aW ar _ _ _ _ _ _ _ _ _ _ _ _ _ _ _ _ _ _ _ _ _ _ _ _ _ _ _ _ _ _ _ _ _ _ _ _ _ _ _ _ _ _ _ _ _ _ _ _ _ _ _ _ _ _ _ _ _ _ _ _ _ _ _ _ _ _ _ _ _ _ _ _ _ _ _ _ _ _ _ _ _ _ _ _ _ _ _ _ _ _ _ _ _ _ _ _ _ _ _ _ _ _ _ _ _ _ _ _ _ _ _ _ _ _ _ _ _ _ _ _ _ _ _ _ _ _ _ _ _ _ _ _ _ _ _ _ _ _ _ _ _ _ _ _ _ _ _ _ _ _ _ _ _ _ _ _ _ _ _ _ _ _ _ _ _ ?_;intro dp ct cE cP da di dj dk dl dm dn dq dr ds dt du u64 dv dw dx dy dz dA dB dC dD dE dF dG dH dI dJ dK dL dM dN dO dP dQ dR dS dT dU dV dW dX dY dZ ea eb ec ed bO bP bQ bR bS bT bU bV bW bX bY bZ ca cb cc cd ce cf cg ch ci cj ck cl cm cn co cp cq cr cu cv cw cx cy cz cA cB cC cD cF cG cH cI cJ cK cL cM cN cO cQ cR cS cT cU cV cW cX cY cZ db dc dd de df dg dh ef N bh;have bm:=κ N;have br:=κ bh;clear N bh aB aW ar;go_wp2;go_roundw
   case rel=>exact⟨j+1,τ,by go_num,s2,_,_,bm.o.sub η,J.o,br.o⟩
   case measure=>simp[intOf];omega
  ·obtain rfl:j=l.length:=by omega
   have bv: ¬(l.length:Int)<(l.length:Int):=by omega
   go_wp2;go_ret;exact⟨rfl,M.o.trans I.o.more⟩
def OR (cs:Array Value) (c:CfR) (v:Value) (l:List A22) (w:World) {I:Int} (d:w.cell? ⟨OQ,0,ϋ⟩=ϊ (ι I)) (G:Lib.TabIs prog w N9 .u64 Lib.pow10Tab) (J:Tv w cs.toList c) (H:SlP 14 uh w v l):
  Calls prog 3 #[θ cs,v] w λe w'=>e= .returned (μ ό)/\ql w w':=by
 obtain rfl:cs= #[ι c.room,ι c.hold,ι c.wait,ι c.space,ι c.retry,ι c.most]:=Array.toList_inj.1 J;cases hc:xY c with
 | false=>
  obtain⟨M,cap,rfl,_⟩:=id H;exact OS c _ _ _ w d G hc
 | true=>
  cases hl:yk l with
  | true=>exact OD c v l w d G hc H hl
  | false=>exact OO c v l w d G hc H hl
end Go.Proofs.YtlmllmonabafjaaGreatDoor
