/- Contracts of the functions that the law reaches, and plain laws; no conditions but those written at each. -/
import Derived.Test.YtlmllmonabafjaaGreatDoorMg13
namespace Go.Proofs.YtlmllmonabafjaaGreatDoor
open Go.Value renaming bool->μ,slice->δ,pointer->π,agg->θ
open Go.IntKind renaming i64->ι,u8->υ,u16->φ,u32->ω,i32->χ,u64->ψ
open _root_.Go.Proofs.Tryz
set_option linter.unusedSimpArgs false
set_option maxHeartbeats 8000000
set_option linter.unusedVariables false
open Go.RowKit
set_option maxRecDepth 100000
theorem HdS.grow {w0 w w':World} {R hi Br Bd:Nat} {s:RdS} {q:Pk} {vs v':Value} {l:List Int} (h:HdS w0 w R hi Br Bd s q vs (δ none 0 0) (δ none 0 0)) (he:q.ex=[]) (hp:q.pl=[]) (ho:w'.ownsRow (Bd+1) 38 1 v' l.length (l.map (Value.int .u32))) (g:w.grownBy w' vs.ownBlock):
  HdS w0 (w'.setCell ⟨Bd,5,none⟩ v') R hi Br Bd s {q with ss:=l} v' (δ none 0 0) (δ none 0 0):=by
 have h0:=h.n0;have h1:=h.nR;have h2:=h.n1;have h5:=h.n5;have hge: ∀z,vs.ownBlock=some z->Bd+1<=z:=λz hz=>jG h.rs hz
 have aG:qg (λz=>vs.ownBlock=some z) w w':=⟨g.os,g.tape,g.output,g.size,λk hk hs=>g.block k hk (λe=>hs e.symm)⟩;have a:qg (λb=>b=Bd) w' (w'.setCell ⟨Bd,5,none⟩ v'):=(qg.refl (λb=>b=Bd) w').set (p:=⟨Bd,5,none⟩) rfl _;have hR: ¬vs.ownBlock=some R:=λe=>by have:=hge R e;omega
 have hBr: ¬vs.ownBlock=some Br:=λe=>by have:=hge Br e;omega
 have hBd: ¬vs.ownBlock=some Bd:=λe=>by have:=hge Bd e;omega
 refine⟨(h.rd.off aG hR (λz hz e=>by have:=hge z e;omega)).off a τ (λz hz e=>by omega), ?_,a.blk (aG.blk h.br hBr) τ,qB (qp (aG.blk h.bd hBd) 5 v') rfl,xC ho a (λk hk=>by omega), ?_, ?_,h.n0,h.nR,h.n1,h.n5⟩
 ·exact(qg.to_more h.more aG (λk hk=>by have:=hge k hk;omega)).st (p:=⟨Bd,5,none⟩) (by show _<=Bd;omega) _
 ·show World.ownsRow _ _ _ _ _ q.ex.length (q.ex.map _);rw[he];exact World.ownsRow_nil _ _ _ _
 ·show World.ownsRow _ _ _ _ _ q.pl.length (q.pl.map _);rw[hp];exact World.ownsRow_nil _ _ _ _
theorem qa.st10 {w0 w:World} (m:qa w0 w) (B:Nat) (hB:w0.heap.size<=B) (v0 v1 v2 v3 v4 v5 v6 v7 v8 v9:Value):
  qa w0 ((((((((((w.setCell ⟨B,0,none⟩ v0).setCell ⟨B,1,none⟩ v1).setCell ⟨B,2,none⟩ v2).setCell ⟨B,3,none⟩ v3).setCell ⟨B,4,none⟩ v4).setCell ⟨B,5,none⟩ v5).setCell ⟨B,6,none⟩ v6).setCell ⟨B,7,none⟩ v7).setCell ⟨B,8,none⟩ v8).setCell ⟨B,9,none⟩ v9):=
 (((((((((m.st (p:=⟨B,0,none⟩) hB v0).st (p:=⟨B,1,none⟩) hB v1).st (p:=⟨B,2,none⟩) hB v2).st (p:=⟨B,3,none⟩) hB v3).st (p:=⟨B,4,none⟩) hB v4).st (p:=⟨B,5,none⟩) hB v5).st (p:=⟨B,6,none⟩) hB v6).st (p:=⟨B,7,none⟩) hB v7).st (p:=⟨B,8,none⟩) hB v8).st (p:=⟨B,9,none⟩) hB v9
theorem Di (w:World) (B:Nat) (v0 v1 v2 v3 v4 v5 v6 v7 v8 v9:Value):
  qg (λb=>b=B) w ((((((((((w.setCell ⟨B,0,none⟩ v0).setCell ⟨B,1,none⟩ v1).setCell ⟨B,2,none⟩ v2).setCell ⟨B,3,none⟩ v3).setCell ⟨B,4,none⟩ v4).setCell ⟨B,5,none⟩ v5).setCell ⟨B,6,none⟩ v6).setCell ⟨B,7,none⟩ v7).setCell ⟨B,8,none⟩ v8).setCell ⟨B,9,none⟩ v9):=
 ((((((((((qg.refl (λb=>b=B) w).set (p:=⟨B,0,none⟩) rfl v0).set (p:=⟨B,1,none⟩) rfl v1).set (p:=⟨B,2,none⟩) rfl v2).set (p:=⟨B,3,none⟩) rfl v3).set (p:=⟨B,4,none⟩) rfl v4).set (p:=⟨B,5,none⟩) rfl v5).set (p:=⟨B,6,none⟩) rfl v6).set (p:=⟨B,7,none⟩) rfl v7).set (p:=⟨B,8,none⟩) rfl v8).set (p:=⟨B,9,none⟩) rfl v9
theorem KQ (l:List Int) (e:Int):tkB l (l.length:Int)=l/\tkL l (l.length:Int)=[]/\tkE l (l.length:Int) e=e:=by
 refine⟨?_, ?_, ?_⟩
 ·unfold tkB;simp
 ·unfold tkL;simp
 ·unfold tkE;rw[if_neg τ]
theorem kP {w:World} {base e:Nat} {v:Value} {xs:List Value} {n:Nat} (h:w.ownsRow base e 1 v n xs):(n:Int)<=9223372036854775807:=by
 rcases h.2 with ⟨-,rfl⟩ | ⟨g,cap,cur,-,-,-,h1,h2,-⟩
 ·omega
 ·unfold maxLen at h2;omega
theorem AO {w:World} {B:Nat} {t:TypeId} {a0 a1 a2 a3 a4 a5 a6 a7 a8 a9:Value} (h:w.heap[B]? =some (.cells #[a0,a1,a2,a3,a4,a5,a6,a7,a8,a9] t (0,0))) (v0 v1 v2 v3 v4 v5 v6 v7 v8 v9:Value):
  ((((((((((w.setCell ⟨B,0,none⟩ v0).setCell ⟨B,1,none⟩ v1).setCell ⟨B,2,none⟩ v2).setCell ⟨B,3,none⟩ v3).setCell ⟨B,4,none⟩ v4).setCell ⟨B,5,none⟩ v5).setCell ⟨B,6,none⟩ v6).setCell ⟨B,7,none⟩ v7).setCell ⟨B,8,none⟩ v8).setCell ⟨B,9,none⟩ v9).heap[B]? =some (.cells #[v0,v1,v2,v3,v4,v5,v6,v7,v8,v9] t (0,0)):=
 by
 have h:=qB (cs':= #[v0,a1,a2,a3,a4,a5,a6,a7,a8,a9]) (qp h 0 v0) rfl;have h:=qB (cs':= #[v0,v1,a2,a3,a4,a5,a6,a7,a8,a9]) (qp h 1 v1) rfl;have h:=qB (cs':= #[v0,v1,v2,a3,a4,a5,a6,a7,a8,a9]) (qp h 2 v2) rfl;have h:=qB (cs':= #[v0,v1,v2,v3,a4,a5,a6,a7,a8,a9]) (qp h 3 v3) rfl;have h:=qB (cs':= #[v0,v1,v2,v3,v4,a5,a6,a7,a8,a9]) (qp h 4 v4) rfl;have h:=qB (cs':= #[v0,v1,v2,v3,v4,v5,a6,a7,a8,a9]) (qp h 5 v5) rfl;have h:=qB (cs':= #[v0,v1,v2,v3,v4,v5,v6,a7,a8,a9]) (qp h 6 v6) rfl;have h:=qB (cs':= #[v0,v1,v2,v3,v4,v5,v6,v7,a8,a9]) (qp h 7 v7) rfl;have h:=qB (cs':= #[v0,v1,v2,v3,v4,v5,v6,v7,v8,a9]) (qp h 8 v8) rfl;have h:=qB (cs':= #[v0,v1,v2,v3,v4,v5,v6,v7,v8,v9]) (qp h 9 v9) rfl;exact h
theorem YK {w:World} {B:Nat} {t:TypeId} {a0 a1 a2 a3 a4 a5 a6 a7 a8 a9:Value} (h:w.heap[B]? =some (.cells #[a0,a1,a2,a3,a4,a5,a6,a7,a8,a9] t (0,0))):w.cell? ⟨B,0,none⟩=some a0/\w.cell? ⟨B,1,none⟩=some a1/\w.cell? ⟨B,2,none⟩=some a2/\w.cell? ⟨B,3,none⟩=some a3/\w.cell? ⟨B,4,none⟩=some a4/\w.cell? ⟨B,5,none⟩=some a5/\w.cell? ⟨B,6,none⟩=some a6/\w.cell? ⟨B,7,none⟩=some a7/\w.cell? ⟨B,8,none⟩=some a8/\w.cell? ⟨B,9,none⟩=some a9:=
 ⟨qb h 0 rfl,qb h 1 rfl,qb h 2 rfl,qb h 3 rfl,qb h 4 rfl,qb h 5 rfl,qb h 6 rfl,qb h 7 rfl,qb h 8 rfl,qb h 9 rfl⟩
theorem ID {w:World} {B:Nat} {t:TypeId} {a0 a1 a2 a3 a4 a5 a6 a7 a8 a9:Value} (h:w.heap[B]? =some (.cells #[a0,a1,a2,a3,a4,a5,a6,a7,a8,a9] t (0,0))):w.frozen? ⟨B,0,none⟩=false/\w.frozen? ⟨B,1,none⟩=false/\w.frozen? ⟨B,2,none⟩=false/\w.frozen? ⟨B,3,none⟩=false/\w.frozen? ⟨B,4,none⟩=false/\w.frozen? ⟨B,5,none⟩=false/\w.frozen? ⟨B,6,none⟩=false/\w.frozen? ⟨B,7,none⟩=false/\w.frozen? ⟨B,8,none⟩=false/\w.frozen? ⟨B,9,none⟩=false:=
 ⟨qd h 0,qd h 1,qd h 2,qd h 3,qd h 4,qd h 5,qd h 6,qd h 7,qd h 8,qd h 9⟩
theorem WD {w0 w:World} {B:Nat} {t:TypeId} {a0 a1 a2 a3 a4 a5 a6 a7 a8 a9:Value} (m:qa w0 w) (hB:w0.heap.size<=B) (h:w.heap[B]? =some (.cells #[a0,a1,a2,a3,a4,a5,a6,a7,a8,a9] t (0,0))) (v0 v1 v2 v3 v4 v5 v6 v7 v8 v9:Value):
  ∃WF,((((((((((w.setCell ⟨B,0,none⟩ v0).setCell ⟨B,1,none⟩ v1).setCell ⟨B,2,none⟩ v2).setCell ⟨B,3,none⟩ v3).setCell ⟨B,4,none⟩ v4).setCell ⟨B,5,none⟩ v5).setCell ⟨B,6,none⟩ v6).setCell ⟨B,7,none⟩ v7).setCell ⟨B,8,none⟩ v8).setCell ⟨B,9,none⟩ v9)=WF/\qa w0 WF/\qg (λb=>b=B) w WF/\WF.cell? ⟨B,0,none⟩=some v0/\WF.cell? ⟨B,1,none⟩=some v1/\WF.cell? ⟨B,2,none⟩=some v2/\WF.cell? ⟨B,3,none⟩=some v3/\WF.cell? ⟨B,4,none⟩=some v4/\WF.cell? ⟨B,5,none⟩=some v5/\WF.cell? ⟨B,6,none⟩=some v6/\WF.cell? ⟨B,7,none⟩=some v7/\WF.cell? ⟨B,8,none⟩=some v8/\WF.cell? ⟨B,9,none⟩=some v9:=
 ⟨_,rfl,m.st10 B hB v0 v1 v2 v3 v4 v5 v6 v7 v8 v9,Di w B v0 v1 v2 v3 v4 v5 v6 v7 v8 v9,YK (AO h v0 v1 v2 v3 v4 v5 v6 v7 v8 v9)⟩
def Xq (r:Pk×Int) (w:World) (e:Ending) (w':World):Prop:=
 ∃vs ve vp,e= .returned (.tuple #[.agg #[.bool r.1.mr,.int .u8 r.1.ty,.int .u16 r.1.sq,.int .u32 r.1.st,.int .u32 r.1.sc,vs,.bool r.1.has,.int .u16 r.1.pr,ve,vp],.int .i64 r.2])/\PkS w' vs ve vp r.1/\qa w w'
def yS (r:Pk×Int) (w:World) (e:Ending) (w':World):Prop:=
 ∃vs ve vp,e= .returned (.tuple #[.agg #[.bool r.1.mr,.int .u8 r.1.ty,.int .u16 r.1.sq,.int .u32 r.1.st,.int .u32 r.1.sc,vs,.bool r.1.has,.int .u16 r.1.pr,ve,vp],.int .i64 r.2])/\PkS w' vs ve vp r.1/\qa w w'/\ ∀b,(vs.ownBlock=some b∨ve.ownBlock=some b∨vp.ownBlock=some b)->w.heap.size<=b
theorem yS.post {r:Pk×Int} {w w':World} {e:Ending} (h:yS r w e w'):Xq r w e w':=by
 obtain⟨vs,ve,vp,h1,h2,h3,_⟩:=h;exact⟨vs,ve,vp,h1,h2,h3⟩
theorem VB {w:World} (b:Nat) (h:(δ none 0 0).ownBlock=some b∨(δ none 0 0).ownBlock=some b∨(δ none 0 0).ownBlock=some b):w.heap.size<=b:=by
 rcases h with h | h | h<;>cases h
theorem JH {s:RdS} (h:Byt s.1) (k:Nat) (hk:k<=4):0<=num (tkB s.1 k)/\num (tkB s.1 k)<2 ^ (8* k):=zv (tkB s.1 k) k (jL h k) (zh s.1 k τ) τ
def s9H (f:Int) (s:RdS):RdS:=if bit f 32 then (if (xL s.1).2 then ([],s.2) else wrS ([],s.2) 2) else ([],s.2)
def l9H (f:Int) (s:RdS):List Int:=if bit f 32 then (xL s.1).1 else s.1
theorem Ek {f:Int} {s:RdS} (h:Jm s):(s9H f s).2=(vB f s).2/\(s9H f s).1=[]/\((vB f s).2=0->l9H f s=(vB f s).1):=by
 obtain⟨l,e⟩:=s;unfold s9H vB l9H bit;by_cases he:e=0
 ·subst he;by_cases h1:f/32%2=1
  ·simp only[h1,decide_true,if_true,not_true,if_false];by_cases h2:(xL l).2=true
   ·simp[h2]
   ·simp only[h2];unfold wrS;simp
  ·simp[h1]
 ·have hl:l=[]:=h he;subst hl;by_cases h1:f/32%2=1
  ·have hu:(xL []).2=false:=rfl;simp[h1,hu,wrS,he]
  ·simp[h1,he]
theorem Jc (v:Value) (b:List Int) (w:World) (sl:SlI .u8 w v b) (hl:(200:Int)<b.length):
  Calls prog 16 #[v] w (yS (jl b) w):=by
 have e:jl b=(pk0,4):=by unfold jl;rw[if_pos hl]
 rw[e];obtain⟨ob,cb,rfl,_⟩:=sl;clear e
 go_enter func16,ntmps16
 go_wp2
 (refine bodyPost_ret (v:= .tuple #[Γc,ι 4]) ?rr1 rfl ?_;(case rr1=>(simp[results,results16,go_sem])))
 refine⟨δ none 0 0,δ none 0 0,δ none 0 0,rfl,⟨SlI.nil _ _,SlI.nil _ _,SlI.nil _ _⟩, ?_,VB⟩;exact qa.alloc _ _
theorem Qd (v:Value) (b:List Int) (w:World) (sl:SlI .u8 w v b) (hb:Byt b) (hl: ¬(200:Int)<b.length):
  Calls prog 16 #[v] w (yS (jl b) w):=by
 obtain⟨i0,hi',hz0,hz1,hz2⟩:=info_parts (P:=prog) (e:=38) (z:= ω 0) (size:=1) (bytes:=4) ξ;have SL:=κ (sl.keep (qa.alloc w (.cells Γc 63)));have hrd:jl b=JJ b (yj (fH b) (yy (fH b) (s5H b))):=by unfold jl;rw[if_neg hl]
 have b1:Byt (s1H b).1:=hb.drop _;have b2:Byt (s2H b).1:=b1.drop _;have b3:Byt (s3H b).1:=b2.drop _;have b4:Byt (s4H b).1:=b3.drop _;have u1:=JH (s:=(b,0)) hb 1 ζ;have u2:=JH b1 1 ζ;obtain⟨f,hf⟩:=ν (fH b);obtain⟨g,hg⟩:=ν (gH b);obtain⟨sq,hsq⟩: ∃x,num (tkB (s2H b).1 2)=x:=⟨_,rfl⟩;obtain⟨st,hst⟩: ∃x,num (tkB (s3H b).1 4)=x:=⟨_,rfl⟩;obtain⟨sc,hsc⟩: ∃x,num (tkB (s4H b).1 4)=x:=⟨_,rfl⟩;have f0:0<=f/\f<=255:=by rw[<-hf];have h1:num (tkB b 1)<256:=u1.2;have h0:0<=num (tkB b 1):=u1.1;unfold fH;omega
 have g0:0<=g/\g<=255:=by rw[<-hg];have h1:num (tkB (s1H b).1 1)<256:=u2.2;have h0:0<=num (tkB (s1H b).1 1):=u2.1;unfold gH;omega
 have E1:Hid (num (tkB b 1)=f):=κ hf;have E2:Hid (num (tkB (s1H b).1 1)=g):=κ hg;have E3:=κ hsq;have E4:=κ hst;have E5:=κ hsc;have hga:=(Gd g0).1;have hfa:=(Gd f0).2;have hfb:=(JW f0).2.2.2;have hfc:=(JW f0).2.2.1;have hmk: ∀x l,mkH b x l=⟨decide (128<=g),g%128,sq,st,sc,x.1,bit f 16,x.2.1,x.2.2,l⟩:=λx l=>by unfold mkH bit;rw[hf,hg,hsq,hst,hsc]
 have hen: ∀x,JJ b x=if (vB f x.2).2=0 then (mkH b x.1 (vB f x.2).1,0) else (pk0,(vB f x.2).2):=λx=>by unfold JJ;rw[hf]
 rw[hf] at hrd;obtain⟨S6,hS6⟩:=ν (yy f (s5H b));have hsh6:Jm S6:=by
  rw[<-hS6];have h5:Jm (s5H b):=by rw[WI];exact vj _ _
  unfold yy wrS;split
  ·split
   ·exact h5
   ·intro _;rfl
  ·exact h5
 rw[hS6] at hrd;rw[hrd,hen,hmk];obtain⟨X,hX⟩:=ν (yj f S6);rw[hX];obtain⟨⟨L7,P7,X7⟩,S8⟩:=X;have hx0:(L7=(j9 (f%16).toNat S6).1)/\(bit f 16=true->P7=(Qj (j9 (f%16).toNat S6).2).1.1/\X7=(Qj (j9 (f%16).toNat S6).2).1.2/\S8=(Qj (j9 (f%16).toNat S6).2).2)/\(bit f 16=false->P7=0/\X7=[]/\S8=(j9 (f%16).toNat S6).2):=by
  unfold yj at hX;unfold bit;by_cases h1:f/16%2=1
  ·rw[if_pos h1] at hX;cases hX;simp[h1]
  ·rw[if_neg h1] at hX;cases hX;simp[h1]
 clear hX;have HS6:=κ hS6;obtain⟨f0,f1⟩:=f0;obtain⟨g0,g1⟩:=g0;have hs9t:bit f 32=true->s9H f S8=(if (xL S8.1).2 then ([],S8.2) else wrS ([],S8.2) 2)/\l9H f S8=(xL S8.1).1:=λh=>by unfold s9H l9H;simp[h]
 have hs9f:bit f 32=false->s9H f S8=([],S8.2)/\l9H f S8=S8.1:=λh=>by unfold s9H l9H;simp[h]
 have hs9p:=λh=> @Ek f S8 h
 obtain⟨S9,hS9⟩:=ν (s9H f S8);obtain⟨L9,hL9⟩:=ν (l9H f S8);obtain⟨FH,hFH⟩:=ν (bit f 16);obtain⟨FP,hFP⟩:=ν (bit f 32);rw[hS9,hL9,hFP] at hs9t hs9f;rw[hS9,hL9] at hs9p;rw[hFH] at hx0 hfb ⊢;rw[hFP] at hfc;obtain⟨PL,hPL⟩:=ν ((vB f S8).1);obtain⟨PE,hPE⟩:=ν ((vB f S8).2);rw[hPL,hPE] at hs9p ⊢;have H9T:=κ hs9t;have H9F:=κ hs9f;have H9P:=κ hs9p;clear hs9t hs9f hs9p hS9 hL9 hFH hFP hPL hPE;obtain⟨QR,hQR⟩: ∃QR:Pk×Int,(if PE=0 then (Pk.mk (decide (128<=g)) (g%128) sq st sc L7 FH P7 X7 PL,(0:Int)) else (pk0,PE))=QR:=⟨_,rfl⟩;rw[hQR];obtain⟨ob,cb,rfl,-⟩:=sl;have hgm:0<=g%128/\g%128<=127:=by omega
 obtain⟨NS,hNS⟩: ∃NS:Nat,f%16=(NS:Int):=⟨(f%16).toNat,τ⟩;have hns15:NS<=15:=by omega
 have hnst:(f%16).toNat=NS:=by omega
 rw[hNS] at hfa;rw[hnst] at hx0;have HX0:=κ hx0;clear hx0;have HNST:=κ hnst;clear hrd b1 b2 b3 b4 u1 u2 hf hg hsq hst hsc hmk hen hS6 hsh6 hNS hnst;obtain⟨GM,hGM⟩:=ν (g%128);rw[hGM] at hga hgm hQR;have HQ:=κ hQR;clear hQR;obtain⟨gm0,gm1⟩:=hgm;clear hGM;have hb200:b.length<=1000000:=by omega
 go_enter func16,ntmps16
 go_upto_region 10 with (first | (go_at_call 51;(go_call km _ b _ SL.o hb hb200 as e w2 ⟨R,rfl,hR,hr,hm⟩;have H0:=κ (HdS.begin rfl hR hr hm);clear hR hr hm)) | (go_at_call 52;((with_reducible refine(jT H0.o.rd).mono ?_);rintro e w3 ⟨rfl,r3,a3⟩;rw[E1.o];have H1:=κ (H0.o.step (s':=s1H b) r3 a3);clear r3 a3)) | (go_at_call 52;((with_reducible refine(jT H1.o.rd).mono ?_);rintro e w4 ⟨rfl,r4,a4⟩;rw[E2.o];have H2:=κ (H1.o.step (s':=s2H b) r4 a4);clear r4 a4;have x0:=β0 H2.o.bd;have z0:=qd H2.o.bd 0;have x1:=β1 H2.o.bd;have z1:=qd H2.o.bd 1;have H3:Hid (HdS w ((w4.setCell ⟨w2.heap.size,0,none⟩ (μ (decide (128<=g)))).setCell ⟨w2.heap.size,1,none⟩ (υ GM)) R w2.heap.size w.heap.size w2.heap.size (s2H b) ⟨(decide (128<=g)),GM,0,0,0,[],false,0,[],[]⟩ (δ none 0 0) (δ none 0 0) (δ none 0 0)):=κ ((H2.o.scal 0 (μ (decide (128<=g))) ⟨(decide (128<=g)),0,0,0,0,[],false,0,[],[]⟩ rfl rfl rfl rfl).scal 1 (υ GM) ⟨(decide (128<=g)),GM,0,0,0,[],false,0,[],[]⟩ rfl rfl rfl rfl))) | (go_at_call 53;(go_call xn H3.o.rd as e w5 ⟨rfl,r5,a5⟩;rw[E3.o];have H4:=κ (H3.o.step (s':=s3H b) r5 a5);clear r5 a5 x0 z0 x1 z1;have x2:=β2 H4.o.bd;have z2:=qd H4.o.bd 2;have H5:Hid (HdS w (w5.setCell ⟨w2.heap.size,2,none⟩ (φ sq)) R w2.heap.size w.heap.size w2.heap.size (s3H b) ⟨(decide (128<=g)),GM,sq,0,0,[],false,0,[],[]⟩ (δ none 0 0) (δ none 0 0) (δ none 0 0)):=κ (H4.o.scal 2 (φ sq) ⟨(decide (128<=g)),GM,sq,0,0,[],false,0,[],[]⟩ rfl rfl rfl rfl))) | (go_at_call 54;((with_reducible refine(jD H5.o.rd).mono ?_);rintro e w6 ⟨rfl,r6,a6⟩;rw[E4.o];have H6:=κ (H5.o.step (s':=s4H b) r6 a6);clear r6 a6 x2 z2;have x3:=β3 H6.o.bd;have z3:=qd H6.o.bd 3;have H7:Hid (HdS w (w6.setCell ⟨w2.heap.size,3,none⟩ (ω st)) R w2.heap.size w.heap.size w2.heap.size (s4H b) ⟨(decide (128<=g)),GM,sq,st,0,[],false,0,[],[]⟩ (δ none 0 0) (δ none 0 0) (δ none 0 0)):=κ (H6.o.scal 3 (ω st) ⟨(decide (128<=g)),GM,sq,st,0,[],false,0,[],[]⟩ rfl rfl rfl rfl))) | (go_at_call 54;((with_reducible refine(jD H7.o.rd).mono ?_);rintro e w7 ⟨rfl,r7,a7⟩;rw[E5.o];have H8:=κ (H7.o.step (s':=s5H b) r7 a7);clear r7 a7 x3 z3;have x4:=β4 H8.o.bd;have z4:=qd H8.o.bd 4;have H9:Hid (HdS w (w7.setCell ⟨w2.heap.size,4,none⟩ (ω sc)) R w2.heap.size w.heap.size w2.heap.size (s5H b) ⟨(decide (128<=g)),GM,sq,st,sc,[],false,0,[],[]⟩ (δ none 0 0) (δ none 0 0) (δ none 0 0)):=κ (H8.o.scal 4 (ω sc) ⟨(decide (128<=g)),GM,sq,st,sc,[],false,0,[],[]⟩ rfl rfl rfl rfl))))
 generalize w7.setCell ⟨w2.heap.size,4,none⟩ (ω sc)=W9 at *;generalize w2.heap.size=hi at *;clear H0 H1 H2 H3 H4 H5 H6 H7 H8 x4 z4 SL E1 E2 E3 E4 E5;obtain⟨FB,fb1,fb2⟩: ∃FB:Bool,(FB=true->(f<128∨191<f))/\(FB=false-> ¬(f<128∨191<f)):=⟨decide (f<128∨191<f),λh=>by simpa using h,λh=>by simpa using h⟩;have FB1:=κ fb1;have FB2:=κ fb2;clear fb1 fb2
 go_cut [46] from 41 (λs46 wx=>s46= μ FB/\wx=W9)
 case first=>
  cases FB with
  | true=>
   have hh:=FB1.o η;by_cases h1:f<128
   ·clear hh;go_wp2;go_meet;exact⟨rfl,rfl⟩
   ·have h2:191<f:=by omega
    clear hh;go_wp2;go_meet;exact⟨rfl,rfl⟩
  | false=>
   have hh:=FB2.o η;have h1: ¬f<128:=by omega
   have h2: ¬191<f:=by omega
   clear hh;go_wp2;go_meet;exact⟨rfl,rfl⟩
 case rest=>
 obtain⟨rfl,rfl⟩:=hcut
 go_upto_if 46 with fail
 go_cut [] from 47 (λwx=>HdS w wx R hi w.heap.size hi S6 ⟨(decide (128<=g)),GM,sq,st,sc,[],false,0,[],[]⟩ (δ none 0 0) (δ none 0 0) (δ none 0 0))
 case first=>
  cases FB with
  | true=>
   have hS:yy f (s5H b)=wrS (s5H b) 2:=by unfold yy;rw[if_pos (FB1.o η)]
   have HX:=κ (HS6.o.symm.trans hS);clear hS
   go_wp2_with (go_at_call 55;(go_call zo H9.o.rd 2 as e w10 ⟨rfl,r10,a10⟩;have H10:=κ (H9.o.step (s':=wrS (s5H b) 2) r10 a10);clear r10 a10))
   go_meet;rw[HX.o];exact H10.o
  | false=>
   have hS:yy f (s5H b)=s5H b:=by unfold yy;rw[if_neg (FB2.o η)]
   have HX:=κ (HS6.o.symm.trans hS);clear hS;go_wp2;go_meet;rw[HX.o];exact H9.o
 case rest=>
 have HC:=κ hcut;clear hcut H9 FB1 FB2 HS6;go_wp2
 go_loopw [51] (λi wr=> ∃k:Nat,k<=NS/\i= υ k/\ ∃vs,HdS w wr R hi w.heap.size hi (j9 k S6).2 ⟨(decide (128<=g)),GM,sq,st,sc,(j9 k S6).1,false,0,[],[]⟩ vs (δ none 0 0) (δ none 0 0)) (λi _=>NS-(intOf i).toNat)
 case atStart=>exact⟨0,τ,rfl,_,HC.o⟩
 case round=>
  obtain⟨k,hk,rfl,vs,hwx⟩:=hrel;have HW:=κ hwx;by_cases hlt:k<NS
  ·have hki:(k:Int)<(NS:Int):=by omega
   have hll:=gN k S6;have HLL:=κ hll;obtain⟨os,ns,cs,rfl,hns,_⟩:=qT hwx.rs;subst hns;have hbd: ¬(hi=R∨(δ os (j9 k S6).1.length cs).ownBlock=some hi):=by
    rintro(e | e)
    ·have:=HW.o.n1;omega
    ·have:=jG HW.o.rs e;omega
   have C5:=λ(x:qz (λb=>b=R∨(δ os (j9 k S6).1.length cs).ownBlock=some b) wr)=>β5 (x.h.blk HW.o.bd hbd)
   clear hwx hll
   go_wp2_with fail
   refine QN (λb=>b=R∨(δ os (j9 k S6).1.length cs).ownBlock=some b) wr 7 8 [3,4,5,7] ?_
   refine Qs3 ?_
   (refine Ql ?_;intro K hK)
   refine(jD (HW.o.rd.more (qa.drewN _ 1))).mono ?_;rintro e w8 ⟨rfl,r8,a8⟩;have a8':qg (λb=>b=R∨(δ os (j9 k S6).1.length cs).ownBlock=some b) wr w8:=((qg.refl _ _).drewN _).trans (a8.mono λb h=>Or.inl h);refine⟨_,rfl,qi a8',hK _ _ ?_⟩;clear hK K
   (refine Ql ?_;intro K hK)
   have a9:=a8'.more (qa.alloc w8 (.cells #[ω (num (tkB (j9 k S6).2.1 4))] 38));refine⟨qi a9,hK _ _ ?_⟩;clear hK K;have J8:=(HW.o.on (qa.drewN wr 1)).step (s':=tkS (j9 k S6).2 4) r8 a8;have J9:=J8.on (qa.alloc w8 (.cells #[ω (num (tkB (j9 k S6).2.1 4))] 38))
   (refine jR rfl rfl ?_;intro K hK)
   refine XU (.tmp 54) (.tmp 57) 61 rfl (hi+1) 38 i0 (ω 0) 4 underlying61 hi' hz0 hz1 hz2 rfl (δ os (j9 k S6).1.length cs) .u32 (j9 k S6).1 rfl J9.rs (δ (some ⟨w8.heap.size,0,none⟩) 1 1) [num (tkB (j9 k S6).2.1 4)] rfl (SlI.of_owns (World.ownsRow_lit (e:=38) (size:=1) (base:=w8.heap.size) w8 #[ω (num (tkB (j9 k S6).2.1 4))] 1 (Nat.le_refl _) (by unfold maxLen;omega) rfl) η) (by rw[HLL.o];simp;omega) ζ (by have:=qn J9.bd;omega) ?_;intro v10 w10 ho10 hg10 hb10;have a10:qg (λb=>b=R∨(δ os (j9 k S6).1.length cs).ownBlock=some b) wr w10:=a9.trans ⟨hg10.os,hg10.tape,hg10.output,hg10.size,λk hk hs=>hg10.block k hk (λe=>hs (Or.inr e.symm))⟩;have J10:=κ (J9.grow rfl rfl ho10 hg10);have q5:w10.cell? ⟨hi,5,none⟩=some (δ os (j9 k S6).1.length cs):=by
    have:w10.heap[hi]? =_:=(hg10.block hi (qn J9.bd) (λe=>by have:=jG J9.rs e.symm;omega)).trans J9.bd;exact qb this 5 rfl
   have z5:w10.frozen? ⟨hi,5,none⟩=false:=by
    have:w10.heap[hi]? =_:=(hg10.block hi (qn J9.bd) (λe=>by have:=jG J9.rs e.symm;omega)).trans J9.bd;exact qd this 5
   obtain⟨o10,n10,c10,rfl,hz8,hz9⟩:=qT ho10;clear hz8 hz9 ho10 hg10 hb10;refine⟨qi a10,hK _ _ ?_⟩;clear hK K;go_simp
   iterate 1 (refine qE rfl rfl (qi a10) ?_;intro K hK;go_big_quiet_op;go_big_quiet_on)
   (refine Qe ?_;intro K hK)
   refine hK _ _ ?_;clear hK K;refine qA ?_;go_wp2;go_roundw
   case rel=>exact⟨k+1,τ,by go_num,_,J10.o⟩
   case measure=>simp[intOf];omega
  ·obtain rfl:k=NS:=by omega
   have hki: ¬(k:Int)<(k:Int):=by omega
   clear hwx HC hk hlt;obtain⟨hx1,hx2,hx3⟩:=HX0.o;have hw:=HW.o;rw[<-hx1] at hw;obtain⟨S7,hS7⟩:=ν ((j9 k S6).2);rw[hS7] at hw hx2 hx3;have b7:=hw.rd.byt;have u7:=JH (s:=S7) b7 2 ζ;have u8:=JH (s:=tkS S7 2) (b7.drop _) 2 ζ;unfold Qj at hx2;obtain⟨N7,hN7⟩: ∃x,num (tkB S7.1 2)=x:=⟨_,rfl⟩;obtain⟨N8,hN8⟩: ∃x,num (tkB (tkS S7 2).1 2)=x:=⟨_,rfl⟩;have u7:0<=num (tkB S7.1 2)/\num (tkB S7.1 2)<65536:=u7;have u8:0<=num (tkB (tkS S7 2).1 2)/\num (tkB (tkS S7 2).1 2)<65536:=u8;rw[hN7] at hx2 u7;rw[hN8] at hx2 u8;obtain⟨u70,u71⟩:=u7;obtain⟨u80,u81⟩:=u8;have EN7:=κ hN7;have EN8:=κ hN8;have HB:=κ hw;have HX2:=κ hx2;have HX3:=κ hx3;clear hw hx1 hx2 hx3 hS7 HW HX0 b7 hN7 hN8 HNST;have x6:=β6 HB.o.bd;have z6:=qd HB.o.bd 6;have H1:Hid (HdS w (wr.setCell ⟨hi,6,none⟩ (μ FH)) R hi w.heap.size hi S7 ⟨(decide (128<=g)),GM,sq,st,sc,L7,FH,0,[],[]⟩ vs (δ none 0 0) (δ none 0 0)):=κ (HB.o.scal 6 (μ FH) ⟨(decide (128<=g)),GM,sq,st,sc,L7,FH,0,[],[]⟩ rfl rfl rfl rfl)
   go_upto_if 66 with fail
   go_cut [] from 67 (λwx=> ∃ve,HdS w wx R hi w.heap.size hi S8 ⟨(decide (128<=g)),GM,sq,st,sc,L7,FH,P7,X7,[]⟩ vs ve (δ none 0 0))
   case first=>
    cases FH with
    | false=>
     go_wp2;go_meet;obtain⟨e1,e2,e3⟩:=HX3.o η;rw[e1,e2,e3];exact⟨_,H1.o⟩
    | true=>
     go_wp2_with (first | (go_at_call 53;((with_reducible refine(xn H1.o.rd).mono ?_);rintro e wa ⟨rfl,ra,aa⟩;rw[EN7.o];have H2:=κ (H1.o.step (s':=tkS S7 2) ra aa);clear ra aa x6 z6;have x7:=β7 H2.o.bd;have z7:=qd H2.o.bd 7;have H3:Hid (HdS w (wa.setCell ⟨hi,7,none⟩ (φ N7)) R hi w.heap.size hi (tkS S7 2) ⟨(decide (128<=g)),GM,sq,st,sc,L7,true,N7,[],[]⟩ vs (δ none 0 0) (δ none 0 0)):=κ (H2.o.scal 7 (φ N7) ⟨(decide (128<=g)),GM,sq,st,sc,L7,true,N7,[],[]⟩ rfl rfl rfl rfl))) | (go_at_call 53;((with_reducible refine(xn H3.o.rd).mono ?_);rintro e wb ⟨rfl,rb,ab⟩;rw[EN8.o];have H4:=κ (H3.o.step (s':=tkS (tkS S7 2) 2) rb ab);clear rb ab x7 z7)) | (go_at_call 56;(go_call QI (4* N8) H4.o.rd as e we ⟨v8,rfl,o8,rc,ac⟩;have H5:=κ (H4.o.step (s':=tkS (tkS (tkS S7 2) 2) (4* N8)) rc ac);have O8:=κ (kq o8 (show hi+1<=wb.heap.size from by have:=qn H4.o.bd;omega));clear rc ac o8;have x8:=β8 H5.o.bd;have z8:=qd H5.o.bd 8;obtain⟨o8,n8,c8,rfl,-,-⟩:=qT O8.o)))
     go_meet;obtain⟨e1,e2,e3⟩:=HX2.o η;rw[e1,e2,e3];exact⟨_,H5.o.fill 8 (δ o8 n8 c8) (q':=⟨(decide (128<=g)),GM,sq,st,sc,L7,true,N7,(tkB (tkS (tkS S7 2) 2).1 (4* N8)),[]⟩) rfl H5.o.rs O8.o H5.o.rp⟩
   case rest=>
    obtain⟨ve,hc⟩:=hcut;have HC:=κ hc;have hb8:=hc.rd.byt;have hl8:=hc.rd.small;have hsh:=hc.rd.shut;have HB8:=κ hb8;have HP:=κ (H9P.o hsh);clear hc H1 HB HX2 HX3 EN7 EN8 x6 z6 H9P hsh hb8
    go_upto_if 84 with (first | (go_at_call 57;(go_call zn HC.o.rd as e wd ⟨rfl,rfl⟩)) | (go_at_call 56;(go_call QI (S8.1.length:Int) HC.o.rd as e we ⟨v9,rfl,o9,rd,ad⟩;rw[(KQ S8.1 S8.2).1] at o9;rw[(KQ S8.1 S8.2).2.1,(KQ S8.1 S8.2).2.2] at rd;have H5:=κ (HC.o.step (s':=([],S8.2)) rd ad);have O9:=κ (kq o9 (show hi+1<=_ from by have:=qn HC.o.bd;omega));clear rd ad o9;have x9:=β9 H5.o.bd;have z9:=qd H5.o.bd 9;obtain⟨o9,n9,c9,rfl,hn9,-⟩:=qT O9.o;subst hn9;have H6:=κ (H5.o.fill 9 (δ o9 S8.1.length c9) (q':=⟨(decide (128<=g)),GM,sq,st,sc,L7,FH,P7,X7,S8.1⟩) rfl H5.o.rs H5.o.re O9.o))))
    go_cut [8,9] from 85 (λs8 s9 wx=> ∃vp,HdS w wx R hi w.heap.size hi S9 ⟨(decide (128<=g)),GM,sq,st,sc,L7,FH,P7,X7,L9⟩ vs ve vp)
    case first=>
     cases FP with
     | false=>
      go_wp2;go_meet;obtain⟨e1,e2⟩:=H9F.o η;rw[e1,e2];exact⟨_,H6.o⟩
     | true=>
      obtain⟨U,hU⟩:=ν ((xL S8.1).2);have h9:=H9T.o η;rw[hU] at h9;have HU:=κ hU;have H9:=κ h9;clear h9 hU;cases U with
      | true=>
       go_wp2_with (go_at_call 58;(go_call XK o9 c9 S8.1 (hi+1) _ H6.o.rp HB8.o hl8 as e wf ⟨⟨v10,rfl,o10⟩,rfl⟩;rw[HU.o];have O10:=κ o10;clear o10;obtain⟨o10,n10,c10,rfl,-,-⟩:=qT O10.o))
       go_meet;obtain⟨e1,e2⟩:=H9.o;rw[e1,e2,if_pos trivial];exact⟨_,H6.o.fill 9 (δ o10 n10 c10) (q':=⟨(decide (128<=g)),GM,sq,st,sc,L7,FH,P7,X7,(xL S8.1).1⟩) rfl H6.o.rs H6.o.re O10.o⟩
      | false=>
       go_wp2_with (first | (go_at_call 58;(go_call XK o9 c9 S8.1 (hi+1) _ H6.o.rp HB8.o hl8 as e wf ⟨⟨v10,rfl,o10⟩,rfl⟩;rw[HU.o];have O10:=κ o10;clear o10;obtain⟨o10,n10,c10,rfl,-,-⟩:=qT O10.o)) | (go_at_call 55;(go_call zo H6.o.rd 2 as e wg ⟨rfl,rg,ag⟩;have O11:=κ (xC O10.o ag (λk hk=>by have:=H6.o.n1;omega));have H7:=κ (H6.o.step (s':=wrS ([],S8.2) 2) rg ag);clear rg ag;have x9':=β9 H7.o.bd;have z9':=qd H7.o.bd 9)))
       go_meet;obtain⟨e1,e2⟩:=H9.o;rw[e1,e2,if_neg η];exact⟨_,H7.o.fill 9 (δ o10 n10 c10) (q':=⟨(decide (128<=g)),GM,sq,st,sc,L7,FH,P7,X7,(xL S8.1).1⟩) rfl H7.o.rs H7.o.re O11.o⟩
    case rest=>
     obtain⟨vp,hc⟩:=hcut;have HE:=κ hc;clear hc H6 H5 HC H9T H9F x9 z9 O9 HB8;obtain⟨hp1,hp2,hp3⟩:=HP.o;have hev:(if ¬S9.2=0 then S9.2 else if 0<S9.1.length then 4 else 0)=PE:=by
      rw[<-hp1,hp2];by_cases h0:S9.2=0<;>simp[h0]
     have HEV:=κ hev;have HP3:=κ hp3;clear hev hp1 hp2 hp3 HP;obtain⟨os,ns,cs,rfl,-,-⟩:=qT HE.o.rs;obtain⟨oe,ne,ce,rfl,-,-⟩:=qT HE.o.re;obtain⟨op,np,cp,rfl,-,-⟩:=qT HE.o.rp;obtain⟨y0,y1,y2,y3,y4,y5,y6,y7,y8,y9⟩:=YK HE.o.bd
     dsimp only at y0 y1 y2 y3 y4 y5 y6 y7 y8 y9
     obtain⟨g0,g1,g2,g3,g4,g5,g6,g7,g8,g9⟩:=YK HE.o.br;obtain⟨k0,k1,k2,k3,k4,k5,k6,k7,k8,k9⟩:=ID HE.o.br;by_cases h0:PE=0
     ·have hq:=HQ.o;rw[if_pos h0,<-HP3.o h0] at hq;have HQ2:=κ hq;clear hq HQ HP3;subst h0
      go_wp2_with (go_at_call 59;(go_call yT HE.o.rd as e wh ⟨rfl,rfl⟩;rw[HEV.o]))
      obtain⟨WF,hWF,mf,aw,r0,r1,r2,r3,r4,r5,r6,r7,r8,r9⟩:=WD HE.o.more (Nat.le_refl _) HE.o.br (μ (decide (128<=g))) (υ GM) (φ sq) (ω st) (ω sc) (δ os ns cs) (μ FH) (φ P7) (δ oe ne ce) (δ op np cp);clear g0 g1 g2 g3 g4 g5 g6 g7 g8 g9 k0 k1 k2 k3 k4 k5 k6 k7 k8 k9 y0 y1 y2 y3 y4 y5 y6 y7 y8 y9;rw[hWF];clear hWF
      (refine bodyPost_ret (v:= .tuple #[θ #[μ (decide (128<=g)),υ GM,φ sq,ω st,ω sc,δ os ns cs,FH,φ P7,δ oe ne ce,δ op np cp],ι 0]) ?rr2 rfl ?_;(case rr2=>(simp[results,results16,go_sem,r0,r1,r2,r3,r4,r5,r6,r7,r8,r9])))
      rw[<-HQ2.o]
      refine⟨δ os ns cs,δ oe ne ce,δ op np cp,rfl, ?_,mf,λb hb=>(by
       have:=HE.o.n0;have:=HE.o.n1;have:=HE.o.nR;have:=HE.o.n5;rcases hb with e | e | e
       ·have:=jG HE.o.rs e;omega
       ·have:=jG HE.o.re e;omega
       ·have:=jG HE.o.rp e;omega)⟩
      have:=HE.o.n1;have:=HE.o.nR;have:=HE.o.n5;exact⟨SlI.of_owns (xC HE.o.rs aw (λk hk=>by omega)) (kP HE.o.rs),SlI.of_owns (xC HE.o.re aw (λk hk=>by omega)) (kP HE.o.re),SlI.of_owns (xC HE.o.rp aw (λk hk=>by omega)) (kP HE.o.rp)⟩
     ·have hq:=HQ.o;rw[if_neg h0] at hq;have HQ2:=κ hq;have h0b:(PE != 0)=true:=by simpa using h0
      clear hq HQ HP3
      go_wp2_with (go_at_call 59;(go_call yT HE.o.rd as e wh ⟨rfl,rfl⟩;rw[HEV.o]))
      obtain⟨WF,hWF,mf,aw,r0,r1,r2,r3,r4,r5,r6,r7,r8,r9⟩:=WD HE.o.more (Nat.le_refl _) HE.o.br (μ false) (υ 0) (φ 0) (ω 0) (ω 0) (δ none 0 0) (μ false) (φ 0) (δ none 0 0) (δ none 0 0);clear g0 g1 g2 g3 g4 g5 g6 g7 g8 g9 k0 k1 k2 k3 k4 k5 k6 k7 k8 k9 y0 y1 y2 y3 y4 y5 y6 y7 y8 y9;rw[hWF];clear hWF
      (refine bodyPost_ret (v:= .tuple #[Γc,ι PE]) ?rr3 rfl ?_;(case rr3=>(simp[results,results16,go_sem,r0,r1,r2,r3,r4,r5,r6,r7,r8,r9])))
      rw[<-HQ2.o];exact⟨δ none 0 0,δ none 0 0,δ none 0 0,rfl,⟨SlI.nil _ _,SlI.nil _ _,SlI.nil _ _⟩,mf,VB⟩
theorem Ky (v:Value) (b:List Int) (w:World) (sl:SlI .u8 w v b) (hb:Byt b) (hl: ¬(200:Int)<b.length):Calls prog 16 #[v] w (Xq (jl b) w):=(Qd v b w sl hb hl).mono λ_ _ h=>h.post
theorem F9 (w:World) (R A room first:Nat) (c:List Value) (T:List (List Value)) (ac ad aa ab:Int) (css:List (List Value)) (h:qN 2 332 56 w R A room first (c::T) ac ad aa ab css):
  Calls prog 174 #[γ R] w λe w'=>e= .returned (.tuple #[θ c.toArray,true])/\qa w w':=by
 have U:=κ h;have I:=h.ofHead;have J:c.toArray.size=2:=by simpa using I.1
 have ae:=h.fst;have ak:(first:Int)<(room:Int):=by have:=h.fst;omega
 have al:0<=(first:Int):=by omega
 have aj:(((c::T).length:Int)==0)=false:=by simp;omega
 have ag:(w.alloc (.cells Γs 56)).cell? ⟨R,2,none⟩=some (ι (c::T).length):=qb (qs h.ring _) 2 rfl;clear h
 go_enter func174,ntmps174
 go_wp2;obtain⟨W1,H⟩:=ν (w.alloc (.cells Γs 56));have O:Hid (qa w W1):=κ (by rw[<-H];exact qa.alloc _ _);have G:=κ (U.o.more O.o);have N:Hid (W1.heap[w.heap.size]? =some (.cells Γs 56 (0,0))):=κ (by rw[<-H];exact qj w _);rw[H];clear H ag;have ah: ∀x:qt W1,x.w'.cell? ⟨R,0,none⟩=some (δ (some ⟨A,0,none⟩) room room):=λx=>x.cell (qn G.o.ring) (qb G.o.ring 0 rfl)
 have ai: ∀x:qt W1,x.w'.cell? ⟨R,1,none⟩=some (ι first):=λx=>x.cell (qn G.o.ring) (qb G.o.ring 1 rfl)
 have Y: ∀x:qt W1,x.w'.rangeAt A (first* 2) c:=λx=>by have:=(G.o.more x.h).range ae;rw[G.o.head] at this;exact this
 refine Qn W1 10 12 [10,11] ?_
 refine Qq9 ?_
 refine jh rfl rfl (qk ρ) 56 (.tmp 19) rfl A (first* 2) rfl c _ (λw' af=>by obtain⟨x,rfl⟩:=af;exact Y x) underlying56 rfl (by rw[I.1];kernel_rfl) ?_;intro K d;go_simp;refine d _ ?_;clear d K;refine zY rfl rfl ζ ?_;intro K d;refine jr 56 (.tmp 2) (.tmp 20) rfl w.heap.size 56 _ c.toArray rfl rfl (qr N.o 1) (by rw[J];kernel_rfl) (by rw[J];rfl) (all_oneCell_toArray I.2) ?_;refine⟨trivial, ?_⟩;go_simp;refine d _ _ ?_;clear d K
 (refine Qe ?_;intro K d)
 refine d _ _ ?_;clear d K;refine qA ?_;go_wp2;refine bodyPost_ret (v:= .tuple #[θ c.toArray,true]) (yo results174 _ _ w.heap.size 56 c.toArray _ _ rfl rfl (jY (qr N.o 1) _) underlying56 rfl (by rw[J];kernel_rfl)) rfl ?_;exact⟨rfl,(xb _ _ _).to_more (O.o.dr 1) (λk e=>by rw[e];exact Nat.le_refl _)⟩
theorem kX {w:World} {cs:Array Value} {t B:Nat} (d:B=w.heap.size): ∀j u,cs.toList[j]? =some u->(w.alloc (.cells cs t)).cell? ⟨B,j,none⟩=some u:=by
 intro j u h;subst d;exact qb (qj w _) j (by simpa using h)
theorem ZI (s:LnS) (h:KM s) (acc:Bool) (w:World):Calls prog 176 #[θ #[ι s.most,ι s.row,s.gone],acc] w λe w'=>e= .returned (.tuple #[θ #[ι s.most,ι (jo s acc).1,μ (jo s acc).2.1],μ (jo s acc).2.2])/\qa w w':=by
 obtain⟨d,G,H,_,_⟩:=h;cases hg:s.gone with
 | true=>
  have e:jo s acc=(s.row,true,false):=by unfold jo;rw[if_pos hg]
  rw[e];exact UL s.most s.row acc w
 | false=>
  cases acc with
  | true=>
   have e:jo s true=(0,false,false):=by unfold jo;rw[if_neg (by rw[hg];decide),if_pos rfl]
   rw[e];exact Pj s.most s.row w
  | false=>
   have e:jo s false=(s.row+1,s.row+1==s.most,s.row+1==s.most):=by unfold jo;rw[if_neg (by rw[hg];decide),if_neg ζ]
   rw[e];exact BD s.most s.row τ τ _ _ rfl rfl w
theorem Vx (s:LnS) (h:KM s) (acc:Bool) (s':LnS) (e:s'.most=s.most/\s'.row=(jo s acc).1/\s'.gone=(jo s acc).2.1/\s'.rw=s.rw):KM s':=by
 obtain⟨N,O,J,U,Y⟩:=h;obtain⟨d,G,H,I⟩:=e;unfold jo at G H;refine⟨by rw[d];exact N, ?_, ?_,by rw[I];exact U,by rw[I];exact Y⟩
 ·rw[d,G];cases hg:s.gone with
  | true=>simpa using O
  | false=>
   have:=J hg;cases acc<;>simp<;>omega
 ·rw[d,G,H];cases hg:s.gone with
  | true=>simp
  | false=>
   have:=J hg;cases acc<;>simp<;>omega
section
variable {N:Nat->Prop} {w w':World} {k:LnB} {vo:Value} {s s':LnS}
theorem Ze (h:LnX N w k vo s) (acc:Bool) (G:vC s 3=false):Calls prog 121 #[γ k.L,acc] w λe w'=>e= .returned (.tuple #[ι 0,ι 0,false])/\qa w w':=by
 have d:=Jy h;rw[G] at d;have d:=κ d;clear G h
 go_enter func121,ntmps121
 go_wp2_with (go_at_call 74;(go_call d.o as e w1 ⟨rfl,H⟩;have I:=κ H;clear H))
 refine bodyPost_ret (v:= .tuple #[ι 0,ι 0,false]) (by simp[results,results121,go_sem]) rfl ?_;exact⟨rfl,I.o⟩
theorem YN (h:LnX N w k vo s) (bh:s.W.length<=1000000) (o:Int×List Int) (T:List (Int×List Int)) (aC:s.C=o::T) (af:Int) (g':Bool) (aD:jo s true=(af,g',false)):
  Calls prog 121 #[γ k.L,true] w λe w'=>e= .returned (.tuple #[ι o.1,ι 1,true])/\ ∃vo',LnX (xf N w w') w' k vo' {s with C:=T,W:=s.W++[o],row:=af,gone:=g'}/\qg N w w':=by
 have I:=κ h;have bE:=κ bh;have ah:=Jy h;have bk:vC s 3=true:=by
  show decide (0<s.C.length)=true;rw[aC];simp
 rw[bk] at ah;have ah:=κ ah;obtain⟨be,cD,aV,aW,aT,aU,aX,ai,aA⟩:=h.r3;rw[aC] at aA;obtain⟨c,q,rfl,aB,aP⟩:=aA.uncons;have AQ:=κ aP;have bu:=κ aB;obtain⟨v0,rfl,⟨Y,U,rfl,bW⟩,bX,bY⟩:=aB.read;have bz:=κ ai;have cy:k.R3<w.heap.size:=qn ai.ring;have cu:k.A3<w.heap.size:=qn ai.row;have aK:=κ h.dist;have aF:=ZI s h.ok true;have bl:=Vx s h.ok true {s with C:=T,W:=s.W++[o],row:=af,gone:=g'} (by rw[aD];exact⟨rfl,rfl,rfl,rfl⟩);rw[aD] at aF;have bB:=κ aF;have bC:=κ bl;clear aF bl aD;clear h bk ai aB aP aA bh aC bW bX bY
 go_enter func121,ntmps121
 go_wp2_with (first | (go_at_call 74;(go_call ah.o as e w1 ⟨rfl,ao⟩;have bG:=κ ao;have aw:=κ (qc ao I.o.blk);have aL:=κ (bz.o.more ao);clear ao;have cv:k.L<w1.heap.size:=qn aw.o;have c3:w1.cell? ⟨k.L,3,none⟩=some (π (some ⟨k.R3,0,none⟩)):=qb aw.o 3 rfl)) | (go_at_call 174;(go_call F9 w1 k.R3 k.A3 s.room be _ q aV aW aT aU aX aL.o as e w2 ⟨rfl,ap⟩;have az:Hid (qa w w2):=κ (bG.o.trans ap);have ax:=κ (qc ap aw.o);have bx:=κ (aL.o.more ap);clear ap;have cw:k.L<w2.heap.size:=qn ax.o;have c3:w2.cell? ⟨k.L,3,none⟩=some (π (some ⟨k.R3,0,none⟩)):=qb ax.o 3 rfl)) | (go_at_call 175;(go_call Na (w2.alloc (.cells #[ι o.1,δ Y o.2.length U] 56)) k.R3 k.A3 s.room be _ q aV aW aT aU aX (bx.o.more (qa.alloc _ _)) as e H ⟨rfl,⟨cp,bf⟩,a3⟩;have bA:=κ bf;have A3:Hid (qg (RgB k.R3 k.A3) w H):=κ (((qg.of_more az.o).alc _).trans a3);have aJ:Hid (H.heap[k.L]? =some (.cells (jQ k vo s) 153 (0,0))):=κ (a3.blk (qs ax.o _) (by obtain⟨⟨aY,aZ,ba,bb,bc,bd⟩,_⟩:=aK.o;rintro(e | e)<;>omega));have aN:Hid (H.heap[w2.heap.size]? =some (.cells #[ι o.1,δ Y o.2.length U] 56 (0,0))):=κ (a3.blk (qj w2 _) (by have:=az.o.size;rintro(e | e)<;>omega));clear bf a3)))
 have am: ∀b,vo.ownBlock=some b->N b/\ ¬k.muts b:=λb d=>I.o.vob d
 have bo: ∀b,vo.ownBlock=some b->b<w.heap.size:=λb d=>I.o.own b (am b d).1
 have z3:w.heap.size<=H.heap.size:=A3.o.size;have cF:w.heap.size<=w2.heap.size:=az.o.size;have bp: ¬vo.ownBlock=some k.L:=λe=>(am _ e).2 (Or.inl rfl)
 have br: ¬vo.ownBlock=some w2.heap.size:=λe=>by have:=bo _ e;omega
 have bD:=κ am;clear am bo;obtain⟨cf,hi,ca,cb,cc⟩:=info_parts (P:=prog) (e:=56) (z:= Γs) (size:=2) (bytes:=32) ξ;have bF:=λ(x:qz (λb=>vo.ownBlock=some b) H)=>β0 (x.h.blk aJ.o bp)
 have aM: ∀x:qz (λb=>vo.ownBlock=some b) H,x.w'.rangeAt w2.heap.size 0 [ι o.1,δ Y o.2.length U]:=λx=>xy (x.h.blk aN.o br)
 refine QN (λb=>vo.ownBlock=some b) H 12 13 [7,8,9,10,12] ?_
 refine Qs6 ?_
 refine jh rfl rfl (qi σ) 56 (.tmp 7) rfl w2.heap.size 0 rfl [ι o.1,δ Y o.2.length U] _ (λw' an=>by obtain⟨x,rfl⟩:=an;exact aM x) underlying56 rfl ξ ?_;intro K G;go_simp;refine G _ ?_;clear G K bF aM
 (refine Ql ?_;intro K G)
 refine⟨qi (((qg.refl _ H).drewN 1).alc _),G _ _ ?_⟩;clear G K;have ar:Hid (qg (RgB k.R3 k.A3) w ((H.drewN 1).alloc (.cells #[ι o.1,δ Y o.2.length U] 56))):=κ ((A3.o.drewN 1).alc _);have al: ∀b,RgB k.R3 k.A3 b->k.muts b:=λb d=>Or.inr (Or.inr (Or.inr d))
 have bt:=(I.o.o.step (ar.o.mono λb d _=>al b d)).widen (D':=λb=>(N b∨w.heap.size<=b)->k.muts b) (λb d=>Or.inl λJ=>d (Or.inl J));have bs:jw ROu (λb=>((N b∨w.heap.size<=b)->k.muts b)∨vo.ownBlock=some b) ((H.drewN 1).alloc (.cells #[ι o.1,δ Y o.2.length U] 56)) [ι o.1,δ Y o.2.length U] o:=(bu.o.step (ar.o.mono λb d=>kZ (al b d))).other λb d=>by
  rcases d with e | e
  ·exact Or.inl (Or.inl λJ=>e (Or.inl J))
  ·exact Or.inl (Or.inr e)
 refine jR rfl rfl ?_;intro K G
 refine zK (.tmp 35) (.tmp 37) 53 rfl 0 56 cf (Γs) 2 32 underlying53 hi ca cb cc rfl ζ vo s.W rfl bt H.heap.size [ι o.1,δ Y o.2.length U] o rfl rfl (kX rfl) (by simp[Value.oneCell']) bs (λb d=>by
  by_cases an:b<w.heap.size
  ·have:=ar.o.size;omega
  ·have:=I.o.own b (I.o.muts b (d (Or.inr τ)));omega) ζ (by have:=bE.o;omega) (Nat.zero_le _) ?_
 intro v6 w6 aE bj bi;have bI:=κ aE;have bJ:=κ bi;have aa:Hid (qg (λb=>vo.ownBlock=some b) H w6):=κ ((((qg.refl _ H).drewN 1).alc _).trans (qg.of_grown bj));have ay:=κ (aa.o.blk aJ.o bp);have bK:=κ (aa.o.blk aN.o br);obtain⟨ae,ac,ab,rfl,bT,bU⟩:=aE.shape;clear aE bj bi bt bs bT bU;have bM:w6.cell? ⟨k.L,0,none⟩=some vo:=qb ay.o 0 rfl;have bP:w6.frozen? ⟨k.L,0,none⟩=false:=qd ay.o 0;refine⟨qi aa.o,G _ _ ?_⟩;clear G K;go_simp
 (refine Ql ?_;intro K G)
 refine⟨qi aa.o,G _ _ ?_⟩;clear G K
 (refine Ql ?_;intro K G)
 refine⟨qi aa.o,G _ _ ?_⟩;clear G K
 iterate 1 (refine qE rfl rfl (qi aa.o) ?_;intro K G;go_big_quiet_op;go_big_quiet_on)
 (refine Qe ?_;intro K G)
 refine G _ _ ?_;clear G K;refine qA ?_;obtain⟨W7,aj⟩:=ν (w6.setCell ⟨k.L,0,none⟩ (δ ae ac ab));have aH:Hid (qg (λb=>b=k.L) w6 W7):=κ (by rw[<-aj];exact(qg.refl (λb=>b=k.L) w6).set (p:=⟨k.L,0,none⟩) rfl _);have bq: ¬w2.heap.size=k.L:=by omega
 have ag:Hid (W7.heap[k.L]? =some (.cells (jQ k (δ ae ac ab) s) 153 (0,0))):=κ (by rw[<-aj];exact qB (qp ay.o 0 _) rfl);have bL:=κ (aH.o.blk bK.o bq);rw[aj];clear aj bM bP;have aQ:W7.cell? ⟨k.L,13,none⟩=some (ι s.most):=qb ag.o 13 rfl;have aR:W7.cell? ⟨k.L,14,none⟩=some (ι s.row):=qb ag.o 14 rfl;have aS:W7.cell? ⟨k.L,15,none⟩=some (μ s.gone):=qb ag.o 15 rfl;have bq: ¬w2.heap.size=k.L:=by omega
 go_wp2_with (go_at_call 176;(go_call bB.o _ as e w8 ⟨rfl,aq⟩;have bH:=κ aq;have O:=κ (qc aq ag.o);have aO:=κ (qc aq bL.o);clear aq;have cx:k.L<w8.heap.size:=qn O.o;have cz:w2.heap.size<w8.heap.size:=qn aO.o;have cE:w8.cell? ⟨w2.heap.size,0,none⟩=some (ι o.1):=qb aO.o 0 rfl;have aQ:w8.cell? ⟨k.L,13,none⟩=some (ι s.most):=qb O.o 13 rfl;have aR:w8.cell? ⟨k.L,14,none⟩=some (ι s.row):=qb O.o 14 rfl;have aS:w8.cell? ⟨k.L,15,none⟩=some (μ s.gone):=qb O.o 15 rfl;have bQ:w8.frozen? ⟨k.L,13,none⟩=false:=qd O.o 13;have bR:w8.frozen? ⟨k.L,14,none⟩=false:=qd O.o 14;have bS:w8.frozen? ⟨k.L,15,none⟩=false:=qd O.o 15))
 refine bodyPost_ret (v:= .tuple #[ι o.1,ι 1,true]) (by simp[results,results121,go_sem]) rfl ?_;obtain⟨WF,ak⟩:=ν ((((w8.setCell ⟨k.L,13,none⟩ (ι s.most)).setCell ⟨k.L,14,none⟩ (ι af)).setCell ⟨k.L,15,none⟩ (μ g')).alloc (.cells #[ι s.most,ι af,g'] 151));have bv:qg (λb=>b=k.L) w8 WF:=by rw[<-ak];exact((((qg.refl (λb=>b=k.L) w8).set (p:=⟨k.L,13,none⟩) rfl _).set (p:=⟨k.L,14,none⟩) rfl _).set (p:=⟨k.L,15,none⟩) rfl _).alc _
 have bw:WF.heap[k.L]? =some (.cells (jQ k (δ ae ac ab) {s with C:=T,W:=s.W++[o],row:=af,gone:=g'}) 153 (0,0)):=by rw[<-ak];exact qs (qB (qp (qp (qp O.o 13 _) 14 _) 15 _) rfl) _
 rw[ak];clear ak aQ aR aS bQ bR bS;have aI:qg (λb=>b=k.L) w6 WF:=(aH.o.more bH.o).trans bv;have aG:qg (λb=>b=k.L∨vo.ownBlock=some b) H WF:=(aa.o.mono λb d=>Or.inr d).trans (aI.mono λb d=>Or.inl d);have av:qg (λb=>(b=k.L∨vo.ownBlock=some b)∨RgB k.R3 k.A3 b) w WF:=(A3.o.mono λb d=>Or.inr d).trans (aG.mono λb d=>Or.inl d);obtain⟨⟨aY,aZ,ba,bb,bc,bd⟩,⟨cq,cr,ct,bN,bO⟩,⟨cA,cB,cd,ce⟩,⟨cC,cg,ch⟩,⟨ci,cj⟩,_⟩:=aK.o;have ad: ∀b,k.muts b-> ¬vo.ownBlock=some b:=λb d e=>(bD.o _ e).2 d
 have au:qg (lnM k vo) w WF:=av.mono λb d=>by
  rcases d with (e | e) | e
  ·exact Or.inl (Or.inl e)
  ·exact Or.inr e
  ·exact Or.inl (al b e)
 have bn: ∀b,(δ ae ac ab).ownBlock=some b->vo.ownBlock=some b∨w.heap.size<=b:=λb d=>by
  rcases bJ.o with e | e
  ·exact Or.inl (by rw[<-e];exact d)
  ·rw[d] at e;injection e with e
   subst e;exact Or.inr (by have:=z3;simp;omega)
 have bg: ∀b,((b=k.L∨vo.ownBlock=some b)∨RgB k.R3 k.A3 b)->lnE N k vo b:=λb d=>by
  rcases d with (e | e) | e
  ·exact kZ (Or.inl e)
  ·exact Or.inr e
  ·exact kZ (al b e)
 have bm: ∀b,lnE (xf N w WF) k (δ ae ac ab) b->lnE N k vo b∨WF.heap.size<=b:=λb d=>Or.inl (xE I.o.own bn d)
 have bV:je 2 ROu (lnD (xf N w WF) k) WF 0 56 (δ ae ac ab) (s.W++[o]):=(bI.o.step (aI.mono λb d _=>Or.inl d)).widen λb d=>by
  by_cases an:b<WF.heap.size
  ·refine Or.inl λJ=>d ?_
   rcases J with J | J
   ·exact Or.inl J
   ·exact Or.inr ⟨J,an⟩
  ·exact Or.inr τ
 have ck: ¬k.R1=k.L:=Ne.symm aY;have n2: ¬k.A1=k.L:=Ne.symm aZ;have cl: ¬k.R2=k.L:=Ne.symm ba;have cm: ¬k.A2=k.L:=Ne.symm bb;have cn: ¬k.R3=k.L:=Ne.symm bc;have co: ¬k.A3=k.L:=Ne.symm bd;refine⟨rfl,_,I.o.make au.size bw (I.o.r1.step av ?_ ?_ bg bm) (I.o.r2.step av ?_ ?_ bg bm) ⟨_,_,_,_,_,_,_,bA.o.away aG ?_ ?_,AQ.o.mono λc y bZ=>I.o.held bZ au bn⟩ bV bC.o,au.mono λb d=>I.o.inN d⟩
 ·rintro((e | e) | (e | e));exact ck e;exact ad _ (Or.inr (Or.inl (Or.inl rfl))) e;exact bN e;exact bO e
 ·rintro((e | e) | (e | e));exact n2 e;exact ad _ (Or.inr (Or.inl (Or.inr rfl))) e;exact cd e;exact ce e
 ·rintro((e | e) | (e | e));exact cl e;exact ad _ (Or.inr (Or.inr (Or.inl (Or.inl rfl)))) e;exact cg e;exact ch e
 ·rintro((e | e) | (e | e));exact cm e;exact ad _ (Or.inr (Or.inr (Or.inl (Or.inr rfl)))) e;exact ci e;exact cj e
 ·rintro(e | e);exact cn e;exact ad _ (Or.inr (Or.inr (Or.inr (Or.inl rfl)))) e
 ·rintro(e | e);exact co e;exact ad _ (Or.inr (Or.inr (Or.inr (Or.inr rfl)))) e
def DF (s:LnS) (j:Nat):LnS:={s with A:=if 1<j then [] else s.A,B:=if 2<j then [] else s.B,C:=if 3<j then [] else s.C}
theorem PU (s:LnS) (j:Nat) (h:1<=j/\j<=3):vh (DF s j) j=DF s (j+1):=by
 obtain⟨d,G⟩:=h
 match j,d,G with
 | 1,_,_=>rfl
 | 2,_,_=>rfl
 | 3,_,_=>rfl
theorem wA (h:LnX N w k vo s) (bc:s.W.length<=1000000) (o:Int×List Int) (T:List (Int×List Int)) (am:s.C=o::T) (H:Int) (g':Bool) (z:Bool) (an:jo s false=(H,g',z)):
  Calls prog 121 #[γ k.L,false] w λe w'=>e= .returned (.tuple #[ι o.1,ι (if z then 7 else 0),true])/\LnX (xf N w w') w' k vo (if z then DF {s with row:=H,gone:=g'} 4 else {s with row:=H,gone:=g'})/\qg N w w':=by
 have G:=κ h;have Y:=Jy h;have aE:vC s 3=true:=by
  show decide (0<s.C.length)=true;rw[am];simp
 rw[aE] at Y;have Y:=κ Y;obtain⟨aY,bs,aV,aW,aT,aU,aX,aC,aj⟩:=h.r3;rw[am] at aj;obtain⟨c,q,rfl,ak,aS⟩:=aj.uncons;have bk:=κ ak;obtain⟨v0,rfl,⟨aH,aB,rfl,bf⟩,bg,bh⟩:=ak.read;have aJ:=κ aC;have ao:=ZI s h.ok false;have aF:=Vx s h.ok false {s with row:=H,gone:=g'} (by rw[an];exact⟨rfl,rfl,rfl,rfl⟩);rw[an] at ao;have aL:=κ ao;have av:=κ aF;clear ao aF an;clear h aE aC ak aS aj bc am bf bg bh
 go_enter func121,ntmps121
 cases z
 all_goals
  go_wp2_with (first | (go_at_call 74;(go_call Y.o as e w1 ⟨rfl,ad⟩;have aO:=κ ad;have ah:=κ (qc ad G.o.blk);have au:=κ (aJ.o.more ad);clear ad;have bm:k.L<w1.heap.size:=qn ah.o;have c3:w1.cell? ⟨k.L,3,none⟩=some (π (some ⟨k.R3,0,none⟩)):=qb ah.o 3 rfl)) | (go_at_call 174;(go_call F9 w1 k.R3 k.A3 s.room aY _ q aV aW aT aU aX au.o as e w2 ⟨rfl,ae⟩;have ax:Hid (qa w w2):=κ (aO.o.trans ae);have I:=κ (qc ae ah.o);have bl:=κ (au.o.more ae);clear ae;have bn:k.L<w2.heap.size:=qn I.o;have c3:w2.cell? ⟨k.L,3,none⟩=some (π (some ⟨k.R3,0,none⟩)):=qb I.o 3 rfl;have ay:w2.cell? ⟨k.L,13,none⟩=some (ι s.most):=qb I.o 13 rfl;have az:w2.cell? ⟨k.L,14,none⟩=some (ι s.row):=qb I.o 14 rfl;have aA:w2.cell? ⟨k.L,15,none⟩=some (μ s.gone):=qb I.o 15 rfl)) | (go_at_call 176;(go_call aL.o (w2.alloc (.cells #[ι o.1,δ aH o.2.length aB] 56)) as e w8 ⟨rfl,af⟩;have aP:Hid (qa w w8):=κ ((ax.o.al _).trans af);have d:=κ (qc af (qs I.o _));have aa:=κ (qc af (qj w2 (.cells #[ι o.1,δ aH o.2.length aB] 56)));clear af;have bo:k.L<w8.heap.size:=qn d.o;have bp:w2.heap.size<w8.heap.size:=qn aa.o;have bt:w.heap.size<=w2.heap.size:=ax.o.size;have bj: ¬w2.heap.size=k.L:=τ;have aI:w8.cell? ⟨w2.heap.size,0,none⟩=some (ι o.1):=qb aa.o 0 rfl;have ay:w8.cell? ⟨k.L,13,none⟩=some (ι s.most):=qb d.o 13 rfl;have az:w8.cell? ⟨k.L,14,none⟩=some (ι s.row):=qb d.o 14 rfl;have aA:w8.cell? ⟨k.L,15,none⟩=some (μ s.gone):=qb d.o 15 rfl;have aZ:w8.frozen? ⟨k.L,13,none⟩=false:=qd d.o 13;have ba:w8.frozen? ⟨k.L,14,none⟩=false:=qd d.o 14;have bb:w8.frozen? ⟨k.L,15,none⟩=false:=qd d.o 15)))
  obtain⟨WF,ab⟩:=ν ((((w8.setCell ⟨k.L,13,none⟩ (ι s.most)).setCell ⟨k.L,14,none⟩ (ι H)).setCell ⟨k.L,15,none⟩ (μ g')).alloc (.cells #[ι s.most,ι H,g'] 151));have ag:qg (λb=>b=k.L) w8 WF:=by rw[<-ab];exact((((qg.refl (λb=>b=k.L) w8).set (p:=⟨k.L,13,none⟩) rfl _).set (p:=⟨k.L,14,none⟩) rfl _).set (p:=⟨k.L,15,none⟩) rfl _).alc _
  have ai:WF.heap[k.L]? =some (.cells (jQ k vo {s with row:=H,gone:=g'}) 153 (0,0)):=by rw[<-ab];exact qs (qB (qp (qp (qp d.o 13 _) 14 _) 15 _) rfl) _
  rw[ab];clear ab ay az aA aZ ba bb;have J:qg (λb=>b=k.L) w WF:=(qg.of_more aP.o).trans ag
 ·refine bodyPost_ret (v:= .tuple #[ι o.1,ι 0,true]) (by simp[results,results121,go_sem]) rfl ?_;exact⟨rfl,G.o.setL J ai ⟨rfl,rfl,rfl,rfl,rfl⟩ av.o,J.mono λb O=>by rw[O];exact G.o.muts _ (Or.inl rfl)⟩
 ·have aN:=κ (G.o.setL J ai ⟨rfl,rfl,rfl,rfl,rfl⟩ av.o);have aq:=κ J;have aQ:=κ (ag.blk aa.o bj);have be: ¬k.muts w2.heap.size:=λe=>by have:=G.o.own _ (G.o.muts _ e);omega
  clear J ag ai d aa aI
  go_loopw [12] (λt wr=> ∃j:Nat,1<=j/\j<=4/\t= ι j/\LnX (xf N w wr) wr k vo (DF {s with row:=H,gone:=g'} j)/\qg k.muts WF wr) (λt _=>4-(intOf t).toNat)
  case atStart=>exact⟨1,τ,τ,rfl,aN.o,qg.refl _ _⟩
  case round=>
   obtain⟨j,bd,bq,rfl,aD,ac⟩:=hrel;have aw:=κ aD;have ar:=κ ac;have bi:Hid (w.heap.size<=wr.heap.size):=κ (Nat.le_trans aq.o.size ac.size);have aR:=κ (ac.blk aQ.o be);have aI:wr.cell? ⟨w2.heap.size,0,none⟩=some (ι o.1):=qb aR.o 0 rfl;clear aD ac;by_cases hlt:j<=3
   ·have br:(j:Int)<=3:=by omega
    have aG:(j:Int)=1∨(j:Int)=2∨(j:Int)=3:=by omega
    have aK:=κ (Cm aw.o j aG);clear aG
    go_wp2_with (go_at_call 126;(go_call aK.o as e w9 ⟨⟨v9,rfl⟩,U,a9⟩;have aM:=κ U;have ap:=κ a9;clear U a9))
    go_roundw
    case rel=>
     have U:=aM.o;rw[Wl bi.o ap.o.size,PU _ j ⟨bd,hlt⟩] at U;exact⟨j+1,τ,τ,by go_num,U,ar.o.trans ap.o⟩
    case measure=>simp[intOf];omega
   ·obtain rfl:j=4:=by omega
    go_wp2;refine bodyPost_ret (v:= .tuple #[ι o.1,ι 7,true]) (by simp[results,results121,go_sem]) rfl ?_;exact⟨rfl,aw.o,(aq.o.mono λb O=>by rw[O];exact G.o.muts _ (Or.inl rfl)).trans (ar.o.mono λb O=>G.o.muts b O)⟩
theorem Ar (h:LnX N w k vo s) (I:s.W.length<=1000000) (acc:Bool):Calls prog 121 #[γ k.L,acc] w λe w'=>e= .returned (.tuple #[ι (qX s acc).2.1,ι (qX s acc).2.2.1,μ (qX s acc).2.2.2])/\ ∃vo',LnX (xf N w w') w' k vo' (qX s acc).1/\qg N w w':=by
 cases hC:s.C with
 | nil=>
  have e:qX s acc=(s,0,0,false):=by unfold qX;rw[hC]
  rw[e];refine(Ze h acc (by show decide (0<s.C.length)=false;rw[hC];rfl)).mono ?_;rintro e w' ⟨rfl,m⟩;exact⟨rfl,vo,h.grow m,qg.of_more m⟩
 | cons o T=>
  rcases ho:jo s acc with ⟨d,g',b⟩
  cases b with
  | true=>
   have J:acc=false:=by
    cases acc with
    | false=>rfl
    | true=>
     unfold jo at ho;split at ho<;>simp at ho
   subst J;have e:qX s false=(DF {s with row:=d,gone:=g'} 4,o.1,7,true):=by unfold qX;rw[hC];simp only[ho];rfl
   rw[e];refine(wA h I o T hC d g' true ho).mono ?_;rintro e w' ⟨rfl,G,H⟩;exact⟨rfl,vo,G,H⟩
  | false=>
   cases acc with
   | true=>
    have e:qX s true=({s with C:=T,W:=s.W++[o],row:=d,gone:=g'},o.1,1,true):=by unfold qX;rw[hC];simp only[ho];rfl
    rw[e];exact YN h I o T hC d g' ho
   | false=>
    have e:qX s false=({s with row:=d,gone:=g'},o.1,0,true):=by unfold qX;rw[hC];simp only[ho];simp[hC]
    rw[e];refine(wA h I o T hC d g' false ho).mono ?_;rintro e w' ⟨rfl,G,H⟩;exact⟨rfl,vo,G,H⟩
end
theorem QZ {α:Type} (d:α) (p:Nat->α->Prop): ∀m,(∀i,i<m-> ∃c,p i c)-> ∃l:List α,l.length=m/\ ∀i,i<m->p i (l.getD i d)
 | 0,_=>⟨[],rfl,λi hi=>absurd hi τ⟩
 | m+1,h=>by
  obtain⟨l,G,I⟩:=QZ d p m λi hi=>h i τ
  obtain⟨c,H⟩:=h m τ;refine⟨l++[c],by simp[G],λi hi=> ?_⟩;by_cases e:i<m
  ·have:=I i e;rw[List.getD_eq_getElem?_getD] at this ⊢;rw[List.getElem?_append_left τ];exact this
  ·obtain rfl:i=m:=by omega
   rw[List.getD_eq_getElem?_getD,List.getElem?_append_right τ,G]
   simpa using H
theorem Q0 {n:Nat}: ∀(css:List (List Value)),(∀c∈css,c.length=n)->css.flatten.length=css.length* n
 | [],_=>by simp
 | c::css,h=>by
  rw[List.flatten_cons,List.length_append,Q0 css λd G=>h d (by simp[G]),h c η,List.length_cons,Nat.add_mul];omega
theorem NM {n:Nat}: ∀(css:List (List Value)) (i j:Nat),(∀c∈css,c.length=n)->i<css.length->j<n->css.flatten[i* n+j]? =(css.getD i [])[j]?
 | [],_,_,_,h,_=>absurd h η
 | c::css,0,j,hl,_,hj=>by
  have:=hl c η;rw[List.flatten_cons,Nat.zero_mul,Nat.zero_add,List.getElem?_append_left τ];rfl
 | c::css,i+1,j,hl,hi,hj=>by
  have d:=hl c η;rw[List.flatten_cons,List.getElem?_append_right (by rw[d,Nat.add_mul];omega),d,show (i+1)* n+j-n=i* n+j by rw[Nat.add_mul];omega];exact NM css i j (λG H=>hl G (by simp[H])) (by simpa using hi) hj
theorem Ψ9 {P:Prop} (h:P:=by
 have aD:L.length+M.length<=maxLen:=by
  have:=Nat.le_mul_of_pos_right (L.length+M.length) (show 0<bytes by omega);unfold maxLen;omega
 obtain⟨aY,cap,rfl,bc,aN,bd,be,aO⟩:=aM;obtain⟨⟨xs,ae,aK⟩,aZ⟩:=id ar;cases aY with
 | none=>
  have ah:cap=0:=aO rfl;subst ah;have aP:M=[]:=List.eq_nil_of_length_eq_zero τ;subst aP;refine wpList_append_own_none an s x t aq base e i n av hi v L.length xs U ae aw ?_;exact h v w (by simpa using ar) ⟨rfl,rfl,rfl,Nat.le_refl _,λ_ _ _=>rfl⟩ (Or.inl rfl)
 | some ad=>
  obtain⟨css,aJ,af⟩:=Ξa ([]:List Value) (λk cs=> ∀d:k<M.length,∃b H,ad=⟨b,H,none⟩/\b<Y.heap.size/\cs.length=n/\(∀j,j<n->Y.cell? ⟨b,H+k* n+j,none⟩=cs[j]?)/\R Y cs M[k]) M.length (λk d=>by
   obtain⟨b,H,cs,ay,aB,aa,aC,N⟩:=aN k d
   exact⟨cs,λ_=>⟨b,H,by injection ay,aB,aa,aC,N⟩⟩)
  have ao: ∀c∈css,c.length=n:=λc ac=>by
   obtain⟨k,d,rfl⟩:=List.mem_iff_getElem.1 ac;obtain⟨_,_,_,_,aa,_⟩:=af k τ τ;rw[List.getD_eq_getElem?_getD,List.getElem?_eq_getElem d] at aa;exact aa
  have am:css.flatten.length=M.length* n:=by rw[Ξb css ao,aJ]
  have al: ∀k j,k<M.length->j<n->css.flatten[k* n+j]? =(css.getD k [])[j]? :=λk j d J=>Ξc css k j ao τ J
  refine wpList_append_own_at w an s x t aq base e i z n bytes av hi aW aS aG aX aj v L.length xs U ae ad M.length cap css.flatten aw am ?_ ?_ aD aH aF ?_
  ·intro j u J;have aL:j<M.length* n:=by rw[<-am];exact(List.getElem?_eq_some_iff.1 J).1
   have ak:j/n<M.length:=by rw[Nat.div_lt_iff_lt_mul aj];exact aL
   have au:j%n<n:=Nat.mod_lt _ aj;have aA:j/n* n+j%n=j:=by rw[Nat.mul_comm];exact Nat.div_add_mod j n
   obtain⟨b,H,rfl,G,_,ac,_⟩:=af _ ak ak;have az:(⟨b,H,none⟩:Addr).add j=⟨b,H+j,none⟩:=by
    unfold Addr.add;split
    ·rename_i ah;subst ah;rfl
    ·rfl
   rw[az,ap.cells b _ G,show H+j=H+j/n* n+j%n by omega,ac _ au,<-al _ _ ak au,aA];exact J
  ·intro u aT;obtain⟨c,ac,aU⟩:=List.mem_flatten.1 aT;obtain⟨k,d,rfl⟩:=List.mem_iff_getElem.1 ac;obtain⟨_,_,_,_,_,_,N⟩:=af k τ τ;rw[List.getD_eq_getElem?_getD,List.getElem?_eq_getElem d] at N;exact aR _ _ _ N u aU
  ·intro v' w' aQ I _ O;have aI: ∀k (d:k<(L++M).length),jw R (λk=>False∨v.ownBlock=some k) w (((xs++css.flatten).drop (k* n)).take n) (L++M)[k]:=by
    intro k d;rw[List.length_append] at d;by_cases e:k<L.length
    ·have bb:k* n+n<=L.length* n:=by
      have:(k+1)* n<=L.length* n:=Nat.mul_le_mul_right n e;rw[Nat.add_mul,Nat.one_mul] at this;exact this
     have bf:=ae.1;have ag:((xs++css.flatten).drop (k* n)).take n=(xs.drop (k* n)).take n:=by
      rw[List.drop_append_of_le_length τ,List.take_append_of_le_length (by rw[List.length_drop];omega)]
     rw[ag,List.getElem_append_left e];exact aK k e
    ·have ai:k-L.length<M.length:=by omega
     obtain⟨_,_,_,_,aa,_,N⟩:=af _ ai ai;have ag:((xs++css.flatten).drop (k* n)).take n=css.getD (k-L.length) []:=by
      apply List.ext_getElem?;intro j;rw[List.getElem?_take];split
      ·rename_i J;rw[List.getElem?_drop,<-al _ _ ai J,List.getElem?_append_right (by rw[ae.1];have:=Nat.mul_le_mul_right n (show L.length<=k by omega);omega),ae.1]
       congr 1
       rw[Nat.sub_mul];have:=Nat.mul_le_mul_right n (show L.length<=k by omega);omega
      ·rename_i J;exact(List.getElem?_eq_none_iff.2 τ).symm
     rw[ag,List.getElem_append_right τ];exact(jw.old aE N (λb G=>by rcases G with G | G;exact absurd G id;exact aV b G)).on ap
   refine h v' w' ⟨⟨xs++css.flatten,by rw[List.length_append];exact aQ,λk d w'' a'=> ?_⟩,λ_ _=>id⟩ I O;refine aI k d w'' ⟨a'.os.trans I.os,a'.tape.trans I.tape,a'.output.trans I.output,Nat.le_trans I.size a'.size,λb G U=> ?_⟩;rw[a'.block b (Nat.lt_of_lt_of_le G I.size) ?_]
   ·exact I.block b G (λe=>U (Or.inr e.symm))
   ·rintro(ab | ab)
    ·exact U (Or.inl ab)
    ·rcases O with O | O
     ·exact U (Or.inr (by rw[<-O];exact ab))
     ·rw[O] at ab;have:w.heap.size=b:=by injection ab
      omega):P:=h
section
open _root_.Go.Proofs.YtlmllmonabafjaaGreatDoor renaming QZ->Ξa,Q0->Ξb,NM->Ξc
theorem ym {P:Program} (Y w:World) {ops:Array Oper} {rest:List Oper} {o:Oper} {a:Act} {Q:Exit->Act->World->Prop} (an:o.guard=none) (s x:Operand) (t:TypeId)
  (aq:o.op= .call {callee:= .builtin .append,args:= #[s,x],argTypes:= #[t,t]})
  (base:Nat) (e:TypeId) (i:TypeInfo) (z:Value) (n bytes:Nat) (av:P.underlying t=some (.slice e)) (hi:P.info? e=some i) (aW:i.zero=some z)
  (aS:i.size=n) (aG:i.bytes=bytes) (aX:z.cells.size=n) (aj:0<n)
  {α:Type} {R:qL α} (aE:QQ R) (aR: ∀w cs y,R w cs y-> ∀u∈cs,u.oneCell'=true)
  (v:Value) (L:List α) (U:a.eval s=v) (ar:je n R (λ_=>False) w base e v L)
  (ax:Value) (M:List α) (aw:a.eval x=ax) (aM:SlP n R Y ax M) (ap:qa Y w) (aV: ∀b,v.ownBlock=some b->Y.heap.size<=b)
  (ba:1<=bytes) (aH:(L.length+M.length)* bytes<=140737488355328) (aF:base<=w.heap.size)
  (h: ∀v' w',je n R (λ_=>False) w' base e v' (L++M)->w.grownBy w' v.ownBlock->(v'.ownBlock=v.ownBlock∨v'.ownBlock=some w.heap.size)->wpList P ops Q rest (a.put o.dst v') w'):wpList P ops Q (o::rest) a w:=Ψ9
end
end Go.Proofs.YtlmllmonabafjaaGreatDoor
