/- Contracts and plain laws. -/
import Derived.Test.YtlmllmonabafjaaGreatDoorMg1
import Derived.IntWalk
import Derived.Deep.Cut
import Derived.Deep.CutRange
import Derived.Deep.CutBlock
import Derived.Laws.CopyRow
import Derived.Laws.Rows
import Derived.Laws.Tables
import Derived.Laws.MakeOwn
import Derived.Deep.MidRow
import Derived.Lib.SliceRun
namespace Go.Proofs.YtlmllmonabafjaaGreatDoor
open Go.Value renaming bool->μ,slice->δ,pointer->π,agg->θ
open Go.IntKind renaming i64->ι,u8->υ,u16->φ,u32->ω,i32->χ,u64->ψ
open _root_.Go.Proofs.Tryz
set_option linter.unusedSimpArgs false
set_option maxHeartbeats 8000000
set_option linter.unusedVariables false
open Go.RowKit Go.ChangeShapes
set_option maxRecDepth 100000
structure PkS (w:World) (vs ve vp:Value) (p:Pk):Prop where
 s:SlI .u32 w vs p.ss
 e:SlI .u8 w ve p.ex
 l:SlI .u8 w vp p.pl
theorem PkS.keep {w w':World} {G d vp:Value} {p:Pk} (h:PkS w G d vp p) (m:qa w w'):PkS w' G d vp p:=⟨h.s.keep m,h.e.keep m,h.l.keep m⟩
structure gu (p:Pk):Prop where
 s:p.ss.length<=1000000
 e:p.ex.length<=1000000
 l:p.pl.length<=1000000
theorem DE (p:Pk) (H G vp:Value) (w:World) (h:PkS w H G vp p) (I:gu p):
  Calls prog 154 #[(Γq p H G vp)] w λe w'=>e= .returned (ι (ww p))/\qa w w':=by
 obtain⟨⟨os,N,rfl,_⟩,⟨ab,ke,rfl,_⟩,⟨ac,J,rfl,_⟩⟩:=h;obtain⟨O,U,Y⟩:=I;have d:ww p=12+4* (p.ss.length:Int)+(p.pl.length:Int)+if p.has then 4+(p.ex.length:Int) else 0:=rfl
 rw[d];clear d;obtain⟨aa,ae,sq,st,sc,ss,has,ad,ex,pl⟩:=p;simp only at *;generalize ss.length=a at *;generalize ex.length=b at *;generalize pl.length=c at *;cases has with
 | true=>
  go_enter func154,ntmps154
  go_wp2;go_ret;exact⟨xU (by simp only[if_true];try omega),qa.alloc _ _⟩
 | false=>
  go_enter func154,ntmps154
  go_wp2;go_ret;exact⟨xU (by simp only[Bool.false_eq_true,if_false];try omega),qa.alloc _ _⟩
theorem gg (p:Pk) (ag af vp:Value) (w:World) (h:PkS w ag af vp p) (aj:gu p):
  Calls prog 92 #[(Γq p ag af vp)] w λe w'=>e= .returned (μ (jM p))/\qa w w':=by
 have Y:=κ h;have I:=yu p;have aa:=κ (λw' al=>DE p ag af vp w' al aj);obtain⟨⟨os,ar,rfl,_⟩,⟨ax,ke,rfl,an⟩,⟨ay,aq,rfl,_⟩⟩:=h;clear an;obtain⟨au,d,av⟩:=aj;obtain⟨ak,ae⟩:=ν (ww p);rw[ae] at I;have ab:=κ ae;clear ae;obtain⟨R,ah⟩:=ν (jM p);rw[ah] at I ⊢;clear ah;obtain⟨aw,ao,sq,st,sc,ss,ac,U,N,az⟩:=p;simp only at *;have ai:N=[]↔N.length=0:=List.length_eq_zero_iff.symm;rw[ai] at I;clear ai;by_cases h1:ao<=127
 ·by_cases h2:(ss.length:Int)<=15
  ·by_cases H:ac=false/\ ¬(U=0)
   ·obtain⟨rfl,H⟩:=H
    have J:Hid (R=false):=κ (by
     cases R with
     | false=>rfl
     | true=>exact absurd ((I.1 rfl).2.2.1 rfl).1 H)
    have ad:(U != 0)=true:=by simpa using H
    clear I H
    go_enter func92,ntmps92
    go_wp2_with (go_at_call 154;(go_call aa.o _ (Y.o.keep (qa.alloc _ _)) as e w2 ⟨rfl,d⟩;rw[ab.o];have G:=κ d;clear d))
    go_ret;exact⟨by rw[J.o];first | rfl | (simp;omega),by first | exact qa.alloc _ _ | exact(qa.alloc _ _).trans G.o⟩
   ·by_cases O:ac=false/\ ¬(N.length=0)
    ·obtain⟨rfl,O⟩:=O
     have J:Hid (R=false):=κ (by
      cases R with
      | false=>rfl
      | true=>exact absurd ((I.1 rfl).2.2.1 rfl).2 O)
     obtain rfl:U=0:=by
      by_cases e:U=0
      ·exact e
      ·exact absurd ⟨rfl,e⟩ H
     have ad:(0:Int)<(N.length:Int):=by omega
     clear I H O
     go_enter func92,ntmps92
     go_wp2_with (go_at_call 154;(go_call aa.o _ (Y.o.keep (qa.alloc _ _)) as e w2 ⟨rfl,d⟩;rw[ab.o];have G:=κ d;clear d))
     go_ret;exact⟨by rw[J.o];first | rfl | (simp;omega),by first | exact qa.alloc _ _ | exact(qa.alloc _ _).trans G.o⟩
    ·by_cases h5:(N.length:Int)%4=0
     ·have am:((N.length:Int)).tmod 4=0:=by rw[Int.tmod_eq_emod_of_nonneg τ];exact h5
      by_cases h6:ak<=200
      ·have J:Hid (R=true):=κ (I.2 ⟨h1,h2,λe=>⟨by
        by_cases z:U=0
        ·exact z
        ·exact absurd ⟨e,z⟩ H,by
        by_cases z:N.length=0
        ·exact z
        ·exact absurd ⟨e,z⟩ O⟩,h5,h6⟩)
       clear I h5;cases ac with
       | true=>
        clear H O
        go_enter func92,ntmps92
        go_wp2_with (go_at_call 154;(go_call aa.o _ (Y.o.keep (qa.alloc _ _)) as e w2 ⟨rfl,d⟩;rw[ab.o];have G:=κ d;clear d))
        go_ret;exact⟨by rw[J.o];first | rfl | (simp;omega),by first | exact qa.alloc _ _ | exact(qa.alloc _ _).trans G.o⟩
       | false=>
        obtain rfl:U=0:=by
         by_cases e:U=0
         ·exact e
         ·exact absurd ⟨rfl,e⟩ H
        have ad: ¬(0:Int)<(N.length:Int):=by
         by_cases e:N.length=0
         ·omega
         ·exact absurd ⟨rfl,e⟩ O
        clear H O
        go_enter func92,ntmps92
        go_wp2_with (go_at_call 154;(go_call aa.o _ (Y.o.keep (qa.alloc _ _)) as e w2 ⟨rfl,d⟩;rw[ab.o];have G:=κ d;clear d))
        go_ret;exact⟨by rw[J.o];first | rfl | (simp;omega),by first | exact qa.alloc _ _ | exact(qa.alloc _ _).trans G.o⟩
      ·have J:Hid (R=false):=κ (by
        cases R with
        | false=>rfl
        | true=>exact absurd (I.1 rfl).2.2.2.2 h6)
       clear I h5;cases ac with
       | true=>
        clear H O
        go_enter func92,ntmps92
        go_wp2_with (go_at_call 154;(go_call aa.o _ (Y.o.keep (qa.alloc _ _)) as e w2 ⟨rfl,d⟩;rw[ab.o];have G:=κ d;clear d))
        go_ret;exact⟨by rw[J.o];first | rfl | (simp;omega),by first | exact qa.alloc _ _ | exact(qa.alloc _ _).trans G.o⟩
       | false=>
        obtain rfl:U=0:=by
         by_cases e:U=0
         ·exact e
         ·exact absurd ⟨rfl,e⟩ H
        have ad: ¬(0:Int)<(N.length:Int):=by
         by_cases e:N.length=0
         ·omega
         ·exact absurd ⟨rfl,e⟩ O
        clear H O
        go_enter func92,ntmps92
        go_wp2_with (go_at_call 154;(go_call aa.o _ (Y.o.keep (qa.alloc _ _)) as e w2 ⟨rfl,d⟩;rw[ab.o];have G:=κ d;clear d))
        go_ret;exact⟨by rw[J.o];first | rfl | (simp;omega),by first | exact qa.alloc _ _ | exact(qa.alloc _ _).trans G.o⟩
     ·have am:(((N.length:Int)).tmod 4==0)=false:=by
       rw[beq_eq_false_iff_ne,Int.tmod_eq_emod_of_nonneg τ];exact h5
      have ap:((N.length:Int)%4==0)=false:=by rw[beq_eq_false_iff_ne];exact h5
      have J:Hid (R=false):=κ (by
       cases R with
       | false=>rfl
       | true=>exact absurd (I.1 rfl).2.2.2.1 h5)
      clear I h5;cases ac with
      | true=>
       clear H O
       go_enter func92,ntmps92
       go_wp2_with (go_at_call 154;(go_call aa.o _ (Y.o.keep (qa.alloc _ _)) as e w2 ⟨rfl,d⟩;rw[ab.o];have G:=κ d;clear d))
       go_ret;exact⟨by rw[J.o];first | rfl | (simp;omega),by first | exact qa.alloc _ _ | exact(qa.alloc _ _).trans G.o⟩
      | false=>
       obtain rfl:U=0:=by
        by_cases e:U=0
        ·exact e
        ·exact absurd ⟨rfl,e⟩ H
       have ad: ¬(0:Int)<(N.length:Int):=by
        by_cases e:N.length=0
        ·omega
        ·exact absurd ⟨rfl,e⟩ O
       clear H O
       go_enter func92,ntmps92
       go_wp2_with (go_at_call 154;(go_call aa.o _ (Y.o.keep (qa.alloc _ _)) as e w2 ⟨rfl,d⟩;rw[ab.o];have G:=κ d;clear d))
       go_ret;exact⟨by rw[J.o];first | rfl | (simp;omega),by first | exact qa.alloc _ _ | exact(qa.alloc _ _).trans G.o⟩
  ·have J:Hid (R=false):=κ (by
    cases R with
    | false=>rfl
    | true=>exact absurd (I.1 rfl).2.1 h2)
   have ad:(15:Int)<(ss.length:Int):=by omega
   clear I
   go_enter func92,ntmps92
   go_wp2_with (go_at_call 154;(go_call aa.o _ (Y.o.keep (qa.alloc _ _)) as e w2 ⟨rfl,d⟩;rw[ab.o];have G:=κ d;clear d))
   go_ret;exact⟨by rw[J.o];first | rfl | (simp;omega),by first | exact qa.alloc _ _ | exact(qa.alloc _ _).trans G.o⟩
 ·have J:Hid (R=false):=κ (by
   cases R with
   | false=>rfl
   | true=>exact absurd (I.1 rfl).1 h1)
  clear I
  go_enter func92,ntmps92
  go_wp2_with (go_at_call 154;(go_call aa.o _ (Y.o.keep (qa.alloc _ _)) as e w2 ⟨rfl,d⟩;rw[ab.o];have G:=κ d;clear d))
  go_ret;exact⟨by rw[J.o];first | rfl | (simp;omega),by first | exact qa.alloc _ _ | exact(qa.alloc _ _).trans G.o⟩
def DV (b:List Int):Bool:=decide (2<=b.length)&&decide (192<=b.getD 1 0)&&decide (b.getD 1 0<=223)
theorem Es (v:Value) (b:List Int) (w:World) (I:SlI .u8 w v b):
  Calls prog 129 #[v] w λe w'=>e= .returned (μ (DV b))/\w=w':=by
 obtain⟨aa,N,rfl,Y,d,_⟩:=I;have G:DV b=(decide (2<=b.length)&&decide (192<=b.getD 1 0)&&decide (b.getD 1 0<=223)):=rfl;rw[G];clear G;by_cases h2:2<=b.length
 ·obtain⟨J,ab,rfl,O,U⟩:=d 1 τ;have H:(2:Int)<=(b.length:Int):=by omega
  rw[decide_eq_true h2];clear d;generalize b.getD 1 0=x at *;by_cases h3:192<=x
  ·by_cases h4:x<=223
   ·go_enter func129,ntmps129
    go_wp2;go_ret;simp[h3,h4]
   ·go_enter func129,ntmps129
    go_wp2;go_ret;simp[h3,h4]
  ·go_enter func129,ntmps129
   go_wp2;go_ret;simp[h3]
   try omega
 ·have H: ¬(2:Int)<=(b.length:Int):=by omega
  rw[decide_eq_false h2];clear d
  go_enter func129,ntmps129
  go_wp2;go_ret;simp
section
open Go.RowKit
def WrX (w0 w:World) (W B:Nat) (o:Obj) (l:List Int):Prop:= ∃v,WrK w0 w W v l B o
theorem WrX.start {w w2:World} {o:Obj} (m:qa (w.alloc o) w2):WrK w (w2.alloc (.cells #[δ none 0 0] 204)) w2.heap.size (δ none 0 0) [] w.heap.size o:=by
 have d:w.heap.size<w2.heap.size:=ql (qc m (qk w o));exact⟨wT w2,((qa.alloc w o).trans m).al _,Nat.le_of_lt d,qq (qc m (qk w o)) _,τ,by simp[Value.ownBlock]⟩
theorem WrX.cell {d w:World} {W B:Nat} {cs:Array Value} {t:TypeId} {l:List Int} (h:WrX d w W B (.cells cs t (0,0)) l) (i:Nat) {v:Value} (hi:cs[i]? =some v):w.cell? ⟨B,i,none⟩=some v:=by
 obtain⟨v',k⟩:=h;exact qb k.keep i hi
theorem WrX.more {d w:World} {W B:Nat} {o:Obj} {l:List Int} (h:WrX d w W B o l):qa d w:=by
 obtain⟨v',k⟩:=h;exact k.more
theorem js (n s:Int):(qx n s).length<=8:=by
 unfold qx;split
 ·rw[zQ];omega
 ·simp
theorem gu.of_right {p:Pk} (h:jM p=true):gu p/\p.ss.length<=15/\p.ex.length<=200/\p.pl.length<=200:=by
 obtain⟨J,N,G,O,d⟩:=(yu p).1 h;unfold ww at d;have H:p.ex.length<=200:=by
  cases hh:p.has with
  | false=>rw[(G hh).2];simp
  | true=>rw[hh] at d;simp only[if_true] at d;omega
 have I:p.pl.length<=200:=by split at d<;>omega
 exact⟨⟨τ,τ,τ⟩,τ,H,I⟩
theorem XT (p:Pk) (aB aA vp:Value) (w:World) (h:PkS w aB aA vp p) (ao:wP p) (ay:jM p=true):
  Calls prog 37 #[(Γq p aB aA vp)] w λe w'=>(∃v,e= .returned (.tuple #[v,ι 0])/\w'.ownsRow w.heap.size 5 1 v (pkB p).length ((pkB p).map (Value.int .u8)))/\qa w w':=by
 obtain⟨bV,cA,cB,cC⟩:=gu.of_right ay;have ax:=κ h;have bD:=κ (gg p aB aA vp (w.alloc (.cells (Γq p aB aA vp) 63)) (h.keep (qa.alloc _ _)) bV);have bT:=(yu p).1 ay;have bC:=κ ay;obtain⟨⟨os,au,rfl,_⟩,⟨av,ke,rfl,bU⟩,⟨aw,ar,rfl,_⟩⟩:=h;clear bU;have t1:=ao.ty;have t2:=ao.sq;have t3:=ao.st;have t4:=ao.sc;have ca:=ao.pr;have bE:=κ ao.ss;obtain⟨cp,cq,bP,cr,_⟩:=bT;obtain⟨ab,aJ,o2,bi⟩: ∃ab,(p.has=false->ab=128+(p.ss.length:Int))/\(p.has=true->ab=128+(p.ss.length:Int)+16)/\ab=Ey p:=⟨_,λe=>by simp[Ey,e],λe=>by simp[Ey,e],rfl⟩;obtain⟨ac,aK,aL,bj⟩: ∃ac,(p.mr=false->ac=p.ty)/\(p.mr=true->ac=p.ty+128)/\ac=Eu p:=⟨_,λe=>by simp[Eu,e],λe=>by simp[Eu,e],rfl⟩;have bQ:0<=ab/\ab<=255:=by
  cases hh:p.has with
  | false=>rw[aJ hh];omega
  | true=>rw[o2 hh];omega
 have bR:0<=ac/\ac<=255:=by
  cases hh:p.mr with
  | false=>rw[aK hh];omega
  | true=>rw[aL hh];omega
 have aH:pkB p=qx ab 1++qx ac 1++qx p.sq 2++qx p.st 4++qx p.sc 4++ssB p.ss++(if p.has then qx p.pr 2++qx ((p.ex.length:Int)/4) 2++p.ex else [])++p.pl:=by
  rw[bi,bj];rfl
 obtain⟨ap,aE,aF,aO⟩: ∃ap,(p.has=false->ap=[])/\(p.has=true->ap=qx p.pr 2++qx ((p.ex.length:Int)/4) 2++p.ex)/\ap=if p.has then qx p.pr 2++qx ((p.ex.length:Int)/4) 2++p.ex else []:=⟨if p.has then qx p.pr 2++qx ((p.ex.length:Int)/4) 2++p.ex else [],λe=>by simp[e],λe=>by simp[e],rfl⟩
 rw[<-aO] at aH;have cz:ap.length<=300:=by
  have:=js p.pr 2;have:=js ((p.ex.length:Int)/4) 2;cases hh:p.has with
  | false=>rw[aE hh];simp
  | true=>rw[aF hh];simp only[List.length_append];omega
 rw[aH];clear ay ao aH bi bj aO;obtain⟨mr,ty,sq,st,sc,ss,has,pr,ex,pl⟩:=p;simp only at *;have bK:=κ aJ;have bL:=κ o2;have bM:=κ aK;have bN:=κ aL;have bv:=κ aE;have bw:=κ aF;have w1:IntKind.i64.wrap (128+(ss.length:Int))=128+(ss.length:Int):=IntWalk.i64_in _ τ;have bX:IntKind.u8.wrap (128+(ss.length:Int))=128+(ss.length:Int):=by
  show (128+(ss.length:Int))%256=_;omega
 obtain⟨s0,s1⟩:=t2;obtain⟨cH,cI⟩:=bQ;obtain⟨cF,cG⟩:=bR;obtain⟨t0,t1⟩:=t1;obtain⟨a0,cj⟩:=t3;obtain⟨ck,cl⟩:=t4;obtain⟨cn,c1⟩:=ca;clear aJ o2 aK aL aE aF bP
 go_enter func37,ntmps37
 go_upto_region 3 with (go_at_call 92;(go_call bD.o as e wr ⟨rfl,aI⟩;rw[bC.o];have bI:=κ aI;have an:=κ (qc aI (qk w (.cells #[μ mr,υ ty,φ sq,ω st,ω sc,δ os ss.length au,has,φ pr,δ av ex.length ke,δ aw pl.length ar] 63)));clear aI;have d:=λn=>β0 (qn an.o n);have G:=λn=>β1 (qn an.o n);have H:=λn=>β2 (qn an.o n);have I:=λn=>β3 (qn an.o n);have J:=λn=>β4 (qn an.o n);have N:=λn=>β5 (qn an.o n);have O:=λn=>β6 (qn an.o n);have U:=λn=>β7 (qn an.o n);have Y:=λn=>β8 (qn an.o n);have aa:=λn=>β9 (qn an.o n)))
 go_quiet (fail)
 clear w1 bX
 go_upto_if 21 with fail
 go_cut [4] from 20 (λbY aq=>bY= υ ab/\aq=wr.drewN nq)
 case first=>
  cases has with
  | false=>
   go_wp2;go_meet;exact⟨by rw[bK.o η],rfl⟩
  | true=>
   go_wp2;go_meet;exact⟨by rw[bL.o η],rfl⟩
 case rest=>
 obtain⟨rfl,rfl⟩:=hcut
 go_upto_if 26 with fail
 go_cut [5] from 24 (λbZ aq=>bZ= υ ac/\aq=wr.drewN nq)
 case first=>
  cases mr with
  | false=>
   go_wp2;go_meet;exact⟨by rw[bM.o η],rfl⟩
  | true=>
   go_wp2;go_meet;exact⟨by rw[bN.o η],rfl⟩
 case rest=>
 obtain⟨rfl,rfl⟩:=hcut;have bJ:Hid (qa (w.alloc (.cells #[μ mr,υ ty,φ sq,ω st,ω sc,δ os ss.length au,has,φ pr,δ av ex.length ke,δ aw pl.length ar] 63)) (wr.drewN nq)):=κ (bI.o.dr nq);have ae:=κ (WrX.start bJ.o);generalize wr.drewN nq=W3 at *;clear d G H I J N O U Y aa;have d:=β0 ae.o.keep;have G:=β1 ae.o.keep;have H:=β2 ae.o.keep;have I:=β3 ae.o.keep;have J:=β4 ae.o.keep;have N:=β5 ae.o.keep;have O:=β6 ae.o.keep;have U:=β7 ae.o.keep;have Y:=β8 ae.o.keep;have aa:=β9 ae.o.keep
 go_wp2_with first | (go_at_call 93;((with_reducible refine(wi ae.o.wr ab τ ζ).mono ?_);rintro e w10 ⟨rfl,bl⟩;obtain⟨cL,aV⟩:=ae.o.wrote bl;have af:=κ aV;clear aV bl d G H I J N O U Y aa;have d:=β0 af.o.keep;have G:=β1 af.o.keep;have H:=β2 af.o.keep;have I:=β3 af.o.keep;have J:=β4 af.o.keep;have N:=β5 af.o.keep;have O:=β6 af.o.keep;have U:=β7 af.o.keep;have Y:=β8 af.o.keep;have aa:=β9 af.o.keep)) | (go_at_call 93;((with_reducible refine(wi af.o.wr ac τ (by have:=js ab 1;have:=js ac 1;have:=js sq 2;have:=js st 4;have:=js sc 4;simp only[List.length_append,List.length_nil];omega)).mono ?_);rintro e cf ⟨rfl,bm⟩;obtain⟨cb,bb⟩:=af.o.wrote bm;have ai:=κ bb;clear bb bm d G H I J N O U Y aa;have d:=β0 ai.o.keep;have G:=β1 ai.o.keep;have H:=β2 ai.o.keep;have I:=β3 ai.o.keep;have J:=β4 ai.o.keep;have N:=β5 ai.o.keep;have O:=β6 ai.o.keep;have U:=β7 ai.o.keep;have Y:=β8 ai.o.keep;have aa:=β9 ai.o.keep)) | (go_at_call 94;(go_call ua ai.o.wr sq τ (by have:=js ab 1;have:=js ac 1;have:=js sq 2;have:=js st 4;have:=js sc 4;simp only[List.length_append,List.length_nil];omega) as e cg ⟨rfl,br⟩;obtain⟨cc,bc⟩:=ai.o.wrote br;have aj:=κ bc;clear bc br d G H I J N O U Y aa;have d:=β0 aj.o.keep;have G:=β1 aj.o.keep;have H:=β2 aj.o.keep;have I:=β3 aj.o.keep;have J:=β4 aj.o.keep;have N:=β5 aj.o.keep;have O:=β6 aj.o.keep;have U:=β7 aj.o.keep;have Y:=β8 aj.o.keep;have aa:=β9 aj.o.keep)) | (go_at_call 95;((with_reducible refine(uB aj.o.wr st τ (by have:=js ab 1;have:=js ac 1;have:=js sq 2;have:=js st 4;have:=js sc 4;simp only[List.length_append,List.length_nil];omega)).mono ?_);rintro e ch ⟨rfl,bs⟩;obtain⟨bk,bd⟩:=aj.o.wrote bs;have ak:=κ bd;clear bd bs d G H I J N O U Y aa;have d:=β0 ak.o.keep;have G:=β1 ak.o.keep;have H:=β2 ak.o.keep;have I:=β3 ak.o.keep;have J:=β4 ak.o.keep;have N:=β5 ak.o.keep;have O:=β6 ak.o.keep;have U:=β7 ak.o.keep;have Y:=β8 ak.o.keep;have aa:=β9 ak.o.keep)) | (go_at_call 95;((with_reducible refine(uB ak.o.wr sc τ (by have:=js ab 1;have:=js ac 1;have:=js sq 2;have:=js st 4;have:=js sc 4;simp only[List.length_append,List.length_nil];omega)).mono ?_);rintro e cP ⟨rfl,bt⟩;obtain⟨cd,be⟩:=ak.o.wrote bt;have am:=κ be;clear be bt d G H I J N O U Y aa;have d:=β0 am.o.keep;have G:=β1 am.o.keep;have H:=β2 am.o.keep;have I:=β3 am.o.keep;have J:=β4 am.o.keep;have N:=β5 am.o.keep;have O:=β6 am.o.keep;have U:=β7 am.o.keep;have Y:=β8 am.o.keep;have aa:=β9 am.o.keep))
 have ci:=κ (ax.o.s.keep am.o.more);generalize aG:([]++qx ab 1++qx ac 1++qx sq 2++qx st 4++qx sc 4)=PX at *;have cx:PX.length<=100:=by rw[<-aG];exact(by have:=js ab 1;have:=js ac 1;have:=js sq 2;have:=js st 4;have:=js sc 4;simp only[List.length_append,List.length_nil];omega)
 have bA:=κ aG;clear aG;clear ae af ai aj ak
 go_loopw [48] (λi aq=> ∃k:Nat,k<=ss.length/\i= ι k/\WrX w aq W3.heap.size w.heap.size (.cells #[μ mr,υ ty,φ sq,ω st,ω sc,δ os ss.length au,has,φ pr,δ av ex.length ke,δ aw pl.length ar] 63) (PX++ssB (ss.take k))) (λi _=>ss.length-(intOf i).toNat)
 case atStart=>exact⟨0,τ,rfl,_,by simpa [ssB] using am.o⟩
 case round=>
  obtain⟨k,ao,rfl,az⟩:=hrel;have ad:=κ az;have bS:(PX++ssB (ss.take k)).length<=10000:=by rw[List.length_append,WV,List.length_take];omega
  by_cases hlt:k<ss.length
  ·obtain⟨cD,co,bO,_,aQ,_⟩:=ax.o.s.keep az.more;cases bO;obtain⟨cm,cE,rfl,ct,cu⟩:=aQ k hlt;have cv:(k:Int)<(ss.length:Int):=by omega
   have aU:ss.take (k+1)=ss.take k++[ss.getD k 0]:=by rw[List.take_succ_eq_append_getElem hlt];simp[hlt]
   have aT:PX++ssB (ss.take (k+1))=PX++ssB (ss.take k)++qx (ss.getD k 0) 4:=by rw[aU,Bu,List.append_assoc]
   have bF:=κ aT;have bW:=bE.o k;obtain⟨cO,bf⟩:=az;have aM:=κ bf;clear aQ aU aT bf;generalize ss.getD k 0=x at *;obtain⟨cJ,cK⟩:=bW
   go_wp2_with (go_at_call 95;(go_call uB aM.o.wr x τ τ as e w8 ⟨rfl,bu⟩;obtain⟨ce,bg⟩:=aM.o.wrote bu;have bH:=κ bg;clear bg bu))
   go_roundw
   case rel=>exact⟨k+1,τ,by go_num,ce,by rw[bF.o];exact bH.o⟩
   case measure=>simp[intOf];omega
  ·obtain rfl:k=ss.length:=by omega
   rw[List.take_length] at ad bS;clear az;have d:=WrX.cell ad.o 0 (v:= μ mr) rfl;have G:=WrX.cell ad.o 1 (v:= υ ty) rfl;have H:=WrX.cell ad.o 2 (v:= φ sq) rfl;have I:=WrX.cell ad.o 3 (v:= ω st) rfl;have J:=WrX.cell ad.o 4 (v:= ω sc) rfl;have N:=WrX.cell ad.o 5 (v:= δ os ss.length au) rfl;have O:=WrX.cell ad.o 6 (v:= μ has) rfl;have U:=WrX.cell ad.o 7 (v:= φ pr) rfl;have Y:=WrX.cell ad.o 8 (v:= δ av ex.length ke) rfl;have aa:=WrX.cell ad.o 9 (v:= δ aw pl.length ar) rfl;generalize aP:PX++ssB ss=PY at *;have bB:=κ aP;clear aP
   go_upto_if 56 with fail
   go_cut [] from 57 (λaq=>WrX w aq W3.heap.size w.heap.size (.cells #[μ mr,υ ty,φ sq,ω st,ω sc,δ os ss.length au,has,φ pr,δ av ex.length ke,δ aw pl.length ar] 63) (PY++ap))
   case first=>
    cases has with
    | false=>
     have aC:=κ (bv.o η);go_wp2;go_meet;rw[aC.o,List.append_nil];exact ad.o
    | true=>
     have aC:=κ (bw.o η);obtain⟨v9,bh⟩:=ad.o;have aN:=κ bh;have cy:((ex.length:Int)).tdiv 4=(ex.length:Int)/4:=Int.tdiv_eq_ediv_of_nonneg τ;clear bh
     go_wp2_with first | (go_at_call 94;((with_reducible refine(ua aN.o.wr pr τ τ).mono ?_);rintro e cf ⟨rfl,bn⟩;obtain⟨cb,aW⟩:=aN.o.wrote bn;have al:=κ aW;clear aW bn d G H I J N O U Y aa;have d:=β0 al.o.keep;have G:=β1 al.o.keep;have H:=β2 al.o.keep;have I:=β3 al.o.keep;have J:=β4 al.o.keep;have N:=β5 al.o.keep;have O:=β6 al.o.keep;have U:=β7 al.o.keep;have Y:=β8 al.o.keep;have aa:=β9 al.o.keep)) | (go_at_call 94;((with_reducible refine(ua al.o.wr ((ex.length:Int)/4) τ (by have:=js pr 2;simp only[List.length_append] at *;omega)).mono ?_);rintro e cg ⟨rfl,bo⟩;obtain⟨cc,aX⟩:=al.o.wrote bo;have ag:=κ aX;clear aX bo d G H I J N O U Y aa;have d:=β0 ag.o.keep;have G:=β1 ag.o.keep;have H:=β2 ag.o.keep;have I:=β3 ag.o.keep;have J:=β4 ag.o.keep;have N:=β5 ag.o.keep;have O:=β6 ag.o.keep;have U:=β7 ag.o.keep;have Y:=β8 ag.o.keep;have aa:=β9 ag.o.keep)) | (go_at_call 96;(go_call uU ag.o.wr _ ex (ax.o.e.keep ag.o.more) (by have:=js pr 2;have:=js ((ex.length:Int)/4) 2;simp only[List.length_append] at *;omega) as e ch ⟨rfl,bp⟩;obtain⟨bk,aY⟩:=ag.o.wrote bp;have bG:=κ aY;clear aY bp))
     go_meet;rw[aC.o];exact⟨bk,by have:=bG.o;simpa only[List.append_assoc] using this⟩
   case rest=>
    obtain⟨cd,aZ⟩:=hcut;have ah:=κ aZ;clear aZ ad d G H I J N O U Y aa;have d:=β0 ah.o.keep;have G:=β1 ah.o.keep;have H:=β2 ah.o.keep;have I:=β3 ah.o.keep;have J:=β4 ah.o.keep;have N:=β5 ah.o.keep;have O:=β6 ah.o.keep;have U:=β7 ah.o.keep;have Y:=β8 ah.o.keep;have aa:=β9 ah.o.keep;have cw:(PY++ap).length<=20000:=by rw[List.length_append];omega
    go_wp2_with first | (go_at_call 96;(go_call uU ah.o.wr _ pl (ax.o.l.keep ah.o.more) τ as e cQ ⟨rfl,bq⟩;obtain⟨cM,ba⟩:=ah.o.wrote bq;have aD:=κ ba;clear ba bq d G H I J N O U Y aa)) | (go_at_call 97;(go_call gf aD.o.wr (by rw[List.length_append];omega) as e cR ⟨cN,rfl,aS,aR⟩;have bz:=κ aS;have bx:=κ aR;clear aS aR))
    go_ret2
    refine⟨⟨_,rfl, ?_⟩,aD.o.more.trans bx.o⟩;have:=kA bz.o aD.o.more.size;rw[<-bB.o,<-bA.o] at this;exact this
end
section
open Go.RowKit
theorem jT {w:World} {g e:Nat} {cur:Array Value} (h:w.heap[g]? =some (.cells cur e (0,0))) (cs:Array Value):(w.setRow g cs).heap[g]? =some (.cells cs e (0,0)):=setRow_heap w g cur cs e (0,0) h
theorem j9 (w:World) (g:Nat) (cs:Array Value):qg (λk=>k=g) w (w.setRow g cs):=by
 refine⟨rfl,rfl,rfl,by simp[World.setRow],λb G d=> ?_⟩;unfold World.setRow;simp only;rw[Array.getElem?_modify,if_neg (λe=>d e.symm)]
theorem qT {w:World} {b g:Nat} {o:Obj} (h:w.heap[b]? =some o) (cs:Array Value) (d:b≠g):(w.setRow g cs).heap[b]? =some o:=(j9 w g cs).blk h d
theorem qg.row {S:Nat->Prop} {a b:World} (h:qg S a b) {g:Nat} (d:S g) (cs:Array Value):qg S a (b.setRow g cs):=h.trans ((j9 b g cs).mono λk e=>by rw[e];exact d)
theorem qg.rowNew {S:Nat->Prop} {a b:World} (h:qg S a b) {g:Nat} (G:a.heap.size<=g) (cs:Array Value):qg S a (b.setRow g cs):=by
 have k:=j9 b g cs;exact⟨k.os.trans h.os,k.tape.trans h.tape,k.output.trans h.output,Nat.le_trans h.size k.size,λi hi d=>by rw[k.block i (Nat.lt_of_lt_of_le hi h.size) τ];exact h.block i hi d⟩
theorem qg.alc {S:Nat->Prop} {a b:World} (h:qg S a b) (o:Obj):qg S a (b.alloc o):=h.more (qa.alloc _ _)
theorem qg.grown {S:Nat->Prop} {a b c:World} (h:qg S a b) {v:Option Nat} (g:b.grownBy c v) (H: ∀k,v=some k->a.heap.size<=k):qg S a c:=
 ⟨g.os.trans h.os,g.tape.trans h.tape,g.output.trans h.output,Nat.le_trans h.size g.size,λk d G=>by rw[g.block k (Nat.lt_of_lt_of_le d h.size) (λe=>by have:=H k e.symm;omega)];exact h.block k d G⟩
theorem WE {n:Nat}: ∀(css:List (List Value)) (i j:Nat),(∀c∈css,c.length=n)->i<css.length->j<n->css.flatten[i* n+j]? =(css.getD i [])[j]?
 | [],_,_,_,h,_=>absurd h η
 | c::css,0,j,hl,_,hj=>by
  have:=hl c η;rw[List.flatten_cons,Nat.zero_mul,Nat.zero_add,List.getElem?_append_left τ];rfl
 | c::css,i+1,j,hl,hi,hj=>by
  have d:=hl c η;rw[List.flatten_cons,List.getElem?_append_right (by rw[d,Nat.add_mul];omega),d,show (i+1)* n+j-n=i* n+j by rw[Nat.add_mul];omega];exact WE css i j (λG H=>hl G (by simp[H])) (by simpa using hi) hj
theorem Ac {n:Nat}: ∀(css:List (List Value)),(∀c∈css,c.length=n)->css.flatten.length=css.length* n
 | [],_=>by simp
 | c::css,h=>by
  rw[List.flatten_cons,List.length_append,Ac css λd G=>h d (by simp[G]),h c η,List.length_cons,Nat.add_mul];omega
theorem YA (z:Array Value) (k n:Nat) (G:z.size=k) (d:0<k):madeCells z (n* k)=(List.replicate n z.toList).flatten.toArray:=by
 apply Array.ext';apply List.ext_getElem?;intro j;have H: ∀c∈List.replicate n z.toList,c.length=k:=λc Y=>by rw[List.eq_of_mem_replicate Y];simpa using G
 by_cases hj:j<n* k
 ·have J:j/k<n:=by rw[Nat.div_lt_iff_lt_mul d];exact hj
  have N:j/k* k+j%k=j:=by rw[Nat.mul_comm];exact Nat.div_add_mod j k
  have I:j%k<z.size:=by rw[G];exact Nat.mod_lt _ d
  have:=WE (n:=k) (List.replicate n z.toList) (j/k) (j%k) H (by simpa using J) (Nat.mod_lt _ d);rw[N] at this;show (madeCells z (n* k)).toList[j]? =(List.replicate n z.toList).flatten[j]?;rw[this];unfold madeCells;simp[hj,J,G,List.getElem?_replicate];rw[Array.getElem?_eq_getElem I,getElem!_pos z (j%k) I]
 ·have O:(madeCells z (n* k)).toList[j]? =none:=by rw[List.getElem?_eq_none_iff,Array.length_toList,size_madeCells];omega
  have U:(List.replicate n z.toList).flatten[j]? =none:=by rw[List.getElem?_eq_none_iff,Ac _ H,List.length_replicate];omega
  rw[O];exact U.symm
def xR (cur:List Value) (o:Nat) (vs:List Value):List Value:=cur.take o++vs++cur.drop (o+vs.length)
theorem JW {n:Nat}: ∀(css:List (List Value)) (k:Nat) (c:List Value),(∀d∈css,d.length=n)->c.length=n->k<css.length->xR css.flatten (k* n) c=(css.set k c).flatten
 | [],_,_,_,_,h=>absurd h η
 | d::css,0,c,hl,hc,_=>by
  have G:=hl d η;unfold xR;rw[Nat.zero_mul,List.take_zero,List.nil_append,Nat.zero_add,List.flatten_cons,List.drop_append_of_le_length τ,List.drop_eq_nil_of_le τ,List.nil_append,List.set_cons_zero,List.flatten_cons]
 | d::css,k+1,c,hl,hc,hk=>by
  have G:=hl d η;have H:=JW css k c (λe J=>hl e (by simp[J])) hc (by simpa using hk);unfold xR at H ⊢;rw[List.set_cons_succ,List.flatten_cons,List.flatten_cons,<-H];have I:(k+1)* n=d.length+k* n:=by rw[G,Nat.add_mul];omega
  rw[I,List.take_length_add_append,Nat.add_assoc,List.drop_length_add_append];simp
theorem xw {w:World} {g t:Nat} {cs:List Value} (h:w.heap[g]? =some (.cells cs.toArray t (0,0))):w.rangeAt g 0 cs:=λj v d=>by
 rw[cell_of_row w g (0+j) cs.toArray t (0,0) h,Nat.zero_add,List.getElem?_toArray];exact d
section
variable {P:Program} {C:World->Prop}
theorem je {l:List Oper} {T:Nat} {Q:Act->World->Prop} {k:Nat} {o:Oper} {rest:List (Nat×Bool)} {a:Act} {w:World} (Y:l[k]? =some o) (H:Region.wanted o (yielded l.toArray a.tmps)=true) (J:C w)
  (d:TypeId) (x:Operand) (aa:o.op= .load d x) (b I:Nat) (ac:a.eval x= π (some ⟨b,I,none⟩)) (cs:List Value) (G:TypeDesc) (O: ∀w,C w->w.rangeAt b I cs)
  (ab:P.underlying d=some G) (U:G.isRow=true) (hi:(P.info? d).map (·.size)=some cs.length)
  (h: ∀K:Act->Prop,(∀a,zZ P l T C Q rest a w->K a)->K (a.put o.dst (θ cs.toArray))):zZ P l T C Q ((k,false)::rest) a w:=
 qD Y H J λK N=>⟨θ cs.toArray,λw H=>by
  unfold Oper.quietAt execOp;simp only[aa,ac,Instr.loadAt,Instr.sureAddr,Sem.run_bind,Sem.run_pure,Result.andThen_ok,run_loadVar_mid w b I d cs G (O w H) ab U hi]
  exact⟨rfl,rfl⟩,h K N⟩
theorem Y2 {w:World} (G:TypeId) (g d:Nat) (e:TypeId) (cur:Array Value) (cs:List Value) (N:w.heap[g]? =some (.cells cur e (0,0))) (J:d+cs.length<=cur.size)
  (hi:(P.info? G).map (·.size)=some cs.length) (I: ∀u∈cs,u.oneCell'=true):
  (Instr.storeAt G (π (some ⟨g,d,none⟩)) (θ cs.toArray)).run P w= .ok () (w.setRow g (xR cur.toList d cs).toArray):=by
 have H:=run_storeCells_at P g d e cs 0 cur w N (by simpa using J) I;cases hq:P.info? G with
 | none=>simp[hq] at hi
 | some i=>
  have O:cs.length=i.size:=by simp[hq] at hi;omega
  simp only[Nat.add_zero] at H;unfold xR;simp[Instr.storeAt,Instr.sureAddr,storeVar,sizeOf,typeInfo,hq,Value.cells,O,H]
theorem zF {o:Oper} {a:Act} {w:World} {K:Act->World->Prop} (G:TypeId) (x y:Operand) (N:o.op= .store G x y) (g d:Nat) (e:TypeId) (cur:Array Value) (cs:List Value)
  (O:a.eval x= π (some ⟨g,d,none⟩)) (U:a.eval y= θ cs.toArray) (J:w.heap[g]? =some (.cells cur e (0,0))) (I:d+cs.length<=cur.size) (hi:(P.info? G).map (·.size)=some cs.length) (H: ∀u∈cs,u.oneCell'=true)
  (h:C (w.setRow g (xR cur.toList d cs).toArray)/\K (a.put o.dst undef) (w.setRow g (xR cur.toList d cs).toArray)):jl P C o a w K:=by
 unfold jl execOp;simp only[N,O,U,Sem.run_bind,Sem.run_pure,Result.andThen_ok,Y2 G g d e cur cs J I hi H];exact h
theorem jq {o:Oper} {a:Act} {w:World} {K:Act->World->Prop} (G:TypeId) (x y:Operand) (J:o.op= .store G x y) (g:Nat) (e:TypeId) (c d:Array Value)
  (O:a.eval x= γ g) (U:a.eval y= θ d) (I:w.heap[g]? =some (.cells c e (0,0))) (hi:(P.info? G).map (·.size)=some d.size) (N:c.size=d.size) (H:d.all (·.oneCell')=true)
  (h:C (w.setRow g d)/\K (a.put o.dst undef) (w.setRow g d)):jl P C o a w K:=by
 unfold jl execOp;simp only[J,O,U,Instr.storeAt,Instr.sureAddr,Sem.run_bind,Sem.run_pure,Result.andThen_ok,run_storeVar_row w g e G c d I hi N H];exact h
theorem xV {ops:Array Oper} {rest:List Oper} {o:Oper} {a:Act} {w:World} {Q:Exit->Act->World->Prop} (N:o.guard=none) (G:TypeId) (x y:Operand) (O:o.op= .store G x y)
  (g:Nat) (t:TypeId) (c d:Array Value) (J:w.heap[g]? =some (.cells c t (0,0))) (Y:a.eval x= γ g) (aa:a.eval y= θ d)
  (hi:(P.info? G).map (·.size)=some d.size) (U:c.size=d.size) (H:d.all (·.oneCell')=true)
  (h:wpList P ops Q rest (a.put o.dst undef) (w.setRow g d)):wpList P ops Q (o::rest) a w:=by
 refine wpList_plain N λK I=> ?_
 unfold Oper.wp execOp;simp only[O,Y,aa,Instr.storeAt,Instr.sureAddr,Sem.run_bind,Sem.run_pure,Result.andThen_ok,run_storeVar_row w g t G c d J hi U H];exact I _ _ h
theorem yL {ops:Array Oper} {rest:List Oper} {o:Oper} {a:Act} {w:World} {Q:Exit->Act->World->Prop} (p:Op) (_:o.op=p) (h:wpList P ops Q (o::rest) a w):wpList P ops Q (o::rest) a w:=h
theorem vT {ops:Array Oper} {rest:List Oper} {o:Oper} {a:Act} {w:World} {Q:Exit->Act->World->Prop} (N:o.guard=none) (d:TypeId) (x:Operand) (O:o.op= .load d x)
  (g:Nat) (t:TypeId) (c:Array Value) (G:TypeDesc) (J:w.heap[g]? =some (.cells c t (0,0))) (Y:a.eval x= γ g)
  (U:P.underlying d=some G) (I:G.isRow=true) (hi:(P.info? d).map (·.size)=some c.size)
  (h:wpList P ops Q rest (a.put o.dst (θ c)) w):wpList P ops Q (o::rest) a w:=by
 have H:w.rangeAt g 0 c.toList:=by
  have:=World.rangeAt_of_block J 0 c.size;rw[Nat.zero_add,Array.extract_size] at this;exact this
 have:=wpList_load_mid (P:=P) (ops:=ops) (rest:=rest) (op:=o) (a:=a) (w:=w) (Q:=Q) N d x O g 0 Y c.toList G H U I (by rw[hi];simp);simp only[Array.toArray_toList] at this;exact this h
theorem uc (w:World) (t aa e:TypeId) (z:Value) (d:List Value) (N:P.underlying t=some (.slice e)) (O: ∀w,(zeroValue e).run P w= .ok z w) (U:(Builtin.zeroCells z.cells 1).toList=d) (g o c:Nat) (cur:Array Value) (J:w.heap[g]? =some (.cells cur e (0,0)))
  (I:o+d.length<=cur.size) (H: ∀v∈d,v.oneCell'=true):
  (Builtin.clear_ #[t] aa #[δ (some ⟨g,o,none⟩) 1 c]).run P w= .ok (.tuple #[]) (w.setRow g (xR cur.toList o d).toArray):=by
 have Y:Builtin.zeroCells z.cells 1=d.toArray:=by
  rw[<-U]
 have G:=run_storeCells_at P g o e d 0 cur w J (by simpa using I) H;simp only[Nat.add_zero] at G;unfold xR;simp[Builtin.clear_,run_underlying N,O w,Y,G]
end
def jR (A room first q:Nat) (ci co cd cg:Int):Array Value:=
 #[.slice (some ⟨A,0,none⟩) room room,.int .i64 first,.int .i64 q,.bool false,.int .i64 ci,.int .i64 co,.int .i64 cd,.int .i64 cg]
structure qO (n tr te:Nat) (w:World) (R A room first:Nat) (q:List (List Value)) (ci co cd cg:Int) (css:List (List Value)):Prop where
 ring:w.heap[R]? =some (.cells (jR A room first q.length ci co cd cg) tr (0,0))
 row:w.heap[A]? =some (.cells css.flatten.toArray te (0,0))
 ne:R≠A
 len:css.length=room
 all: ∀c∈css,c.length=n/\ ∀u∈c,u.oneCell'=true
 pos:1<=room/\room<=8
 fst:first<room
 fits:q.length<=room
 holds: ∀i,i<q.length->css.getD ((first+i)%room) []=q.getD i []
def RgB (R A:Nat) (b:Nat):Prop:=b=R∨b=A
theorem MN (first i room:Nat):((first+1)%room+i)%room=(first+(i+1))%room:=by
 rw[Nat.mod_add_mod];congr 1;omega
theorem Ad {first i room:Nat} (h:first<room) (hi:i<room):(first+i)%room=if first+i<room then first+i else first+i-room:=by
 split
 ·exact Nat.mod_eq_of_lt (by assumption)
 ·rw[Nat.mod_eq_sub_mod τ,Nat.mod_eq_of_lt τ]
section
variable {n tr te:Nat} {w w':World} {R A room first:Nat} {q:List (List Value)} {ci co cd cg:Int} {css:List (List Value)}
theorem qO.away {S:Nat->Prop} (h:qO n tr te w R A room first q ci co cd cg css) (a:qg S w w') (G: ¬S R) (d: ¬S A):qO n tr te w' R A room first q ci co cd cg css:=
 {h with ring:=a.blk h.ring G,row:=a.blk h.row d}
theorem qO.more (h:qO n tr te w R A room first q ci co cd cg css) (m:qa w w'):qO n tr te w' R A room first q ci co cd cg css:=
 {h with ring:=qc m h.ring,row:=qc m h.row}
theorem qO.ctr (h:qO n tr te w R A room first q ci co cd cg css) (i:Nat) (v:Value) {H I d G:Int} (e:(jR A room first q.length ci co cd cg).setIfInBounds i v=jR A room first q.length H I d G):qO n tr te (w.setCell ⟨R,i,none⟩ v) R A room first q H I d G css:=
 {h with ring:=qA (qo h.ring i v) e,row:=qm h.row _ _ (Ne.symm h.ne)}
theorem qO.popped (h:qO n tr te w R A room first q ci co cd cg css) (v:Int):qO n tr te (w.setCell ⟨R,5,none⟩ (ι v)) R A room first q ci v cd cg css:=h.ctr 5 _ rfl
theorem qO.dropped (h:qO n tr te w R A room first q ci co cd cg css) (v:Int):qO n tr te (w.setCell ⟨R,6,none⟩ (ι v)) R A room first q ci co v cg css:=h.ctr 6 _ rfl
theorem qO.drained (h:qO n tr te w R A room first q ci co cd cg css) (v:Int):qO n tr te (w.setCell ⟨R,7,none⟩ (ι v)) R A room first q ci co cd v css:=h.ctr 7 _ rfl
theorem yD {P:Program} {I:Func} {p u:Tmp} {d:TypeId} (h:I.results= #[.cell p d,.tmp u]) (tmps:Array Value) (w:World) (g:Nat) (t:TypeId) (cs:Array Value) (G:TypeDesc) (H:Value)
  (O:tmps.getD p undef= γ g) (Y:tmps.getD u undef=H) (N:w.heap[g]? =some (.cells cs t (0,0)))
  (ab:P.underlying d=some G) (J:(match G with | .struct _ | .array _ _=>true | _=>false)=true) (hi:(P.info? d).map (·.size)=some cs.size):
  (results I tmps).run P w= .ok (.tuple #[θ cs,H]) w:=by
 have U:tmps[p]?.getD undef= γ g:=by simpa using O
 have aa:tmps[u]?.getD undef=H:=by simpa using Y
 simp[results,h,U,aa,asAddr,run_loadVar_row w g t d cs (0,0) G N ab J hi]
theorem Ud {P:Program} {I:Func} {p u s:Tmp} {d:TypeId} (h:I.results= #[.cell p d,.tmp u,.tmp s]) (tmps:Array Value) (w:World) (g:Nat) (t:TypeId) (cs:Array Value) (G:TypeDesc) (H v3:Value)
  (O:tmps.getD p undef= γ g) (Y:tmps.getD u undef=H) (ab:tmps.getD s undef=v3) (N:w.heap[g]? =some (.cells cs t (0,0)))
  (ad:P.underlying d=some G) (J:(match G with | .struct _ | .array _ _=>true | _=>false)=true) (hi:(P.info? d).map (·.size)=some cs.size):
  (results I tmps).run P w= .ok (.tuple #[θ cs,H,v3]) w:=by
 have U:tmps[p]?.getD undef= γ g:=by simpa using O
 have aa:tmps[u]?.getD undef=H:=by simpa using Y
 have ac:tmps[s]?.getD undef=v3:=by simpa using ab
 simp[results,h,U,aa,ac,asAddr,run_loadVar_row w g t d cs (0,0) G N ad J hi]
theorem qO.cl (h:qO n tr te w R A room first q ci co cd cg css): ∀c∈css,c.length=n:=λc d=>(h.all c d).1
theorem qO.size (h:qO n tr te w R A room first q ci co cd cg css):css.flatten.toArray.size=room* n:=by rw[List.size_toArray,Ac css h.cl,h.len]
theorem qO.range (h:qO n tr te w R A room first q ci co cd cg css) {k:Nat} (J:k<room):w.rangeAt A (k* n) (css.getD k []):=λj v G=>by
 have d:k<css.length:=by rw[h.len];exact J
 have H:(css.getD k []).length=n:=by
  rw[List.getD_eq_getElem?_getD,List.getElem?_eq_getElem d];exact h.cl _ (List.getElem_mem d)
 have I:j<n:=by rw[<-H];exact(List.getElem?_eq_some_iff.1 G).1
 rw[cell_of_row w A (k* n+j) css.flatten.toArray te (0,0) h.row,List.getElem?_toArray,WE css k j h.cl d I];exact G
theorem qO.head {c:List Value} {T:List (List Value)} (h:qO n tr te w R A room first (c::T) ci co cd cg css):css.getD first []=c:=by
 have:=h.holds 0 η;rw[Nat.add_zero,Nat.mod_eq_of_lt h.fst] at this;exact this
theorem qO.ofHead {c:List Value} {T:List (List Value)} (h:qO n tr te w R A room first (c::T) ci co cd cg css):c.length=n/\ ∀u∈c,u.oneCell'=true:=by
 rw[<-h.head];have d:first<css.length:=by rw[h.len];exact h.fst
 rw[List.getD_eq_getElem?_getD,List.getElem?_eq_getElem d];exact h.all _ (List.getElem_mem d)
theorem qO.qall (h:qO n tr te w R A room first q ci co cd cg css): ∀c∈q,c.length=n/\ ∀u∈c,u.oneCell'=true:=λc G=>by
 obtain⟨i,hi,rfl⟩:=List.mem_iff_getElem.1 G;have:=h.holds i hi;rw[List.getD_eq_getElem?_getD,List.getD_eq_getElem?_getD,List.getElem?_eq_getElem hi,Option.getD_some] at this;rw[<-this];have d:(first+i)%room<css.length:=by rw[h.len];exact Nat.mod_lt _ (by have:=h.pos;omega)
 rw[List.getElem?_eq_getElem d];exact h.all _ (List.getElem_mem d)
theorem WW {p:List Value->Prop} {css:List (List Value)} {k:Nat} {z:List Value} (h: ∀c∈css,p c) (G:p z): ∀c∈css.set k z,p c:=λc d=>by
 rcases List.mem_or_eq_of_mem_set d with h1 | rfl
 ·exact h c h1
 ·exact G
theorem qO.took {c:List Value} {T:List (List Value)} (h:qO n tr te w R A room first (c::T) ci co cd cg css) {z:List Value} (ab:z.length=n/\ ∀u∈z,u.oneCell'=true) {H I d G:Int}
  (Y:w'.heap[R]? =some (.cells (jR A room ((first+1)%room) T.length H I d G) tr (0,0))) (aa:w'.heap[A]? =some (.cells (css.set first z).flatten.toArray te (0,0))):qO n tr te w' R A room ((first+1)%room) T H I d G (css.set first z):=by
 have N:=h.fits;simp at N;refine⟨Y,aa,h.ne,by rw[List.length_set];exact h.len,WW h.all ab,h.pos,Nat.mod_lt _ (by have:=h.pos;omega),τ,λi hi=> ?_⟩;rw[MN];have U:=h.holds (i+1) (by simp;omega);have J:=h.fst;have O:(first+(i+1))%room≠first:=by
  intro e;rw[Ad J τ] at e;split at e<;>omega
 rw[List.getD_eq_getElem?_getD,List.getElem?_set_ne (Ne.symm O),<-List.getD_eq_getElem?_getD,U];rfl
theorem qO.put (h:qO n tr te w R A room first q ci co cd cg css) (Y:q.length<room) {c:List Value} (O:c.length=n/\ ∀u∈c,u.oneCell'=true) {I J G H:Int}
  (aa:w'.heap[R]? =some (.cells (jR A room first (q.length+1) I J G H) tr (0,0))) (ab:w'.heap[A]? =some (.cells (css.set ((first+q.length)%room) c).flatten.toArray te (0,0))):qO n tr te w' R A room first (q++[c]) I J G H (css.set ((first+q.length)%room) c):=by
 refine⟨by simpa using aa,ab,h.ne,by rw[List.length_set];exact h.len,WW h.all O,h.pos,h.fst,by simp;omega,λi hi=> ?_⟩;have N:=h.fst;simp at hi;by_cases e:i=q.length
 ·subst e;rw[List.getD_eq_getElem?_getD,List.getElem?_set_self (by rw[h.len];exact Nat.mod_lt _ τ)];simp
 ·have U:(first+i)%room≠(first+q.length)%room:=by
   intro d;rw[Ad N τ,Ad N Y] at d;split at d<;>split at d<;>omega
  rw[List.getD_eq_getElem?_getD,List.getElem?_set_ne (Ne.symm U),<-List.getD_eq_getElem?_getD,h.holds i τ];simp only[List.getD_eq_getElem?_getD];rw[List.getElem?_append_left τ]
end
def WI (zs:List Value) (first room:Nat) (q0 css:List (List Value)) (cd:Int):Bool->List Value->Nat->List (List Value)->Int->List (List Value)->Prop
 | false,old,f,q,cd',cs=>old=zs/\f=first/\q=q0/\cd'=cd/\cs=css
 | true,old,f,q,_,cs=>q0=old::q/\f=(first+1)%room/\cs=css.set first zs
end
section
open Go.RowKit
def jc (n:Int):Bool:=decide (0<=n/\n<3)
theorem Ψ1 {P:Prop} (h:P:=by
 have G:Hid (jc n=decide (0<=n/\n<3)):=κ rfl;by_cases h1:0<=n
 ·by_cases h2:n<3
  ·have d:jc n=true:=by rw[G.o];simp[h1,h2]
   rw[d]
   go_enter Ξa,Ξb
   go_wp2
   all_goals (go_ret;first | exact⟨rfl,rfl⟩ | omega)
  ·have d:jc n=false:=by rw[G.o];simp[h2]
   rw[d]
   go_enter Ξa,Ξb
   go_wp2
   all_goals (go_ret;first | exact⟨rfl,rfl⟩ | omega)
 ·have d:jc n=false:=by rw[G.o];simp[h1]
  rw[d]
  go_enter Ξa,Ξb
  go_wp2
  all_goals (go_ret;first | exact⟨rfl,rfl⟩ | omega)):P:=h
section
open _root_.Go.Proofs.Tryz renaming func207->Ξa,ntmps207->Ξb
theorem Y0 (n:Int) (w:World):Calls prog 207 #[ι n] w λe w'=>e= .returned (μ (jc n))/\w'=w:=Ψ1
end
section
open _root_.Go.Proofs.Tryz renaming func151->Ξa,ntmps151->Ξb
theorem xW (n:Int) (w:World):Calls prog 151 #[ι n] w λe w'=>e= .returned (μ (jc n))/\w'=w:=Ψ1
end
theorem QY (c t n:Int) (d:jc n=true) (w:World):Calls prog 152 #[θ #[ι c,ι t],ι n] w λe w'=>e= .returned (.tuple #[θ #[ι c,ι n],ι 0])/\qa w w':=by
 have G:=κ d;clear d
 go_enter func152,ntmps152
 go_wp2_with (first | (go_at_call 207;((with_reducible refine(Y0 n _).mono ?_);rintro e w1 ⟨rfl,rfl⟩;rw[G.o])))
 refine bodyPost_ret (v:= .tuple #[θ #[ι c,ι n],ι 0]) (by simp[results,results152,go_sem]) rfl ?_;exact⟨rfl,ρ⟩
end
section
open Go.RowKit
theorem Y1 (n:Int) (H:jc n=true) (w:World):Calls prog 153 #[ι n] w λe w'=>e= .returned (.tuple #[θ #[ι (-1),ι n],ι 0])/\qa w w':=by
 have I:=κ H;clear H
 go_enter func153,ntmps153
 go_wp2_with (first | (go_at_call 152;(go_call QY (-1) 0 n I.o _ as e w1 ⟨rfl,d⟩;have G:Hid (w1.heap[w.heap.size]? =some (.cells #[ι 0,ι 0] 103 (0,0))):=κ (qc d (qk _ _));have J:=κ ((qa.alloc _ _).trans d);clear d)) | (refine yL (.store 103 (.tmp 2) (.tmp 7)) rfl ?_;refine xV rfl 103 (.tmp 2) (.tmp 7) rfl w.heap.size 103 _ #[ι (-1),ι n] G.o rfl rfl ξ rfl (all_oneCell_toArray (by simp[Value.oneCell'])) ?_))
 refine bodyPost_ret (v:= .tuple #[θ #[ι (-1),ι n],ι 0]) (yD results153 _ _ w.heap.size 103 #[ι (-1),ι n] _ _ rfl rfl (jT G.o _) underlying103 rfl ξ) rfl ?_;exact⟨rfl,(j9 _ _ _).to_more J.o (λk e=>by rw[e];exact Nat.le_refl _)⟩
end
section
open Go.RowKit
theorem Ux (c t n:Int) (k:Bool) (d:(n==c)=true) (G:(n != c)=false) (w:World):Calls prog 198 #[θ #[ι c,ι t],ι n,k] w λe w'=>e= .returned (.tuple #[θ #[ι c,ι t],ι 0,false])/\qa w w':=by
 go_enter func198,ntmps198
 go_wp2;refine bodyPost_ret (v:= .tuple #[θ #[ι c,ι t],ι 0,false]) (by simp[results,results198,go_sem]) rfl ?_;exact⟨rfl,ρ⟩
theorem Uy (c t n:Int) (k:Bool) (d:(n != c)=true) (G:(n==t)=true) (H:k=true) (w:World):Calls prog 198 #[θ #[ι c,ι t],ι n,k] w λe w'=>e= .returned (.tuple #[θ #[ι n,ι t],ι 0,true])/\qa w w':=by
 go_enter func198,ntmps198
 go_wp2;refine bodyPost_ret (v:= .tuple #[θ #[ι n,ι t],ι 0,true]) (by simp[results,results198,go_sem]) rfl ?_;exact⟨rfl,ρ⟩
theorem Ki (c t n:Int) (k:Bool) (G:(n != c)=true) (d:(n==c)=false) (H:(n==t)=true) (I:k=false) (w:World):Calls prog 198 #[θ #[ι c,ι t],ι n,k] w λe w'=>e= .returned (.tuple #[θ #[ι c,ι t],ι 5,false])/\qa w w':=by
 go_enter func198,ntmps198
 go_wp2;refine bodyPost_ret (v:= .tuple #[θ #[ι c,ι t],ι 5,false]) (by simp[results,results198,go_sem]) rfl ?_;exact⟨rfl,ρ⟩
theorem Bj (c t n:Int) (k:Bool) (G:(n != c)=true) (d:(n==c)=false) (H:(n==t)=false) (w:World):Calls prog 198 #[θ #[ι c,ι t],ι n,k] w λe w'=>e= .returned (.tuple #[θ #[ι c,ι t],ι 4,false])/\qa w w':=by
 go_enter func198,ntmps198
 go_wp2;refine bodyPost_ret (v:= .tuple #[θ #[ι c,ι t],ι 4,false]) (by simp[results,results198,go_sem]) rfl ?_;exact⟨rfl,ρ⟩
end
section
open Go.RowKit
theorem Kj (m:Int) (d:1<=m) (G:m<=10) (w:World):Calls prog 149 #[ι m] w λe w'=>e= .returned (.tuple #[θ #[ι m,ι 0,false],ι 0])/\qa w w':=by
 go_enter func149,ntmps149
 go_wp2;refine bodyPost_ret (v:= .tuple #[θ #[ι m,ι 0,false],ι 0]) (by simp[results,results149,go_sem]) rfl ?_;exact⟨rfl,ρ⟩
theorem Zj (s q t:Int) (w:World):Calls prog 150 #[ω s,φ q,ω t] w λe w'=>e= .returned (θ #[ω s,φ q,ω t,false,ω 0,ω 0])/\qa w w':=by
 go_enter func150,ntmps150
 go_wp2;refine bodyPost_ret (v:= θ #[ω s,φ q,ω t,false,ω 0,ω 0]) (by simp[results,results150,go_sem]) rfl ?_;exact⟨rfl,ρ⟩
end
section
open Go.RowKit
theorem XU (m r:Int) (g:Bool) (w:World):Calls prog 234 #[θ #[ι m,ι r,g]] w λe w'=>e= .returned (θ #[ι m,ι 0,g])/\qa w w':=by
 go_enter func234,ntmps234
 go_wp2;refine bodyPost_ret (v:= θ #[ι m,ι 0,g]) (by simp[results,results234,go_sem]) rfl ?_;exact⟨rfl,ρ⟩
theorem Zk (m r:Int) (g:Bool) (d:0<=r) (G:r<=10) (w:World):Calls prog 233 #[θ #[ι m,ι r,g]] w λe w'=>e= .returned (θ #[ι m,ι (r+1),(r+1==m)])/\qa w w':=by
 go_enter func233,ntmps233
 go_wp2;refine bodyPost_ret (v:= θ #[ι m,ι (r+1),(r+1==m)]) (by simp[results,results233,go_sem]) rfl ?_;exact⟨rfl,ρ⟩
theorem UV (m r:Int) (a:Bool) (w:World):Calls prog 176 #[θ #[ι m,ι r,true],a] w λe w'=>e= .returned (.tuple #[θ #[ι m,ι r,true],false])/\qa w w':=by
 go_enter func176,ntmps176
 go_wp2;refine bodyPost_ret (v:= .tuple #[θ #[ι m,ι r,true],false]) (by simp[results,results176,go_sem]) rfl ?_;exact⟨rfl,ρ⟩
theorem PC (m r:Int) (w:World):Calls prog 176 #[θ #[ι m,ι r,false],true] w λe w'=>e= .returned (.tuple #[θ #[ι m,ι 0,false],false])/\qa w w':=by
 have U:=κ (XU m r false)
 go_enter func176,ntmps176
 go_wp2_with (refine(U.o _).mono ?_;rintro e w1 ⟨rfl,J⟩;have H:Hid (w1.heap[w.heap.size+1]? =some (.cells #[ι 0,ι 0,false] 151 (0,0))):=κ (qc J (qB η));have O:Hid (qa w w1):=κ (((qa.alloc _ _).al _).trans J);clear J)
 obtain⟨W1,G⟩:=ν (w1.alloc (.cells #[ι m,ι 0,false] 151));have aa:Hid (qa w W1):=κ (by rw[<-G];exact O.o.al _);have N:Hid (W1.heap[w.heap.size+1]? =some (.cells #[ι 0,ι 0,false] 151 (0,0))):=κ (by rw[<-G];exact qq H.o _);have I:Hid (W1.heap[w1.heap.size]? =some (.cells #[ι m,ι 0,false] 151 (0,0))):=κ (by rw[<-G];exact qk w1 _);rw[G];clear G O;have Y: ∀x:qu (λb=>b=w.heap.size+1) W1,x.w'.rangeAt w1.heap.size 0 [ι m,ι 0,false]:=λx=>xw (x.h.blk I.o (by have:=ql H.o;omega))
 have ac: ∀x:qu (λb=>b=w.heap.size+1) W1,x.w'.cell? ⟨w1.heap.size,2,none⟩=some (μ false):=λx=>x.cell (ql I.o) (by have:=ql H.o;omega) (qb I.o 2 rfl)
 clear H;refine QN (λb=>b=w.heap.size+1) W1 4 5 [3,4] ?_;refine je rfl rfl (qi σ) 151 (.tmp 7) rfl w1.heap.size 0 rfl [ι m,ι 0,false] _ (λw' ab=>by obtain⟨x,rfl⟩:=ab;exact Y x) underlying151 rfl ξ ?_;intro K d;go_simp;refine d _ ?_;clear d K
 refine Qs2 ?_
 refine jJ rfl rfl ?_;intro K d;refine jq 151 (.tmp 4) (.tmp 18) rfl (w.heap.size+1) 151 _ #[ι m,ι 0,false] rfl rfl (qn N.o 1) ξ rfl (all_oneCell_toArray (by simp[Value.oneCell'])) ?_;refine⟨qi (((qg.refl (λb=>b=w.heap.size+1) W1).drewN 1).row (g:=w.heap.size+1) rfl _), ?_⟩;go_simp;refine d _ _ ?_;clear d K
 (refine Qe ?_;intro K d)
 refine d _ _ ?_;clear d K;refine qv ?_;go_wp2;refine bodyPost_ret (v:= .tuple #[θ #[ι m,ι 0,false],false]) (yD results176 _ _ (w.heap.size+1) 151 #[ι m,ι 0,false] _ _ rfl rfl (jT (qn N.o 1) _) underlying151 rfl ξ) rfl ?_;exact⟨rfl,(j9 _ _ _).to_more (aa.o.dr 1) (λk e=>by rw[e];exact Nat.le_succ _)⟩
theorem Cn (m r:Int) (ad:0<=r) (ae:r<=10) (q:Int) (b:Bool) (aa:r+1=q) (Y:(q==m)=b) (w:World):Calls prog 176 #[θ #[ι m,ι r,false],false] w λe w'=>e= .returned (.tuple #[θ #[ι m,ι q,b],b])/\qa w w':=by
 have I:=Zk m r false ad ae;rw[aa,Y] at I;have I:=κ I;clear aa Y
 go_enter func176,ntmps176
 go_wp2_with (refine(I.o _).mono ?_;rintro e w1 ⟨rfl,N⟩;have H:Hid (w1.heap[w.heap.size+1]? =some (.cells #[ι 0,ι 0,false] 151 (0,0))):=κ (qc N (qB η));have U:Hid (qa w w1):=κ (((qa.alloc _ _).al _).trans N);clear N)
 obtain⟨W1,G⟩:=ν (w1.alloc (.cells #[ι m,ι q,b] 151));have ac:Hid (qa w W1):=κ (by rw[<-G];exact U.o.al _);have O:Hid (W1.heap[w.heap.size+1]? =some (.cells #[ι 0,ι 0,false] 151 (0,0))):=κ (by rw[<-G];exact qq H.o _);have J:Hid (W1.heap[w1.heap.size]? =some (.cells #[ι m,ι q,b] 151 (0,0))):=κ (by rw[<-G];exact qk w1 _);rw[G];clear G U;have ab: ∀x:qu (λb=>b=w.heap.size+1) W1,x.w'.rangeAt w1.heap.size 0 [ι m,ι q,b]:=λx=>xw (x.h.blk J.o (by have:=ql H.o;omega))
 have ag: ∀x:qu (λb=>b=w.heap.size+1) W1,x.w'.cell? ⟨w1.heap.size,2,none⟩=some (μ b):=λx=>x.cell (ql J.o) (by have:=ql H.o;omega) (qb J.o 2 rfl)
 clear H;refine QN (λb=>b=w.heap.size+1) W1 4 5 [3,4] ?_;refine je rfl rfl (qi σ) 151 (.tmp 7) rfl w1.heap.size 0 rfl [ι m,ι q,b] _ (λw' af=>by obtain⟨x,rfl⟩:=af;exact ab x) underlying151 rfl ξ ?_;intro K d;go_simp;refine d _ ?_;clear d K
 refine Qs2 ?_
 refine jJ rfl rfl ?_;intro K d;refine jq 151 (.tmp 4) (.tmp 18) rfl (w.heap.size+1) 151 _ #[ι m,ι q,b] rfl rfl (qn O.o 1) ξ rfl (all_oneCell_toArray (by simp[Value.oneCell'])) ?_;refine⟨qi (((qg.refl (λb=>b=w.heap.size+1) W1).drewN 1).row (g:=w.heap.size+1) rfl _), ?_⟩;go_simp;refine d _ _ ?_;clear d K
 (refine Qe ?_;intro K d)
 refine d _ _ ?_;clear d K;refine qv ?_;go_wp2;refine bodyPost_ret (v:= .tuple #[θ #[ι m,ι q,b],b]) (yD results176 _ _ (w.heap.size+1) 151 #[ι m,ι q,b] _ _ rfl rfl (jT (qn O.o 1) _) underlying151 rfl ξ) rfl ?_;exact⟨rfl,(j9 _ _ _).to_more (ac.o.dr 1) (λk e=>by rw[e];exact Nat.le_succ _)⟩
end
section
open Go.RowKit
theorem Fx {P:Program} {J:Func} {p u:Tmp} {d G:TypeId} (h:J.results= #[.cell p d,.cell u G]) (tmps:Array Value) (w:World) (g g':Nat) (t t':TypeId) (cs cs':Array Value) (H I:TypeDesc)
  (ab:tmps.getD p undef= γ g) (ad:tmps.getD u undef= γ g') (U:w.heap[g]? =some (.cells cs t (0,0))) (Y:w.heap[g']? =some (.cells cs' t' (0,0)))
  (af:P.underlying d=some H) (N:(match H with | .struct _ | .array _ _=>true | _=>false)=true) (hi:(P.info? d).map (·.size)=some cs.size)
  (ag:P.underlying G=some I) (O:(match I with | .struct _ | .array _ _=>true | _=>false)=true) (aa:(P.info? G).map (·.size)=some cs'.size):
  (results J tmps).run P w= .ok (.tuple #[θ cs,θ cs']) w:=by
 have ac:tmps[p]?.getD undef= γ g:=by simpa using ab
 have ae:tmps[u]?.getD undef= γ g':=by simpa using ad
 simp[results,h,ac,ae,asAddr,run_loadVar_row w g t d cs (0,0) H U af N hi,run_loadVar_row w g' t' G cs' (0,0) I Y ag O aa]
structure RwS where
 src:Int
 sq:Int
 st:Int
 any:Bool
 last:Int
 shift:Int
def shL (s:RwS) (t:Int) (first:Bool):Int:=if s.any then (if first then (s.last+3000-t)%4294967296 else s.shift) else (s.st-t)%4294967296
theorem Bi (G sq st la N:Int) (any first:Bool) (I:Bool) (J q t O:Int) (w:World) (X:Int) (d:shL ⟨G,sq,st,any,la,N⟩ t first=X):
    Calls prog 257 #[θ #[ω G,φ sq,ω st,any,ω la,ω N],θ #[μ I,υ J,φ q,ω t,ω O],first] w
      λe w'=>e= .returned (θ #[μ I,υ J,φ sq,ω ((t+X)%4294967296),ω G,ω X])/\qa w w':=by
  cases any with
  | false=>
    obtain rfl:X=(st-t)%4294967296:=by rw[<-d];rfl
    clear d
    have H:(t+(st-t)%4294967296)%4294967296=(t+(st-t))%4294967296:=by omega
    rw[H]
    clear H
    go_enter func257,ntmps257
    go_wp2
    refine bodyPost_ret (v:= θ #[μ I,υ J,φ sq,ω ((t+(st-t))%4294967296),ω G,ω ((st-t)%4294967296)]) (by simp[results,results257,go_sem]) rfl ?_
    exact⟨rfl,ρ⟩
  | true=>
   cases first with
   | true=>
    obtain rfl:X=(la+3000-t)%4294967296:=by rw[<-d];rfl
    clear d
    have H:(t+(la+3000-t)%4294967296)%4294967296=(t+(la+3000-t))%4294967296:=by omega
    rw[H]
    clear H
    go_enter func257,ntmps257
    go_wp2
    refine bodyPost_ret (v:= θ #[μ I,υ J,φ sq,ω ((t+(la+3000-t))%4294967296),ω G,ω ((la+3000-t)%4294967296)]) (by simp[results,results257,go_sem]) rfl ?_
    exact⟨rfl,ρ⟩
   | false=>
    obtain rfl:X=N:=by rw[<-d];rfl
    clear d
    go_enter func257,ntmps257
    go_wp2
    refine bodyPost_ret (v:= θ #[μ I,υ J,φ sq,ω ((t+X)%4294967296),ω G,ω X]) (by simp[results,results257,go_sem]) rfl ?_
    exact⟨rfl,ρ⟩
theorem Bp (d sq st la U:Int) (any first:Bool) (I:Bool) (J q t an:Int) (w:World) (X:Int) (ai:shL ⟨d,sq,st,any,la,U⟩ t first=X) (Z:Int) (aj:(t+X)%4294967296=Z) (Q:Int) (ah:(sq+1)%65536=Q):
  Calls prog 201 #[θ #[ω d,φ sq,ω st,any,ω la,ω U],θ #[μ I,υ J,φ q,ω t,ω an],first] w
   λe w'=>e= .returned (.tuple #[θ #[ω d,φ Q,ω st,true,ω Z,ω X],θ #[μ I,υ J,φ sq,ω Z,ω d]])/\qa w w':=by
 have Y:=λw=>Bi d sq st la U any first I J q t an w X ai
 rw[aj] at Y;have Y:=κ Y;have af:=κ ah;clear ai aj ah
 go_enter func201,ntmps201
 go_wp2_with (refine(Y.o _).mono ?_;rintro e w1 ⟨rfl,O⟩;have G:Hid (w1.heap[w.heap.size]? =some (.cells #[ω d,φ sq,ω st,any,ω la,ω U] 149 (0,0))):=κ (qc O (by repeat (first | exact qB η | refine qq ?_ _)));have ac:Hid (w1.heap[w.heap.size+2]? =some (.cells #[ω 0,φ 0,ω 0,false,ω 0,ω 0] 149 (0,0))):=κ (qc O (by repeat (first | exact qB η | refine qq ?_ _)));have aa:Hid (w1.heap[w.heap.size+3]? =some (.cells #[μ false,υ 0,φ 0,ω 0,ω 0] 60 (0,0))):=κ (qc O (by repeat (first | exact qB η | refine qq ?_ _)));have ag:Hid (qa w w1):=κ ((((qa.refl w).al _ |>.al _ |>.al _ |>.al _)).trans O);clear O;have aE:w.heap.size<w1.heap.size:=ql G.o;have aA:w1.cell? ⟨w.heap.size,1,none⟩=some (φ sq):=qb G.o 1 rfl;have aB:w1.cell? ⟨w.heap.size,3,none⟩=some (μ any):=qb G.o 3 rfl;have aC:w1.cell? ⟨w.heap.size,4,none⟩=some (ω la):=qb G.o 4 rfl;have aD:w1.cell? ⟨w.heap.size,5,none⟩=some (ω U):=qb G.o 5 rfl;have av:w1.frozen? ⟨w.heap.size,1,none⟩=false:=qd G.o 1;have aw:w1.frozen? ⟨w.heap.size,3,none⟩=false:=qd G.o 3;have ax:w1.frozen? ⟨w.heap.size,4,none⟩=false:=qd G.o 4;have ay:w1.frozen? ⟨w.heap.size,5,none⟩=false:=qd G.o 5)
 have am:IntKind.u16.wrap (sq+1)=Q:=af.o;rw[am];obtain⟨W1,N⟩:=ν ((((((w1.setCell ⟨w.heap.size,1,none⟩ (φ Q)).setCell ⟨w.heap.size,3,none⟩ (μ true)).setCell ⟨w.heap.size,4,none⟩ (ω Z)).setCell ⟨w.heap.size,5,none⟩ (ω X)).alloc (.cells #[μ I,υ J,φ sq,ω Z,ω d,ω X] 429)));have ar:Hid (qa w W1):=κ (by rw[<-N];exact((((ag.o.st (Nat.le_refl _) _).st (Nat.le_refl _) _).st (Nat.le_refl _) _).st (Nat.le_refl _) _).al _);have au:Hid (W1.heap[w.heap.size]? =some (.cells #[ω d,φ Q,ω st,true,ω Z,ω X] 149 (0,0))):=κ (by rw[<-N];exact qq (qA (qo (qo (qo (qo G.o 1 _) 3 _) 4 _) 5 _) rfl) _);have ad:Hid (W1.heap[w.heap.size+2]? =some (.cells #[ω 0,φ 0,ω 0,false,ω 0,ω 0] 149 (0,0))):=κ (by rw[<-N];exact qq (qm (qm (qm (qm ac.o ⟨w.heap.size,1,none⟩ _ (by show w.heap.size+2≠w.heap.size;omega)) ⟨w.heap.size,3,none⟩ _ (by show w.heap.size+2≠w.heap.size;omega)) ⟨w.heap.size,4,none⟩ _ (by show w.heap.size+2≠w.heap.size;omega)) ⟨w.heap.size,5,none⟩ _ (by show w.heap.size+2≠w.heap.size;omega)) _);have ae:Hid (W1.heap[w.heap.size+3]? =some (.cells #[μ false,υ 0,φ 0,ω 0,ω 0] 60 (0,0))):=κ (by rw[<-N];exact qq (qm (qm (qm (qm aa.o ⟨w.heap.size,1,none⟩ _ (by show w.heap.size+3≠w.heap.size;omega)) ⟨w.heap.size,3,none⟩ _ (by show w.heap.size+3≠w.heap.size;omega)) ⟨w.heap.size,4,none⟩ _ (by show w.heap.size+3≠w.heap.size;omega)) ⟨w.heap.size,5,none⟩ _ (by show w.heap.size+3≠w.heap.size;omega)) _);have ao:Hid (W1.heap[w1.heap.size]? =some (.cells #[μ I,υ J,φ sq,ω Z,ω d,ω X] 429 (0,0))):=κ (by rw[<-N];exact qB η);have aF:w.heap.size+3<w1.heap.size:=ql aa.o;rw[N];clear N ag G ac aa aA aB aC aD av aw ax ay am af;have ap: ∀x:qu (λb=>b=w.heap.size+2∨b=w.heap.size+3) W1,x.w'.rangeAt w.heap.size 0 [ω d,φ Q,ω st,true,ω Z,ω X]:=λx=>xw (x.h.blk au.o τ)
 have aq: ∀x:qu (λb=>b=w.heap.size+2∨b=w.heap.size+3) W1,x.w'.rangeAt w1.heap.size 0 [μ I,υ J,φ sq,ω Z,ω d]:=λx=>by
  have:=xw (cs:=[μ I,υ J,φ sq,ω Z,ω d,ω X]) (x.h.blk ao.o τ);intro j v ak;refine this j v ?_;have az:=(List.getElem?_eq_some_iff.1 ak).1;rw[<-ak];exact List.getElem?_append_left (l₂:=[ω X]) az
 refine QN (λb=>b=w.heap.size+2∨b=w.heap.size+3) W1 4 5 [3,4] ?_;refine je rfl rfl (qi σ) 149 (.tmp 3) rfl w.heap.size 0 rfl [ω d,φ Q,ω st,true,ω Z,ω X] _ (λw' ab=>by obtain⟨x,rfl⟩:=ab;exact ap x) underlying149 rfl ξ ?_;intro K H;go_simp;refine H _ ?_;clear H K
 refine Qs1 ?_
 refine je rfl rfl (qi σ) 60 (.tmp 26) rfl w1.heap.size 0 rfl [μ I,υ J,φ sq,ω Z,ω d] _ (λw' ab=>by obtain⟨x,rfl⟩:=ab;exact aq x) underlying60 rfl ξ ?_;intro K H;go_simp;refine H _ ?_;clear H K;refine jJ rfl rfl ?_;intro K H;refine jq 149 (.tmp 6) (.tmp 25) rfl (w.heap.size+2) 149 _ #[ω d,φ Q,ω st,true,ω Z,ω X] rfl rfl (qn ad.o 1) ξ rfl (all_oneCell_toArray (by simp[Value.oneCell'])) ?_;refine⟨qi (((qg.refl (λb=>b=w.heap.size+2∨b=w.heap.size+3) W1).drewN 1).row (g:=w.heap.size+2) (Or.inl rfl) _), ?_⟩;go_simp;refine H _ _ ?_;clear H K;refine yc rfl rfl ζ ?_;intro K H;refine jq 60 (.tmp 7) (.tmp 27) rfl (w.heap.size+3) 60 _ #[μ I,υ J,φ sq,ω Z,ω d] rfl rfl (qT (qn ae.o 1) _ τ) ξ rfl (all_oneCell_toArray (by simp[Value.oneCell'])) ?_;refine⟨trivial, ?_⟩;go_simp;refine H _ _ ?_;clear H K;refine qv ?_;go_wp2;refine bodyPost_ret (v:= .tuple #[θ #[ω d,φ Q,ω st,true,ω Z,ω X],θ #[μ I,υ J,φ sq,ω Z,ω d]]) (Fx results201 _ _ (w.heap.size+2) (w.heap.size+3) 149 60 #[ω d,φ Q,ω st,true,ω Z,ω X] #[μ I,υ J,φ sq,ω Z,ω d] _ _ rfl rfl (qT (jT (qn ad.o 1) _) _ τ) (jT (qT (qn ae.o 1) _ τ) _) underlying149 rfl ξ underlying60 rfl ξ) rfl ?_;exact⟨rfl,(j9 _ _ _).to_more ((j9 _ _ _).to_more (ar.o.dr 1) (λk e=>by rw[e];exact Nat.le_add_right _ _)) (λk e=>by rw[e];exact Nat.le_add_right _ _)⟩
end
section
open Go.RowKit
structure ItS where
 id:Int
 layer:Int
 key:Bool
 pk:Pk
structure LnS where
 room:Nat
 A:List ItS
 B:List (ItS×Bool)
 C:List (Int×List Int)
 W:List (Int×List Int)
 wanted:Bool
 cur:Int
 tgt:Int
 rw:RwS
 most:Int
 row:Int
 gone:Bool
def Yp (room:Nat) (most src sq st:Int):LnS:=⟨room,[],[],[],[],false,0,0,⟨src,sq,st,false,0,0⟩,most,0,false⟩
def yH (s:LnS) (x:ItS):LnS×Int×Bool:=if s.A.length<s.room then ({s with A:=s.A++[x]},0,false) else ({s with A:=s.A.tail++[x]},(s.A.head?.map (·.id)).getD 0,true)
def jL (s:LnS) (x:ItS):LnS×Int×Bool×Int:=
 if (jc x.layer&&jM x.pk)=false then (s,0,false,1) else if s.gone then (s,0,false,7) else if s.wanted=false then (s,0,false,5) else ((yH s x).1,(yH s x).2.1,(yH s x).2.2,0)
def xK (cur tgt layer:Int) (key:Bool):Int×Int×Bool:=
 if layer=cur then (cur,0,false) else if layer=tgt then (if key then (layer,0,true) else (cur,5,false)) else (cur,4,false)
def zp (s:LnS) (n:Int):Bool:=if n=1 then decide (0<s.A.length)&&decide (¬s.B.length=s.room) else if n=2 then decide (0<s.B.length) else if n=3 then decide (0<s.C.length) else false
def qN (s:LnS):LnS×Int×Int×Bool:=
 if zp s 1=false then (s,0,0,false) else
 match s.A with
 | []=>(s,0,0,false)
 | x::A=>({s with A:=A,cur:=(xK s.cur s.tgt x.layer x.key).1,B:=if (xK s.cur s.tgt x.layer x.key).2.1=0 then s.B++[(x,(xK s.cur s.tgt x.layer x.key).2.2)] else s.B},x.id,(xK s.cur s.tgt x.layer x.key).2.1,true)
def ue (r:RwS) (p:Pk) (first:Bool):Pk:={p with sq:=r.sq,st:=(p.st+shL r p.st first)%4294967296,sc:=r.src}
def uq (r:RwS) (p:Pk) (first:Bool):RwS:=⟨r.src,(r.sq+1)%65536,r.st,true,(p.st+shL r p.st first)%4294967296,shL r p.st first⟩
def vj (s:LnS) (o:Int×List Int):LnS×Int×Bool:=if s.C.length<s.room then ({s with C:=s.C++[o]},0,false) else ({s with C:=s.C.tail++[o]},(s.C.head?.map (·.1)).getD 0,true)
def qL (s:LnS):LnS×Int×Bool×Bool:=
 match s.B with
 | []=>(s,0,false,false)
 | (x,f)::B=>((vj {s with B:=B,rw:=uq s.rw x.pk f} (x.id,pkB (ue s.rw x.pk f))).1,(vj {s with B:=B,rw:=uq s.rw x.pk f} (x.id,pkB (ue s.rw x.pk f))).2.1,(vj {s with B:=B,rw:=uq s.rw x.pk f} (x.id,pkB (ue s.rw x.pk f))).2.2,true)
def jm (s:LnS) (acc:Bool):Int×Bool×Bool:=if s.gone then (s.row,true,false) else if acc then (0,false,false) else (s.row+1,s.row+1==s.most,s.row+1==s.most)
def qH (s:LnS) (acc:Bool):LnS×Int×Int×Bool:=
 match s.C with
 | []=>(s,0,0,false)
 | o::C=>
  if (jm s acc).2.2 then ({s with A:=[],B:=[],C:=[],W:=if acc then s.W++[o] else s.W,row:=(jm s acc).1,gone:=(jm s acc).2.1},o.1,7,true)
  else ({s with C:=if acc then C else o::C,W:=if acc then s.W++[o] else s.W,row:=(jm s acc).1,gone:=(jm s acc).2.1},o.1,if acc then 1 else 0,true)
def jA (s:LnS) (n:Int):LnS×Int:=
 if jc n=false then (s,1) else if s.gone then (s,7) else ({s with wanted:=true,cur:=if s.wanted then s.cur else -1,tgt:=n},0)
def zq {α β:Type} (p:α->β->Prop):List α->List β->Prop
 | [],[]=>True
 | a::l,b::m=>p a b/\zq p l m
 | _,_=>False
section
variable {α β:Type} {p p':α->β->Prop}
theorem zq.len: ∀{l:List α} {m:List β},zq p l m->l.length=m.length
 | [],[],_=>rfl
 | _::_,_::_,h=>by simp[zq.len h.2]
 | [],_::_,h=>h.elim
 | _::_,[],h=>h.elim
theorem zq.mono (k: ∀a b,p a b->p' a b): ∀{l:List α} {m:List β},zq p l m->zq p' l m
 | [],[],_=>trivial
 | _::_,_::_,h=>⟨k _ _ h.1,zq.mono k h.2⟩
 | [],_::_,h=>h.elim
 | _::_,[],h=>h.elim
theorem zq.snoc: ∀{l:List α} {m:List β} {a:α} {b:β},zq p l m->p a b->zq p (l++[a]) (m++[b])
 | [],[],_,_,_,k=>⟨k,trivial⟩
 | _::_,_::_,_,_,h,k=>⟨h.1,zq.snoc h.2 k⟩
 | [],_::_,_,_,h,_=>h.elim
 | _::_,[],_,_,h,_=>h.elim
theorem zq.uncons {l:List α} {b:β} {m:List β} (h:zq p l (b::m)): ∃a l',l=a::l'/\p a b/\zq p l' m:=by
 cases l with
 | nil=>exact h.elim
 | cons a l'=>exact⟨a,l',rfl,h.1,h.2⟩
theorem zq.nil_r {l:List α} (h:zq p l ([]:List β)):l=[]:=by
 cases l with
 | nil=>rfl
 | cons a l'=>exact h.elim
theorem zq.mem {l:List α} {m:List β} (h:zq p l m): ∀a∈l,∃b∈m,p a b:=by
 induction l generalizing m with
 | nil=>intro a d;simp at d
 | cons c l ih=>
  cases m with
  | nil=>exact h.elim
  | cons b m=>
   intro a d;rcases List.mem_cons.1 d with rfl | d
   ·exact⟨b,η,h.1⟩
   ·obtain⟨G,H,I⟩:=ih h.2 a d;exact⟨G,by simp[H],I⟩
end
def itC (x:ItS) (vs ve vp:Value):List Value:=[.int .i64 x.id,.int .i64 x.layer,.bool x.key,.bool x.pk.mr,.int .u8 x.pk.ty,.int .u16 x.pk.sq,.int .u32 x.pk.st,.int .u32 x.pk.sc,vs,.bool x.pk.has,.int .u16 x.pk.pr,ve,vp]
def RIt:qJ ItS:=λw cs x=> ∃vs ve vp,cs=itC x vs ve vp/\PkS w vs ve vp x.pk/\wP x.pk/\jM x.pk=true
def RCh:qJ (ItS×Bool):=λw cs x=> ∃vs ve vp,cs=itC x.1 vs ve vp++[.bool x.2]/\PkS w vs ve vp x.1.pk/\wP x.1.pk/\jM x.1.pk=true
def ROu:qJ (Int×List Int):=λw cs o=> ∃v,cs=[.int .i64 o.1,v]/\SlI .u8 w v o.2/\Byt o.2/\o.2.length<=200
theorem FN:wC ROu:=λ_ _ _ _ m ⟨v,d,G,H⟩=>⟨v,d,G.keep m,H⟩
theorem jp.chosen {D:Nat->Prop} {w:World} {c:List Value} {x:ItS} (f:Bool) (h:jp RIt D w c x):jp RCh D w (c++[μ f]) (x,f):=λw' a=>by
 obtain⟨J,I,vp,rfl,d,G,H⟩:=h w' a;exact⟨J,I,vp,rfl,d,G,H⟩
def RgR {α:Type} (n tr te:Nat) (R:qJ α) (D:Nat->Prop) (w:World) (r a room:Nat) (l:List α):Prop:=
 ∃f q ci co cd cg css,qO n tr te w r a room f q ci co cd cg css/\zq (jp R D w) q l
section
variable {α:Type} {n tr te:Nat} {R:qJ α} {D D':Nat->Prop} {w w':World} {r a room:Nat} {l:List α}
theorem RgR.fit (h:RgR n tr te R D w r a room l):l.length<=room/\1<=room/\room<=8/\r<w.heap.size/\a<w.heap.size:=by
 obtain⟨f,q,J,N,H,I,css,d,G⟩:=h;have:=d.fits;have:=G.len;have:=d.pos;exact⟨τ,τ,τ,ql d.ring,ql d.row⟩
theorem RgR.step {S:Nat->Prop} (h:RgR n tr te R D w r a room l) (k:qg S w w') (aa: ¬S r) (Y: ¬S a) (O: ∀b,S b->D b) (U: ∀b,D' b->D b∨w'.heap.size<=b):RgR n tr te R D' w' r a room l:=by
 obtain⟨f,q,H,I,d,G,css,J,N⟩:=h;exact⟨f,q,H,I,d,G,css,J.away k aa Y,N.mono λc y ab=>(ab.step (k.mono O)).other U⟩
end
def Γj (x:ItS) (a:Option Addr) (b:Nat) (c:Option Addr) (d:Nat) (e:Option Addr) (f:Nat):Mm:=.o
instance (x:ItS) (a:Option Addr) (b:Nat) (c:Option Addr) (d:Nat) (e:Option Addr) (f:Nat):CoeDep Mm (Γj x a b c d e f) (List Value):=⟨[ι x.id,ι x.layer,μ x.key,μ x.pk.mr,υ x.pk.ty,φ x.pk.sq,ω x.pk.st,ω x.pk.sc,δ a x.pk.ss.length b,μ x.pk.has,φ x.pk.pr,δ c x.pk.ex.length d,δ e x.pk.pl.length f]⟩
instance (x:ItS) (a:Option Addr) (b:Nat) (c:Option Addr) (d:Nat) (e:Option Addr) (f:Nat):CoeDep Mm (Γj x a b c d e f) (Array Value):=⟨((Γj x a b c d e f):List Value).toArray⟩
instance (x:ItS) (a:Option Addr) (b:Nat) (c:Option Addr) (d:Nat) (e:Option Addr) (f:Nat):CoeDep Mm (Γj x a b c d e f) Value:=⟨θ (Γj x a b c d e f)⟩
def Γk (x:ItS) (a:Option Addr) (b:Nat) (c:Option Addr) (d:Nat) (e:Option Addr) (f:Nat) (g:Bool):Mm:=.o
instance (x:ItS) (a:Option Addr) (b:Nat) (c:Option Addr) (d:Nat) (e:Option Addr) (f:Nat) (g:Bool):CoeDep Mm (Γk x a b c d e f g) (List Value):=⟨[ι x.id,ι x.layer,μ x.key,μ x.pk.mr,υ x.pk.ty,φ x.pk.sq,ω x.pk.st,ω x.pk.sc,δ a x.pk.ss.length b,μ x.pk.has,φ x.pk.pr,δ c x.pk.ex.length d,δ e x.pk.pl.length f,μ g]⟩
instance (x:ItS) (a:Option Addr) (b:Nat) (c:Option Addr) (d:Nat) (e:Option Addr) (f:Nat) (g:Bool):CoeDep Mm (Γk x a b c d e f g) (Array Value):=⟨((Γk x a b c d e f g):List Value).toArray⟩
instance (x:ItS) (a:Option Addr) (b:Nat) (c:Option Addr) (d:Nat) (e:Option Addr) (f:Nat) (g:Bool):CoeDep Mm (Γk x a b c d e f g) Value:=⟨θ (Γk x a b c d e f g)⟩
end
section
open Go.RowKit
theorem YE (v:Value) (l:List Int) (w:World) (h:SlI .u8 w v l) (al:l.length<=1000000):
  Calls prog 50 #[v] w λe w'=>(∃v',e= .returned v'/\w'.ownsRow w.heap.size 5 1 v' l.length (l.map (Value.int .u8)))/\qa w w':=by
 obtain⟨aj,hi,ag,ah,ai⟩:=info_parts (P:=prog) (e:=5) (z:= υ 0) (size:=1) (bytes:=1) ξ;have G:=κ h;obtain⟨ak,cap,rfl,H,I,J,N,d⟩:=h;cases ak with
 | none=>
  obtain rfl:cap=0:=d rfl;obtain rfl:l=[]:=List.eq_nil_of_length_eq_zero τ;clear G H I J N d;have af:=λw=>Lib.run_eql_slice_nil (P:=prog) w 35 5 none 0 0 0 0 underlying35
  go_enter func50,ntmps50
  go_wp2;go_ret;exact⟨⟨_,rfl,World.ownsRow_nil w _ _ _⟩,qa.refl _⟩
 | some ad=>
  clear H I J N d;have Y:(w.alloc (.cells #[] 5)).ownsRow w.heap.size 5 1 (δ (some ⟨w.heap.size,0,none⟩) 0 0) ([]:List Int).length (([]:List Int).map (Value.int .u8)):=World.ownsRow_lit (e:=5) (size:=1) (base:=w.heap.size) w #[] 0 (Nat.le_refl _) (by unfold maxLen;omega) rfl;have ab:=κ Y;clear Y;have af:=λw=>Lib.run_eql_slice_nil (P:=prog) w 35 5 (some ad) l.length cap 0 0 underlying35
  go_enter func50,ntmps50
  go_wp2_with (at_builtin;refine xq _ rfl (.tmp 5) (.tmp 6) 35 rfl w.heap.size 5 aj (υ 0) 1 underlying35 hi ag ah ai rfl _ .u8 [] rfl ab.o _ l rfl (G.o.keep (qa.alloc _ _)) (by simp;omega) ζ (qa.alloc w _).size ?_;intro am w2 U O;have ac:=κ U;have aa:Hid (qg (λb=>(δ (some ⟨w.heap.size,0,none⟩) 0 0).ownBlock=some b) (w.alloc (.cells #[] 5)) w2):=κ (qg.of_grown O);clear U O)
  go_ret;refine⟨⟨_,rfl,by simpa using ac.o⟩, ?_⟩;exact((qg.of_more (S:=λb=>b=w.heap.size) (qa.alloc w _)).trans (aa.o.mono λb ae=>by injection ae with e;exact e.symm)).to_more (qa.refl _) (λk e=>by rw[e];exact Nat.le_refl _)
theorem Lu (v:Value) (l:List Int) (w:World) (h:SlI .u32 w v l) (al:l.length<=1000000):
  Calls prog 49 #[v] w λe w'=>(∃v',e= .returned v'/\w'.ownsRow w.heap.size 38 1 v' l.length (l.map (Value.int .u32)))/\qa w w':=by
 obtain⟨aj,hi,ag,ah,ai⟩:=info_parts (P:=prog) (e:=38) (z:= ω 0) (size:=1) (bytes:=4) ξ;have G:=κ h;obtain⟨ak,cap,rfl,H,I,J,N,d⟩:=h;cases ak with
 | none=>
  obtain rfl:cap=0:=d rfl;obtain rfl:l=[]:=List.eq_nil_of_length_eq_zero τ;clear G H I J N d;have af:=λw=>Lib.run_eql_slice_nil (P:=prog) w 61 38 none 0 0 0 0 underlying61
  go_enter func49,ntmps49
  go_wp2;go_ret;exact⟨⟨_,rfl,World.ownsRow_nil w _ _ _⟩,qa.refl _⟩
 | some ad=>
  clear H I J N d;have Y:(w.alloc (.cells #[] 38)).ownsRow w.heap.size 38 1 (δ (some ⟨w.heap.size,0,none⟩) 0 0) ([]:List Int).length (([]:List Int).map (Value.int .u32)):=World.ownsRow_lit (e:=38) (size:=1) (base:=w.heap.size) w #[] 0 (Nat.le_refl _) (by unfold maxLen;omega) rfl;have ab:=κ Y;clear Y;have af:=λw=>Lib.run_eql_slice_nil (P:=prog) w 61 38 (some ad) l.length cap 0 0 underlying61
  go_enter func49,ntmps49
  go_wp2_with (at_builtin;refine xq _ rfl (.tmp 5) (.tmp 6) 61 rfl w.heap.size 38 aj (ω 0) 4 underlying61 hi ag ah ai rfl _ .u32 [] rfl ab.o _ l rfl (G.o.keep (qa.alloc _ _)) (by simp;omega) ζ (qa.alloc w _).size ?_;intro am w2 U O;have ac:=κ U;have aa:Hid (qg (λb=>(δ (some ⟨w.heap.size,0,none⟩) 0 0).ownBlock=some b) (w.alloc (.cells #[] 38)) w2):=κ (qg.of_grown O);clear U O)
  go_ret;refine⟨⟨_,rfl,by simpa using ac.o⟩, ?_⟩;exact((qg.of_more (S:=λb=>b=w.heap.size) (qa.alloc w _)).trans (aa.o.mono λb ae=>by injection ae with e;exact e.symm)).to_more (qa.refl _) (λk e=>by rw[e];exact Nat.le_refl _)
end
section
open Go.RowKit
theorem Mp (w:World):(zeroValue 253).run prog w= .ok (Γa) w:=by kernel_rfl
theorem zsI:(Builtin.zeroCells (Γa:Value).cells 1).toList=Γa:=by kernel_rfl
theorem zokI:(Γa:List Value).length=13/\ ∀u∈(Γa:List Value),u.oneCell'=true:=⟨rfl,by simp[Value.oneCell']⟩
theorem Ψ2 {P:Prop} (h:P:=by
 have am:=κ h;have ai:=h.ofHead;have Y:c.toArray.size=(Ξa:Nat):=by simpa using ai.1
 have aB:=h.fst;have aQ:(first:Int)<(room:Int):=by have:=h.fst;omega
 have aR:0<=(first:Int):=by omega
 have aS:=h.pos.1;have aT:=h.pos.2;have aU:((c::T).length:Int)<=8:=by have:=h.fits;have:=h.pos.2;omega
 clear h
 go_enter Ξb,Ξc
 go_wp2;obtain⟨W1,ag⟩:=ν (w.alloc (.cells Ξd (Ξe:Nat)));have av:Hid (qa w W1):=κ (by rw[<-ag];exact qa.alloc _ _);have J:Hid (qO (Ξa:Nat) (Ξf:Nat) (Ξe:Nat) W1 R A room first (c::T) ae af ac ad css):=κ (am.o.more av.o);have aj:Hid (W1.heap[w.heap.size]? =some (.cells Ξd (Ξe:Nat) (0,0))):=κ (by rw[<-ag];exact qk w _);have aP:R<w.heap.size:=ql am.o.ring;have aN:A<w.heap.size:=ql am.o.row;rw[ag];have aC:w.heap.size<W1.heap.size:=ql aj.o;generalize aV:w.heap.size=rc at *;clear ag;have aa: ∀x:qp W1,x.w'.cell? ⟨R,0,none⟩=some (δ (some ⟨A,0,none⟩) room room):=λx=>x.cell (ql J.o.ring) (qb J.o.ring 0 rfl)
 have ab: ∀x:qp W1,x.w'.cell? ⟨R,1,none⟩=some (ι first):=λx=>x.cell (ql J.o.ring) (qb J.o.ring 1 rfl)
 refine Qn W1 11 12 [10,11] ?_
 refine Qq9 ?_
 have au: ∀x:qp W1,x.w'.rangeAt A (first* (Ξa:Nat)) c:=λx=>by have:=(J.o.more x.h).range aB;rw[J.o.head] at this;exact this
 refine je rfl rfl (qj ρ) (Ξe:Nat) (.tmp 12) rfl A (first* (Ξa:Nat)) rfl c _ (λw' aI=>by obtain⟨x,rfl⟩:=aI;exact au x) Ξg rfl (by rw[ai.1];kernel_rfl) ?_;intro K d;go_simp;refine d _ ?_;clear d K
 (refine Ql ?_;intro K d)
 refine⟨qj ρ,d _ _ ?_⟩;clear d K;refine yc rfl rfl ζ ?_;intro K d;refine jq (Ξe:Nat) (.tmp 3) (.tmp 13) rfl W1.heap.size (Ξe:Nat) _ c.toArray rfl rfl (qk _ _) (by rw[Y];kernel_rfl) (by rw[Y];rfl) (all_oneCell_toArray ai.2) ?_;refine⟨trivial, ?_⟩;go_simp;refine d _ _ ?_;clear d K;refine qv ?_;obtain⟨W2,ah⟩:=ν (((W1.drewN 1).alloc (.cells Ξd (Ξe:Nat))).setRow W1.heap.size c.toArray);have ax:Hid (W2.heap[W1.heap.size]? =some (.cells c.toArray (Ξe:Nat) (0,0))):=κ (by rw[<-ah];exact jT (qk _ _) _);have an:Hid (qa W1 W2):=κ (by rw[<-ah];exact(j9 _ _ _).to_more (((qa.refl W1).dr 1).al _) (λk e=>by rw[e];exact Nat.le_refl _));have G:=κ (J.o.more an.o);have ap:=κ (qc an.o aj.o);have aO:R<W1.heap.size:=Nat.lt_of_lt_of_le τ (Nat.le_of_lt aC);have aM:A<W1.heap.size:=Nat.lt_of_lt_of_le τ (Nat.le_of_lt aC);rw[ah];generalize W1.heap.size=xc at *;clear ah aa ab au aj J
 go_wp2_with fail
 have aa: ∀x:qu (λb=>b=A) W2,x.w'.cell? ⟨R,0,none⟩=some (δ (some ⟨A,0,none⟩) room room):=λx=>x.cell (ql G.o.ring) G.o.ne (qb G.o.ring 0 rfl)
 have ab: ∀x:qu (λb=>b=A) W2,x.w'.cell? ⟨R,1,none⟩=some (ι first):=λx=>x.cell (ql G.o.ring) G.o.ne (qb G.o.ring 1 rfl)
 refine QN (λb=>b=A) W2 15 15 [14] ?_
 refine EC ?_
 refine jJ rfl rfl ?_;intro K d;have aA:=uc (P:=prog) (W2.drewN 1) (Ξh:Nat) 0 (Ξe:Nat) _ Ξd Ξi Ξj Ξk A (first* (Ξa:Nat)) (room-first) css.flatten.toArray (qn G.o.row 1) (by rw[G.o.size];have:=Nat.mul_le_mul_right (Ξa:Nat) (show first+1<=room by omega);simp;omega) Ξl.2;simp only[List.toList_toArray] at aA;unfold jl;go_simp;refine⟨qi (((qg.refl (λb=>b=A) W2).drewN 1).row (g:=A) rfl _),d _ _ ?_⟩;clear d K aA aa ab;refine qv ?_;obtain⟨H,O⟩:=ν ((W2.drewN 1).setRow A (xR css.flatten (first* (Ξa:Nat)) Ξd).toArray);have ao:Hid (qg (RgB R A) W2 H):=κ (by rw[<-O];exact((qg.refl _ _).drewN 1).row (Or.inr rfl) _);have I:Hid (H.heap[R]? =some (.cells (jR A room first (c::T).length ae af ac ad) (Ξf:Nat) (0,0))):=κ (by rw[<-O];exact qT (qn G.o.ring 1) _ G.o.ne);have aw:Hid (H.heap[A]? =some (.cells (css.set first Ξd).flatten.toArray (Ξe:Nat) (0,0))):=κ (by rw[<-O,<-JW css first _ G.o.cl Ξl.1 (by rw[G.o.len];exact aB)];exact jT (qn G.o.row 1) _);have ay:Hid (H.heap[xc]? =some (.cells c.toArray (Ξe:Nat) (0,0))):=κ (by rw[<-O];exact qT (qn ax.o 1) _ τ);have aq:Hid (H.heap[rc]? =some (.cells Ξd (Ξe:Nat) (0,0))):=κ (by rw[<-O];exact qT (qn ap.o 1) _ τ);rw[O];clear O ax ap
 go_wp2_with fail
 have aa: ∀x:qp H,x.w'.cell? ⟨R,0,none⟩=some (δ (some ⟨A,0,none⟩) room room):=λx=>x.cell (ql I.o) (qb I.o 0 rfl)
 have ab: ∀x:qp H,x.w'.cell? ⟨R,1,none⟩=some (ι first):=λx=>x.cell (ql I.o) (qb I.o 1 rfl)
 have aG:H.frozen? ⟨R,1,none⟩=false:=qd I.o 1;have aJ:H.cell? ⟨R,1,none⟩=some (ι first):=qb I.o 1 rfl;refine Qn H 14 15 [12,14] ?_
 refine EF ?_
 (refine Ql ?_;intro K d)
 refine⟨qj ρ,d _ _ ?_⟩;clear d K
 refine Qq1 ?_
 (refine Qe ?_;intro K d)
 refine d _ _ ?_;clear d K aa ab;refine qv ?_;have az:((first:Int)+1)%(room:Int)=(((first+1)%room:Nat):Int):=by rw[Int.natCast_emod];rfl
 rw[az];obtain⟨N,U⟩:=ν ((H.drewN 1).setCell ⟨R,1,none⟩ (ι ((first+1)%room:Nat)));have aD:Hid (qg (RgB R A) W2 N):=κ (by rw[<-U];exact(ao.o.drewN 1).set (Or.inl rfl) _);have ak:Hid (N.heap[R]? =some (.cells (jR A room ((first+1)%room) (c::T).length ae af ac ad) (Ξf:Nat) (0,0))):=κ (by rw[<-U];exact qA (qo (qn I.o 1) 1 _) rfl);have aE:Hid (N.heap[A]? =some (.cells (css.set first Ξd).flatten.toArray (Ξe:Nat) (0,0))):=κ (by rw[<-U];exact qm (qn aw.o 1) _ _ (Ne.symm G.o.ne));have aF:Hid (N.heap[xc]? =some (.cells c.toArray (Ξe:Nat) (0,0))):=κ (by rw[<-U];exact qm (qn ay.o 1) _ _ (by show xc≠R;omega));have ar:Hid (N.heap[rc]? =some (.cells Ξd (Ξe:Nat) (0,0))):=κ (by rw[<-U];exact qm (qn aq.o 1) _ _ (by show rc≠R;omega));rw[U];clear U ao I aw ay aq aG aJ az;have aW:N.cell? ⟨R,2,none⟩=some (ι (c::T).length):=qb ak.o 2 rfl;have aL:N.frozen? ⟨R,2,none⟩=false:=qd ak.o 2;have aK:(((c::T).length:Nat):Int)-1=(T.length:Int):=by simp
 go_wp2_with (first | (refine vT rfl (Ξe:Nat) (.tmp 3) rfl xc (Ξe:Nat) c.toArray _ (qm aF.o _ _ (by show xc≠R;omega)) rfl Ξg rfl (by rw[Y];kernel_rfl) ?_) | (refine xV rfl (Ξe:Nat) (.tmp 2) (.tmp 49) rfl rc (Ξe:Nat) _ c.toArray (qm ar.o _ _ (by show rc≠R;omega)) rfl rfl (by rw[Y];kernel_rfl) (by rw[Y];rfl) (all_oneCell_toArray ai.2) ?_))
 have aH:R≠A:=G.o.ne;refine bodyPost_ret (v:= θ c.toArray) (results_cell_row Ξm _ _ rc (Ξe:Nat) c.toArray (0,0) _ rfl (jT (qm ar.o _ _ (by show rc≠R;omega)) _) Ξg rfl (by rw[Y];kernel_rfl)) rfl ?_;refine⟨rfl, ?_, ?_⟩
 ·exact G.o.took Ξl (qT (qA (qo ak.o 2 _) (by simp[jR])) _ τ) (qT (qm aE.o _ _ (Ne.symm aH)) _ τ)
 ·exact(((qg.of_more (av.o.trans an.o)).trans aD.o).set (Or.inl rfl) _).rowNew τ _):P:=h
section
open _root_.Go.Proofs.Tryz renaming func238->Ξb,ntmps238->Ξc,underlying253->Ξg,underlying325->Ξi,results238->Ξm
open _root_.Go.Proofs.YtlmllmonabafjaaGreatDoor renaming Ν13->Ξa,Γa->Ξd,Ν253->Ξe,Ν327->Ξf,Ν325->Ξh,Mp->Ξj,zsI->Ξk,zokI->Ξl
theorem D9 (w:World) (R A room first:Nat) (c:List Value) (T:List (List Value)) (ae af ac ad:Int) (css:List (List Value)) (h:qO 13 327 253 w R A room first (c::T) ae af ac ad css):
  Calls prog 238 #[γ R] w λe w'=>e= .returned (θ c.toArray)/\qO 13 327 253 w' R A room ((first+1)%room) T ae af ac ad (css.set first Γa)/\qg (RgB R A) w w':=Ψ2
end
end
section
open Go.RowKit
theorem Oc {w:World} {R A room first:Nat} {q:List (List Value)} {H I d G:Int} {css:List (List Value)} (h:qO 13 327 253 w R A room first q H I d G css):
  Calls prog 113 #[γ R] w λe w'=>e= .returned (ι q.length)/\w'=w:=by
 have J:w.cell? ⟨R,2,none⟩=some (ι q.length):=qb h.ring 2 rfl;clear h
 go_enter func113,ntmps113
 go_wp2;go_ret;exact⟨rfl,rfl⟩
theorem Ψ3 {P:Prop} (h:P:=by
 have O:w.cell? ⟨R,0,none⟩=some (δ (some ⟨A,0,none⟩) room room):=qb h.ring 0 rfl;have U:w.cell? ⟨R,2,none⟩=some (ι q.length):=qb h.ring 2 rfl;have N:((q.length:Int)==(room:Int))=decide (q.length=room):=by by_cases e:q.length=room<;>simp[e];omega
 clear h
 go_enter Ξa,Ξb
 go_wp2;refine wp_region_quiet_lit ξ ξ ?_
 repeat (go_big_quiet_step (fail))
 refine wpQuiet_nil ?_;intro _ J;obtain⟨nq,rfl⟩:=J;go_wp2;go_ret;exact⟨rfl,nq,rfl⟩):P:=h
section
open _root_.Go.Proofs.Tryz renaming func256->Ξa,ntmps256->Ξb
theorem MZ {w:World} {R A room first:Nat} {q:List (List Value)} {H I d G:Int} {css:List (List Value)} (h:qO 13 327 253 w R A room first q H I d G css):
  Calls prog 256 #[γ R] w λe w'=>e= .returned (μ (decide (q.length=room)))/\ ∃k,w'=w.drewN k:=Ψ3
end
theorem mkI (n:Nat) (N:1<=n) (O:n<=8) (w:World):
  (Instr.makeSlice 325 (ι (n:Int)) (ι (n:Int))).run prog w= .ok (δ (some ⟨w.heap.size,0,none⟩) n n) (w.alloc (.cells (List.replicate n (Γa:List Value)).flatten.toArray 253)):=by
 obtain⟨J,hi,G,H,I⟩:=info_parts (P:=prog) (e:=253) (z:= Γa) (size:=13) (bytes:=120) ξ;have d:=run_make (P:=prog) w 325 253 J (Γa) underlying325 hi G .i64 .i64 n n τ τ (by rw[I];omega) τ;rw[d];simp only[Int.toNat_natCast,H];rw[YA _ 13 n rfl ζ];rfl
theorem PH (m:Int) (n:Nat) (I:m=n) (d:1<=n) (G:n<=8) (w:World):
  Calls prog 146 #[ι m] w λe w'=>e= .returned (.tuple #[γ (w.heap.size+1),ι 0])/\qO 13 327 253 w' (w.heap.size+1) w.heap.size n 0 [] 0 0 0 0 (List.replicate n (Γa:List Value))/\qa w w':=by
 subst I;have J:1<=(n:Int):=by omega
 go_enter func146,ntmps146
 have N:=mkI n d G;go_wp2;refine bodyPost_ret (v:= .tuple #[γ (w.heap.size+1),ι 0]) (by simp[results,results146,go_sem]) rfl ?_;refine⟨rfl, ?_,ρ⟩;exact⟨qB η,qq (qA (qk _ _) rfl) _,τ,η,λc H=>by rw[List.eq_of_mem_replicate H];exact zokI,⟨d,G⟩,τ,η,λi hi=>by simp at hi⟩
theorem Ψ4 {P:Prop} (h:P:=by
 have d:=κ h;have Y:=h.ofHead;have J:c.toArray.size=(Ξa:Nat):=by simpa using Y.1
 have af:(((c::T).length:Int)==0)=false:=by simp;omega
 clear h;have ae:R<w.heap.size:=ql d.o.ring;have ad:A<w.heap.size:=ql d.o.row;have ag:w.cell? ⟨R,2,none⟩=some (ι (c::T).length):=qb d.o.ring 2 rfl;have ah:w.cell? ⟨R,5,none⟩=some (ι O):=qb d.o.ring 5 rfl;have ac:w.frozen? ⟨R,5,none⟩=false:=qd d.o.ring 5
 go_enter Ξb,Ξc
 go_wp2_with (first | (((with_reducible refine(Ξd _ R A room first c T I _ G H css ((d.o.popped _).more (qa.alloc _ _))).mono ?_);rintro e w5 ⟨rfl,U,a5⟩;have ab:=κ U;have aa:Hid (qg (RgB R A) w w5):=κ ((((qg.refl _ _).set (Or.inl rfl) _).alc _).trans a5);have N:Hid (w5.heap[w.heap.size]? =some (.cells Ξe (Ξf:Nat) (0,0))):=κ (a5.blk (qB η) (by rintro(e | e)<;>omega));clear U a5)) | (refine xV rfl (Ξf:Nat) (.tmp 2) (.tmp 21) rfl w.heap.size (Ξf:Nat) _ c.toArray N.o rfl rfl (by rw[J];kernel_rfl) (by rw[J];rfl) (all_oneCell_toArray Y.2) ?_))
 refine bodyPost_ret (v:= .tuple #[θ c.toArray,true]) (yD Ξg _ _ w.heap.size (Ξf:Nat) c.toArray _ _ rfl rfl (jT N.o _) Ξh rfl (by rw[J];kernel_rfl)) rfl ?_;exact⟨rfl,⟨_,ab.o.away (j9 _ _ _) (λe:R=w.heap.size=>by omega) (λe:A=w.heap.size=>by omega)⟩,aa.o.rowNew (Nat.le_refl _) _⟩):P:=h
section
open _root_.Go.Proofs.Tryz renaming func197->Ξb,ntmps197->Ξc,results197->Ξg,underlying253->Ξh
open _root_.Go.Proofs.YtlmllmonabafjaaGreatDoor renaming Ν13->Ξa,D9->Ξd,Γa->Ξe,Ν253->Ξf
theorem NV (w:World) (R A room first:Nat) (c:List Value) (T:List (List Value)) (I O G H:Int) (css:List (List Value)) (h:qO 13 327 253 w R A room first (c::T) I O G H css):
  Calls prog 197 #[γ R] w λe w'=>e= .returned (.tuple #[θ c.toArray,true])/\(∃co',qO 13 327 253 w' R A room ((first+1)%room) T I co' G H (css.set first Γa))/\qg (RgB R A) w w':=Ψ4
end
end
section
open Go.RowKit
theorem Ψ5 {P:Prop} (h:P:=by
 have U:=κ h;have bh:R<w.heap.size:=ql h.ring;have bg:A<w.heap.size:=ql h.row;have bp:(((w.alloc (.cells x.toArray (Ξa:Nat))).alloc (.cells Ξb (Ξa:Nat))).alloc (.cells Ξb (Ξa:Nat))).cell? ⟨R,3,none⟩=some (μ false):=qb (qq (qq (qq h.ring _) _) _) 3 rfl;have au:=κ aP;clear h aP
 go_enter Ξc,Ξd
 go_upto_if 16 with (first | (((with_reducible refine(Ξe (U.o.more (((qa.refl w).al _).al _ |>.al _))).mono ?_);rintro e an ⟨rfl,bn,ak⟩;rw[au.o];have ag:Hid (qa w an):=κ (by rw[ak];exact(((qa.refl w).al _).al _ |>.al _).dr _);have az:Hid (an.heap[w.heap.size]? =some (.cells x.toArray (Ξa:Nat) (0,0))):=κ (by rw[ak];exact qn (qq (qq (qk _ _) _) _) _);have aw:Hid (an.heap[w.heap.size+1]? =some (.cells Ξb (Ξa:Nat) (0,0))):=κ (by rw[ak];exact qn (qq (qB η) _) _);have ax:Hid (an.heap[w.heap.size+2]? =some (.cells Ξb (Ξa:Nat) (0,0))):=κ (by rw[ak];exact qn (qB η) _);clear ak)))
 go_cut [] from 17 to 67 (λao=> ∃(G:List Value) (f:Nat) (q:List (List Value)) (H:Int) (cs:List (List Value)),qO (Ξf:Nat) (Ξg:Nat) (Ξa:Nat) ao R A room f q aa aj H ai cs/\qg (RgB R A) w ao/\ao.heap[w.heap.size]? =some (.cells x.toArray (Ξa:Nat) (0,0))/\ao.heap[w.heap.size+1]? =some (.cells Ξb (Ξa:Nat) (0,0))/\ao.heap[w.heap.size+2]? =some (.cells G.toArray (Ξa:Nat) (0,0))/\q.length<room/\(G.length=(Ξf:Nat)/\ ∀u∈G,u.oneCell'=true)/\WI Ξb first room O css Y ab G f q H cs)
 case first=>
  cases ab with
  | false=>
   have aD:O.length<room:=by have:=U.o.fits;have:=of_decide_eq_false au.o;omega
   go_wp2;go_meet;exact⟨Ξb,first,O,Y,css,U.o.more ag.o,qg.of_more ag.o,az.o,aw.o,ax.o,aD,Ξh,rfl,rfl,rfl,rfl,rfl⟩
  | true=>
   cases O with
   | nil=>exact absurd (of_decide_eq_true au.o) (by have:=U.o.pos;simp;omega)
   | cons c T=>
    have aC:=U.o.ofHead;have N:c.toArray.size=(Ξf:Nat):=by simpa using aC.1
    have aD:T.length<room:=by have:=of_decide_eq_true au.o;simp at this;omega
    go_wp2_with (first | (((with_reducible refine(Ξi an R A room first c T aa aj Y ai css (U.o.more ag.o)).mono ?_);rintro e w5 ⟨rfl,ac,a5⟩;have aK:=κ ac;have aF:=κ a5;have aL:=κ (a5.blk az.o (by rintro(e | e)<;>omega));have aH:=κ (a5.blk aw.o (by rintro(e | e)<;>omega));have ay:=κ (a5.blk ax.o (by rintro(e | e)<;>omega));clear ac a5)) | (refine yL (.store (Ξa:Nat) (.tmp 7) (.tmp 18)) rfl ?_;refine xV rfl (Ξa:Nat) (.tmp 7) (.tmp 18) rfl (w.heap.size+2) (Ξa:Nat) _ c.toArray ay.o rfl rfl (by rw[N];kernel_rfl) (by rw[N];rfl) (all_oneCell_toArray aC.2) ?_;obtain⟨w6,aT⟩: ∃w6,w5.setRow (w.heap.size+2) c.toArray=w6:=⟨_,rfl⟩;have ar:=κ (aK.o.away (j9 w5 (w.heap.size+2) c.toArray) (λe:R=w.heap.size+2=>by omega) (λe:A=w.heap.size+2=>by omega));have ap:Hid (qg (RgB R A) w (w5.setRow (w.heap.size+2) c.toArray)):=κ (((qg.of_more ag.o).trans aF.o).rowNew τ _);have aN:Hid ((w5.setRow (w.heap.size+2) c.toArray).heap[w.heap.size]? =_):=κ (qT aL.o _ τ);have ae:Hid ((w5.setRow (w.heap.size+2) c.toArray).heap[w.heap.size+1]? =_):=κ (qT aH.o _ τ);have aq:Hid ((w5.setRow (w.heap.size+2) c.toArray).heap[w.heap.size+2]? =_):=κ (jT ay.o c.toArray);rw[aT] at ar ap aN ae aq ⊢;clear aT aK aF aL aH ay;have br:w6.cell? ⟨R,6,none⟩=some (ι Y):=qb ar.o.ring 6 rfl;have bf:w6.frozen? ⟨R,6,none⟩=false:=qd ar.o.ring 6))
    go_meet;exact⟨c,_,T,_,css.set first Ξb,ar.o.dropped _,ap.o.set (Or.inl rfl) _,qm aN.o _ _ (by show w.heap.size≠R;omega),qm ae.o _ _ (by show w.heap.size+1≠R;omega),qm aq.o _ _ (by show w.heap.size+2≠R;omega),aD,aC,rfl,rfl,rfl⟩
 case rest=>
 obtain⟨G,f,q,H,cs,ac,a5,aE,aA,c5,bb,aR,aS⟩:=hcut;have N:G.toArray.size=(Ξf:Nat):=by simpa using aR.1
 obtain⟨ah,aB⟩:=ν (wc);rw[aB] at ac a5 aE aA c5;rw[aB];have d:=κ ac;have aG:=κ a5;have aM:=κ aE;have aI:=κ aA;have aJ:=κ c5;have aU:=κ aS;clear ac a5 aE aA c5 aS aB ag az aw ax
 go_upto_region 8 with fail
 have aV: ∀x:qp ah,x.w'.cell? ⟨R,0,none⟩=some (δ (some ⟨A,0,none⟩) room room):=λx=>x.cell (ql d.o.ring) (qb d.o.ring 0 rfl)
 have aW: ∀x:qp ah,x.w'.cell? ⟨R,1,none⟩=some (ι f):=λx=>x.cell (ql d.o.ring) (qb d.o.ring 1 rfl)
 have aX: ∀x:qp ah,x.w'.cell? ⟨R,2,none⟩=some (ι q.length):=λx=>x.cell (ql d.o.ring) (qb d.o.ring 2 rfl)
 have bk:((f:Int)+(q.length:Int))%(room:Int)=(((f+q.length)%room:Nat):Int):=by rw[Int.natCast_emod];rfl
 have ba:(f+q.length)%room<room:=Nat.mod_lt _ τ;have hi:(((f+q.length)%room:Nat):Int)<(room:Int):=by omega
 have bl:=d.o.pos;have bi:=d.o.fst;have bj:(f:Int)<=8:=by omega
 have bm:(q.length:Int)<=8:=by omega
 generalize aZ:(f+q.length)%room=I at *;refine Qn ah 21 22 [21] ?_
 refine IA ?_
 refine je rfl rfl (qj ρ) (Ξa:Nat) (.tmp 3) rfl w.heap.size 0 rfl x _ (λw' bc=>by obtain⟨y,rfl⟩:=bc;exact xw (qc y.h aM.o)) Ξj rfl (by rw[ad.1];kernel_rfl) ?_;intro K am;go_simp;refine am _ ?_;clear am K
 refine Qq1 ?_
 refine yc rfl rfl ζ ?_;intro K am;refine zF (Ξa:Nat) (.tmp 48) (.tmp 47) rfl A (I* (Ξf:Nat)) (Ξa:Nat) cs.flatten.toArray x rfl rfl (qn d.o.row 1) (by rw[d.o.size,ad.1];have:=Nat.mul_le_mul_right (Ξf:Nat) (show I+1<=room by omega);omega) (by rw[ad.1];kernel_rfl) ad.2 ?_;refine⟨trivial, ?_⟩;go_simp;refine am _ _ ?_;clear am K aV aW aX;refine qv ?_;obtain⟨W6,J⟩:=ν ((ah.drewN 1).setRow A (xR cs.flatten (I* (Ξf:Nat)) x).toArray);have ap:Hid (qg (RgB R A) w W6):=κ (by rw[<-J];exact(aG.o.drewN 1).row (Or.inr rfl) _);have af:Hid (W6.heap[R]? =some (.cells (jR A room f q.length aa aj H ai) (Ξg:Nat) (0,0))):=κ (by rw[<-J];exact qT (qn d.o.ring 1) _ d.o.ne);have aY:Hid (W6.heap[A]? =some (.cells (cs.set I x).flatten.toArray (Ξa:Nat) (0,0))):=κ (by rw[<-J,<-JW cs I _ d.o.cl ad.1 (by rw[d.o.len];exact ba)];exact jT (qn d.o.row 1) _);have ae:Hid (W6.heap[w.heap.size+1]? =some (.cells Ξb (Ξa:Nat) (0,0))):=κ (by rw[<-J];exact qT (qn aI.o 1) _ τ);have aq:Hid (W6.heap[w.heap.size+2]? =some (.cells G.toArray (Ξa:Nat) (0,0))):=κ (by rw[<-J];exact qT (qn aJ.o 1) _ τ);rw[J];clear J aG aM aI aJ;have aO:w.heap.size+2≠R:=by omega
 have av:w.heap.size+1≠R:=by omega
 have bo:W6.cell? ⟨R,2,none⟩=some (ι q.length):=qb af.o 2 rfl;have bd:W6.frozen? ⟨R,2,none⟩=false:=qd af.o 2;have bq:W6.cell? ⟨R,4,none⟩=some (ι aa):=qb af.o 4 rfl;have be:W6.frozen? ⟨R,4,none⟩=false:=qd af.o 4
 go_wp2_with (first | (refine yL (.load (Ξa:Nat) (.tmp 7)) rfl ?_;refine vT rfl (Ξa:Nat) (.tmp 7) rfl (w.heap.size+2) (Ξa:Nat) G.toArray _ (qm (qm aq.o ⟨R,2,none⟩ _ aO) ⟨R,4,none⟩ _ aO) rfl Ξj rfl (by rw[N];kernel_rfl) ?_) | (refine yL (.store (Ξa:Nat) (.tmp 4) (.tmp 65)) rfl ?_;refine xV rfl (Ξa:Nat) (.tmp 4) (.tmp 65) rfl (w.heap.size+1) (Ξa:Nat) _ G.toArray (qm (qm ae.o ⟨R,2,none⟩ _ av) ⟨R,4,none⟩ _ av) rfl rfl (by rw[N];kernel_rfl) (by rw[N];rfl) (all_oneCell_toArray aR.2) ?_))
 have aQ:R≠A:=d.o.ne;refine bodyPost_ret (v:= .tuple #[θ G.toArray,ab,ι 0]) (Ud Ξk _ _ (w.heap.size+1) (Ξa:Nat) G.toArray _ _ _ rfl rfl rfl (jT (qm (qm ae.o ⟨R,2,none⟩ _ av) ⟨R,4,none⟩ _ av) _) Ξj rfl (by rw[N];kernel_rfl)) rfl ?_;subst aZ;refine⟨_,_,_,_,_,rfl,⟨wrap64 (aa+1),d.o.put bb ad ?_ ?_⟩,((ap.o.set (Or.inl rfl) _).set (Or.inl rfl) _).rowNew τ _,aU.o⟩
 ·exact qT (qA (qo (qo af.o 2 _) 4 _) rfl) _ τ
 ·exact qT (qm (qm aY.o _ _ (Ne.symm aQ)) _ _ (Ne.symm aQ)) _ τ):P:=h
section
open _root_.Go.Proofs.Tryz renaming func196->Ξc,ntmps196->Ξd,underlying253->Ξj,results196->Ξk
open _root_.Go.Proofs.YtlmllmonabafjaaGreatDoor renaming Ν253->Ξa,Γa->Ξb,MZ->Ξe,Ν13->Ξf,Ν327->Ξg,zokI->Ξh,D9->Ξi
theorem ZN (w:World) (R A room first:Nat) (O:List (List Value)) (aa aj Y ai:Int) (css:List (List Value)) (h:qO 13 327 253 w R A room first O aa aj Y ai css) (x:List Value) (ad:x.length=13/\ ∀u∈x,u.oneCell'=true) (ab:Bool) (aP:decide (O.length=room)=ab):
  Calls prog 196 #[γ R,θ x.toArray] w λe w'=> ∃(G:List Value) (f:Nat) (q:List (List Value)) (H:Int) (cs:List (List Value)),e= .returned (.tuple #[θ G.toArray,ab,ι 0])/\(∃ci',qO 13 327 253 w' R A room f (q++[x]) ci' aj H ai (cs.set ((f+q.length)%room) x))/\qg (RgB R A) w w'/\WI Γa first room O css Y ab G f q H cs:=Ψ5
end
theorem UN (w:World) (R A room first:Nat) (q:List (List Value)) (I H d G:Int) (css:List (List Value)) (h:qO 13 327 253 w R A room first q I H d G css) (ad:q.length<room) (x:List Value) (ac:x.length=13/\ ∀u∈x,u.oneCell'=true):
  Calls prog 196 #[γ R,θ x.toArray] w λe w'=>e= .returned (.tuple #[Γa,μ false,ι 0])/\(∃ci',qO 13 327 253 w' R A room first (q++[x]) ci' H d G (css.set ((first+q.length)%room) x))/\qg (RgB R A) w w':=
 (ZN w R A room first q I H d G css h x ac false (decide_eq_false τ)).mono λe w' ⟨_,_,_,_,_,aa,ab,a,J,N,O,U,Y⟩=>by
  subst J N O U Y;exact⟨aa,ab,a⟩
theorem UO (w:World) (R A room first:Nat) (c:List Value) (T:List (List Value)) (O I N G:Int) (css:List (List Value)) (h:qO 13 327 253 w R A room first (c::T) O I N G css) (ab:(c::T).length=room) (x:List Value) (ad:x.length=13/\ ∀u∈x,u.oneCell'=true):
  Calls prog 196 #[γ R,θ x.toArray] w λe w'=>e= .returned (.tuple #[θ c.toArray,true,ι 0])/\(∃H d,qO 13 327 253 w' R A room ((first+1)%room) (T++[x]) H I d G ((css.set first Γa).set (((first+1)%room+T.length)%room) x))/\qg (RgB R A) w w':=
 (ZN w R A room first (c::T) O I N G css h x ad true (decide_eq_true ab)).mono λe w' ⟨ae,f,q,d,cs,aa,⟨H,ac⟩,a,J,U,Y⟩=>by
  injection J with J h4
  subst J U Y h4;exact⟨aa,⟨H,d,ac⟩,a⟩
end
section
open Go.RowKit
theorem Ax (c:List Value) (h:c.length=13): ∃a0 a1 a2 a3 a4 a5 a6 a7 a8 a9 a10 a11 a12,c=[a0,a1,a2,a3,a4,a5,a6,a7,a8,a9,a10,a11,a12]:=by
 match c,h with
 | [a0,a1,a2,a3,a4,a5,a6,a7,a8,a9,a10,a11,a12],_=>exact⟨a0,a1,a2,a3,a4,a5,a6,a7,a8,a9,a10,a11,a12,rfl⟩
theorem zI {S:Nat->Prop} {w w':World} {base e n m:Nat} {v:Value} {xs:List Value} (h:w.ownsRow base e n v m xs) (a:qg S w w') (H: ∀b,base<=b-> ¬S b):w'.ownsRow base e n v m xs:=by
 obtain⟨d,G⟩:=h;refine⟨d, ?_⟩;rcases G with h | ⟨b,cap,cur,e1,hb,hg,rest⟩
 ·exact Or.inl h
 ·exact Or.inr ⟨b,cap,cur,e1,hb,a.blk hg (H b hb),rest⟩
theorem kf {w:World} {base e size n b:Nat} {v:Value} {xs:List Value} (h:w.ownsRow base e size v n xs) (d:v.ownBlock=some b):base<=b:=by
 rcases h.2 with ⟨rfl,_⟩ | ⟨g,cap,cur,rfl,G,_⟩
 ·cases d
 ·obtain rfl:g=b:=by injection d
  exact G
theorem zz {w:World} {base e size n:Nat} {v:Value} {xs:List Value} (h:w.ownsRow base e size v n xs): ∃oa cap,v= δ oa n cap:=by
 rcases h.2 with ⟨rfl,d⟩ | ⟨g,cap,cur,rfl,_⟩
 ·exact⟨none,0,by rw[d]⟩
 ·exact⟨_,cap,rfl⟩
theorem Lp (w:World) (R A room first:Nat) (q:List (List Value)) (J N H I:Int) (css:List (List Value)) (h:qO 13 327 253 w R A room first q J N H I css):
  Calls prog 180 #[γ R] w λe w'=> ∃v,e= .returned v/\w'.ownsRow w.heap.size 253 13 v q.length q.flatten/\(∃first' cg' css',qO 13 327 253 w' R A room first' [] J N H cg' css')/\qg (RgB R A) w w':=by
 obtain⟨aO,aP,aQ,aR,aS⟩:=info_parts (P:=prog) (e:=253) (z:= Γa) (size:=13) (bytes:=120) ξ;have aA:=κ h;have aW:R<w.heap.size:=ql h.ring;have aV:A<w.heap.size:=ql h.row;have bc:w.cell? ⟨R,2,none⟩=some (ι q.length):=qb h.ring 2 rfl;have ba:(q.length:Int)<=8:=by have:=h.fits;have:=h.pos.2;omega
 have aG:=κ h.qall;clear h
 go_enter func180,ntmps180
 go_wp2
 go_loopw [3,8] (λu am wr=> ∃(j f:Nat) (cs:List (List Value)),j<=q.length/\am= ι j/\(∃ax aw aq,u= δ ax aw aq)/\wr.ownsRow w.heap.size 253 13 u j (q.take j).flatten/\qO 13 327 253 wr R A room f (q.drop j) J N H I cs/\qg (RgB R A) w wr) (λ_ am _=>q.length-(intOf am).toNat)
 case atStart=>exact⟨0,first,css,τ,rfl,⟨_,_,_,rfl⟩,World.ownsRow_nil w _ _ _,aA.o,qg.refl _ _⟩
 case round=>
  obtain⟨j,f,cs,aY,rfl,⟨ax,aw,aq,rfl⟩,d,av,au⟩:=hrel;have an:=κ d;have G:=κ av;have ah:=κ au;clear d av au;by_cases hlt:j<q.length
  ·have aj:q.drop j=q[j]::q.drop (j+1):=List.drop_eq_getElem_cons hlt;have al:q.take (j+1)=q.take j++[q[j]]:=by rw[List.take_add_one,List.getElem?_eq_getElem hlt];rfl
   have ag:=aG.o q[j] (List.getElem_mem hlt);have aZ:(j:Int)<(q.length:Int):=by omega
   obtain⟨c,aI⟩: ∃c,Hid (c=q[j]):=⟨_,κ rfl⟩;rw[<-aI.o] at aj al ag;have aD:=κ (aj▸G.o);have aE:=κ al;have aX:c.toArray.size=13:=by simpa using ag.1
   clear aj al G;obtain⟨a0,U,ac,a3,a4,a5,ad,ae,af,a9,Y,aa,ab,rfl⟩:=Ax c ag.1
   go_wp2_with (first | (go_at_call 238;(go_call D9 wr R A room f [a0,U,ac,a3,a4,a5,ad,ae,af,a9,Y,aa,ab] (q.drop (j+1)) J N H I cs aD.o as e w5 ⟨rfl,ar,a5⟩;have aB:=κ ar;have ay:=κ a5;have O:=κ (zI an.o a5 (λb ai e=>by rcases e with e | e<;>omega));have aH:Hid (w.heap.size<=w5.heap.size):=κ (Nat.le_trans ah.o.size a5.size);clear ar a5)) | (at_builtin;refine wpList_append_own_at _ rfl (.tmp 10) (.tmp 13) 325 rfl w.heap.size 253 aO (Γa) 13 120 underlying325 aP aQ aR aS rfl ζ _ j (q.take j).flatten rfl (zI O.o (qg.of_more (qa.alloc _ _)) (λb _ e=>e)) ⟨w5.heap.size,0,none⟩ 1 1 [a0,U,ac,a3,a4,a5,ad,ae,af,a9,Y,aa,ab] rfl rfl (λi u aL=>by have:=xw (cs:=[a0,U,ac,a3,a4,a5,ad,ae,af,a9,Y,aa,ab]) (t:=253) (qk w5 (.cells #[a0,U,ac,a3,a4,a5,ad,ae,af,a9,Y,aa,ab] 253)) i u aL;rw[Addr.add_mid];exact this) ag.2 (by unfold maxLen;omega) τ (by have:=aH.o;simp;omega) ?_;intro be w6 d ak aJ aM;have aF:=κ d;have az:Hid (qg (RgB R A) w w6):=κ (((ah.o.trans ay.o).alc _).grown ak (λb ai=>kf O.o ai));have aC:Hid (qO 13 327 253 w6 R A room ((f+1)%room) (q.drop (j+1)) J N H I (cs.set f Γa)):=κ ((aB.o.more (qa.alloc _ _)).away (qg.of_grown ak) (λe=>by have:=kf O.o e;omega) (λe=>by have:=kf O.o e;omega));obtain⟨bb,aT,rfl⟩:=zz d;clear d ak aJ aM))
   go_roundw
   case rel=>exact⟨j+1,(f+1)%room,_,τ,by go_num,⟨_,_,_,rfl⟩,by rw[aE.o,List.flatten_append];simpa using aF.o,aC.o,az.o⟩
   case measure=>simp[intOf];omega
  ·obtain rfl:j=q.length:=by omega
   have bd:wr.cell? ⟨R,7,none⟩=some (ι I):=qb G.o.ring 7 rfl;have aU:wr.frozen? ⟨R,7,none⟩=false:=qd G.o.ring 7;go_wp2;go_ret;have aN:q.drop q.length=[]:=by simp
   have aK:q.take q.length=q:=by simp
   have ap:=G.o;have ao:=an.o;rw[aN] at ap;rw[aK] at ao;exact⟨_,rfl,zI ao ((qg.refl (λb=>b=R) _).set rfl _) (λb ai e=>by omega),⟨_,_,_,ap.drained _⟩,ah.o.set (Or.inl rfl) _⟩
end
section
open Go.RowKit
def idV (c:List Value):Value:=match c with | .int .i64 n::_=> .int .i64 n | _=> .int .i64 0
def idN (c:List Value):Int:=match c with | .int .i64 n::_=>n | _=>0
theorem YM {n:Nat} {w:World} {base e:Nat} {v:Value} {q:List (List Value)} (h:w.ownsRow base e n v q.length q.flatten) (I: ∀c∈q,c.length=n):
  ∃oa cap,v= δ oa q.length cap/\ ∀j,j<q.length-> ∃b,oa=some ⟨b,0,none⟩/\b<w.heap.size/\ ∀w',qa w w'->w'.rangeAt b (j* n) (q.getD j []):=by
 obtain⟨Y,O⟩:=h;rcases O with ⟨rfl,N⟩ | ⟨g,cap,cur,rfl,aa,H,af,ac,ad,U⟩
 ·exact⟨none,0,by rw[N],λj d=>by omega⟩
 ·refine⟨_,cap,rfl,λj d=>⟨g,rfl,lt_of_block H,λw' m i u J=> ?_⟩⟩;have ab:(q.getD j []).length=n:=by
   rw[List.getD_eq_getElem?_getD,List.getElem?_eq_getElem d];exact I _ (List.getElem_mem d)
  have hi:i<n:=by have:=(List.getElem?_eq_some_iff.1 J).1;omega
  have ae:j* n+n<=q.length* n:=by
   have:(j+1)* n<=q.length* n:=Nat.mul_le_mul_right n d;rw[Nat.add_mul,Nat.one_mul] at this;exact this
  have G:=WE q j i I d hi;rw[<-U,List.getElem?_take,if_pos τ] at G;rw[cell_of_row w' g _ cur e (0,0) (qc m H),<-J,<-G];simp
theorem FV (i:Int) (c:List Value) (d:c.length=12) (w:World):Calls prog 181 #[θ (ι i::c).toArray] w λe w'=>e= .returned (ι i)/\qa w w':=by
 obtain⟨a0,G,N,a3,a4,a5,O,U,Y,a9,H,I,J,h⟩:=Ax (ι i::c) (by simp[d]);obtain⟨rfl,rfl⟩:a0= ι i/\c=[G,N,a3,a4,a5,O,U,Y,a9,H,I,J]:=by
  injection h with h1 h2
  exact⟨h1.symm,h2⟩
 clear h d
 go_enter func181,ntmps181
 go_wp2;go_ret;exact⟨rfl,ρ⟩
theorem Ψ6 {P:Prop} (h:P:=by
 obtain⟨aK,hi,aH,aI,aJ⟩:=info_parts (P:=prog) (e:=3) (z:= ι 0) (size:=1) (bytes:=8) ξ;obtain⟨aQ,cap,rfl,aq⟩:=YM row (λc d=>by obtain⟨i,r,rfl,I⟩:=aa c d;simp[I]);have az:=κ aq;have ay:=κ aa;have aB:=κ ai;clear row aq aa ai
 go_enter Ξa,Ξb
 go_wp2
 go_loopw [5,10] (λu ae wr=> ∃j:Nat,j<=q.length/\ae= ι j/\(∃av au ah,u= δ av au ah)/\wr.ownsRow w.heap.size 3 1 u ((q.take j).map idN).length (((q.take j).map idN).map (Value.int .i64))/\qa w wr) (λ_ ae _=>q.length-(intOf ae).toNat)
 case atStart=>exact⟨0,τ,rfl,⟨_,_,_,rfl⟩,World.ownsRow_nil w _ _ _,qa.refl _⟩
 case round=>
  obtain⟨j,aM,rfl,⟨av,au,ah,rfl⟩,ap,ao⟩:=hrel;have J:=κ ap;have H:=κ ao;clear ap ao;by_cases hlt:j<q.length
  ·have aO:(j:Int)<(q.length:Int):=by omega
   have ac:(q.take (j+1)).map idN=(q.take j).map idN++[idN q[j]]:=by rw[List.take_add_one,List.getElem?_eq_getElem hlt,List.map_append];rfl
   obtain⟨b,rfl,aL,ak⟩:=az.o j hlt;have an:q.getD j []=q[j]:=by rw[List.getD_eq_getElem?_getD,List.getElem?_eq_getElem hlt];rfl
   have G:=κ (ak wr H.o);rw[an] at G;obtain⟨id,r,ab,I⟩:=ay.o q[j] (List.getElem_mem hlt);rw[ab] at ac G;have aA:Hid ((q.take (j+1)).map idN=(q.take j).map idN++[id]):=κ ac;have ad:=aB.o q[j] (List.getElem_mem hlt);rw[ab] at ad;obtain⟨c,d⟩: ∃c,c= ι id::r:=⟨_,rfl⟩;have O:=Ξc id r I;rw[<-d] at G ad O;have aj:c.length=(Ξd:Nat):=by rw[d];simp[I]
   have U:c.toArray.size=(Ξd:Nat):=by simpa using aj
   have ax:=κ O;clear d O;clear an ak ab ac;have c1:(((q.take j).map idN).length+[id].length)* 8<=140737488355328:=(by simp;omega)
   go_wp2_with (first | (refine yL (.load (Ξe:Nat) (.tmp 12)) rfl ?_;refine wpList_load_mid rfl (Ξe:Nat) (.tmp 12) rfl b (j* (Ξd:Nat)) rfl c _ G.o Ξf rfl (by rw[aj];kernel_rfl) ?_) | (refine yL (.store (Ξe:Nat) (.tmp 7) (.tmp 13)) rfl ?_;refine xV rfl (Ξe:Nat) (.tmp 7) (.tmp 13) rfl wr.heap.size (Ξe:Nat) _ c.toArray (qk wr _) rfl rfl (by rw[U];kernel_rfl) (by rw[U];rfl) (all_oneCell_toArray ad) ?_;have aw:=κ (jT (qk wr (.cells Ξg (Ξe:Nat))) c.toArray)) | (refine yL (.load (Ξe:Nat) (.tmp 7)) rfl ?_;refine vT rfl (Ξe:Nat) (.tmp 7) rfl wr.heap.size (Ξe:Nat) c.toArray _ aw.o rfl Ξf rfl (by rw[U];kernel_rfl) ?_) | (refine(ax.o _).mono ?_;rintro e w1 ⟨rfl,ar⟩;have N:Hid (qa wr w1):=κ (((j9 _ _ _).to_more (qa.alloc _ _) (λk e=>by rw[e];exact Nat.le_refl _)).trans ar);clear ar) | (at_builtin;refine xq _ rfl (.tmp 14) (.tmp 18) 107 rfl w.heap.size 3 aK (ι 0) 8 underlying107 hi aH aI aJ rfl _ .i64 ((q.take j).map idN) rfl (zI J.o (S:=λ_=>False) ((qg.of_more N.o).alc _) (λ_ _ h=>h)) _ [id] rfl (SlI.lit .i64 w1 [id] 3 _ 1 _ η rfl rfl η) c1 ζ (Nat.le_trans (H.o.trans N.o).size (qa.alloc _ _).size) ?_;intro aR w2 Y am;have aD:=κ Y;have aC:Hid (qa w w2):=κ ((qg.of_more (S:=λ_=>False) ((H.o.trans N.o).al _)).grown am (λk aE=>kf J.o aE) |>.to_more (qa.refl _) (λk e=>e.elim));obtain⟨o2,c2,rfl⟩:=zz Y;clear Y am))
   go_roundw
   case rel=>exact⟨j+1,τ,by go_num,⟨_,_,_,rfl⟩,by rw[aA.o];have ag:=aD.o;have aF:((q.take j).map idN++[id]).length=j+1:=(by simp;omega);(rw[aF] at ag ⊢;exact ag),aC.o⟩
   case measure=>simp[intOf];omega
  ·obtain rfl:j=q.length:=by omega
   have aP: ¬(q.length:Int)<(q.length:Int):=by omega
   go_wp2;go_ret;have aG:q.take q.length=q:=by simp
   have af:=J.o;rw[aG] at af;exact⟨⟨_,rfl,by simpa using af⟩,H.o⟩):P:=h
section
open _root_.Go.Proofs.Tryz renaming func179->Ξa,ntmps179->Ξb,underlying253->Ξf
open _root_.Go.Proofs.YtlmllmonabafjaaGreatDoor renaming FV->Ξc,Ν13->Ξd,Ν253->Ξe,Γa->Ξg
theorem Oh (w:World) (v:Value) (q:List (List Value)) (base:Nat) (row:w.ownsRow base 253 13 v q.length q.flatten) (aa: ∀c∈q,∃i r,c= ι i::r/\r.length=12) (ai: ∀c∈q,∀u∈c,u.oneCell'=true) (aN:q.length<=8):
  Calls prog 179 #[v,.func (.func 181) #[] #[]] w λe w'=>(∃v',e= .returned v'/\w'.ownsRow w.heap.size 3 1 v' (q.map idN).length ((q.map idN).map (Value.int .i64)))/\qa w w':=Ψ6
end
end
section
open Go.RowKit
theorem Mo (w:World):(zeroValue 56).run prog w= .ok (Γs) w:=by kernel_rfl
theorem zsO:(Builtin.zeroCells (Γs:Value).cells 1).toList=Γs:=by kernel_rfl
theorem zokO:(Γs:List Value).length=2/\ ∀u∈(Γs:List Value),u.oneCell'=true:=⟨rfl,by simp[Value.oneCell']⟩
section
open _root_.Go.Proofs.Tryz renaming func232->Ξb,ntmps232->Ξc,underlying56->Ξg,underlying53->Ξi,results232->Ξm
open _root_.Go.Proofs.YtlmllmonabafjaaGreatDoor renaming Ν2->Ξa,Γs->Ξd,Ν56->Ξe,Ν332->Ξf,Ν53->Ξh,Mo->Ξj,zsO->Ξk,zokO->Ξl
theorem D8 (w:World) (R A room first:Nat) (c:List Value) (T:List (List Value)) (ae af ac ad:Int) (css:List (List Value)) (h:qO 2 332 56 w R A room first (c::T) ae af ac ad css):
  Calls prog 232 #[γ R] w λe w'=>e= .returned (θ c.toArray)/\qO 2 332 56 w' R A room ((first+1)%room) T ae af ac ad (css.set first Γs)/\qg (RgB R A) w w':=Ψ2
end
end
end Go.Proofs.YtlmllmonabafjaaGreatDoor
