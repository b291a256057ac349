import Derived.Test.YtemiagcencajeaaGreatDoorCtE1
import Derived.Laws.StructEq
import Derived.MapKept
set_option linter.unusedSimpArgs false
set_option linter.unusedVariables false
set_option linter.unusedSectionVars false
namespace Go.Eng
open Go Go.RowKit
section
variable {P:Program} {base:Nat} {okin:Nat->Prop} {σ:Nat->Option (Nat × Nat)} {h:aA} {w:World} {G:Nat->Option J} {F:Nat->J} {a:Act}
theorem J7 {i j sz:Nat} (aZ:j<sz):(i*sz+j)/sz=i/\(i*sz+j)%sz=j:=by
 have a4:0<sz:=by omega
 constructor
 · rw[Nat.add_comm,Nat.add_mul_div_right _ _ a4,Nat.div_eq_of_lt aZ,Nat.zero_add]
 · rw[Nat.add_comm,Nat.add_mul_mod_self_right,Nat.mod_eq_of_lt aZ]
theorem vT (H:cS base okin σ h w) {v:J} {cv:Value} (aR:bu w (bN base okin σ h) σ v cv) {ys:List J} (he:elems h v=some ys) {sz:Nat} (cy:∀e∈ys,e.cells.length=sz) (a4:0<sz):
 ∃A c,cv= .slice A ys.length c/\∃arr,(Builtin.firstCells sz ys.length cv).run P w= .ok arr w/\lI w (bN base okin σ h) σ sz ys arr:=by
 unfold elems at he
 split at he
 · rename_i xs ex
   injection he with he
   subst he
   have ba:=aR.pB
   cases ba with
   | sl _ _ A c fg eb ab h2 aX aW cL fo=>
     refine⟨A,c,rfl,?_⟩
     by_cases aJ:xs.length=0
     · have ak:xs= []:=List.eq_nil_of_length_eq_zero aJ
       subst ak
       cases A with
       | none=>exact⟨#[],by simp[Builtin.firstCells],by simp,fun i ag=>absurd ag (by simp)⟩
       | some cO=>exact⟨#[],by simp[Builtin.firstCells,loadCells,loadCellsFrom],by simp,fun i ag=>absurd ag (by simp)⟩
     · have qy:fg=sz:=by
        have:=aX 0 (by omega)
        have:=cy _ (List.getElem_mem (show 0<xs.length by omega))
        omega
       subst qy
       have aI:=cL (by omega)
       obtain⟨cO,rfl⟩:=Option.isSome_iff_exists.1 aI
       have aV:∀k,k<xs.length*fg->w.cell? (cO.add k)=some ((fun k=>eb (k/fg) (k%fg)) k):=by
        intro k aE
        have ag:k/fg<xs.length:=Nat.div_lt_of_lt_mul (by rw[Nat.mul_comm];exact aE)
        obtain⟨J8,e,_,I⟩:=aW (k/fg) (k%fg) ag (Nat.mod_lt _ a4)
        cases e
        have:k/fg*fg+k%fg=k:=by rw[Nat.mul_comm];exact Nat.div_add_mod k fg
        rwa [this] at I
       refine⟨_,by simp only[Builtin.firstCells];exact run_loadCells w cO (xs.length*fg) _ aV,?_⟩
       refine⟨by simp,fun i ag=>⟨aX i ag,fun j aZ aE=>?_⟩⟩
       have jT:j<fg:=by have:=aX i ag;omega
       have:=J7 (i:=i) jT
       simp only[List.getElem_toArray,List.getElem_map,List.getElem_range,this.1,this.2]
       exact .val _ _ (fo i ag j aZ)
 · rename_i id off len cap
   split at he<;>try(cases he;done)
   rename_i blk aj
   split at he<;>try(cases he;done)
   rename_i hle
   cases he
   obtain⟨A,c,b,cf,rfl,aq,aB,bg,bT⟩:=aR.pC
   have hlen:((blk.drop off).take len).length=len:=by simp;omega
   rw[hlen]
   refine⟨A,c,rfl,?_⟩
   by_cases aJ:len=0
   · subst aJ
     refine⟨#[],?_,by simp,fun i ag=>absurd ag (by simp)⟩
     cases A with
     | none=>simp[Builtin.firstCells]
     | some cO=>simp[Builtin.firstCells,loadCells,loadCellsFrom]
   · obtain⟨hA,fg,arr,ty,f1,f2,f3⟩:=H.blk id blk aj
     rw[aq] at f1;cases f1
     have kx:∀i,i<len->∃ag:off+i<blk.length,blk[off+i].cells.length=sz:=by
      intro i ag
      refine⟨by omega,cy _ ?_⟩
      have:(((blk.drop off).take len)[i]'(by rw[hlen];exact ag))=blk[off+i]'(by omega):=by simp
      rw[<-this];exact List.getElem_mem _
     have qy:cf=sz:=by
      obtain⟨ag,e⟩:=kx 0 (by omega)
      have:=(f3 _ ag).1;omega
     subst qy
     obtain⟨rfl,_⟩:=bT (by omega)
     have aV:∀k,k<len*cf->w.cell? ((⟨b,off*cf,none⟩:Addr).add k)=some ((fun k=>(arr[off*cf+k]?).getD undef) k):=by
      intro k aE
      have ag:k/cf<len:=Nat.div_lt_of_lt_mul (by rw[Nat.mul_comm];exact aE)
      obtain⟨b_,e⟩:=kx _ ag
      have hm:=Nat.mod_lt k a4
      obtain⟨lp,bz,_⟩:=(f3 _ b_).2 (k%cf) (by omega)
      have:(off+k/cf)*cf+k%cf=off*cf+k:=by rw[Nat.add_mul,Nat.add_assoc];congr 1;rw[Nat.mul_comm];exact Nat.div_add_mod k cf
      rw[this] at bz
      rw[oL]
      simp only[World.cell?,f2,Option.isSome_none,Bool.false_eq_true,if_false]
      rw[bz];rfl
     refine⟨_,by simp only[Builtin.firstCells];exact run_loadCells w ⟨b,off*cf,none⟩ (len*cf) _ aV,?_⟩
     refine⟨by simp[hlen],fun i ag=>?_⟩
     have J9:i<len:=by rw[hlen] at ag;exact ag
     obtain⟨b_,e⟩:=kx i J9
     have bV:((blk.drop off).take len)[i]=blk[off+i]'(by omega):=by simp
     rw[bV]
     refine⟨e,fun j aZ aE=>?_⟩
     obtain⟨lp,bz,bR⟩:=(f3 _ b_).2 j aZ
     have:(off+i)*cf+j=off*cf+(i*cf+j):=by rw[Nat.add_mul];omega
     rw[this] at bz
     simp only[List.getElem_toArray,List.getElem_map,List.getElem_range]
     rw[bz];exact bR
 · cases he
theorem Cs (n:Nat):∀(r c:Nat),256<=c->c<=2*n->Builtin.growBy n r c<=2*n
 | 0,c,_,h=>h
 | r+1,c,ab,h2=>by
   unfold Builtin.growBy
   split
   · exact h2
   · exact Cs n r _ (by omega) (by omega)
theorem J_ {n c:Nat} (h:c<n):Builtin.nextslicecap n c<=2*n:=by
 unfold Builtin.nextslicecap
 split
 · omega
 · split
   · omega
   · exact Cs n 4 c (by omega) (by omega)
theorem lI.append {ok:Nat->Prop} {sz:Nat} {xs ys:List J} {a1 eC:Array Value} (ab:lI w ok σ sz xs a1) (h2:lI w ok σ sz ys eC):lI w ok σ sz (xs++ys) (a1++eC):=by
 refine⟨by simp[ab.1,h2.1,Nat.add_mul],fun i ag=>?_⟩
 by_cases ak:i<xs.length
 · have e:(xs++ys)[i]=xs[i]:=List.getElem_append_left ak
   rw[e]
   refine⟨(ab.2 i ak).1,fun j aZ aE=>?_⟩
   have bO:i*sz+j<a1.size:=by rw[ab.1];exact n2 ak (by have:=(ab.2 i ak).1;omega)
   rw[Array.getElem_append_left bO]
   exact(ab.2 i ak).2 j aZ bO
 · have bd:i - xs.length<ys.length:=by simp at ag;omega
   have e:(xs++ys)[i]=ys[i - xs.length]:=List.getElem_append_right (by omega)
   rw[e]
   refine⟨(h2.2 _ bd).1,fun j aZ aE=>?_⟩
   have hle:xs.length*sz<=i*sz:=Nat.mul_le_mul_right _ (by omega)
   have bO:(i - xs.length)*sz+j<eC.size:=by rw[h2.1];exact n2 bd (by have:=(h2.2 _ bd).1;omega)
   have qz:a1.size<=i*sz+j:=by rw[ab.1];omega
   rw[Array.getElem_append_right qz]
   have aB:i*sz+j - a1.size=(i - xs.length)*sz+j:=by rw[ab.1,Nat.sub_mul];omega
   simp only[aB]
   exact(h2.2 _ bd).2 j aZ bO
theorem Ct {t u e e':TypeId} (a7:P.underlying t=some (.slice e)) (hu:P.underlying u=some (.slice e')) {sz bytes:Nat} (aG:gp P e=some sz) (aj:x' P e=some bytes) {z:J} (aP:zeroOf P e=some z)
 (A:Option Addr) (n c:Nat) (B:Option Addr) (m d:Nat) (Cu:c<n+m) (c_:0<bytes) (qx:(n+m)*bytes<=35184372088832) {lJ new:Array Value}
 (aK:(Builtin.firstCells sz n (.slice A n c)).run P w.drew= .ok lJ w.drew) (ar:(Builtin.firstCells sz m (.slice B m d)).run P w.drew= .ok new w.drew):
 ∃qA rest,n+m<=qA/\(Builtin.append_ #[t,u] t #[.slice A n c,.slice B m d]).run P w= .ok (.slice (some ⟨w.heap.size,0,none⟩) (n+m) qA) (w.drew.alloc (.cells (lJ++new++rest) e))/\(rest.size=(qA -(n+m))*z.cells.length):=by
 obtain⟨bk,cM,dX,vS,_⟩:=r9 (P:=P) (w:=w.drew) (σ:=fun _=>none) (ok:=fun _=>True) aP
 obtain⟨i,ag,VM⟩:=Option.map_eq_some_iff.1 aG
 have yv:i.bytes=bytes:=by
  obtain⟨f',aq,aB⟩:=Option.map_eq_some_iff.1 aj
  rw[ag] at aq;cases aq;exact aB
 have Cv:=J_ Cu
 have J':¬(Builtin.nextslicecap (n+m) c*i.bytes>2^48):=by
  rw[yv]
  have:Builtin.nextslicecap (n+m) c*bytes<=2*(n+m)*bytes:=Nat.mul_le_mul_right _ Cv
  rw[Nat.mul_assoc] at this
  omega
 have ab:¬(n+m<=c):=by omega
 have dT:i.bytes≠0:=by omega
 refine⟨(Question.appendCap (n+m) c e).cut (w.tape w.drawn (.appendCap (n+m) c e)),Builtin.zeroCells bk.cells ((Question.appendCap (n+m) c e).cut (w.tape w.drawn (.appendCap (n+m) c e)) -(n+m)),by simp[Question.cut],?_,by simp[Builtin.zeroCells,dX.1]⟩
 simp[Builtin.append_,run_underlying a7,run_underlying hu,run_sizeOf aG,Builtin.lenOf,run_typeInfo ag,ab,dT,J',Question.forced,aK,ar,cM,newRow]
theorem cS.drew (H:cS base okin σ h w):cS base okin σ h w.drew/\Prog base okin σ h w σ h w.drew:=by
 have P:Prog base okin σ h w σ h w.drew:=⟨fun _ _ x=>x,fun _ _ aK=>⟨aK,rfl⟩,(Below.refl _ _).drew,fun _=>Nat.le_refl _⟩
 refine⟨⟨H.val,fun id fp f_=>?_,H.inj,H.base⟩,P⟩
 obtain⟨b,s,a,t,aq,aB,bg⟩:=H.blk id fp f_
 refine⟨b,s,a,t,aq,aB,fun i ag=>⟨(bg i ag).1,fun j aZ=>?_⟩⟩
 obtain⟨v,f1,f2⟩:=(bg i ag).2 j aZ
 exact⟨v,f1,P.rep f2⟩
theorem cS.kill (H:cS base okin σ h w) (id:Nat):cS base okin σ {h with cells:=aF h.cells id none} w/\Prog base okin σ h w σ {h with cells:=aF h.cells id none} w:=by
 have P:Prog base okin σ h w σ {h with cells:=aF h.cells id none} w:=by
  refine⟨fun _ _ x=>x,fun b aj aK=>⟨?_,rfl⟩,Below.refl _ _,fun _=>Nat.le_refl _⟩
  rcases aK with aK|⟨ab,h2⟩
  · exact .inl aK
  · refine .inr ⟨ab,fun i s aG aV=>h2 i s aG ?_⟩
    by_cases e:i=id
    · simp[aF,e] at aV
    · simpa[aF,e] using aV
 refine⟨⟨H.val,fun i fp f_=>?_,fun i f' b s ax ab h2=>H.inj i f' b s ax ?_ ?_,H.base⟩,P⟩
 · by_cases e:i=id
   · simp[aF,e] at f_
   · have oK:h.cells i=some fp:=by simpa[aF,e] using f_
     obtain⟨b,s,a,t,aq,aB,bg⟩:=H.blk i fp oK
     refine⟨b,s,a,t,aq,aB,fun i ag=>⟨(bg i ag).1,fun j aZ=>?_⟩⟩
     obtain⟨v,f1,f2⟩:=(bg i ag).2 j aZ
     exact⟨v,f1,P.rep f2⟩
 · by_cases e:i=id
   · simp[aF,e] at ab
   · simpa[aF,e] using ab
 · by_cases e:f'=id
   · simp[aF,e] at h2
   · simpa[aF,e] using h2
theorem lI.cell {ok:Nat->Prop} {sz:Nat} {es:List J} {arr:Array Value} (H:lI w ok σ sz es arr) (rest:Array Value) (i:Nat) (ag:i<es.length):
 es[i].cells.length=sz/\∀j (aZ:j<es[i].cells.length),∃v,(arr++rest)[i*sz+j]? =some v/\bu w ok σ (es[i].cells[j]) v:=by
 refine⟨(H.2 i ag).1,fun j aZ=>?_⟩
 have bO:i*sz+j<arr.size:=by rw[H.1];exact n2 ag (by have:=(H.2 i ag).1;omega)
 exact⟨_,by rw[Array.getElem?_append_left bO];exact Array.getElem?_eq_getElem bO,(H.2 i ag).2 j aZ bO⟩
theorem vU {ys:List J} {sz:Nat} (h:(ys.all fun e=>e.cells.length == sz)=true):∀e∈ys,e.cells.length=sz:=fun e he=>by
 simpa using List.all_eq_true.1 h e he
theorem lI.uf {ok:Nat->Prop} {sz:Nat} {es:List J} {arr:Array Value} (H:lI w ok σ sz es arr) (a4:0<sz) (aG:∀e∈es,e.cells.all J.c0=true):∀v∈arr.toList,v.oneCell'=true:=by
 intro v aR
 obtain⟨k,aE,rfl⟩:=List.getElem_of_mem aR
 have ha:k<arr.size:=by simpa using aE
 have kz:k<es.length*sz:=by rw[<-H.1];exact ha
 have ag:k/sz<es.length:=Nat.div_lt_of_lt_mul (by rw[Nat.mul_comm];exact kz)
 have aZ:=Nat.mod_lt k a4
 have e:k/sz*sz+k%sz=k:=by rw[Nat.mul_comm];exact Nat.div_add_mod k sz
 have aV:=(H.2 _ ag).1
 have r:=(H.2 _ ag).2 (k%sz) (by omega) (by rw[e];exact ha)
 have gq:=r.uf (List.all_eq_true.1 (aG _ (List.getElem_mem ag)) _ (List.getElem_mem (by omega)))
 simpa[e] using gq
theorem Ka (H:cS base okin σ h w) (bX:hD G (bN base okin σ h) σ w F a) {r:Nat} (ba:σ r=none) {args:Array Operand} {argTypes:Array TypeId} {ty:TypeId} {lH:hx}
 (I:ff P (.call {callee:= .builtin .append,args,argTypes})=some lH) {bs:Nat} {v:J} {av:aA} {c:dL}
 (he:evalOp bs r (bf.ev G F) h lH=some (v,av,c)):
 ∃bE cv a_,(Builtin.append_ argTypes ty (args.map a.eval)).run P w= .ok cv a_/\Prog base okin σ h w bE av a_/\cS base okin bE av a_/\bu a_ (bN base okin bE av) bE v cv/\∀id,id≠r->bE id=σ id:=by
 simp only[ff] at I
 split at I<;>try(cases I;done)
 rename_i t u X Y a7 e5
 have yy:argTypes= #[t,u]:=by rw[<-Array.toList_inj];exact a7
 have m4:args= #[X,Y]:=by rw[<-Array.toList_inj];exact e5
 subst yy;subst m4
 split at I<;>try(cases I;done)
 rename_i e e' hu vV
 split at I<;>try(cases I;done)
 rename_i sz bytes z x y aG aj aP ak bd
 split at I<;>try(cases I;done)
 rename_i Cw
 cases I
 simp only[evalOp] at he
 obtain⟨ys,n3,he⟩:=Option.bind_eq_some_iff.1 he
 split at he<;>try(cases he;done)
 rename_i nt
 obtain⟨dS,fC,kJ⟩:=nt
 have Cx:∀q∈ys,q.cells.length=sz:=fun q bc=>by
  have:=List.all_eq_true.1 kJ q bc
  simp only[Bool.and_eq_true,beq_iff_eq] at this
  exact this.1
 have Kb:∀q∈ys,q.cells.all J.c0=true:=fun q bc=>by
  have:=List.all_eq_true.1 kJ q bc
  simp only[Bool.and_eq_true,beq_iff_eq] at this
  exact this.2
 have rx:=bX.dM ak
 have ry:=bX.dM bd
 obtain⟨ur,uu⟩:=H.drew
 obtain⟨B,d,yz,new,vW,mh⟩:=vT (P:=P) H ry n3 Cx dS
 obtain⟨VN,oF,Cy,Cz,yA,vX⟩:=vT (P:=P) ur (uu.rep ry) n3 Cx dS
 rw[yz] at Cy;cases Cy
 rw[yz] at vW yA
 have Kc:(#[X,Y]:Array Operand).map a.eval= #[a.eval X,a.eval Y]:=by simp
 rw[Kc,yz]
 have CA:∀(A:Option Addr) (n eE:Nat),ys.length=0->n<=eE->
  (Builtin.append_ #[t,u] ty #[.slice A n eE,.slice B ys.length d]).run P w= .ok (.slice A n eE) w:=fun A n eE jU hle=>by
  have m5:new.toList= []:=List.eq_nil_of_length_eq_zero (by have:=mh.1;rw[jU,Nat.zero_mul] at this;simpa using this)
  rw[jU] at vW|-
  cases A<;>simp[Builtin.append_,run_underlying hu,run_underlying vV,run_sizeOf aG,Builtin.lenOf,hle,vW,m5,storeCells]
 split at he
 ·
  rename_i xs ex vY
  rw[vY] at rx
  split at he
  · rename_i jU
    cases he
    have m2:=rx.pB
    generalize fG:a.eval X=gG at m2 rx
    cases m2 with
    | sl _ _ A eE _ _ hle _ _ _ _ _=>
      refine⟨σ,_,w,CA A xs.length eE jU hle,⟨fun _ _ x=>x,fun _ _ aK=>⟨aK,rfl⟩,Below.refl _ _,fun _=>Nat.le_refl _⟩,H,rx,fun _ _=>rfl⟩
  split at he<;>try(cases he;done)
  rename_i kA
  obtain⟨dy,dB,ga,ky⟩:=kA
  cases he
  have Kd:=vU ky
  obtain⟨A,eE,gH,lJ,hold,Fold⟩:=vT (P:=P) ur (uu.rep rx) (ys:=xs) rfl Kd dS
  have Cu:eE=xs.length:=by
   have m2:=rx.pB
   rw[gH] at m2
   cases m2 with
   | sl _ _ _ _ _ _ _ h2=>exact h2 dy
  rw[gH] at hold|-
  obtain⟨qA,rest,aa,af,al⟩:=Ct (P:=P) (w:=w) hu vV aG aj aP A xs.length eE B ys.length d (by omega) fC dB hold yA
  have yB:=Fold.append vX
  have uv:=ur.alloc ba (xs++ys) (lJ++Cz++rest) e sz (fun i ag=>yB.cell rest i ag)
  refine⟨_,_,_,by simpa[Builtin.append_] using af,uu.trans uv.2,uv.1,?_,fun id bS=>by simp[aF,bS]⟩
  refine .ref r 0 _ _ _ qA w.heap.size sz (by simp[aF]) aa aa (fun _=>⟨by simp,?_⟩)
  rw[show w.heap.size=w.drew.heap.size from rfl,yd]
  simp only[Array.size_append,Fold.1,vX.1,al,Cw]
  rw[<-Nat.add_mul,<-Nat.add_mul]
  exact Nat.le_of_eq (by congr 1;omega)
 ·
  rename_i id off len cap vY
  split at he
  · rename_i jU
    cases he
    rw[vY] at rx
    obtain⟨A,eE,b,cf,gH,bz,bR,e6,hE⟩:=rx.pC
    rw[gH] at rx|-
    exact⟨σ,_,w,CA A len eE jU bR,⟨fun _ _ x=>x,fun _ _ aK=>⟨aK,rfl⟩,Below.refl _ _,fun _=>Nat.le_refl _⟩,H,rx,fun _ _=>rfl⟩
  split at he<;>try(cases he;done)
  rename_i vZ
  have vZ:h.shut id=false:=by simpa using vZ
  obtain⟨blk,nx,he⟩:=Option.bind_eq_some_iff.1 he
  split at he<;>try(cases he;done)
  rename_i kA
  obtain⟨dy,dB,ga,ky⟩:=kA
  rw[vY] at rx
  have CB:=vU ky
  obtain⟨A,eE,b,cf,gH,bz,bR,e6,hE⟩:=rx.pC
  obtain⟨hA,VO,arr,Ke,f1,f2,f3⟩:=H.blk id blk nx
  rw[bz] at f1;cases f1
  have CC:0<blk.length->cf=sz:=fun aJ=>by
   have:=(f3 0 aJ).1
   have:=CB _ (List.getElem_mem aJ)
   omega
  have Kf:fM w b=arr.size:=by unfold fM;rw[f2]
  have stay:len+ys.length<=eE->cf=sz->
   (Builtin.append_ #[t,u] ty #[.slice A len eE,.slice B ys.length d]).run P w= .ok (.slice A (len+ys.length) eE) (w.setRow b (arr.toList.take (off*sz+len*sz)++new.toList++arr.toList.drop (off*sz+len*sz+new.toList.length)).toArray)/\
     off*sz+len*sz+new.toList.length<=arr.toList.length:=by
   intro hle jV
   subst jV
   obtain⟨m4,yC⟩:=hE (by omega)
   rw[Kf] at yC
   have v3:new.toList.length=ys.length*cf:=by simp[mh.1]
   have oM:off*cf+len*cf+new.toList.length<=arr.toList.length:=by
    rw[v3]
    have:(off+(len+ys.length))*cf<=(off+eE)*cf:=Nat.mul_le_mul_right _ (by omega)
    rw[Nat.add_mul,Nat.add_mul] at this
    simp;omega
   refine⟨?_,oM⟩
   have eo:=run_storeCells_at (P:=P) b (off*cf+len*cf) Ke new.toList 0 arr w f2 (by simp only[Nat.add_zero];simpa using oM) (mh.uf dS Kb)
   simp only[Nat.add_zero] at eo
   have Kg:(⟨b,off*cf,none⟩:Addr).add (len*cf)=⟨b,off*cf+len*cf,none⟩:=oL _ _ _
   subst m4
   simp[Builtin.append_,run_underlying hu,run_underlying vV,run_sizeOf aG,Builtin.lenOf,hle,vW,Kg,eo]
  have yD:∀(jV:cf=sz),off*sz+len*sz+new.toList.length<=arr.toList.length->∀i (ag:i<blk.length) j (aZ:j<sz),¬(off+len<=i/\i<off+len+ys.length)->
   ∃v,(arr.toList.take (off*sz+len*sz)++new.toList++arr.toList.drop (off*sz+len*sz+new.toList.length)).toArray[i*sz+j]? =some v/\bu w (bN base okin σ h) σ (blk[i].cells[j]'(by rw[(f3 i ag).1,jV];exact aZ)) v:=by
   intro jV oM i ag j aZ v5
   subst jV
   obtain⟨v0,aq,aB⟩:=(f3 i ag).2 j (by rw[(f3 i ag).1];exact aZ)
   refine⟨v0,?_,aB⟩
   have bO:=(Array.getElem?_eq_some_iff.1 aq).1
   have lq:=(Array.getElem?_eq_some_iff.1 aq).2
   have v3:new.toList.length=ys.length*cf:=by simp[mh.1]
   rw[List.getElem?_toArray,List.getElem?_eq_getElem (by simp at oM|-;omega),pD oM _ _ (by simpa using bO),dif_neg]
   · simpa using lq
   · rw[v3]
     rintro ⟨cM,dX⟩
     apply v5
     have bg:off*cf+len*cf=(off+len)*cf:=by rw[Nat.add_mul]
     have bT:off*cf+len*cf+ys.length*cf=(off+len+ys.length)*cf:=by rw[Nat.add_mul,Nat.add_mul]
     rw[bg] at cM
     rw[bT] at dX
     constructor
     · refine Nat.le_of_not_lt fun Kh=>?_
       have:=n2 Kh aZ;omega
     · refine Nat.lt_of_not_le fun Ki=>?_
       have:(off+len+ys.length)*cf<=i*cf:=Nat.mul_le_mul_right _ Ki
       omega
  have yE:off*sz+len*sz+new.toList.length<=arr.toList.length->∀i (ag:i<ys.length) j (aZ:j<sz),
   ∃v,(arr.toList.take (off*sz+len*sz)++new.toList++arr.toList.drop (off*sz+len*sz+new.toList.length)).toArray[(off+len+i)*sz+j]? =some v/\bu w (bN base okin σ h) σ (ys[i].cells[j]'(by rw[(mh.2 i ag).1];exact aZ)) v:=by
   intro oM i ag j aZ
   have v3:new.toList.length=ys.length*sz:=by simp[mh.1]
   have bO:=n2 ag aZ
   have bg:(off+len+i)*sz+j=off*sz+len*sz+(i*sz+j):=by rw[Nat.add_mul,Nat.add_mul];omega
   have eS:(off+len+i)*sz+j<arr.toList.length:=by omega
   rw[List.getElem?_toArray,List.getElem?_eq_getElem (by simp at oM eS|-;omega)]
   refine⟨_,rfl,?_⟩
   rw[pD oM _ _ eS,dif_pos (by omega)]
   have dv:(off+len+i)*sz+j -(off*sz+len*sz)=i*sz+j:=by omega
   have aE:i*sz+j<new.size:=by rw[mh.1];exact bO
   have:=(mh.2 i ag).2 j (by rw[(mh.2 i ag).1];exact aZ) aE
   simpa[dv] using this
  have CD:∀(o:Nat),o+new.toList.length<=arr.toList.length->arr.size<=(arr.toList.take o++new.toList++arr.toList.drop (o+new.toList.length)).toArray.size:=by
   intro o aK
   simp at aK|-;omega
  split at he
  ·
   rename_i yC
   split at he<;>try(cases he;done)
   rename_i Cv
   cases he
   have jV:=CC (by omega)
   obtain⟨s1,s2⟩:=stay (by omega) jV
   rw[gH]
   have W:=H.write (blk':=blk.take (off+len)++ys++blk.drop (off+len+ys.length)) (arr':=(arr.toList.take (off*sz+len*sz)++new.toList++arr.toList.drop (off*sz+len*sz+new.toList.length)).toArray) nx vZ bz f2 (CD _ s2) (fun i ag=>by
    have fR:off+len+ys.length<=blk.length:=by omega
    have b_:i<blk.length:=by simp at ag;omega
    have bV:=pD (cs:=blk) (vs:=ys) (off:=off+len) fR i ag b_
    rw[bV]
    by_cases cY:off+len<=i/\i<off+len+ys.length
    · simp only[dif_pos cY]
      refine⟨by rw[jV];exact(mh.2 _ (by omega)).1,fun j aZ=>?_⟩
      have jT:j<sz:=by have:=(mh.2 (i -(off+len)) (by omega)).1;omega
      obtain⟨v,k6,lF⟩:=yE s2 (i -(off+len)) (by omega) j jT
      have:off+len+(i -(off+len))=i:=by omega
      rw[this] at k6
      exact⟨v,by rw[jV];exact k6,lF⟩
    · simp only[dif_neg cY]
      refine⟨(f3 i b_).1,fun j aZ=>?_⟩
      obtain⟨v,k6,lF⟩:=yD jV s2 i b_ j (by rw[<-jV,<-(f3 i b_).1];exact aZ) cY
      exact⟨v,by rw[jV];exact k6,lF⟩)
   refine⟨σ,_,_,s1,W.2,W.1,?_,fun _ _=>rfl⟩
   exact .ref id off _ cap A eE b cf bz (by omega) e6 (fun hb=>⟨(hE hb).1,Nat.le_trans (hE hb).2 (W.2.grow b)⟩)
  · rename_i yC
    split at he<;>try(cases he;done)
    rename_i yF
    cases he
    obtain⟨yF,VP⟩:=yF
    subst yF
    have jV:=CC (by omega)
    rw[gH]
    by_cases eS:len+ys.length<=eE
    ·
     obtain⟨s1,s2⟩:=stay eS jV
     simp only[Nat.zero_mul,Nat.zero_add] at s1 s2 yD yE
     have R:=H.rename (r:=r) (blk':=blk.take len++ys) (arr':=(arr.toList.take (len*sz)++new.toList++arr.toList.drop (len*sz+new.toList.length)).toArray) nx vZ ba bz f2 (CD _ s2) (fun i ag=>by
      by_cases cY:i<len
      · have bV:(blk.take len++ys)[i]=blk[i]'(by omega):=by
         rw[List.getElem_append_left (by simp;omega)];simp
        rw[bV]
        refine⟨(f3 i (by omega)).1,fun j aZ=>?_⟩
        obtain⟨v,k6,lF⟩:=yD jV s2 i (by omega) j (by rw[<-jV,<-(f3 i (by omega)).1];exact aZ) (by omega)
        exact⟨v,by rw[jV];exact k6,lF⟩
      · have e7:min len blk.length=len:=by omega
        have b_:i - len<ys.length:=by simp[e7] at ag;omega
        have bV:(blk.take len++ys)[i]=ys[i - len]:=by
         rw[List.getElem_append_right (by simp;omega)];simp[e7]
        rw[bV]
        refine⟨by rw[jV];exact(mh.2 _ b_).1,fun j aZ=>?_⟩
        obtain⟨v,k6,lF⟩:=yE s2 (i - len) b_ j (by rw[<-(mh.2 _ b_).1];exact aZ)
        have:len+(i - len)=i:=by omega
        rw[this] at k6
        exact⟨v,by rw[jV];exact k6,lF⟩)
     refine⟨_,_,_,s1,R.2,R.1,?_,fun fB bS=>by simp[aF,bS]⟩
     refine .ref r 0 _ _ A eE b cf (by simp[aF]) eS eS (fun hb=>⟨(hE hb).1,Nat.le_trans (hE hb).2 (R.2.grow b)⟩)
    ·
     obtain⟨Kj,CE⟩:=ur.kill id
     have ny:elems h (.ref id 0 len cap)=some (blk.take len):=by
      simp only[elems,nx];rw[if_pos dy];simp
     have Kk:bu w (bN base okin σ h) σ (.ref id 0 len cap) (a.eval X):=rx
     have oP:(blk.take len).length=len:=by simp;omega
     obtain⟨VQ,c',CF,lJ,hold,Fold⟩:=vT (P:=P) ur (uu.rep Kk) ny (fun q bc=>CB q (List.mem_of_mem_take bc)) dS
     rw[gH,oP] at CF;cases CF
     rw[gH,oP] at hold
     obtain⟨qA,rest,aa,af,al⟩:=Ct (P:=P) (w:=w) hu vV aG aj aP A len eE B ys.length d (by omega) fC dB hold yA
     have yB:=Fold.append vX
     have uv:=Kj.alloc ba (blk.take len++ys) (lJ++Cz++rest) e sz (fun i ag=>by
      obtain⟨cM,dX⟩:=yB.cell rest i ag
      refine⟨cM,fun j aZ=>?_⟩
      obtain⟨v,y1,dU⟩:=dX j aZ
      exact⟨v,y1,CE.rep dU⟩)
     refine⟨_,_,_,by simpa[Builtin.append_] using af,(uu.trans CE).trans uv.2,uv.1,?_,fun fB bS=>by simp[aF,bS]⟩
     refine .ref r 0 _ _ _ qA w.heap.size sz (by simp[aF]) aa aa (fun _=>⟨by simp,?_⟩)
     rw[show w.heap.size=w.drew.heap.size from rfl,yd]
     simp only[Array.size_append,Fold.1,vX.1,al,Cw,oP]
     rw[<-Nat.add_mul,<-Nat.add_mul]
     exact Nat.le_of_eq (by congr 1;omega)
 · cases he
end
end Go.Eng
namespace Go.Eng
open Go Go.RowKit
section
variable {P:Program} {w:World} {σ:Nat->Option (Nat × Nat)}
theorem CG {e:TypeId} {k:IntKind} (hu:P.underlying e=some (.int k)) (cs:Array Value) (i:Nat) (v:Value) (h:cs[i]? =some v):(part e cs i).run P w= .ok v w:=by
 have dx:me P e=some false:=by simp[me,hu]
 simp[part,uh dx,h]
theorem CH:∀ {xs ys:List J} {b:Bool},fx xs ys=some b->xs.length=ys.length/\
 ∀i (h:i<xs.length) (av:i<ys.length),∃k x y,xs[i]= .int k x/\ys[i]= .int k y
 | [],[],b,_=>⟨rfl,fun i h=>absurd h (by simp)⟩
 | .int k x::xs,.int k' y::ys,b,h=>by
   simp only[fx] at h
   split at h
   · rename_i aE
     subst aE
     obtain⟨r,ab,_⟩:=Option.map_eq_some_iff.1 h
     obtain⟨l,q⟩:=CH ab
     refine⟨by simp[l],fun i ag b_=>?_⟩
     cases i with
     | zero=>exact⟨k,x,y,rfl,rfl⟩
     | succ i=>exact q i (by simpa using ag) (by simpa using b_)
   · cases h
theorem CI {e:TypeId} {U:IntKind} (hu:P.underlying e=some (.int U)) (d:Nat) (xs ys:Array Value):∀(l:List Nat),
 (∀i∈l,∃k x y,xs[i]? =some (.int k x)/\ys[i]? =some (.int k y))->
 (forIn l ((none,()):Option Bool × Unit) (fun i VR=>do
         let yG <-part e xs (i*1)
         let Kl <-part e ys (i*1)
         let yG <-Op.equalIn (d+1) e yG Kl
         if (!yG)=true then pure (ForInStep.done (some false,())) else pure (ForInStep.yield (none,()))):Sem (Option Bool × Unit)).run P w
   = .ok (if l.all (fun i=>match xs[i]?,ys[i]? with
       | some (.int _ x),some (.int _ y)=>x == y
       | _,_=>false) then (none,()) else (some false,())) w
 | [],_=>by simp
 | i::l,h=>by
   obtain⟨k,x,y,aq,aB⟩:=h i (by simp)
   have bC:=CI hu d xs ys l (fun j aZ=>h j (by simp[aZ]))
   rw[List.forIn_cons]
   have heq:(Op.equalIn (d+1) e (.int k x) (.int k y)).run P w= .ok (x == y) w:=by
    unfold Op.equalIn
    simp[run_underlying hu]
   simp only[Sem.run_bind,Nat.mul_one,CG hu xs i _ aq,CG hu ys i _ aB,Result.andThen_ok,heq,List.all_cons,aq,aB]
   by_cases l0:x=y
   · subst l0
     simp only[Nat.mul_one] at bC
     simp only[beq_self_eq_true,Bool.not_true,Bool.false_eq_true,if_false,Sem.run_pure,Result.andThen_ok,Bool.true_and]
     exact bC
   · have:(x == y)=false:=by simpa using l0
     simp[this]
theorem CJ:∀ {xs ys:List J} {b:Bool} (uw ux:Nat->Option Value),fx xs ys=some b->
 (∀i (h:i<xs.length) k x,xs[i]= .int k x->uw i=some (.int k x))->(∀i (h:i<ys.length) k y,ys[i]= .int k y->ux i=some (.int k y))->
 ((List.range' 0 xs.length).all fun i=>match uw i,ux i with
       | some (.int _ x),some (.int _ y)=>x == y
       | _,_=>false)=b
 | [],[],b,uw,ux,h,_,_=>by simp only[fx] at h;cases h;rfl
 | .int k x::xs,.int k' y::ys,b,uw,ux,h,ak,bd=>by
   simp only[fx] at h
   split at h
   · rename_i aE
     subst aE
     obtain⟨r,ab,h2⟩:=Option.map_eq_some_iff.1 h
     have bC:=CJ (fun i=>uw (i+1)) (fun i=>ux (i+1)) ab (fun i ag k x cY=>ak (i+1) (by simpa using ag) k x (by simpa using cY)) (fun i ag k y cY=>bd (i+1) (by simpa using ag) k y (by simpa using cY))
     have a0:=ak 0 (by simp) k x rfl
     have b0:=bd 0 (by simp) k y rfl
     rw[<-h2,<-bC]
     simp only[List.length_cons,List.range'_succ,List.all_cons,a0,b0,Nat.zero_add]
     congr 1
     rw[<-List.map_add_range' (a:=1) (s:=0),List.all_map]
     congr 1
     funext i
     simp[Nat.add_comm]
   · cases h
theorem Km {ok:Nat->Prop} {t e:TypeId} {n:Nat} {U:IntKind} (a7:P.underlying t=some (.array n e)) (aG:gp P e=some 1) (hu:P.underlying e=some (.int U)) {xs ys:List J} {gG gT:Value}
 (ak:bu w ok σ (.agg xs) gG) (bd:bu w ok σ (.agg ys) gT) {b:Bool} (aj:fx xs ys=some b) (ar:xs.length=n):
 (Op.equal t gG gT).run P w= .ok b w/\∃lu m6,gG= .agg lu/\gT= .agg m6:=by
 obtain⟨lu,rfl,cP,b5⟩:=ak.r1
 obtain⟨m6,rfl,dR,dY⟩:=bd.r1
 refine⟨?_,lu,m6,rfl,rfl⟩
 obtain⟨aV,aE⟩:=CH aj
 show (Op.equalIn (9999+1) t (.agg lu) (.agg m6)).run P w=_
 unfold Op.equalIn
 simp only[Sem.run_bind,run_underlying a7,Result.andThen_ok,run_sizeOf aG]
 rw[Std.Legacy.Range.forIn_eq_forIn_range']
 simp only[Std.Legacy.Range.size,Nat.sub_zero,Nat.add_sub_cancel,Nat.div_one]
 have L:=CI (w:=w) hu 9998 lu m6 (List.range' 0 n) (fun i ag=>by
  have b_:i<n:=by simpa using ag
  obtain⟨k,x,y,aq,aB⟩:=aE i (by omega) (by omega)
  have a1:=b5 i (by omega) (by omega)
  have eC:=dY i (by omega) (by omega)
  rw[aq] at a1;rw[aB] at eC
  exact⟨k,x,y,by rw[Array.getElem?_eq_getElem (by omega),a1.gS],by rw[Array.getElem?_eq_getElem (by omega),eC.gS]⟩)
 have A:=CJ (fun i=>lu[i]?) (fun i=>m6[i]?) aj
  (fun i ag k x cY=>by
    have a1:=b5 i ag (by omega)
    rw[cY] at a1
    rw[Array.getElem?_eq_getElem (by omega),a1.gS])
  (fun i ag k y cY=>by
    have a1:=dY i ag (by omega)
    rw[cY] at a1
    rw[Array.getElem?_eq_getElem (by omega),a1.gS])
 rw[ar] at A
 simp only[A] at L
 simp only[L,Result.andThen_ok]
 cases b<;>simp
end
end Go.Eng
namespace Go.Eng
open Go Go.RowKit
section
variable {P:Program} {base:Nat} {okin:Nat->Prop} {σ:Nat->Option (Nat × Nat)} {h:aA} {w:World} {G:Nat->Option J} {F:Nat->J} {a:Act}
theorem CK (ok:Nat->Prop):∀(xs:List J) (k:IntKind) (x:Int) (cs:List Value) (v:J),g' (fun a b=>if b<a then b else a) (.int k x::xs)=some v->
 xs.length=cs.length->(∀i (h:i<xs.length) (av:i<cs.length),bu w ok σ xs[i] cs[i])->
 ∃cv,(cs.foldlM Builtin.min2 (.int k x):Sem Value).run P w= .ok cv w/\bu w ok σ v cv
 | [],k,x,cs,v,h,aV,_=>by
   have:cs= []:=List.eq_nil_of_length_eq_zero (by simpa using aV.symm)
   subst this
   simp only[g'] at h;cases h
   exact⟨.int k x,by simp,.val _ _ (.int _ _)⟩
 | y::xs,k,x,[],v,h,aV,_=>by simp at aV
 | y::xs,k,x,c::cs,v,h,aV,ba=>by
   have r0:=ba 0 (by simp) (by simp)
   simp only[List.getElem_cons_zero] at r0
   cases y<;>simp only[g'] at h<;>try(cases h;done)
   rename_i k' y
   split at h<;>try(cases h;done)
   rename_i aE
   subst aE
   rw[r0.gS]
   obtain⟨cv,aq,aB⟩:=CK ok xs k (if y<x then y else x) cs v h (by simpa using aV) (fun i ag b_=>by
    have:=ba (i+1) (by simp;omega) (by simp;omega)
    simpa using this)
   exact⟨cv,by simpa[List.foldlM_cons,Builtin.min2] using aq,aB⟩
theorem CL (ok:Nat->Prop):∀(xs:List J) (k:IntKind) (x:Int) (cs:List Value) (v:J),g' (fun a b=>if a<b then b else a) (.int k x::xs)=some v->
 xs.length=cs.length->(∀i (h:i<xs.length) (av:i<cs.length),bu w ok σ xs[i] cs[i])->
 ∃cv,(cs.foldlM Builtin.max2 (.int k x):Sem Value).run P w= .ok cv w/\bu w ok σ v cv
 | [],k,x,cs,v,h,aV,_=>by
   have:cs= []:=List.eq_nil_of_length_eq_zero (by simpa using aV.symm)
   subst this
   simp only[g'] at h;cases h
   exact⟨.int k x,by simp,.val _ _ (.int _ _)⟩
 | y::xs,k,x,[],v,h,aV,_=>by simp at aV
 | y::xs,k,x,c::cs,v,h,aV,ba=>by
   have r0:=ba 0 (by simp) (by simp)
   simp only[List.getElem_cons_zero] at r0
   cases y<;>simp only[g'] at h<;>try(cases h;done)
   rename_i k' y
   split at h<;>try(cases h;done)
   rename_i aE
   subst aE
   rw[r0.gS]
   obtain⟨cv,aq,aB⟩:=CL ok xs k (if x<y then y else x) cs v h (by simpa using aV) (fun i ag b_=>by
    have:=ba (i+1) (by simp;omega) (by simp;omega)
    simpa using this)
   exact⟨cv,by simpa[List.foldlM_cons,Builtin.max2] using aq,aB⟩
theorem CM {f:Field} {sz:Nat} (aG:gp P f.type=some sz) (aJ:sz≠0) (cO:Addr):(fieldPlace cO f).run P w= .ok (cO.add f.offset) w:=by
 simp[fieldPlace,run_sizeOf aG,aJ]
theorem CN {ok:Nat->Prop} {v:J} {cO:Addr} {eb:Nat->Value} (bz:∀j,j<v.cells.length->ok cO.block/\w.cell? (cO.add j)=some (eb j)) (bR:∀j (h:j<v.cells.length),dq w ok (v.cells[j]) (eb j))
 {off sz:Nat} {b':Bool} {cs:List J} {u:J} (I:cut v.cells off sz=some cs) (a4:partOf b' cs=some u):bu w ok σ (.eu u) (.pointer (some (cO.add off))):=by
 obtain⟨cz,cq,db⟩:=r2 I
 have Kn:∀j,j<cs.length->ok (cO.add off).block/\w.cell? ((cO.add off).add j)=some (eb (off+j)):=by
  intro j aZ
  obtain⟨dQ,c8⟩:=bz (off+j) (by omega)
  refine⟨by rw[Addr.pz];exact dQ,?_⟩
  have Ko:cO.spot=none\/0<off+j:=by
   by_cases aJ:0<off+j
   · exact .inr aJ
   · have oQ:off+j=0:=by omega
     rw[oQ] at c8
     refine .inl ?_
     cases aG:cO.spot with
     | none=>rfl
     | some s=>
       have e:cO.add 0=cO:=by unfold Addr.add;simp
       rw[e] at c8
       unfold World.cell? at c8
       simp only[aG,Option.isSome_some,if_true] at c8
       split at c8<;>cases c8
  rw[add_add _ _ _ Ko];exact c8
 have hu:u.cells=cs:=by
  rcases yg a4 with⟨rfl,rfl⟩|⟨rfl,rfl,aG⟩
  · rfl
  · cases u<;>first|rfl|simp[J.c0] at aG
 refine .eu u _ (fun j=>eb (off+j)) (fun j aZ=>Kn j (by rw[<-hu];exact aZ)) (fun j aZ=>?_)
 have jT:j<cs.length:=by rw[<-hu];exact aZ
 have e:u.cells[j]=v.cells[off+j]'(by omega):=by
  have:=db j jT (by omega)
  simp only[hu];exact this
 rw[e];exact bR _ _
theorem v7 {x:Sem Next} {s:Sem Value} (ak:x=(do pure (.value (<-s)))) {cv:Value} {a_:World} (e:s.run P w= .ok cv a_):x.run P w= .ok (.value cv) a_:=by
 rw[ak];simp[e]
theorem cS.sized (H:cS base okin σ h w) {id b sz s:Nat} (aG:σ id=some (b,sz)) (aj:sizedB s (h.cells id)=true):sz=s:=by
 cases I:h.cells id with
 | none=>rw[I] at aj;cases aj
 | some blk=>
   rw[I] at aj
   simp only[sizedB,Bool.and_eq_true,decide_eq_true_eq] at aj
   obtain⟨hA,fg,arr,ty,aq,_,bg⟩:=H.blk id blk I
   rw[aG] at aq;cases aq
   have ab:=(bg 0 aj.1).1
   have h2:=vU aj.2 _ (List.getElem_mem aj.1)
   omega
theorem Kp {v:Value} (h:py v=some (.sl [] true)):v= .slice none 0 0:=by
 unfold py at h
 split at h
 · obtain⟨as,_,e⟩:=Option.map_eq_some_iff.1 h;cases e
 · unfold px at h
   split at h<;>first|rfl|cases h
theorem Kq {op:BinOp} {t e:TypeId} {x y:Operand} {A:Option Addr} {l c:Nat} (hu:P.underlying t=some (.slice e)) (aI:A.isSome=true) (neg:Bool) (aK:op=if neg then .neq else .eql):
 (do eqGuard op t x y (.slice A l c) (.slice none 0 0);binOp op t (.slice A l c) (.slice none 0 0):Sem Value).run P w= .ok (.bool neg) w:=by
 obtain⟨cO,rfl⟩:=Option.isSome_iff_exists.1 aI
 have aq:(Op.equal t (.slice (some cO) l c) (.slice none 0 0)).run P w= .ok false w:=by
  unfold Op.equal Op.maxDepth Op.equalIn
  simp[run_underlying hu]
 cases neg
 · simp only[Bool.false_eq_true,if_false] at aK
   subst aK
   have aB:(binOp .eql t (.slice (some cO) l c) (.slice none 0 0)).run P w= .ok (.bool false) w:=by
    show (do pure (.bool (<-Op.equal t (.slice (some cO) l c) (.slice none 0 0))):Sem Value).run P w=_
    simp[aq]
   simp[eqGuard,aB]
 · simp only[if_true] at aK
   subst aK
   have aB:(binOp .neq t (.slice (some cO) l c) (.slice none 0 0)).run P w= .ok (.bool true) w:=by
    show (do pure (.bool !(<-Op.equal t (.slice (some cO) l c) (.slice none 0 0))):Sem Value).run P w=_
    simp[aq]
   simp[eqGuard,aB]
theorem CO (H:cS base okin σ h w) (bX:hD G (bN base okin σ h) σ w F a) {bs r:Nat} {o:Oper} {op:BinOp} {t e CP:TypeId} {x y:Operand} {kf:bf} (cT:o.op= .binOp op t x y CP) (hu:P.underlying t=some (.slice e)) (ab:dW x=some kf) (h2:dW y=some (.c (.sl [] true)))
 (neg:Bool) (aK:op=if neg then .neq else .eql) {v:J} {av:aA} {c:dL} (he:evalOp bs r (bf.ev G F) h (.isnil neg kf)=some (v,av,c)):r3 base okin σ h w r v av ((execOp a.eval o).run P w):=by
 have bd:a.eval y= .slice none 0 0:=by
  cases y with
  | const k=>
    obtain⟨z,aP,e⟩:=Option.map_eq_some_iff.1 h2
    cases e
    exact Kp aP
  | _=>cases h2
 have rx:=bX.dM ab
 have fin:∀A l eE,a.eval x= .slice A l eE->A.isSome=true->r3 base okin σ h w r (.bool neg) h ((execOp a.eval o).run P w):=by
  intro A l eE ex aI
  have aB:=Kq (P:=P) (w:=w) (x:=x) (y:=y) (l:=l) (c:=eE) hu aI neg aK
  rw[<-ex,<-bd] at aB
  exact .pure H (cv:= .bool neg) (v7 (by simp only[execOp,cT]) aB) (.val _ _ (.bool _))
 simp only[evalOp] at he
 split at he<;>try(cases he;done)
 · rename_i xs ex aR
   split at he<;>try(cases he;done)
   rename_i qB
   cases he
   rw[aR] at rx
   have ba:=rx.pB
   generalize fG:a.eval x=gG at ba
   cases ba with
   | sl _ _ A c _ _ _ _ _ _ cL _=>exact fin _ _ _ fG (cL qB)
 · rename_i id off len cap aR
   split at he<;>try(cases he;done)
   rename_i qB
   cases he
   rw[aR] at rx
   obtain⟨A,c,b,sz,gH,_,cP,VS,dR⟩:=rx.pC
   obtain⟨rfl,_⟩:=dR (by omega)
   exact fin _ _ _ gH rfl
theorem CQ:∀(m:List (Int × FuncId)) (n:Int) (es:List MapEntry) (i:Nat),es.length=m.length->(∀j (h:j<m.length) (av:j<es.length),es[j].key= .int .i64 m[j].1/\es[j].val= .func (.func m[j].2) #[] #[])->
 ∃r,Instr.findNow (.int .i64) (.int .i64 n) es i=some r/\r.map (·.2)=(m.lookup n).map fun f=>Value.func (.func f) #[] #[]
 | [],n,[],i,_,_=>⟨none,rfl,rfl⟩
 | (k,f)::m,n,e::es,i,aV,ak=>by
   obtain⟨aq,aB⟩:=ak 0 (by simp) (by simp)
   simp only[List.getElem_cons_zero] at aq aB
   unfold Instr.findNow
   rw[aq]
   by_cases aE:n=k
   · subst aE
     refine⟨some (i,e.val),by simp[Instr.sameNow],by simp[aB]⟩
   · obtain⟨r,ab,h2⟩:=CQ m n es (i+1) (by simpa using aV) (fun j h av=>by have:=ak (j+1) (by simp;omega) (by simp;omega);simp only[List.getElem_cons_succ] at this;exact this)
     have aj:(n == k)=false:=by simpa using aE
     refine⟨r,by simp[Instr.sameNow,aj,ab],?_⟩
     rw[h2,List.lookup_cons]
     simp[aj]
 | [],_,_::_,_,aV,_=>by simp at aV
 | _::_,_,[],_,aV,_=>by simp at aV
theorem Kr (H:cS base okin σ h w) (bX:hD G (bN base okin σ h) σ w F a) {bs r:Nat} (ba:σ r=none) (o:Oper) {lH:hx} (I:ff P o.op=some lH)
 {v:J} {av:aA} {c:dL} (he:evalOp bs r (bf.ev G F) h lH=some (v,av,c)):
 r3 base okin σ h w r v av ((execOp a.eval o).run P w):=by
 cases cT:o.op<;>rw[cT] at I<;>try(simp only[ff] at I;cases I;done)
 case panic x=>
  simp only[ff] at I;cases I
  simp only[evalOp,bf.ev] at he;cases he
 case move x=>
  obtain⟨y,bd,rfl⟩:=Option.map_eq_some_iff.1 I
  simp only[evalOp] at he;cases he
  exact .pure H (by simp[execOp,cT]) (bX.dM bd)
 case assign x=>
  obtain⟨y,bd,rfl⟩:=Option.map_eq_some_iff.1 I
  simp only[evalOp] at he;cases he
  exact .pure H (by simp[execOp,cT]) (bX.dM bd)
 case pick eE x y=>
  simp only[ff] at I
  split at I<;>try(cases I;done)
  rename_i c' kf n0 ab h2 aX
  cases I
  simp only[evalOp] at he
  split at he<;>try(cases he;done)
  rename_i t a7
  cases he
  have aj:=bX.dM ab
  rw[a7] at aj
  refine .pure H (cv:=if t then a.eval x else a.eval y) (by simp[execOp,cT,aj.pA,asBool]) ?_
  cases t
  · exact bX.dM aX
  · exact bX.dM h2
 case alloc e=>
  obtain⟨z,aP,rfl⟩:=Option.map_eq_some_iff.1 I
  simp only[evalOp] at he;cases he
  obtain⟨bk,cM,dX,vS,Ks,_⟩:=r9 (P:=P) (w:=w) (σ:=σ) (ok:=bN base okin σ h) aP
  obtain⟨bE,a_,aq,aB,bg,bT,dv⟩:=Cn (P:=P) H ba (t:=e) (bu.val _ _ Ks) vS
  exact⟨bE,_,a_,.inl (by simp[execOp,cT,Instr.alloc,cM,aq]),aB,bg,bT,dv⟩
 case box e x=>
  obtain⟨y,bd,rfl⟩:=Option.map_eq_some_iff.1 I
  simp only[evalOp] at he
  split at he<;>try(cases he;done)
  rename_i aG
  cases he
  obtain⟨bE,a_,aq,aB,bg,bT,dv⟩:=Cn (P:=P) H ba (t:=e) (bX.dM bd) aG
  exact⟨bE,_,a_,.inl (by simp[execOp,cT,Instr.box,aq]),aB,bg,bT,dv⟩
 case build t ps=>
  obtain⟨rfl,cv,aq,aB⟩:=JV bX I he
  exact .pure H (by simp[execOp,cT] at aq|-;simp[aq]) aB
 case buildSlice t n ps=>
  obtain⟨rfl,cv,a_,aq,aB,bg,bT⟩:=J1 H bX I he
  exact⟨σ,cv,a_,.inl (by simp[execOp,cT] at aq|-;simp[aq]),aB,bg,bT,fun _ _=>rfl⟩
 case load t x=>
  simp only[ff] at I
  split at I<;>try(cases I;done)
  rename_i b' s y ab h2 aX
  split at I<;>try(cases I;done)
  rename_i aW
  cases I
  obtain⟨rfl,cv,aq,aB⟩:=JK (P:=P) H ab h2 aW (bX.dM aX) he
  exact .pure H (by simp[execOp,cT,aq]) aB
 case store t x y=>
  simp only[ff] at I
  split at I<;>try(cases I;done)
  rename_i s kf n0 ab h2 aX
  cases I
  obtain⟨rfl,a_,aq,aB,bg⟩:=JL (P:=P) H ab (bX.dM h2) (bX.dM aX) he
  exact⟨σ,undef,a_,.inr ⟨by simp[execOp,cT,aq],rfl⟩,aB,bg,.undef _,fun _ _=>rfl⟩
 case binOp op t x y CP=>
  simp only[ff] at I
  split at I<;>try(cases I;done)
  rename_i kf n0 ab h2
  split at I<;>try(cases I;done)
  · cases I
    simp only[evalOp] at he
    obtain⟨u,aR,he⟩:=Option.map_eq_some_iff.1 he
    cases he
    obtain⟨cv,aq,aB⟩:=yo (P:=P) 0 op t x y (bX.dM ab) (bX.dM h2) aR (fun e=>absurd e (by decide))
    exact .pure H (v7 (by simp only[execOp,cT]) aq) aB
  · rename_i hu
    cases I
    simp only[evalOp] at he
    obtain⟨u,aR,he⟩:=Option.map_eq_some_iff.1 he
    cases he
    obtain⟨cv,aq,aB⟩:=yo (P:=P) 1 op t x y (bX.dM ab) (bX.dM h2) aR (fun _=>hu)
    exact .pure H (v7 (by simp only[execOp,cT]) aq) aB
  · cases I
    simp only[evalOp] at he
    obtain⟨u,aR,he⟩:=Option.map_eq_some_iff.1 he
    cases he
    obtain⟨cv,aq,aB⟩:=yo (P:=P) 2 op t x y (bX.dM ab) (bX.dM h2) aR (fun e=>absurd e (by decide))
    exact .pure H (v7 (by simp only[execOp,cT]) aq) aB
  · rename_i n e hu
    split at I<;>try(cases I;done)
    rename_i k CR lG
    have Kt:∃d,P.depth=d+1+1:=⟨2*(P.types.size+Made.depth),rfl⟩
    have Ku:P.eqGuardType P.depth t=false:=by
     obtain⟨d,bA⟩:=Kt
     rw[bA]
     simp[Program.eqGuardType,hu,CR]
    have main:∀neg,hx.eqA neg n kf n0=lH->(op=if neg then .neq else .eql)->r3 base okin σ h w r v av ((execOp a.eval o).run P w):=by
     rintro neg rfl v8
     simp only[evalOp] at he
     split at he<;>try(cases he;done)
     rename_i xs ys ak bd
     split at he<;>try(cases he;done)
     rename_i ar
     obtain⟨b,aj,he⟩:=Option.map_eq_some_iff.1 he
     cases he
     have rx:=bX.dM ab
     have ry:=bX.dM h2
     rw[ak] at rx;rw[bd] at ry
     obtain⟨aq,lu,m6,ex,fH⟩:=Km (P:=P) hu lG CR rx ry aj ar
     rw[ex,fH] at aq
     have bp:=run_eqGuard_agg w op t x y lu m6 Ku
     refine .pure H (cv:= .bool (b != neg)) ?_ (.val _ _ (.bool _))
     cases neg
     · simp only[Bool.false_eq_true,if_false] at v8
       subst v8
       have aB:(binOp .eql t (.agg lu) (.agg m6)).run P w= .ok (.bool b) w:=by
        show (do pure (.bool (<-Op.equal t (.agg lu) (.agg m6))):Sem Value).run P w=_
        simp[aq]
       simp[execOp,cT,ex,fH,bp,aB]
     · simp only[if_true] at v8
       subst v8
       have aB:(binOp .neq t (.agg lu) (.agg m6)).run P w= .ok (.bool !b) w:=by
        show (do pure (.bool !(<-Op.equal t (.agg lu) (.agg m6))):Sem Value).run P w=_
        simp[aq]
       simp[execOp,cT,ex,fH,bp,aB]
    split at I
    · rename_i aK
      cases I
      exact main false rfl (by simpa using aK)
    · split at I<;>try(cases I;done)
      rename_i aK
      cases I
      exact main true rfl (by simpa using aK)
  · rename_i e hu
    split at I<;>try(cases I;done)
    split at I
    · rename_i aK
      cases I
      exact CO H bX cT hu ab h2 false (by simpa using aK) he
    · split at I<;>try(cases I;done)
      rename_i aK
      cases I
      exact CO H bX cT hu ab h2 true (by simpa using aK) he
 case lookup t x i ok=>
  cases ok with
  | false=>simp only[ff] at I;cases I
  | true=>
    simp only[ff] at I
    split at I<;>try(cases I;done)
    rename_i k e hu
    split at I<;>try(cases I;done)
    rename_i kf f' aE aP ab h2
    cases I
    simp only[evalOp] at he
    split at he<;>try(cases he;done)
    rename_i m n ak ag
    cases he
    have rx:=bX.dM ab
    have n4:=bX.dM h2
    rw[ak] at rx;rw[ag] at n4
    have eR:=rx.B6
    generalize fG:a.eval x=gG at eR
    cases eR with
    | mp _ CS es clock dQ c8 nz uy=>
      obtain⟨bk,cM,dX,_⟩:=Cd (w:=w) aP
      have Kv:bk= .nilFunc:=by
       unfold py at dX
       split at dX
       · obtain⟨as,_,e⟩:=Option.map_eq_some_iff.1 dX;cases e
       · unfold px at dX
         split at dX<;>first|rfl|cases dX
      subst Kv
      obtain⟨q,f1,f2⟩:=CQ m n es.toList 0 (by simpa using nz) (fun j h av=>by simpa using uy j h (by simpa using av))
      have CT:=MapKept.run_checkKey (w:=w) aE (k:= .int .i64 n) (by simp[MapKept.IsKey]) es.isEmpty 9999
      have CU:=MapKept.run_findKey (w:=w) aE f1
      have qC:=MapKept.run_getObj_map (P:=P) c8
      cases bc:m.lookup n with
      | none=>
        rw[bc] at f2
        have pH:q=none:=by simpa using f2
        subst pH
        refine .pure H (cv:= .tuple #[.nilFunc,.bool false]) ?_ (.ch _ _ rfl fun i ag b_=>?_)
        · simp[execOp,cT,Instr.lookup,run_underlying hu,fG,n4.gS,qC,CT,CU,cM]
        · match i,ag with
          | 0,_=>exact .val _ _ .nilfn
          | 1,_=>exact .val _ _ (.bool _)
      | some f=>
        rw[bc] at f2
        obtain⟨⟨VT,VU⟩,rfl,f3⟩:=Option.map_eq_some_iff.1 f2
        simp only at f3
        subst f3
        refine .pure H (cv:= .tuple #[.func (.func f) #[] #[],.bool true]) ?_ (.ch _ _ rfl fun i ag b_=>?_)
        · simp[execOp,cT,Instr.lookup,run_underlying hu,fG,n4.gS,qC,CT,CU]
        · match i,ag with
          | 0,_=>exact .fn f [] [] #[] #[] rfl rfl (fun i h=>absurd h (by simp)) (fun i h=>absurd h (by simp))
          | 1,_=>exact .val _ _ (.bool _)
 case unOp op t x=>
  obtain⟨y,bd,rfl⟩:=Option.map_eq_some_iff.1 I
  simp only[evalOp] at he
  obtain⟨u,aR,he⟩:=Option.map_eq_some_iff.1 he
  cases he
  obtain⟨cv,aq,aB⟩:=JR (P:=P) op (bX.dM bd) aR
  exact .pure H (by simp[execOp,cT,aq]) aB
 case convert s d x=>
  simp only[ff] at I
  split at I<;>try(cases I;done)
  rename_i uz k y ab h2 aX
  cases I
  simp only[evalOp] at he
  split at he<;>try(cases he;done)
  rename_i k' n ak
  cases he
  have rx:=bX.dM aX
  rw[ak] at rx
  refine .pure H (cv:= .int k (k.wrap n)) ?_ (.val _ _ (.int _ _))
  simp[execOp,cT,rx.gS,convert,run_underlying ab,run_underlying h2,Conv.intToInt]
 case makeFunc f first caps=>
  cases f with
  | func f=>
    simp only[ff] at I
    split at I<;>try(cases I;done)
    rename_i x y ab h2
    cases I
    simp only[evalOp] at he;cases he
    obtain⟨cP,b5⟩:=qu bX ab
    obtain⟨dR,dY⟩:=qu bX h2
    refine .pure H (cv:= .func (.func f) (first.map a.eval) (caps.map a.eval)) (by simp[execOp,cT,Instr.makeFunc]) ?_
    refine .fn f _ _ _ _ (by simp[cP]) (by simp[dR]) (fun i ag b_=>?_) (fun i ag b_=>?_)
    · have q:=b5 i (by simpa using ag) (by simpa using b_)
      rw[Array.getElem_toList] at q
      simpa using q
    · have q:=dY i (by simpa using ag) (by simpa using b_)
      rw[Array.getElem_toList] at q
      simpa using q
  | _=>simp only[ff] at I;cases I
 case makeSlice t x y=>
  obtain⟨bE,cv,a_,aq,aB,bg,bT,dv⟩:=J3 H bX ba I he
  exact⟨bE,cv,a_,.inl (by simp[execOp,cT,aq]),aB,bg,bT,dv⟩
 case slice t x cH ag hy=>
  simp only[ff] at I
  split at I<;>try(cases I;done)
  rename_i e hu
  split at I<;>try(cases I;done)
  rename_i s y r6 b_ kg ab h2 aX aW cL
  split at I<;>try(cases I;done)
  rename_i r7
  have r7:(kg.isSome&&b_.isNone)=false:=by simpa only[Bool.not_eq_true] using r7
  cases I
  have rx:=bX.dM h2
  simp only[evalOp] at he
  split at he
  · rename_i id off len cap ak
    rw[ak] at rx
    split at he<;>try(cases he;done)
    rename_i l u m b1 da eD
    split at he<;>try(cases he;done)
    rename_i bc
    obtain⟨dy,dB,ga,ky⟩:=bc
    cases he
    obtain⟨A,c,b,sz,gH,bz,bR,e6,hE⟩:=rx.pC
    have B:=Ci (P:=P) bX aX aW cL r7 len cap c e6 (fun _=>bR) b1 da eD dy dB ga true
    have Kw:m<=if kg.isSome then m else c:=by split<;>omega
    have VV:(if kg.isSome then m else c)<=c:=by split<;>omega
    refine .pure H (cv:= .slice (if (if kg.isSome then m else c)=l then A else A.map (·.add (l*s))) (u - l) ((if kg.isSome then m else c) - l)) ?_ ?_
    · simp only[execOp,cT,Instr.sliceAt,Instr.slice,Sem.run_bind,run_underlying hu,Result.andThen_ok,gH,B,run_sizeOf ab]
      simp
    · refine .ref id (off+l) (u - l) (m - l) _ _ b sz bz (by omega) (by omega) (fun qB=>?_)
      obtain⟨rfl,Kx⟩:=hE (by omega)
      rw[if_neg (by omega)]
      refine⟨?_,Nat.le_trans (Nat.mul_le_mul_right _ (by omega)) Kx⟩
      rcases ky with rfl|ky
      · simp[Addr.add]
      · have:=H.sized bz ky
        subst this
        simp[oL,Nat.add_mul]
  · rename_i xs ex ak
    rw[ak] at rx
    split at he<;>try(cases he;done)
    rename_i l u m b1 da eD
    split at he<;>try(cases he;done)
    rename_i bc
    obtain⟨dy,dB,ga,ky⟩:=bc
    cases he
    have ba:=rx.pB
    generalize fG:a.eval x=gG at ba rx
    cases ba with
    | sl _ _ A c fg eb aa af al ad ae ai=>
      have B:=Ci (P:=P) bX aX aW cL r7 xs.length xs.length c aa (fun _=>aa) b1 da eD dy dB ga true
      have Kw:m<=if kg.isSome then m else c:=by split<;>omega
      have hlen:((xs.drop l).take (u - l)).length=u - l:=by simp;omega
      refine .pure H (cv:= .slice (if (if kg.isSome then m else c)=l then A else A.map (·.add (l*s))) (u - l) ((if kg.isSome then m else c) - l)) ?_ ?_
      · simp only[execOp,cT,Instr.sliceAt,Instr.slice,Sem.run_bind,run_underlying hu,Result.andThen_ok,fG,B,run_sizeOf ab]
        simp
      · refine .val _ _ ?_
        have kx:∀i (ag:i<u - l),((xs.drop l).take (u - l))[i]'(by rw[hlen];exact ag)=xs[l+i]'(by omega):=by intro i ag;simp
        have R:=dq.sl (w:=w) (ok:=bN base okin σ h) ((xs.drop l).take (u - l)) ((kg.isSome||ex)&&m == u) (if (if kg.isSome then m else c)=l then A else A.map (·.add (l*s))) ((if kg.isSome then m else c) - l) fg (fun i j=>eb (l+i) j)
         (by rw[hlen];omega) (fun hex=>by
           rw[hlen]
           simp only[Bool.and_eq_true,Bool.or_eq_true,beq_iff_eq] at hex
           obtain⟨fo,rfl⟩:=hex
           rcases fo with fo|fo
           · rw[if_pos fo]
           · have I:=af fo
             by_cases hm:kg.isSome=true
             · rw[if_pos hm]
             · rw[if_neg hm]
               have nA:kg=none:=by cases kg<;>simp_all
               have:m=xs.length:=by rw[nA] at eD;cases eD;rfl
               omega)
         (fun i ag=>by rw[kx i (by rw[hlen] at ag;exact ag)];exact al _ _)
         (fun i j ag aZ=>by
           rw[hlen] at ag
           obtain⟨cO,aq,aB,bg⟩:=ad (l+i) j (by omega) aZ
           rw[if_neg (by omega),aq]
           rcases ky with rfl|ky
           · refine⟨cO,by simp[Addr.add],aB,?_⟩
             simpa using bg
           · have qy:fg=s:=by
              have CV:=al (l+i) (by omega)
              have VW:=vU ky _ (List.getElem_mem (show l+i<xs.length by omega))
              omega
             subst qy
             refine⟨cO.add (l*fg),rfl,by rw[Addr.pz];exact aB,?_⟩
             rw[add_add]
             · rw[<-Nat.add_assoc,<-Nat.add_mul];exact bg
             · by_cases aJ:0<l*fg+(i*fg+j)
               · exact .inr aJ
               · have oQ:(l+i)*fg+j=0:=by rw[Nat.add_mul];omega
                 rw[oQ] at bg
                 refine .inl ?_
                 cases aG:cO.spot with
                 | none=>rfl
                 | some sp=>
                   have e:cO.add 0=cO:=by unfold Addr.add;simp
                   rw[e] at bg
                   unfold World.cell? at bg
                   simp only[aG,Option.isSome_some,if_true] at bg
                   split at bg<;>cases bg)
         (fun qB=>by
           rw[hlen] at qB
           rw[if_neg (by omega)]
           have:=ae (by omega)
           simpa using this)
         (fun i ag j aZ=>by
           rw[hlen] at ag
           have:=kx i ag
           simp only[this]
           exact ai _ _ j _)
        rw[hlen] at R
        exact R
  · cases he
 case fieldAddr s x f=>
  simp only[ff] at I
  split at I<;>try(cases I;done)
  rename_i cj hu
  split at I<;>try(cases I;done)
  rename_i fd v9
  split at I<;>try(cases I;done)
  rename_i b' sz y ab h2 aX
  split at I<;>try(cases I;done)
  rename_i aW
  cases I
  have rx:=bX.dM aX
  simp only[evalOp] at he
  split at he
  · rename_i u ak
    rw[ak] at rx
    obtain⟨cO,eb,gH,bz,bR⟩:=rx.vM
    obtain⟨cs,n5,he⟩:=Option.bind_eq_some_iff.1 he
    obtain⟨p,a4,he⟩:=Option.map_eq_some_iff.1 he
    cases he
    refine .pure H (cv:= .pointer (some (cO.add fd.offset))) ?_ (CN bz bR n5 a4)
    simp[execOp,cT,Instr.fieldAt,run_underlying hu,v9,gH,Instr.sureAddr,CM h2 aW]
  · rename_i id idx cV ak
    rw[ak] at rx
    cases he
    obtain⟨b,cf,gH,bz⟩:=rx.ue
    have:=bu.ptr (w:=w) (ok:=bN base okin σ h) (σ:=σ) id idx (cV+fd.offset) b cf bz
    refine .pure H ?_ this
    simp[execOp,cT,Instr.fieldAt,run_underlying hu,v9,gH,Instr.sureAddr,CM h2 aW,oL,Nat.add_assoc]
  · cases he
 case field s x f=>
  simp only[ff] at I
  split at I<;>try(cases I;done)
  rename_i cj hu
  split at I<;>try(cases I;done)
  rename_i fd v9
  split at I<;>try(cases I;done)
  rename_i b' sz y ab h2 aX
  split at I<;>try(cases I;done)
  rename_i aW
  cases I
  simp only[evalOp] at he
  split at he<;>try(cases he;done)
  rename_i cs ak
  obtain⟨gQ,n5,he⟩:=Option.bind_eq_some_iff.1 he
  obtain⟨u,a4,he⟩:=Option.map_eq_some_iff.1 he
  cases he
  have rx:=bX.dM aX
  rw[ak] at rx
  obtain⟨vs,ev,cP,b5⟩:=rx.r1
  obtain⟨cv,aq,aB⟩:=Cg (P:=P) ab h2 aW cP b5 n5 a4
  exact .pure H (by simp[execOp,cT,Instr.field,run_underlying hu,v9,ev,asAgg,aq]) aB
 case indexAddr t x i=>
  simp only[ff] at I
  split at I<;>try(cases I;done)
  · rename_i e hu
    split at I<;>try(cases I;done)
    rename_i s y j ab h2 aX
    cases I
    have rx:=bX.dM h2
    have gU:=bX.dM aX
    simp only[evalOp] at he
    split at he
    · rename_i xs ex k n ak aZ
      rw[ak] at rx;rw[aZ] at gU
      split at he<;>try(cases he;done)
      rename_i ar
      obtain⟨el,kx,he⟩:=Option.bind_eq_some_iff.1 he
      split at he<;>try(cases he;done)
      rename_i cy
      cases he
      obtain⟨ag,rfl⟩:=List.getElem?_eq_some_iff.1 kx
      have ba:=rx.pB
      generalize fG:a.eval x=gG at ba rx
      cases ba with
      | sl _ _ A c fg eb aa af al ad ae ai=>
        have aI:=ae (by omega)
        obtain⟨cO,rfl⟩:=Option.isSome_iff_exists.1 aI
        have es:fg=s:=by have:=al _ ag;omega
        subst es
        have bO:n<(xs.length:Int):=by omega
        refine .pure H (cv:= .pointer (some (cO.add (n.toNat*fg)))) ?_ ?_
        · simp[execOp,cT,Instr.indexAt,gU.gS,asIntOf,run_underlying hu,fG,ar,bO,run_sizeOf ab]
        · refine .eu _ _ (fun mi=>eb n.toNat mi) (fun mi CW=>?_) (fun mi CW=>ai _ ag mi CW)
          obtain⟨J8,aq,aB,bg⟩:=ad n.toNat mi ag (by omega)
          cases aq
          refine⟨by rw[Addr.pz];exact aB,?_⟩
          rw[add_add]
          · exact bg
          · by_cases aJ:0<n.toNat*fg+mi
            · exact .inr aJ
            · have oQ:n.toNat*fg+mi=0:=by omega
              rw[oQ] at bg
              refine .inl ?_
              cases aG:cO.spot with
              | none=>rfl
              | some sp=>
                have e:cO.add 0=cO:=by unfold Addr.add;simp
                rw[e] at bg
                unfold World.cell? at bg
                simp only[aG,Option.isSome_some,if_true] at bg
                split at bg<;>cases bg
    · rename_i id off len cap k n ak aZ
      rw[ak] at rx;rw[aZ] at gU
      split at he<;>try(cases he;done)
      rename_i ar
      cases he
      obtain⟨A,c,b,sz,gH,bz,bR,e6,hE⟩:=rx.pC
      obtain⟨rfl,_⟩:=hE (by omega)
      have:=H.sized bz ar.2.2
      subst this
      have R:=bu.ptr (w:=w) (ok:=bN base okin σ h) (σ:=σ) id (off+n.toNat) 0 b sz bz
      refine .pure H ?_ R
      simp[execOp,cT,Instr.indexAt,gU.gS,asIntOf,run_underlying hu,gH,ar.1,ar.2.1,run_sizeOf ab,oL,Nat.add_mul]
    · cases he
  · rename_i n e hu
    split at I<;>try(cases I;done)
    rename_i b' s y j ab h2 aX aW
    cases I
    have rx:=bX.dM aX
    have gU:=bX.dM aW
    simp only[evalOp] at he
    split at he
    · rename_i u k mi ak aZ
      rw[ak] at rx;rw[aZ] at gU
      split at he<;>try(cases he;done)
      rename_i ar
      obtain⟨cs,n5,he⟩:=Option.bind_eq_some_iff.1 he
      obtain⟨p,a4,he⟩:=Option.map_eq_some_iff.1 he
      cases he
      obtain⟨cO,eb,gH,bz,bR⟩:=rx.vM
      refine .pure H (cv:= .pointer (some (cO.add (mi.toNat*s)))) ?_ (CN bz bR n5 a4)
      simp[execOp,cT,Instr.indexAt,gU.gS,asIntOf,run_underlying hu,gH,Instr.sureAddr,ar.1,ar.2,run_sizeOf h2]
    · rename_i id idx cV k mi ak aZ
      rw[ak] at rx;rw[aZ] at gU
      split at he<;>try(cases he;done)
      rename_i ar
      cases he
      obtain⟨b,cf,gH,bz⟩:=rx.ue
      have:=bu.ptr (w:=w) (ok:=bN base okin σ h) (σ:=σ) id idx (cV+mi.toNat*s) b cf bz
      refine .pure H ?_ this
      simp[execOp,cT,Instr.indexAt,gU.gS,asIntOf,run_underlying hu,gH,Instr.sureAddr,ar.1,ar.2,run_sizeOf h2,oL,Nat.add_assoc]
    · cases he
 case index t x i=>
  simp only[ff] at I
  split at I<;>try(cases I;done)
  · rename_i n e hu
    split at I<;>try(cases I;done)
    rename_i b' s y j ab h2 aX aW
    split at I<;>try(cases I;done)
    rename_i cL
    cases I
    have rx:=bX.dM aX
    have gU:=bX.dM aW
    simp only[evalOp] at he
    split at he<;>try(cases he;done)
    rename_i cs k mi ak aZ
    rw[ak] at rx;rw[aZ] at gU
    split at he<;>try(cases he;done)
    rename_i ar
    obtain⟨gQ,n5,he⟩:=Option.bind_eq_some_iff.1 he
    obtain⟨u,a4,he⟩:=Option.map_eq_some_iff.1 he
    cases he
    obtain⟨vs,ev,cP,b5⟩:=rx.r1
    obtain⟨cv,aq,aB⟩:=Cg (P:=P) ab h2 cL cP b5 n5 a4
    exact .pure H (by simp[execOp,cT,Instr.index,gU.gS,asIntOf,run_underlying hu,ev,ar.1,ar.2,run_sizeOf h2,aq]) aB
  · rename_i hu
    split at I<;>try(cases I;done)
    rename_i y j ab h2
    cases I
    have rx:=bX.dM ab
    have gU:=bX.dM h2
    simp only[evalOp] at he
    split at he<;>try(cases he;done)
    rename_i str k mi ak aZ
    rw[ak] at rx;rw[aZ] at gU
    split at he<;>try(cases he;done)
    rename_i ar
    obtain⟨CX,aj,he⟩:=Option.map_eq_some_iff.1 he
    cases he
    refine .pure H (cv:= .int .u8 CX.toNat) ?_ (.val _ _ (.int _ _))
    simp[execOp,cT,Instr.index,gU.gS,asIntOf,run_underlying hu,rx.ud,ar,aj]
 case extract x i=>
  obtain⟨y,bd,rfl⟩:=Option.map_eq_some_iff.1 I
  simp only[evalOp] at he
  split at he<;>try(cases he;done)
  rename_i vs ak
  obtain⟨u,hu,he⟩:=Option.map_eq_some_iff.1 he
  cases he
  have rx:=bX.dM bd
  rw[ak] at rx
  obtain⟨cs,ev,cP,b5⟩:=rx.B8
  obtain⟨ag,rfl⟩:=List.getElem?_eq_some_iff.1 hu
  have bO:i<cs.size:=by omega
  exact .pure H (by simp[execOp,cT,Instr.extract,ev,bO]) (b5 i ag bO)
 case call yH=>
  obtain⟨callee,args,argTypes⟩:=yH
  cases callee with
  | value f=>
    simp only[ff] at I
    split at I<;>try(cases I;done)
    cases I
    simp only[evalOp] at he;cases he
  | invoke _ _=>simp only[ff] at I;cases I
  | builtin b=>
    cases b<;>try(simp only[ff] at I;cases I;done)
    case append=>
     obtain⟨bE,cv,a_,aq,aB,bg,bT,dv⟩:=Ka (ty:=o.type) H bX ba I he
     exact⟨bE,cv,a_,.inl (by simp[execOp,cT,resolve,invoke,builtin,aq]),aB,bg,bT,dv⟩
    case len=>
     simp only[ff] at I
     split at I<;>try(cases I;done)
     rename_i t X a7 e5
     have m4:args= #[X]:=by rw[<-Array.toList_inj];exact e5
     subst m4
     split at I<;>try(cases I;done)
     · rename_i e x hu ak
       cases I
       have rx:=bX.dM ak
       simp only[evalOp] at he
       split at he
       · rename_i xs ex aR
         simp only[if_true] at he
         cases he
         rw[aR] at rx
         have ba:=rx.pB
         generalize fG:a.eval X=gG at ba rx
         cases ba with
         | sl _ _ A c _ _ _ _ _ _ _ _=>
           refine .pure H (cv:= .int .i64 xs.length) ?_ (.val _ _ (.int _ _))
           simp[execOp,cT,resolve,invoke,builtin,Builtin.len_,a7,run_underlying hu,fG,goInt]
       · rename_i id off len cap aR
         simp only[if_true] at he
         cases he
         rw[aR] at rx
         obtain⟨A,c,b,sz,gH,_⟩:=rx.pC
         refine .pure H (cv:= .int .i64 len) ?_ (.val _ _ (.int _ _))
         simp[execOp,cT,resolve,invoke,builtin,Builtin.len_,a7,run_underlying hu,gH,goInt]
       · simp only[Bool.false_eq_true,if_false] at he;cases he
       · cases he
     · rename_i x hu ak
       cases I
       have rx:=bX.dM ak
       simp only[evalOp] at he
       split at he
       · simp only[Bool.true_eq_false,if_false] at he;cases he
       · simp only[Bool.true_eq_false,if_false] at he;cases he
       · rename_i s aR
         simp only[if_true] at he
         cases he
         rw[aR] at rx
         refine .pure H (cv:= .int .i64 s.size) ?_ (.val _ _ (.int _ _))
         simp[execOp,cT,resolve,invoke,builtin,Builtin.len_,a7,run_underlying hu,rx.ud,goInt]
       · cases he
    case min=>
     obtain⟨xs,ny,rfl⟩:=Option.map_eq_some_iff.1 I
     obtain⟨cP,b5⟩:=qu bX ny
     simp only[evalOp] at he
     obtain⟨u,hu,he⟩:=Option.map_eq_some_iff.1 he
     cases he
     cases xs with
     | nil=>simp[g'] at hu
     | cons x xs=>
       cases e5:args.toList with
       | nil=>rw[e5] at cP;simp at cP
       | cons X yI=>
         rw[e5] at cP
         have r0:=b5 0 (by simp) (by simp[e5])
         simp only[e5,List.getElem_cons_zero] at r0
         simp only[List.map_cons] at hu
         cases ak:x.ev G F<;>rw[ak] at hu<;>try(simp[g'] at hu;done)
         rename_i k n
         rw[ak] at r0
         obtain⟨cv,aq,aB⟩:=CK (P:=P) (w:=w) (σ:=σ) (bN base okin σ h) (xs.map (bf.ev G F)) k n (yI.map a.eval) v hu (by simpa using cP) (fun i ag b_=>by
          have:=b5 (i+1) (by simpa using ag) (by simpa[e5] using b_)
          simpa[e5] using this)
         refine .pure H ?_ aB
         simp[execOp,cT,resolve,invoke,builtin,Builtin.min_,e5,r0.gS,aq]
    case max=>
     obtain⟨xs,ny,rfl⟩:=Option.map_eq_some_iff.1 I
     obtain⟨cP,b5⟩:=qu bX ny
     simp only[evalOp] at he
     obtain⟨u,hu,he⟩:=Option.map_eq_some_iff.1 he
     cases he
     cases xs with
     | nil=>simp[g'] at hu
     | cons x xs=>
       cases e5:args.toList with
       | nil=>rw[e5] at cP;simp at cP
       | cons X yI=>
         rw[e5] at cP
         have r0:=b5 0 (by simp) (by simp[e5])
         simp only[e5,List.getElem_cons_zero] at r0
         simp only[List.map_cons] at hu
         cases ak:x.ev G F<;>rw[ak] at hu<;>try(simp[g'] at hu;done)
         rename_i k n
         rw[ak] at r0
         obtain⟨cv,aq,aB⟩:=CL (P:=P) (w:=w) (σ:=σ) (bN base okin σ h) (xs.map (bf.ev G F)) k n (yI.map a.eval) v hu (by simpa using cP) (fun i ag b_=>by
          have:=b5 (i+1) (by simpa using ag) (by simpa[e5] using b_)
          simpa[e5] using this)
         refine .pure H ?_ aB
         simp[execOp,cT,resolve,invoke,builtin,Builtin.max_,e5,r0.gS,aq]
end
end Go.Eng
