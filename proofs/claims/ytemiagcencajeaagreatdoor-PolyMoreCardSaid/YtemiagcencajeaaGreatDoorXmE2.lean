import Derived.Test.YtemiagcencajeaaGreatDoorXmE1
import Derived.Laws.StructEq
import Derived.MapKept
set_option linter.unusedSimpArgs false
set_option linter.unusedVariables false
set_option linter.unusedSectionVars false
namespace Go.Eng
open Go Go.RowKit
section
variable {P:Program} {base:Nat} {okin:Nat->Prop} {σ:Nat->Option (Nat × Nat)} {h:ai} {w:World} {G:Nat->Option I} {F:Nat->I} {a:Act}
theorem QL {i j sz:Nat} (aA:j<sz):(i*sz+j)/sz=i/\(i*sz+j)%sz=j:=by
 have aE:0<sz:=by omega
 constructor
 · rw[Nat.add_comm,Nat.add_mul_div_right _ _ aE,Nat.div_eq_of_lt aA,Nat.zero_add]
 · rw[Nat.add_comm,Nat.add_mul_mod_self_right,Nat.mod_eq_of_lt aA]
theorem x_ (H:cz base okin σ h w) {v:I} {cv:Value} (al:a2 w (bn base okin σ h) σ v cv) {ys:List I} (he:elems h v=some ys) {sz:Nat} (cW:∀e∈ys,e.cells.length=sz) (aE:0<sz):
 ∃A c,cv= .slice A ys.length c/\∃arr,(Builtin.firstCells sz ys.length cv).run P w= .ok arr w/\lV w (bn base okin σ h) σ sz ys arr:=by
 unfold elems at he
 split at he
 · rename_i xs ex
   injection he with he
   subst he
   have aT:=al.qy
   cases aT with
   | sl _ _ A c fw d_ U h2 aB aS ck ep=>
     refine⟨A,c,rfl,?_⟩
     by_cases aF:xs.length=0
     · have ae:xs= []:=List.eq_nil_of_length_eq_zero aF
       subst ae
       cases A with
       | none=>exact ⟨#[],by simp[Builtin.firstCells],by simp,fun i ab=>absurd ab (by simp)⟩
       | some cm=>exact ⟨#[],by simp[Builtin.firstCells,loadCells,loadCellsFrom],by simp,fun i ab=>absurd ab (by simp)⟩
     · have nw:fw=sz:=by
        have:=aB 0 (by omega)
        have:=cW _ (List.getElem_mem (show 0<xs.length by omega))
        omega
       subst nw
       have a4:=ck (by omega)
       obtain⟨cm,rfl⟩:=Option.isSome_iff_exists.1 a4
       have az:∀k,k<xs.length*fw->w.cell? (cm.add k)=some ((fun k=>d_ (k/fw) (k%fw)) k):=by
        intro k ag
        have ab:k/fw<xs.length:=Nat.div_lt_of_lt_mul (by rw[Nat.mul_comm];exact ag)
        obtain⟨QM,e,_,J⟩:=aS (k/fw) (k%fw) ab (Nat.mod_lt _ aE)
        cases e
        have:k/fw*fw+k%fw=k:=by rw[Nat.mul_comm];exact Nat.div_add_mod k fw
        rwa [this] at J
       refine⟨_,by simp only[Builtin.firstCells];exact run_loadCells w cm (xs.length*fw) _ az,?_⟩
       refine⟨by simp,fun i ab=>⟨aB i ab,fun j aA ag=>?_⟩⟩
       have kd:j<fw:=by have:=aB i ab;omega
       have:=QL (i:=i) kd
       simp only[List.getElem_toArray,List.getElem_map,List.getElem_range,this.1,this.2]
       exact .val _ _ (ep i ab j aA)
 · rename_i id off len cap
   split at he<;>try(cases he;done)
   rename_i blk ad
   split at he<;>try(cases he;done)
   rename_i hle
   cases he
   obtain⟨A,c,b,b5,rfl,aq,au,aV,bR⟩:=al.qz
   have hlen:((blk.drop off).take len).length=len:=by simp;omega
   rw[hlen]
   refine⟨A,c,rfl,?_⟩
   by_cases aF:len=0
   · subst aF
     refine⟨#[],?_,by simp,fun i ab=>absurd ab (by simp)⟩
     cases A with
     | none=>simp[Builtin.firstCells]
     | some cm=>simp[Builtin.firstCells,loadCells,loadCellsFrom]
   · obtain⟨j0,fw,arr,ty,f1,f2,f3⟩:=H.blk id blk ad
     rw[aq] at f1;cases f1
     have kN:∀i,i<len->∃ab:off+i<blk.length,blk[off+i].cells.length=sz:=by
      intro i ab
      refine⟨by omega,cW _ ?_⟩
      have:(((blk.drop off).take len)[i]'(by rw[hlen];exact ab))=blk[off+i]'(by omega):=by simp
      rw[<-this];exact List.getElem_mem _
     have nw:b5=sz:=by
      obtain⟨ab,e⟩:=kN 0 (by omega)
      have:=(f3 _ ab).1;omega
     subst nw
     obtain⟨rfl,_⟩:=bR (by omega)
     have az:∀k,k<len*b5->w.cell? ((⟨b,off*b5,none⟩:Addr).add k)=some ((fun k=>(arr[off*b5+k]?).getD undef) k):=by
      intro k ag
      have ab:k/b5<len:=Nat.div_lt_of_lt_mul (by rw[Nat.mul_comm];exact ag)
      obtain⟨bS,e⟩:=kN _ ab
      have hm:=Nat.mod_lt k aE
      obtain⟨lB,bJ,_⟩:=(f3 _ bS).2 (k%b5) (by omega)
      have:(off+k/b5)*b5+k%b5=off*b5+k:=by rw[Nat.add_mul,Nat.add_assoc];congr 1;rw[Nat.mul_comm];exact Nat.div_add_mod k b5
      rw[this] at bJ
      rw[pF]
      simp only[World.cell?,f2,Option.isSome_none,Bool.false_eq_true,if_false]
      rw[bJ];rfl
     refine⟨_,by simp only[Builtin.firstCells];exact run_loadCells w ⟨b,off*b5,none⟩ (len*b5) _ az,?_⟩
     refine⟨by simp[hlen],fun i ab=>?_⟩
     have QN:i<len:=by rw[hlen] at ab;exact ab
     obtain⟨bS,e⟩:=kN i QN
     have bG:((blk.drop off).take len)[i]=blk[off+i]'(by omega):=by simp
     rw[bG]
     refine⟨e,fun j aA ag=>?_⟩
     obtain⟨lB,bJ,ch⟩:=(f3 _ bS).2 j aA
     have:(off+i)*b5+j=off*b5+(i*b5+j):=by rw[Nat.add_mul];omega
     rw[this] at bJ
     simp only[List.getElem_toArray,List.getElem_map,List.getElem_range]
     rw[bJ];exact ch
 · cases he
theorem Hb (n:Nat):∀(r c:Nat),256<=c->c<=2*n->Builtin.growBy n r c<=2*n
 | 0,c,_,h=>h
 | r+1,c,U,h2=>by
   unfold Builtin.growBy
   split
   · exact h2
   · exact Hb n r _ (by omega) (by omega)
theorem QO {n c:Nat} (h:c<n):Builtin.nextslicecap n c<=2*n:=by
 unfold Builtin.nextslicecap
 split
 · omega
 · split
   · omega
   · exact Hb n 4 c (by omega) (by omega)
theorem lV.append {ok:Nat->Prop} {sz:Nat} {xs ys:List I} {a1 eG:Array Value} (U:lV w ok σ sz xs a1) (h2:lV w ok σ sz ys eG):lV w ok σ sz (xs++ys) (a1++eG):=by
 refine⟨by simp[U.1,h2.1,Nat.add_mul],fun i ab=>?_⟩
 by_cases ae:i<xs.length
 · have e:(xs++ys)[i]=xs[i]:=List.getElem_append_left ae
   rw[e]
   refine⟨(U.2 i ae).1,fun j aA ag=>?_⟩
   have bB:i*sz+j<a1.size:=by rw[U.1];exact oI ae (by have:=(U.2 i ae).1;omega)
   rw[Array.getElem_append_left bB]
   exact (U.2 i ae).2 j aA bB
 · have aQ:i - xs.length<ys.length:=by simp at ab;omega
   have e:(xs++ys)[i]=ys[i - xs.length]:=List.getElem_append_right (by omega)
   rw[e]
   refine⟨(h2.2 _ aQ).1,fun j aA ag=>?_⟩
   have hle:xs.length*sz<=i*sz:=Nat.mul_le_mul_right _ (by omega)
   have bB:(i - xs.length)*sz+j<eG.size:=by rw[h2.1];exact oI aQ (by have:=(h2.2 _ aQ).1;omega)
   have pJ:a1.size<=i*sz+j:=by rw[U.1];omega
   rw[Array.getElem_append_right pJ]
   have au:i*sz+j - a1.size=(i - xs.length)*sz+j:=by rw[U.1,Nat.sub_mul];omega
   simp only[au]
   exact (h2.2 _ aQ).2 j aA bB
theorem Hc {t u e e':TypeId} (aL:P.underlying t=some (.slice e)) (hu:P.underlying u=some (.slice e')) {sz bytes:Nat} (aw:iR P e=some sz) (ad:Bv P e=some bytes) {z:I} (av:zeroOf P e=some z)
 (A:Option Addr) (n c:Nat) (B:Option Addr) (m d:Nat) (Hd:c<n+m) (cP:0<bytes) (rT:(n+m)*bytes<=35184372088832) {lX new:Array Value}
 (ay:(Builtin.firstCells sz n (.slice A n c)).run P w.drew= .ok lX w.drew) (ak:(Builtin.firstCells sz m (.slice B m d)).run P w.drew= .ok new w.drew):
 ∃rU rest,n+m<=rU/\(Builtin.append_ #[t,u] t #[.slice A n c,.slice B m d]).run P w= .ok (.slice (some ⟨w.heap.size,0,none⟩) (n+m) rU) (w.drew.alloc (.cells (lX++new++rest) e))/\(rest.size=(rU -(n+m))*z.cells.length):=by
 obtain⟨ao,dS,gH,x9,_⟩:=tH (P:=P) (w:=w.drew) (σ:=fun _=>none) (ok:=fun _=>True) av
 obtain⟨i,ab,agP⟩:=Option.map_eq_some_iff.1 aw
 have BP:i.bytes=bytes:=by
  obtain⟨gG,aq,au⟩:=Option.map_eq_some_iff.1 ad
  rw[ab] at aq;cases aq;exact au
 have He:=QO Hd
 have QP:¬(Builtin.nextslicecap (n+m) c*i.bytes>2^48):=by
  rw[BP]
  have:Builtin.nextslicecap (n+m) c*bytes<=2*(n+m)*bytes:=Nat.mul_le_mul_right _ He
  rw[Nat.mul_assoc] at this
  omega
 have U:¬(n+m<=c):=by omega
 have k8:i.bytes≠0:=by omega
 refine⟨(Question.appendCap (n+m) c e).cut (w.tape w.drawn (.appendCap (n+m) c e)),Builtin.zeroCells ao.cells ((Question.appendCap (n+m) c e).cut (w.tape w.drawn (.appendCap (n+m) c e)) -(n+m)),by simp[Question.cut],?_,by simp[Builtin.zeroCells,gH.1]⟩
 simp[Builtin.append_,run_underlying aL,run_underlying hu,run_sizeOf aw,Builtin.lenOf,run_typeInfo ab,U,k8,QP,Question.forced,ay,ak,dS,newRow]
theorem cz.drew (H:cz base okin σ h w):cz base okin σ h w.drew/\Prog base okin σ h w σ h w.drew:=by
 have P:Prog base okin σ h w σ h w.drew:=⟨fun _ _ x=>x,fun _ _ ay=>⟨ay,rfl⟩,(Below.refl _ _).drew,fun _=>Nat.le_refl _⟩
 refine⟨⟨H.val,fun id fF ga=>?_,H.inj,H.base⟩,P⟩
 obtain⟨b,s,a,t,aq,au,aV⟩:=H.blk id fF ga
 refine⟨b,s,a,t,aq,au,fun i ab=>⟨(aV i ab).1,fun j aA=>?_⟩⟩
 obtain⟨v,f1,f2⟩:=(aV i ab).2 j aA
 exact ⟨v,f1,P.rep f2⟩
theorem cz.kill (H:cz base okin σ h w) (id:Nat):cz base okin σ {h with cells:=ar h.cells id none} w/\Prog base okin σ h w σ {h with cells:=ar h.cells id none} w:=by
 have P:Prog base okin σ h w σ {h with cells:=ar h.cells id none} w:=by
  refine⟨fun _ _ x=>x,fun b ad ay=>⟨?_,rfl⟩,Below.refl _ _,fun _=>Nat.le_refl _⟩
  rcases ay with ay|⟨U,h2⟩
  · exact .inl ay
  · refine .inr ⟨U,fun i s aw az=>h2 i s aw ?_⟩
    by_cases e:i=id
    · simp[ar,e] at az
    · simpa[ar,e] using az
 refine⟨⟨H.val,fun i fF ga=>?_,fun i gG b s an U h2=>H.inj i gG b s an ?_ ?_,H.base⟩,P⟩
 · by_cases e:i=id
   · simp[ar,e] at ga
   · have pD:h.cells i=some fF:=by simpa[ar,e] using ga
     obtain⟨b,s,a,t,aq,au,aV⟩:=H.blk i fF pD
     refine⟨b,s,a,t,aq,au,fun i ab=>⟨(aV i ab).1,fun j aA=>?_⟩⟩
     obtain⟨v,f1,f2⟩:=(aV i ab).2 j aA
     exact ⟨v,f1,P.rep f2⟩
 · by_cases e:i=id
   · simp[ar,e] at U
   · simpa[ar,e] using U
 · by_cases e:gG=id
   · simp[ar,e] at h2
   · simpa[ar,e] using h2
theorem lV.cell {ok:Nat->Prop} {sz:Nat} {es:List I} {arr:Array Value} (H:lV w ok σ sz es arr) (rest:Array Value) (i:Nat) (ab:i<es.length):
 es[i].cells.length=sz/\∀j (aA:j<es[i].cells.length),∃v,(arr++rest)[i*sz+j]? =some v/\a2 w ok σ (es[i].cells[j]) v:=by
 refine⟨(H.2 i ab).1,fun j aA=>?_⟩
 have bB:i*sz+j<arr.size:=by rw[H.1];exact oI ab (by have:=(H.2 i ab).1;omega)
 exact ⟨_,by rw[Array.getElem?_append_left bB];exact Array.getElem?_eq_getElem bB,(H.2 i ab).2 j aA bB⟩
theorem x' {ys:List I} {sz:Nat} (h:(ys.all fun e=>e.cells.length == sz)=true):∀e∈ys,e.cells.length=sz:=fun e he=>by
 simpa using List.all_eq_true.1 h e he
theorem lV.vB {ok:Nat->Prop} {sz:Nat} {es:List I} {arr:Array Value} (H:lV w ok σ sz es arr) (aE:0<sz) (aw:∀e∈es,e.cells.all I.cb=true):∀v∈arr.toList,v.oneCell'=true:=by
 intro v al
 obtain⟨k,ag,rfl⟩:=List.getElem_of_mem al
 have jK:k<arr.size:=by simpa using ag
 have kp:k<es.length*sz:=by rw[<-H.1];exact jK
 have ab:k/sz<es.length:=Nat.div_lt_of_lt_mul (by rw[Nat.mul_comm];exact kp)
 have aA:=Nat.mod_lt k aE
 have e:k/sz*sz+k%sz=k:=by rw[Nat.mul_comm];exact Nat.div_add_mod k sz
 have az:=(H.2 _ ab).1
 have r:=(H.2 _ ab).2 (k%sz) (by omega) (by rw[e];exact jK)
 have gI:=r.vB (List.all_eq_true.1 (aw _ (List.getElem_mem ab)) _ (List.getElem_mem (by omega)))
 simpa[e] using gI
theorem QQ (H:cz base okin σ h w) (bE:j3 G (bn base okin σ h) σ w F a) {r:Nat} (aT:σ r=none) {args:Array Operand} {argTypes:Array TypeId} {ty:TypeId} {lU:jZ}
 (J:fv P (.call {callee:= .builtin .append,args,argTypes})=some lU) {aZ:Nat} {v:I} {h':ai} {c:dN}
 (he:evalOp aZ r (aR.ev G F) h lU=some (v,h',c)):
 ∃bc cv aO,(Builtin.append_ argTypes ty (args.map a.eval)).run P w= .ok cv aO/\Prog base okin σ h w bc h' aO/\cz base okin bc h' aO/\a2 aO (bn base okin bc h') bc v cv/\∀id,id≠r->bc id=σ id:=by
 simp only[fv] at J
 split at J<;>try(cases J;done)
 rename_i t u X Y aL e7
 have BS:argTypes= #[t,u]:=by rw[<-Array.toList_inj];exact aL
 have rV:args= #[X,Y]:=by rw[<-Array.toList_inj];exact e7
 subst BS;subst rV
 split at J<;>try(cases J;done)
 rename_i e e' hu ya
 split at J<;>try(cases J;done)
 rename_i sz bytes z x y aw ad av ae aQ
 split at J<;>try(cases J;done)
 rename_i Hf
 cases J
 simp only[evalOp] at he
 obtain⟨ys,eL,he⟩:=Option.bind_eq_some_iff.1 he
 split at he<;>try(cases he;done)
 rename_i nV
 obtain⟨bb,bC,bW⟩:=nV
 have Hg:∀q∈ys,q.cells.length=sz:=fun q aN=>by
  have:=List.all_eq_true.1 bW q aN
  simp only[Bool.and_eq_true,beq_iff_eq] at this
  exact this.1
 have QR:∀q∈ys,q.cells.all I.cb=true:=fun q aN=>by
  have:=List.all_eq_true.1 bW q aN
  simp only[Bool.and_eq_true,beq_iff_eq] at this
  exact this.2
 have rx:=bE.dO ae
 have ry:=bE.dO aQ
 obtain⟨vL,vM⟩:=H.drew
 obtain⟨B,d,BT,new,yb,mS⟩:=x_ (P:=P) H ry eL Hg bb
 obtain⟨agQ,oD,Hh,Hi,BU,yc⟩:=x_ (P:=P) vL (vM.rep ry) eL Hg bb
 rw[BT] at Hh;cases Hh
 rw[BT] at yb BU
 have QS:(#[X,Y]:Array Operand).map a.eval= #[a.eval X,a.eval Y]:=by simp
 rw[QS,BT]
 have Hj:∀(A:Option Addr) (n eO:Nat),ys.length=0->n<=eO->
  (Builtin.append_ #[t,u] ty #[.slice A n eO,.slice B ys.length d]).run P w= .ok (.slice A n eO) w:=fun A n eO jL hle=>by
  have lY:new.toList= []:=List.eq_nil_of_length_eq_zero (by have:=mS.1;rw[jL,Nat.zero_mul] at this;simpa using this)
  rw[jL] at yb|-
  cases A<;>simp[Builtin.append_,run_underlying hu,run_underlying ya,run_sizeOf aw,Builtin.lenOf,hle,yb,lY,storeCells]
 split at he
 ·
  rename_i xs ex yd
  rw[yd] at rx
  split at he
  · rename_i jL
    cases he
    have mQ:=rx.qy
    generalize kq:a.eval X=jd at mQ rx
    cases mQ with
    | sl _ _ A eO _ _ hle _ _ _ _ _=>
      refine⟨σ,_,w,Hj A xs.length eO jL hle,⟨fun _ _ x=>x,fun _ _ ay=>⟨ay,rfl⟩,Below.refl _ _,fun _=>Nat.le_refl _⟩,H,rx,fun _ _=>rfl⟩
  split at he<;>try(cases he;done)
  rename_i je
  obtain⟨c7,c8,fo,j4⟩:=je
  cases he
  have QT:=x' j4
  obtain⟨A,eO,jf,lX,hold,Fold⟩:=x_ (P:=P) vL (vM.rep rx) (ys:=xs) rfl QT bb
  have Hd:eO=xs.length:=by
   have mQ:=rx.qy
   rw[jf] at mQ
   cases mQ with
   | sl _ _ _ _ _ _ _ h2=>exact h2 c7
  rw[jf] at hold|-
  obtain⟨rU,rest,bq,b',cY⟩:=Hc (P:=P) (w:=w) hu ya aw ad av A xs.length eO B ys.length d (by omega) bC c8 hold BU
  have BV:=Fold.append yc
  have vN:=vL.alloc aT (xs++ys) (lX++Hi++rest) e sz (fun i ab=>BV.cell rest i ab)
  refine⟨_,_,_,by simpa[Builtin.append_] using b',vM.trans vN.2,vN.1,?_,fun id bs=>by simp[ar,bs]⟩
  refine .ref r 0 _ _ _ rU w.heap.size sz (by simp[ar]) bq bq (fun _=>⟨by simp,?_⟩)
  rw[show w.heap.size=w.drew.heap.size from rfl,Bz]
  simp only[Array.size_append,Fold.1,yc.1,cY,Hf]
  rw[<-Nat.add_mul,<-Nat.add_mul]
  exact Nat.le_of_eq (by congr 1;omega)
 ·
  rename_i id off len cap yd
  split at he
  · rename_i jL
    cases he
    rw[yd] at rx
    obtain⟨A,eO,b,b5,jf,bJ,ch,ej,fV⟩:=rx.qz
    rw[jf] at rx|-
    exact ⟨σ,_,w,Hj A len eO jL ch,⟨fun _ _ x=>x,fun _ _ ay=>⟨ay,rfl⟩,Below.refl _ _,fun _=>Nat.le_refl _⟩,H,rx,fun _ _=>rfl⟩
  split at he<;>try(cases he;done)
  rename_i ye
  have ye:h.shut id=false:=by simpa using ye
  obtain⟨blk,nX,he⟩:=Option.bind_eq_some_iff.1 he
  split at he<;>try(cases he;done)
  rename_i je
  obtain⟨c7,c8,fo,j4⟩:=je
  rw[yd] at rx
  have Hk:=x' j4
  obtain⟨A,eO,b,b5,jf,bJ,ch,ej,fV⟩:=rx.qz
  obtain⟨j0,agR,arr,QU,f1,f2,f3⟩:=H.blk id blk nX
  rw[bJ] at f1;cases f1
  have Hl:0<blk.length->b5=sz:=fun aF=>by
   have:=(f3 0 aF).1
   have:=Hk _ (List.getElem_mem aF)
   omega
  have QV:f' w b=arr.size:=by unfold f';rw[f2]
  have stay:len+ys.length<=eO->b5=sz->
   (Builtin.append_ #[t,u] ty #[.slice A len eO,.slice B ys.length d]).run P w= .ok (.slice A (len+ys.length) eO) (w.setRow b (arr.toList.take (off*sz+len*sz)++new.toList++arr.toList.drop (off*sz+len*sz+new.toList.length)).toArray)/\
     off*sz+len*sz+new.toList.length<=arr.toList.length:=by
   intro hle ke
   subst ke
   obtain⟨rV,BW⟩:=fV (by omega)
   rw[QV] at BW
   have yf:new.toList.length=ys.length*b5:=by simp[mS.1]
   have pG:off*b5+len*b5+new.toList.length<=arr.toList.length:=by
    rw[yf]
    have:(off+(len+ys.length))*b5<=(off+eO)*b5:=Nat.mul_le_mul_right _ (by omega)
    rw[Nat.add_mul,Nat.add_mul] at this
    simp;omega
   refine⟨?_,pG⟩
   have ez:=run_storeCells_at (P:=P) b (off*b5+len*b5) QU new.toList 0 arr w f2 (by simp only[Nat.add_zero];simpa using pG) (mS.vB bb QR)
   simp only[Nat.add_zero] at ez
   have QW:(⟨b,off*b5,none⟩:Addr).add (len*b5)=⟨b,off*b5+len*b5,none⟩:=pF _ _ _
   subst rV
   simp[Builtin.append_,run_underlying hu,run_underlying ya,run_sizeOf aw,Builtin.lenOf,hle,yb,QW,ez]
  have BX:∀(ke:b5=sz),off*sz+len*sz+new.toList.length<=arr.toList.length->∀i (ab:i<blk.length) j (aA:j<sz),¬(off+len<=i/\i<off+len+ys.length)->
   ∃v,(arr.toList.take (off*sz+len*sz)++new.toList++arr.toList.drop (off*sz+len*sz+new.toList.length)).toArray[i*sz+j]? =some v/\a2 w (bn base okin σ h) σ (blk[i].cells[j]'(by rw[(f3 i ab).1,ke];exact aA)) v:=by
   intro ke pG i ab j aA yg
   subst ke
   obtain⟨v0,aq,au⟩:=(f3 i ab).2 j (by rw[(f3 i ab).1];exact aA)
   refine⟨v0,?_,au⟩
   have bB:=(Array.getElem?_eq_some_iff.1 aq).1
   have lC:=(Array.getElem?_eq_some_iff.1 aq).2
   have yf:new.toList.length=ys.length*b5:=by simp[mS.1]
   rw[List.getElem?_toArray,List.getElem?_eq_getElem (by simp at pG|-;omega),qA pG _ _ (by simpa using bB),dif_neg]
   · simpa using lC
   · rw[yf]
     rintro ⟨dS,gH⟩
     apply yg
     have aV:off*b5+len*b5=(off+len)*b5:=by rw[Nat.add_mul]
     have bR:off*b5+len*b5+ys.length*b5=(off+len+ys.length)*b5:=by rw[Nat.add_mul,Nat.add_mul]
     rw[aV] at dS
     rw[bR] at gH
     constructor
     · refine Nat.le_of_not_lt fun QX=>?_
       have:=oI QX aA;omega
     · refine Nat.lt_of_not_le fun QY=>?_
       have:(off+len+ys.length)*b5<=i*b5:=Nat.mul_le_mul_right _ QY
       omega
  have BY:off*sz+len*sz+new.toList.length<=arr.toList.length->∀i (ab:i<ys.length) j (aA:j<sz),
   ∃v,(arr.toList.take (off*sz+len*sz)++new.toList++arr.toList.drop (off*sz+len*sz+new.toList.length)).toArray[(off+len+i)*sz+j]? =some v/\a2 w (bn base okin σ h) σ (ys[i].cells[j]'(by rw[(mS.2 i ab).1];exact aA)) v:=by
   intro pG i ab j aA
   have yf:new.toList.length=ys.length*sz:=by simp[mS.1]
   have bB:=oI ab aA
   have aV:(off+len+i)*sz+j=off*sz+len*sz+(i*sz+j):=by rw[Nat.add_mul,Nat.add_mul];omega
   have lj:(off+len+i)*sz+j<arr.toList.length:=by omega
   rw[List.getElem?_toArray,List.getElem?_eq_getElem (by simp at pG lj|-;omega)]
   refine⟨_,rfl,?_⟩
   rw[qA pG _ _ lj,dif_pos (by omega)]
   have eS:(off+len+i)*sz+j -(off*sz+len*sz)=i*sz+j:=by omega
   have ag:i*sz+j<new.size:=by rw[mS.1];exact bB
   have:=(mS.2 i ab).2 j (by rw[(mS.2 i ab).1];exact aA) ag
   simpa[eS] using this
  have Hm:∀(o:Nat),o+new.toList.length<=arr.toList.length->arr.size<=(arr.toList.take o++new.toList++arr.toList.drop (o+new.toList.length)).toArray.size:=by
   intro o ay
   simp at ay|-;omega
  split at he
  ·
   rename_i BW
   split at he<;>try(cases he;done)
   rename_i He
   cases he
   have ke:=Hl (by omega)
   obtain⟨s1,s2⟩:=stay (by omega) ke
   rw[jf]
   have W:=H.write (blk':=blk.take (off+len)++ys++blk.drop (off+len+ys.length)) (arr':=(arr.toList.take (off*sz+len*sz)++new.toList++arr.toList.drop (off*sz+len*sz+new.toList.length)).toArray) nX ye bJ f2 (Hm _ s2) (fun i ab=>by
    have k9:off+len+ys.length<=blk.length:=by omega
    have bS:i<blk.length:=by simp at ab;omega
    have bG:=qA (cs:=blk) (vs:=ys) (off:=off+len) k9 i ab bS
    rw[bG]
    by_cases cK:off+len<=i/\i<off+len+ys.length
    · simp only[dif_pos cK]
      refine⟨by rw[ke];exact (mS.2 _ (by omega)).1,fun j aA=>?_⟩
      have kd:j<sz:=by have:=(mS.2 (i -(off+len)) (by omega)).1;omega
      obtain⟨v,lh,lT⟩:=BY s2 (i -(off+len)) (by omega) j kd
      have:off+len+(i -(off+len))=i:=by omega
      rw[this] at lh
      exact ⟨v,by rw[ke];exact lh,lT⟩
    · simp only[dif_neg cK]
      refine⟨(f3 i bS).1,fun j aA=>?_⟩
      obtain⟨v,lh,lT⟩:=BX ke s2 i bS j (by rw[<-ke,<-(f3 i bS).1];exact aA) cK
      exact ⟨v,by rw[ke];exact lh,lT⟩)
   refine⟨σ,_,_,s1,W.2,W.1,?_,fun _ _=>rfl⟩
   exact .ref id off _ cap A eO b b5 bJ (by omega) ej (fun gb=>⟨(fV gb).1,Nat.le_trans (fV gb).2 (W.2.grow b)⟩)
  · rename_i BW
    split at he<;>try(cases he;done)
    rename_i BZ
    cases he
    obtain⟨BZ,agS⟩:=BZ
    subst BZ
    have ke:=Hl (by omega)
    rw[jf]
    by_cases lj:len+ys.length<=eO
    ·
     obtain⟨s1,s2⟩:=stay lj ke
     simp only[Nat.zero_mul,Nat.zero_add] at s1 s2 BX BY
     have R:=H.rename (r:=r) (blk':=blk.take len++ys) (arr':=(arr.toList.take (len*sz)++new.toList++arr.toList.drop (len*sz+new.toList.length)).toArray) nX ye aT bJ f2 (Hm _ s2) (fun i ab=>by
      by_cases cK:i<len
      · have bG:(blk.take len++ys)[i]=blk[i]'(by omega):=by
         rw[List.getElem_append_left (by simp;omega)];simp
        rw[bG]
        refine⟨(f3 i (by omega)).1,fun j aA=>?_⟩
        obtain⟨v,lh,lT⟩:=BX ke s2 i (by omega) j (by rw[<-ke,<-(f3 i (by omega)).1];exact aA) (by omega)
        exact ⟨v,by rw[ke];exact lh,lT⟩
      · have pK:min len blk.length=len:=by omega
        have bS:i - len<ys.length:=by simp[pK] at ab;omega
        have bG:(blk.take len++ys)[i]=ys[i - len]:=by
         rw[List.getElem_append_right (by simp;omega)];simp[pK]
        rw[bG]
        refine⟨by rw[ke];exact (mS.2 _ bS).1,fun j aA=>?_⟩
        obtain⟨v,lh,lT⟩:=BY s2 (i - len) bS j (by rw[<-(mS.2 _ bS).1];exact aA)
        have:len+(i - len)=i:=by omega
        rw[this] at lh
        exact ⟨v,by rw[ke];exact lh,lT⟩)
     refine⟨_,_,_,s1,R.2,R.1,?_,fun fO bs=>by simp[ar,bs]⟩
     refine .ref r 0 _ _ A eO b b5 (by simp[ar]) lj lj (fun gb=>⟨(fV gb).1,Nat.le_trans (fV gb).2 (R.2.grow b)⟩)
    ·
     obtain⟨QZ,Hn⟩:=vL.kill id
     have nY:elems h (.ref id 0 len cap)=some (blk.take len):=by
      simp only[elems,nX];rw[if_pos c7];simp
     have Q0:a2 w (bn base okin σ h) σ (.ref id 0 len cap) (a.eval X):=rx
     have pL:(blk.take len).length=len:=by simp;omega
     obtain⟨agT,c',Ho,lX,hold,Fold⟩:=x_ (P:=P) vL (vM.rep Q0) nY (fun q aN=>Hk q (List.mem_of_mem_take aN)) bb
     rw[jf,pL] at Ho;cases Ho
     rw[jf,pL] at hold
     obtain⟨rU,rest,bq,b',cY⟩:=Hc (P:=P) (w:=w) hu ya aw ad av A len eO B ys.length d (by omega) bC c8 hold BU
     have BV:=Fold.append yc
     have vN:=QZ.alloc aT (blk.take len++ys) (lX++Hi++rest) e sz (fun i ab=>by
      obtain⟨dS,gH⟩:=BV.cell rest i ab
      refine⟨dS,fun j aA=>?_⟩
      obtain⟨v,y1,dT⟩:=gH j aA
      exact ⟨v,y1,Hn.rep dT⟩)
     refine⟨_,_,_,by simpa[Builtin.append_] using b',(vM.trans Hn).trans vN.2,vN.1,?_,fun fO bs=>by simp[ar,bs]⟩
     refine .ref r 0 _ _ _ rU w.heap.size sz (by simp[ar]) bq bq (fun _=>⟨by simp,?_⟩)
     rw[show w.heap.size=w.drew.heap.size from rfl,Bz]
     simp only[Array.size_append,Fold.1,yc.1,cY,Hf,pL]
     rw[<-Nat.add_mul,<-Nat.add_mul]
     exact Nat.le_of_eq (by congr 1;omega)
 · cases he
end
end Go.Eng
namespace Go.Eng
open Go Go.RowKit
section
variable {P:Program} {w:World} {σ:Nat->Option (Nat × Nat)}
theorem Hp {e:TypeId} {k:IntKind} (hu:P.underlying e=some (.int k)) (cs:Array Value) (i:Nat) (v:Value) (h:cs[i]? =some v):(part e cs i).run P w= .ok v w:=by
 have dr:mN P e=some false:=by simp[mN,hu]
 simp[part,vD dr,h]
theorem Hq:∀ {xs ys:List I} {b:Bool},e3 xs ys=some b->xs.length=ys.length/\
 ∀i (h:i<xs.length) (h':i<ys.length),∃k x y,xs[i]= .int k x/\ys[i]= .int k y
 | [],[],b,_=>⟨rfl,fun i h=>absurd h (by simp)⟩
 | .int k x::xs,.int k' y::ys,b,h=>by
   simp only[e3] at h
   split at h
   · rename_i ag
     subst ag
     obtain⟨r,U,_⟩:=Option.map_eq_some_iff.1 h
     obtain⟨l,q⟩:=Hq U
     refine⟨by simp[l],fun i ab bS=>?_⟩
     cases i with
     | zero=>exact ⟨k,x,y,rfl,rfl⟩
     | succ i=>exact q i (by simpa using ab) (by simpa using bS)
   · cases h
theorem Hr {e:TypeId} {gJ:IntKind} (hu:P.underlying e=some (.int gJ)) (d:Nat) (xs ys:Array Value):∀(l:List Nat),
 (∀i∈l,∃k x y,xs[i]? =some (.int k x)/\ys[i]? =some (.int k y))->
 (forIn l ((none,()):Option Bool × Unit) (fun i agU=>do
         let B0 <-part e xs (i*1)
         let Q1 <-part e ys (i*1)
         let B0 <-Op.equalIn (d+1) e B0 Q1
         if (!B0)=true then pure (ForInStep.done (some false,())) else pure (ForInStep.yield (none,()))):Sem (Option Bool × Unit)).run P w
   = .ok (if l.all (fun i=>match xs[i]?,ys[i]? with
       | some (.int _ x),some (.int _ y)=>x == y
       | _,_=>false) then (none,()) else (some false,())) w
 | [],_=>by simp
 | i::l,h=>by
   obtain⟨k,x,y,aq,au⟩:=h i (by simp)
   have a8:=Hr hu d xs ys l (fun j aA=>h j (by simp[aA]))
   rw[List.forIn_cons]
   have heq:(Op.equalIn (d+1) e (.int k x) (.int k y)).run P w= .ok (x == y) w:=by
    unfold Op.equalIn
    simp[run_underlying hu]
   simp only[Sem.run_bind,Nat.mul_one,Hp hu xs i _ aq,Hp hu ys i _ au,Result.andThen_ok,heq,List.all_cons,aq,au]
   by_cases lZ:x=y
   · subst lZ
     simp only[Nat.mul_one] at a8
     simp only[beq_self_eq_true,Bool.not_true,Bool.false_eq_true,if_false,Sem.run_pure,Result.andThen_ok,Bool.true_and]
     exact a8
   · have:(x == y)=false:=by simpa using lZ
     simp[this]
theorem Hs:∀ {xs ys:List I} {b:Bool} (vO vP:Nat->Option Value),e3 xs ys=some b->
 (∀i (h:i<xs.length) k x,xs[i]= .int k x->vO i=some (.int k x))->(∀i (h:i<ys.length) k y,ys[i]= .int k y->vP i=some (.int k y))->
 ((List.range' 0 xs.length).all fun i=>match vO i,vP i with
       | some (.int _ x),some (.int _ y)=>x == y
       | _,_=>false)=b
 | [],[],b,vO,vP,h,_,_=>by simp only[e3] at h;cases h;rfl
 | .int k x::xs,.int k' y::ys,b,vO,vP,h,ae,aQ=>by
   simp only[e3] at h
   split at h
   · rename_i ag
     subst ag
     obtain⟨r,U,h2⟩:=Option.map_eq_some_iff.1 h
     have a8:=Hs (fun i=>vO (i+1)) (fun i=>vP (i+1)) U (fun i ab k x cK=>ae (i+1) (by simpa using ab) k x (by simpa using cK)) (fun i ab k y cK=>aQ (i+1) (by simpa using ab) k y (by simpa using cK))
     have a0:=ae 0 (by simp) k x rfl
     have b0:=aQ 0 (by simp) k y rfl
     rw[<-h2,<-a8]
     simp only[List.length_cons,List.range'_succ,List.all_cons,a0,b0,Nat.zero_add]
     congr 1
     rw[<-List.map_add_range' (a:=1) (s:=0),List.all_map]
     congr 1
     funext i
     simp[Nat.add_comm]
   · cases h
theorem Q2 {ok:Nat->Prop} {t e:TypeId} {n:Nat} {gJ:IntKind} (aL:P.underlying t=some (.array n e)) (aw:iR P e=some 1) (hu:P.underlying e=some (.int gJ)) {xs ys:List I} {jd ju:Value}
 (ae:a2 w ok σ (.agg xs) jd) (aQ:a2 w ok σ (.agg ys) ju) {b:Bool} (ad:e3 xs ys=some b) (ak:xs.length=n):
 (Op.equal t jd ju).run P w= .ok b w/\∃lE nx,jd= .agg lE/\ju= .agg nx:=by
 obtain⟨lE,rfl,bH,bF⟩:=ae.tz
 obtain⟨nx,rfl,dR,dg⟩:=aQ.tz
 refine⟨?_,lE,nx,rfl,rfl⟩
 obtain⟨az,ag⟩:=Hq ad
 show (Op.equalIn (9999+1) t (.agg lE) (.agg nx)).run P w=_
 unfold Op.equalIn
 simp only[Sem.run_bind,run_underlying aL,Result.andThen_ok,run_sizeOf aw]
 rw[Std.Legacy.Range.forIn_eq_forIn_range']
 simp only[Std.Legacy.Range.size,Nat.sub_zero,Nat.add_sub_cancel,Nat.div_one]
 have L:=Hr (w:=w) hu 9998 lE nx (List.range' 0 n) (fun i ab=>by
  have bS:i<n:=by simpa using ab
  obtain⟨k,x,y,aq,au⟩:=ag i (by omega) (by omega)
  have a1:=bF i (by omega) (by omega)
  have eG:=dg i (by omega) (by omega)
  rw[aq] at a1;rw[au] at eG
  exact ⟨k,x,y,by rw[Array.getElem?_eq_getElem (by omega),a1.jt],by rw[Array.getElem?_eq_getElem (by omega),eG.jt]⟩)
 have A:=Hs (fun i=>lE[i]?) (fun i=>nx[i]?) ad
  (fun i ab k x cK=>by
    have a1:=bF i ab (by omega)
    rw[cK] at a1
    rw[Array.getElem?_eq_getElem (by omega),a1.jt])
  (fun i ab k y cK=>by
    have a1:=dg i ab (by omega)
    rw[cK] at a1
    rw[Array.getElem?_eq_getElem (by omega),a1.jt])
 rw[ak] at A
 simp only[A] at L
 simp only[L,Result.andThen_ok]
 cases b<;>simp
end
end Go.Eng
namespace Go.Eng
open Go Go.RowKit
section
variable {P:Program} {base:Nat} {okin:Nat->Prop} {σ:Nat->Option (Nat × Nat)} {h:ai} {w:World} {G:Nat->Option I} {F:Nat->I} {a:Act}
theorem Ht (ok:Nat->Prop):∀(xs:List I) (k:IntKind) (x:Int) (cs:List Value) (v:I),jI (fun a b=>if b<a then b else a) (.int k x::xs)=some v->
 xs.length=cs.length->(∀i (h:i<xs.length) (h':i<cs.length),a2 w ok σ xs[i] cs[i])->
 ∃cv,(cs.foldlM Builtin.min2 (.int k x):Sem Value).run P w= .ok cv w/\a2 w ok σ v cv
 | [],k,x,cs,v,h,az,_=>by
   have:cs= []:=List.eq_nil_of_length_eq_zero (by simpa using az.symm)
   subst this
   simp only[jI] at h;cases h
   exact ⟨.int k x,by simp,.val _ _ (.int _ _)⟩
 | y::xs,k,x,[],v,h,az,_=>by simp at az
 | y::xs,k,x,c::cs,v,h,az,aT=>by
   have r0:=aT 0 (by simp) (by simp)
   simp only[List.getElem_cons_zero] at r0
   cases y<;>simp only[jI] at h<;>try(cases h;done)
   rename_i k' y
   split at h<;>try(cases h;done)
   rename_i ag
   subst ag
   rw[r0.jt]
   obtain⟨cv,aq,au⟩:=Ht ok xs k (if y<x then y else x) cs v h (by simpa using az) (fun i ab bS=>by
    have:=aT (i+1) (by simp;omega) (by simp;omega)
    simpa using this)
   exact ⟨cv,by simpa[List.foldlM_cons,Builtin.min2] using aq,au⟩
theorem Hu (ok:Nat->Prop):∀(xs:List I) (k:IntKind) (x:Int) (cs:List Value) (v:I),jI (fun a b=>if a<b then b else a) (.int k x::xs)=some v->
 xs.length=cs.length->(∀i (h:i<xs.length) (h':i<cs.length),a2 w ok σ xs[i] cs[i])->
 ∃cv,(cs.foldlM Builtin.max2 (.int k x):Sem Value).run P w= .ok cv w/\a2 w ok σ v cv
 | [],k,x,cs,v,h,az,_=>by
   have:cs= []:=List.eq_nil_of_length_eq_zero (by simpa using az.symm)
   subst this
   simp only[jI] at h;cases h
   exact ⟨.int k x,by simp,.val _ _ (.int _ _)⟩
 | y::xs,k,x,[],v,h,az,_=>by simp at az
 | y::xs,k,x,c::cs,v,h,az,aT=>by
   have r0:=aT 0 (by simp) (by simp)
   simp only[List.getElem_cons_zero] at r0
   cases y<;>simp only[jI] at h<;>try(cases h;done)
   rename_i k' y
   split at h<;>try(cases h;done)
   rename_i ag
   subst ag
   rw[r0.jt]
   obtain⟨cv,aq,au⟩:=Hu ok xs k (if x<y then y else x) cs v h (by simpa using az) (fun i ab bS=>by
    have:=aT (i+1) (by simp;omega) (by simp;omega)
    simpa using this)
   exact ⟨cv,by simpa[List.foldlM_cons,Builtin.max2] using aq,au⟩
theorem Hv {f:Field} {sz:Nat} (aw:iR P f.type=some sz) (aF:sz≠0) (cm:Addr):(fieldPlace cm f).run P w= .ok (cm.add f.offset) w:=by
 simp[fieldPlace,run_sizeOf aw,aF]
theorem Hw {ok:Nat->Prop} {v:I} {cm:Addr} {d_:Nat->Value} (bJ:∀j,j<v.cells.length->ok cm.block/\w.cell? (cm.add j)=some (d_ j)) (ch:∀j (h:j<v.cells.length),dh w ok (v.cells[j]) (d_ j))
 {off sz:Nat} {bQ:Bool} {cs:List I} {u:I} (J:cut v.cells off sz=some cs) (aE:partOf bQ cs=some u):a2 w ok σ (.eJ u) (.pointer (some (cm.add off))):=by
 obtain⟨bY,bP,cr⟩:=tA J
 have Q3:∀j,j<cs.length->ok (cm.add off).block/\w.cell? ((cm.add off).add j)=some (d_ (off+j)):=by
  intro j aA
  obtain⟨jJ,dj⟩:=bJ (off+j) (by omega)
  refine⟨by rw[Addr.qw];exact jJ,?_⟩
  have Q4:cm.spot=none\/0<off+j:=by
   by_cases aF:0<off+j
   · exact .inr aF
   · have pM:off+j=0:=by omega
     rw[pM] at dj
     refine .inl ?_
     cases aw:cm.spot with
     | none=>rfl
     | some s=>
       have e:cm.add 0=cm:=by unfold Addr.add;simp
       rw[e] at dj
       unfold World.cell? at dj
       simp only[aw,Option.isSome_some,if_true] at dj
       split at dj<;>cases dj
  rw[add_add _ _ _ Q4];exact dj
 have hu:u.cells=cs:=by
  rcases BC aE with⟨rfl,rfl⟩|⟨rfl,rfl,aw⟩
  · rfl
  · cases u<;>first|rfl|simp[I.cb] at aw
 refine .eJ u _ (fun j=>d_ (off+j)) (fun j aA=>Q3 j (by rw[<-hu];exact aA)) (fun j aA=>?_)
 have kd:j<cs.length:=by rw[<-hu];exact aA
 have e:u.cells[j]=v.cells[off+j]'(by omega):=by
  have:=cr j kd (by omega)
  simp only[hu];exact this
 rw[e];exact ch _ _
theorem yh {x:Sem Next} {s:Sem Value} (ae:x=(do pure (.value (<-s)))) {cv:Value} {aO:World} (e:s.run P w= .ok cv aO):x.run P w= .ok (.value cv) aO:=by
 rw[ae];simp[e]
theorem cz.sized (H:cz base okin σ h w) {id b sz s:Nat} (aw:σ id=some (b,sz)) (ad:sizedB s (h.cells id)=true):sz=s:=by
 cases J:h.cells id with
 | none=>rw[J] at ad;cases ad
 | some blk=>
   rw[J] at ad
   simp only[sizedB,Bool.and_eq_true,decide_eq_true_eq] at ad
   obtain⟨j0,fw,arr,ty,aq,_,aV⟩:=H.blk id blk J
   rw[aw] at aq;cases aq
   have U:=(aV 0 ad.1).1
   have h2:=x' ad.2 _ (List.getElem_mem ad.1)
   omega
theorem Q5 {v:Value} (h:qv v=some (.sl [] true)):v= .slice none 0 0:=by
 unfold qv at h
 split at h
 · obtain⟨as,_,e⟩:=Option.map_eq_some_iff.1 h;cases e
 · unfold qu at h
   split at h<;>first|rfl|cases h
theorem Q6 {op:BinOp} {t e:TypeId} {x y:Operand} {A:Option Addr} {l c:Nat} (hu:P.underlying t=some (.slice e)) (a4:A.isSome=true) (neg:Bool) (ay:op=if neg then .neq else .eql):
 (do eqGuard op t x y (.slice A l c) (.slice none 0 0);binOp op t (.slice A l c) (.slice none 0 0):Sem Value).run P w= .ok (.bool neg) w:=by
 obtain⟨cm,rfl⟩:=Option.isSome_iff_exists.1 a4
 have aq:(Op.equal t (.slice (some cm) l c) (.slice none 0 0)).run P w= .ok false w:=by
  unfold Op.equal Op.maxDepth Op.equalIn
  simp[run_underlying hu]
 cases neg
 · simp only[Bool.false_eq_true,if_false] at ay
   subst ay
   have au:(binOp .eql t (.slice (some cm) l c) (.slice none 0 0)).run P w= .ok (.bool false) w:=by
    show (do pure (.bool (<-Op.equal t (.slice (some cm) l c) (.slice none 0 0))):Sem Value).run P w=_
    simp[aq]
   simp[eqGuard,au]
 · simp only[if_true] at ay
   subst ay
   have au:(binOp .neq t (.slice (some cm) l c) (.slice none 0 0)).run P w= .ok (.bool true) w:=by
    show (do pure (.bool !(<-Op.equal t (.slice (some cm) l c) (.slice none 0 0))):Sem Value).run P w=_
    simp[aq]
   simp[eqGuard,au]
theorem Hx (H:cz base okin σ h w) (bE:j3 G (bn base okin σ h) σ w F a) {aZ r:Nat} {o:Oper} {op:BinOp} {t e Hy:TypeId} {x y:Operand} {kn:aR} (cA:o.op= .binOp op t x y Hy) (hu:P.underlying t=some (.slice e)) (U:dV x=some kn) (h2:dV y=some (.c (.sl [] true)))
 (neg:Bool) (ay:op=if neg then .neq else .eql) {v:I} {h':ai} {c:dN} (he:evalOp aZ r (aR.ev G F) h (.isnil neg kn)=some (v,h',c)):tB base okin σ h w r v h' ((execOp a.eval o).run P w):=by
 have aQ:a.eval y= .slice none 0 0:=by
  cases y with
  | const k=>
    obtain⟨z,av,e⟩:=Option.map_eq_some_iff.1 h2
    cases e
    exact Q5 av
  | _=>cases h2
 have rx:=bE.dO U
 have fin:∀A l eO,a.eval x= .slice A l eO->A.isSome=true->tB base okin σ h w r (.bool neg) h ((execOp a.eval o).run P w):=by
  intro A l eO ex a4
  have au:=Q6 (P:=P) (w:=w) (x:=x) (y:=y) (l:=l) (c:=eO) hu a4 neg ay
  rw[<-ex,<-aQ] at au
  exact .pure H (cv:= .bool neg) (yh (by simp only[execOp,cA]) au) (.val _ _ (.bool _))
 simp only[evalOp] at he
 split at he<;>try(cases he;done)
 · rename_i xs ex al
   split at he<;>try(cases he;done)
   rename_i rW
   cases he
   rw[al] at rx
   have aT:=rx.qy
   generalize kq:a.eval x=jd at aT
   cases aT with
   | sl _ _ A c _ _ _ _ _ _ ck _=>exact fin _ _ _ kq (ck rW)
 · rename_i id off len cap al
   split at he<;>try(cases he;done)
   rename_i rW
   cases he
   rw[al] at rx
   obtain⟨A,c,b,sz,jf,_,bH,Q7,dR⟩:=rx.qz
   obtain⟨rfl,_⟩:=dR (by omega)
   exact fin _ _ _ jf rfl
theorem Hz:∀(m:List (Int × FuncId)) (n:Int) (es:List MapEntry) (i:Nat),es.length=m.length->(∀j (h:j<m.length) (h':j<es.length),es[j].key= .int .i64 m[j].1/\es[j].val= .func (.func m[j].2) #[] #[])->
 ∃r,Instr.findNow (.int .i64) (.int .i64 n) es i=some r/\r.map (·.2)=(m.lookup n).map fun f=>Value.func (.func f) #[] #[]
 | [],n,[],i,_,_=>⟨none,rfl,rfl⟩
 | (k,f)::m,n,e::es,i,az,ae=>by
   obtain⟨aq,au⟩:=ae 0 (by simp) (by simp)
   simp only[List.getElem_cons_zero] at aq au
   unfold Instr.findNow
   rw[aq]
   by_cases ag:n=k
   · subst ag
     refine⟨some (i,e.val),by simp[Instr.sameNow],by simp[au]⟩
   · obtain⟨r,U,h2⟩:=Hz m n es (i+1) (by simpa using az) (fun j h h'=>by have:=ae (j+1) (by simp;omega) (by simp;omega);simp only[List.getElem_cons_succ] at this;exact this)
     have ad:(n == k)=false:=by simpa using ag
     refine⟨r,by simp[Instr.sameNow,ad,U],?_⟩
     rw[h2,List.lookup_cons]
     simp[ad]
 | [],_,_::_,_,az,_=>by simp at az
 | _::_,_,[],_,az,_=>by simp at az
theorem Q8 (H:cz base okin σ h w) (bE:j3 G (bn base okin σ h) σ w F a) {aZ r:Nat} (aT:σ r=none) (o:Oper) {lU:jZ} (J:fv P o.op=some lU)
 {v:I} {h':ai} {c:dN} (he:evalOp aZ r (aR.ev G F) h lU=some (v,h',c)):
 tB base okin σ h w r v h' ((execOp a.eval o).run P w):=by
 cases cA:o.op<;>rw[cA] at J<;>try(simp only[fv] at J;cases J;done)
 case panic x=>
  simp only[fv] at J;cases J
  simp only[evalOp,aR.ev] at he;cases he
 case move x=>
  obtain⟨y,aQ,rfl⟩:=Option.map_eq_some_iff.1 J
  simp only[evalOp] at he;cases he
  exact .pure H (by simp[execOp,cA]) (bE.dO aQ)
 case assign x=>
  obtain⟨y,aQ,rfl⟩:=Option.map_eq_some_iff.1 J
  simp only[evalOp] at he;cases he
  exact .pure H (by simp[execOp,cA]) (bE.dO aQ)
 case pick eO x y=>
  simp only[fv] at J
  split at J<;>try(cases J;done)
  rename_i c' kn oF U h2 aB
  cases J
  simp only[evalOp] at he
  split at he<;>try(cases he;done)
  rename_i t aL
  cases he
  have ad:=bE.dO U
  rw[aL] at ad
  refine .pure H (cv:=if t then a.eval x else a.eval y) (by simp[execOp,cA,ad.qx,asBool]) ?_
  cases t
  · exact bE.dO aB
  · exact bE.dO h2
 case alloc e=>
  obtain⟨z,av,rfl⟩:=Option.map_eq_some_iff.1 J
  simp only[evalOp] at he;cases he
  obtain⟨ao,dS,gH,x9,Q9,_⟩:=tH (P:=P) (w:=w) (σ:=σ) (ok:=bn base okin σ h) av
  obtain⟨bc,aO,aq,au,aV,bR,eS⟩:=G9 (P:=P) H aT (t:=e) (a2.val _ _ Q9) x9
  exact ⟨bc,_,aO,.inl (by simp[execOp,cA,Instr.alloc,dS,aq]),au,aV,bR,eS⟩
 case box e x=>
  obtain⟨y,aQ,rfl⟩:=Option.map_eq_some_iff.1 J
  simp only[evalOp] at he
  split at he<;>try(cases he;done)
  rename_i aw
  cases he
  obtain⟨bc,aO,aq,au,aV,bR,eS⟩:=G9 (P:=P) H aT (t:=e) (bE.dO aQ) aw
  exact ⟨bc,_,aO,.inl (by simp[execOp,cA,Instr.box,aq]),au,aV,bR,eS⟩
 case build t ps=>
  obtain⟨rfl,cv,aq,au⟩:=Qz bE J he
  exact .pure H (by simp[execOp,cA] at aq|-;simp[aq]) au
 case buildSlice t n ps=>
  obtain⟨rfl,cv,aO,aq,au,aV,bR⟩:=QF H bE J he
  exact ⟨σ,cv,aO,.inl (by simp[execOp,cA] at aq|-;simp[aq]),au,aV,bR,fun _ _=>rfl⟩
 case load t x=>
  simp only[fv] at J
  split at J<;>try(cases J;done)
  rename_i bQ s y U h2 aB
  split at J<;>try(cases J;done)
  rename_i aS
  cases J
  obtain⟨rfl,cv,aq,au⟩:=Qo (P:=P) H U h2 aS (bE.dO aB) he
  exact .pure H (by simp[execOp,cA,aq]) au
 case store t x y=>
  simp only[fv] at J
  split at J<;>try(cases J;done)
  rename_i s kn oF U h2 aB
  cases J
  obtain⟨rfl,aO,aq,au,aV⟩:=Qp (P:=P) H U (bE.dO h2) (bE.dO aB) he
  exact ⟨σ,undef,aO,.inr ⟨by simp[execOp,cA,aq],rfl⟩,au,aV,.undef _,fun _ _=>rfl⟩
 case binOp op t x y Hy=>
  simp only[fv] at J
  split at J<;>try(cases J;done)
  rename_i kn oF U h2
  split at J<;>try(cases J;done)
  · cases J
    simp only[evalOp] at he
    obtain⟨u,al,he⟩:=Option.map_eq_some_iff.1 he
    cases he
    obtain⟨cv,aq,au⟩:=BJ (P:=P) 0 op t x y (bE.dO U) (bE.dO h2) al (fun e=>absurd e (by decide))
    exact .pure H (yh (by simp only[execOp,cA]) aq) au
  · rename_i hu
    cases J
    simp only[evalOp] at he
    obtain⟨u,al,he⟩:=Option.map_eq_some_iff.1 he
    cases he
    obtain⟨cv,aq,au⟩:=BJ (P:=P) 1 op t x y (bE.dO U) (bE.dO h2) al (fun _=>hu)
    exact .pure H (yh (by simp only[execOp,cA]) aq) au
  · cases J
    simp only[evalOp] at he
    obtain⟨u,al,he⟩:=Option.map_eq_some_iff.1 he
    cases he
    obtain⟨cv,aq,au⟩:=BJ (P:=P) 2 op t x y (bE.dO U) (bE.dO h2) al (fun e=>absurd e (by decide))
    exact .pure H (yh (by simp only[execOp,cA]) aq) au
  · rename_i n e hu
    split at J<;>try(cases J;done)
    rename_i k HA oH
    have Q_:∃d,P.depth=d+1+1:=⟨2*(P.types.size+Made.depth),rfl⟩
    have Q':P.eqGuardType P.depth t=false:=by
     obtain⟨d,a3⟩:=Q_
     rw[a3]
     simp[Program.eqGuardType,hu,HA]
    have main:∀neg,jZ.eqA neg n kn oF=lU->(op=if neg then .neq else .eql)->tB base okin σ h w r v h' ((execOp a.eval o).run P w):=by
     rintro neg rfl yi
     simp only[evalOp] at he
     split at he<;>try(cases he;done)
     rename_i xs ys ae aQ
     split at he<;>try(cases he;done)
     rename_i ak
     obtain⟨b,ad,he⟩:=Option.map_eq_some_iff.1 he
     cases he
     have rx:=bE.dO U
     have ry:=bE.dO h2
     rw[ae] at rx;rw[aQ] at ry
     obtain⟨aq,lE,nx,ex,oJ⟩:=Q2 (P:=P) hu oH HA rx ry ad ak
     rw[ex,oJ] at aq
     have aW:=run_eqGuard_agg w op t x y lE nx Q'
     refine .pure H (cv:= .bool (b != neg)) ?_ (.val _ _ (.bool _))
     cases neg
     · simp only[Bool.false_eq_true,if_false] at yi
       subst yi
       have au:(binOp .eql t (.agg lE) (.agg nx)).run P w= .ok (.bool b) w:=by
        show (do pure (.bool (<-Op.equal t (.agg lE) (.agg nx))):Sem Value).run P w=_
        simp[aq]
       simp[execOp,cA,ex,oJ,aW,au]
     · simp only[if_true] at yi
       subst yi
       have au:(binOp .neq t (.agg lE) (.agg nx)).run P w= .ok (.bool !b) w:=by
        show (do pure (.bool !(<-Op.equal t (.agg lE) (.agg nx))):Sem Value).run P w=_
        simp[aq]
       simp[execOp,cA,ex,oJ,aW,au]
    split at J
    · rename_i ay
      cases J
      exact main false rfl (by simpa using ay)
    · split at J<;>try(cases J;done)
      rename_i ay
      cases J
      exact main true rfl (by simpa using ay)
  · rename_i e hu
    split at J<;>try(cases J;done)
    split at J
    · rename_i ay
      cases J
      exact Hx H bE cA hu U h2 false (by simpa using ay) he
    · split at J<;>try(cases J;done)
      rename_i ay
      cases J
      exact Hx H bE cA hu U h2 true (by simpa using ay) he
 case lookup t x i ok=>
  cases ok with
  | false=>simp only[fv] at J;cases J
  | true=>
    simp only[fv] at J
    split at J<;>try(cases J;done)
    rename_i k e hu
    split at J<;>try(cases J;done)
    rename_i kn gG ag av U h2
    cases J
    simp only[evalOp] at he
    split at he<;>try(cases he;done)
    rename_i m n ae ab
    cases he
    have rx:=bE.dO U
    have oK:=bE.dO h2
    rw[ae] at rx;rw[ab] at oK
    have eU:=rx.GP
    generalize kq:a.eval x=jd at eU
    cases eU with
    | mp _ HB es clock jJ dj nZ vQ=>
      obtain⟨ao,dS,gH,_⟩:=GZ (w:=w) av
      have Ra:ao= .nilFunc:=by
       unfold qv at gH
       split at gH
       · obtain⟨as,_,e⟩:=Option.map_eq_some_iff.1 gH;cases e
       · unfold qu at gH
         split at gH<;>first|rfl|cases gH
      subst Ra
      obtain⟨q,f1,f2⟩:=Hz m n es.toList 0 (by simpa using nZ) (fun j h h'=>by simpa using vQ j h (by simpa using h'))
      have HC:=MapKept.run_checkKey (w:=w) ag (k:= .int .i64 n) (by simp[MapKept.IsKey]) es.isEmpty 9999
      have HD:=MapKept.run_findKey (w:=w) ag f1
      have rX:=MapKept.run_getObj_map (P:=P) dj
      cases aN:m.lookup n with
      | none=>
        rw[aN] at f2
        have qE:q=none:=by simpa using f2
        subst qE
        refine .pure H (cv:= .tuple #[.nilFunc,.bool false]) ?_ (.bL _ _ rfl fun i ab bS=>?_)
        · simp[execOp,cA,Instr.lookup,run_underlying hu,kq,oK.jt,rX,HC,HD,dS]
        · match i,ab with
          | 0,_=>exact .val _ _ .nilfn
          | 1,_=>exact .val _ _ (.bool _)
      | some f=>
        rw[aN] at f2
        obtain⟨⟨agV,agW⟩,rfl,f3⟩:=Option.map_eq_some_iff.1 f2
        simp only at f3
        subst f3
        refine .pure H (cv:= .tuple #[.func (.func f) #[] #[],.bool true]) ?_ (.bL _ _ rfl fun i ab bS=>?_)
        · simp[execOp,cA,Instr.lookup,run_underlying hu,kq,oK.jt,rX,HC,HD]
        · match i,ab with
          | 0,_=>exact .fn f [] [] #[] #[] rfl rfl (fun i h=>absurd h (by simp)) (fun i h=>absurd h (by simp))
          | 1,_=>exact .val _ _ (.bool _)
 case unOp op t x=>
  obtain⟨y,aQ,rfl⟩:=Option.map_eq_some_iff.1 J
  simp only[evalOp] at he
  obtain⟨u,al,he⟩:=Option.map_eq_some_iff.1 he
  cases he
  obtain⟨cv,aq,au⟩:=Qv (P:=P) op (bE.dO aQ) al
  exact .pure H (by simp[execOp,cA,aq]) au
 case convert s d x=>
  simp only[fv] at J
  split at J<;>try(cases J;done)
  rename_i vR k y U h2 aB
  cases J
  simp only[evalOp] at he
  split at he<;>try(cases he;done)
  rename_i k' n ae
  cases he
  have rx:=bE.dO aB
  rw[ae] at rx
  refine .pure H (cv:= .int k (k.wrap n)) ?_ (.val _ _ (.int _ _))
  simp[execOp,cA,rx.jt,convert,run_underlying U,run_underlying h2,Conv.intToInt]
 case makeFunc f first caps=>
  cases f with
  | func f=>
    simp only[fv] at J
    split at J<;>try(cases J;done)
    rename_i x y U h2
    cases J
    simp only[evalOp] at he;cases he
    obtain⟨bH,bF⟩:=rQ bE U
    obtain⟨dR,dg⟩:=rQ bE h2
    refine .pure H (cv:= .func (.func f) (first.map a.eval) (caps.map a.eval)) (by simp[execOp,cA,Instr.makeFunc]) ?_
    refine .fn f _ _ _ _ (by simp[bH]) (by simp[dR]) (fun i ab bS=>?_) (fun i ab bS=>?_)
    · have q:=bF i (by simpa using ab) (by simpa using bS)
      rw[Array.getElem_toList] at q
      simpa using q
    · have q:=dg i (by simpa using ab) (by simpa using bS)
      rw[Array.getElem_toList] at q
      simpa using q
  | _=>simp only[fv] at J;cases J
 case makeSlice t x y=>
  obtain⟨bc,cv,aO,aq,au,aV,bR,eS⟩:=QH H bE aT J he
  exact ⟨bc,cv,aO,.inl (by simp[execOp,cA,aq]),au,aV,bR,eS⟩
 case slice t x cj ab jq=>
  simp only[fv] at J
  split at J<;>try(cases J;done)
  rename_i e hu
  split at J<;>try(cases J;done)
  rename_i s y tE bS ko U h2 aB aS ck
  split at J<;>try(cases J;done)
  rename_i tF
  have tF:(ko.isSome&&bS.isNone)=false:=by simpa only[Bool.not_eq_true] using tF
  cases J
  have rx:=bE.dO h2
  simp only[evalOp] at he
  split at he
  · rename_i id off len cap ae
    rw[ae] at rx
    split at he<;>try(cases he;done)
    rename_i l u m b1 dW kO
    split at he<;>try(cases he;done)
    rename_i aN
    obtain⟨c7,c8,fo,j4⟩:=aN
    cases he
    obtain⟨A,c,b,sz,jf,bJ,ch,ej,fV⟩:=rx.qz
    have B:=G4 (P:=P) bE aB aS ck tF len cap c ej (fun _=>ch) b1 dW kO c7 c8 fo true
    have Rb:m<=if ko.isSome then m else c:=by split<;>omega
    have agX:(if ko.isSome then m else c)<=c:=by split<;>omega
    refine .pure H (cv:= .slice (if (if ko.isSome then m else c)=l then A else A.map (·.add (l*s))) (u - l) ((if ko.isSome then m else c) - l)) ?_ ?_
    · simp only[execOp,cA,Instr.sliceAt,Instr.slice,Sem.run_bind,run_underlying hu,Result.andThen_ok,jf,B,run_sizeOf U]
      simp
    · refine .ref id (off+l) (u - l) (m - l) _ _ b sz bJ (by omega) (by omega) (fun rW=>?_)
      obtain⟨rfl,n0⟩:=fV (by omega)
      rw[if_neg (by omega)]
      refine⟨?_,Nat.le_trans (Nat.mul_le_mul_right _ (by omega)) n0⟩
      rcases j4 with rfl|j4
      · simp[Addr.add]
      · have:=H.sized bJ j4
        subst this
        simp[pF,Nat.add_mul]
  · rename_i xs ex ae
    rw[ae] at rx
    split at he<;>try(cases he;done)
    rename_i l u m b1 dW kO
    split at he<;>try(cases he;done)
    rename_i aN
    obtain⟨c7,c8,fo,j4⟩:=aN
    cases he
    have aT:=rx.qy
    generalize kq:a.eval x=jd at aT rx
    cases aT with
    | sl _ _ A c fw d_ bq b' cY l0 kf mj=>
      have B:=G4 (P:=P) bE aB aS ck tF xs.length xs.length c bq (fun _=>bq) b1 dW kO c7 c8 fo true
      have Rb:m<=if ko.isSome then m else c:=by split<;>omega
      have hlen:((xs.drop l).take (u - l)).length=u - l:=by simp;omega
      refine .pure H (cv:= .slice (if (if ko.isSome then m else c)=l then A else A.map (·.add (l*s))) (u - l) ((if ko.isSome then m else c) - l)) ?_ ?_
      · simp only[execOp,cA,Instr.sliceAt,Instr.slice,Sem.run_bind,run_underlying hu,Result.andThen_ok,kq,B,run_sizeOf U]
        simp
      · refine .val _ _ ?_
        have kN:∀i (ab:i<u - l),((xs.drop l).take (u - l))[i]'(by rw[hlen];exact ab)=xs[l+i]'(by omega):=by intro i ab;simp
        have R:=dh.sl (w:=w) (ok:=bn base okin σ h) ((xs.drop l).take (u - l)) ((ko.isSome||ex)&&m == u) (if (if ko.isSome then m else c)=l then A else A.map (·.add (l*s))) ((if ko.isSome then m else c) - l) fw (fun i j=>d_ (l+i) j)
         (by rw[hlen];omega) (fun hex=>by
           rw[hlen]
           simp only[Bool.and_eq_true,Bool.or_eq_true,beq_iff_eq] at hex
           obtain⟨ep,rfl⟩:=hex
           rcases ep with ep|ep
           · rw[if_pos ep]
           · have J:=b' ep
             by_cases hm:ko.isSome=true
             · rw[if_pos hm]
             · rw[if_neg hm]
               have oL:ko=none:=by cases ko<;>simp_all
               have:m=xs.length:=by rw[oL] at kO;cases kO;rfl
               omega)
         (fun i ab=>by rw[kN i (by rw[hlen] at ab;exact ab)];exact cY _ _)
         (fun i j ab aA=>by
           rw[hlen] at ab
           obtain⟨cm,aq,au,aV⟩:=l0 (l+i) j (by omega) aA
           rw[if_neg (by omega),aq]
           rcases j4 with rfl|j4
           · refine⟨cm,by simp[Addr.add],au,?_⟩
             simpa using aV
           · have nw:fw=s:=by
              have rY:=cY (l+i) (by omega)
              have agY:=x' j4 _ (List.getElem_mem (show l+i<xs.length by omega))
              omega
             subst nw
             refine⟨cm.add (l*fw),rfl,by rw[Addr.qw];exact au,?_⟩
             rw[add_add]
             · rw[<-Nat.add_assoc,<-Nat.add_mul];exact aV
             · by_cases aF:0<l*fw+(i*fw+j)
               · exact .inr aF
               · have pM:(l+i)*fw+j=0:=by rw[Nat.add_mul];omega
                 rw[pM] at aV
                 refine .inl ?_
                 cases aw:cm.spot with
                 | none=>rfl
                 | some sp=>
                   have e:cm.add 0=cm:=by unfold Addr.add;simp
                   rw[e] at aV
                   unfold World.cell? at aV
                   simp only[aw,Option.isSome_some,if_true] at aV
                   split at aV<;>cases aV)
         (fun rW=>by
           rw[hlen] at rW
           rw[if_neg (by omega)]
           have:=kf (by omega)
           simpa using this)
         (fun i ab j aA=>by
           rw[hlen] at ab
           have:=kN i ab
           simp only[this]
           exact mj _ _ j _)
        rw[hlen] at R
        exact R
  · cases he
 case fieldAddr s x f=>
  simp only[fv] at J
  split at J<;>try(cases J;done)
  rename_i b2 hu
  split at J<;>try(cases J;done)
  rename_i fd yj
  split at J<;>try(cases J;done)
  rename_i bQ sz y U h2 aB
  split at J<;>try(cases J;done)
  rename_i aS
  cases J
  have rx:=bE.dO aB
  simp only[evalOp] at he
  split at he
  · rename_i u ae
    rw[ae] at rx
    obtain⟨cm,d_,jf,bJ,ch⟩:=rx.x5
    obtain⟨cs,oM,he⟩:=Option.bind_eq_some_iff.1 he
    obtain⟨p,aE,he⟩:=Option.map_eq_some_iff.1 he
    cases he
    refine .pure H (cv:= .pointer (some (cm.add fd.offset))) ?_ (Hw bJ ch oM aE)
    simp[execOp,cA,Instr.fieldAt,run_underlying hu,yj,jf,Instr.sureAddr,Hv h2 aS]
  · rename_i id idx cC ae
    rw[ae] at rx
    cases he
    obtain⟨b,b5,jf,bJ⟩:=rx.vA
    have:=a2.ptr (w:=w) (ok:=bn base okin σ h) (σ:=σ) id idx (cC+fd.offset) b b5 bJ
    refine .pure H ?_ this
    simp[execOp,cA,Instr.fieldAt,run_underlying hu,yj,jf,Instr.sureAddr,Hv h2 aS,pF,Nat.add_assoc]
  · cases he
 case field s x f=>
  simp only[fv] at J
  split at J<;>try(cases J;done)
  rename_i b2 hu
  split at J<;>try(cases J;done)
  rename_i fd yj
  split at J<;>try(cases J;done)
  rename_i bQ sz y U h2 aB
  split at J<;>try(cases J;done)
  rename_i aS
  cases J
  simp only[evalOp] at he
  split at he<;>try(cases he;done)
  rename_i cs ae
  obtain⟨jr,oM,he⟩:=Option.bind_eq_some_iff.1 he
  obtain⟨u,aE,he⟩:=Option.map_eq_some_iff.1 he
  cases he
  have rx:=bE.dO aB
  rw[ae] at rx
  obtain⟨vs,ev,bH,bF⟩:=rx.tz
  obtain⟨cv,aq,au⟩:=G2 (P:=P) U h2 aS bH bF oM aE
  exact .pure H (by simp[execOp,cA,Instr.field,run_underlying hu,yj,ev,asAgg,aq]) au
 case indexAddr t x i=>
  simp only[fv] at J
  split at J<;>try(cases J;done)
  · rename_i e hu
    split at J<;>try(cases J;done)
    rename_i s y j U h2 aB
    cases J
    have rx:=bE.dO h2
    have jv:=bE.dO aB
    simp only[evalOp] at he
    split at he
    · rename_i xs ex k n ae aA
      rw[ae] at rx;rw[aA] at jv
      split at he<;>try(cases he;done)
      rename_i ak
      obtain⟨el,kN,he⟩:=Option.bind_eq_some_iff.1 he
      split at he<;>try(cases he;done)
      rename_i cW
      cases he
      obtain⟨ab,rfl⟩:=List.getElem?_eq_some_iff.1 kN
      have aT:=rx.qy
      generalize kq:a.eval x=jd at aT rx
      cases aT with
      | sl _ _ A c fw d_ bq b' cY l0 kf mj=>
        have a4:=kf (by omega)
        obtain⟨cm,rfl⟩:=Option.isSome_iff_exists.1 a4
        have es:fw=s:=by have:=cY _ ab;omega
        subst es
        have bB:n<(xs.length:Int):=by omega
        refine .pure H (cv:= .pointer (some (cm.add (n.toNat*fw)))) ?_ ?_
        · simp[execOp,cA,Instr.indexAt,jv.jt,asIntOf,run_underlying hu,kq,ak,bB,run_sizeOf U]
        · refine .eJ _ _ (fun mT=>d_ n.toNat mT) (fun mT HE=>?_) (fun mT HE=>mj _ ab mT HE)
          obtain⟨QM,aq,au,aV⟩:=l0 n.toNat mT ab (by omega)
          cases aq
          refine⟨by rw[Addr.qw];exact au,?_⟩
          rw[add_add]
          · exact aV
          · by_cases aF:0<n.toNat*fw+mT
            · exact .inr aF
            · have pM:n.toNat*fw+mT=0:=by omega
              rw[pM] at aV
              refine .inl ?_
              cases aw:cm.spot with
              | none=>rfl
              | some sp=>
                have e:cm.add 0=cm:=by unfold Addr.add;simp
                rw[e] at aV
                unfold World.cell? at aV
                simp only[aw,Option.isSome_some,if_true] at aV
                split at aV<;>cases aV
    · rename_i id off len cap k n ae aA
      rw[ae] at rx;rw[aA] at jv
      split at he<;>try(cases he;done)
      rename_i ak
      cases he
      obtain⟨A,c,b,sz,jf,bJ,ch,ej,fV⟩:=rx.qz
      obtain⟨rfl,_⟩:=fV (by omega)
      have:=H.sized bJ ak.2.2
      subst this
      have R:=a2.ptr (w:=w) (ok:=bn base okin σ h) (σ:=σ) id (off+n.toNat) 0 b sz bJ
      refine .pure H ?_ R
      simp[execOp,cA,Instr.indexAt,jv.jt,asIntOf,run_underlying hu,jf,ak.1,ak.2.1,run_sizeOf U,pF,Nat.add_mul]
    · cases he
  · rename_i n e hu
    split at J<;>try(cases J;done)
    rename_i bQ s y j U h2 aB aS
    cases J
    have rx:=bE.dO aB
    have jv:=bE.dO aS
    simp only[evalOp] at he
    split at he
    · rename_i u k mT ae aA
      rw[ae] at rx;rw[aA] at jv
      split at he<;>try(cases he;done)
      rename_i ak
      obtain⟨cs,oM,he⟩:=Option.bind_eq_some_iff.1 he
      obtain⟨p,aE,he⟩:=Option.map_eq_some_iff.1 he
      cases he
      obtain⟨cm,d_,jf,bJ,ch⟩:=rx.x5
      refine .pure H (cv:= .pointer (some (cm.add (mT.toNat*s)))) ?_ (Hw bJ ch oM aE)
      simp[execOp,cA,Instr.indexAt,jv.jt,asIntOf,run_underlying hu,jf,Instr.sureAddr,ak.1,ak.2,run_sizeOf h2]
    · rename_i id idx cC k mT ae aA
      rw[ae] at rx;rw[aA] at jv
      split at he<;>try(cases he;done)
      rename_i ak
      cases he
      obtain⟨b,b5,jf,bJ⟩:=rx.vA
      have:=a2.ptr (w:=w) (ok:=bn base okin σ h) (σ:=σ) id idx (cC+mT.toNat*s) b b5 bJ
      refine .pure H ?_ this
      simp[execOp,cA,Instr.indexAt,jv.jt,asIntOf,run_underlying hu,jf,Instr.sureAddr,ak.1,ak.2,run_sizeOf h2,pF,Nat.add_assoc]
    · cases he
 case index t x i=>
  simp only[fv] at J
  split at J<;>try(cases J;done)
  · rename_i n e hu
    split at J<;>try(cases J;done)
    rename_i bQ s y j U h2 aB aS
    split at J<;>try(cases J;done)
    rename_i ck
    cases J
    have rx:=bE.dO aB
    have jv:=bE.dO aS
    simp only[evalOp] at he
    split at he<;>try(cases he;done)
    rename_i cs k mT ae aA
    rw[ae] at rx;rw[aA] at jv
    split at he<;>try(cases he;done)
    rename_i ak
    obtain⟨jr,oM,he⟩:=Option.bind_eq_some_iff.1 he
    obtain⟨u,aE,he⟩:=Option.map_eq_some_iff.1 he
    cases he
    obtain⟨vs,ev,bH,bF⟩:=rx.tz
    obtain⟨cv,aq,au⟩:=G2 (P:=P) U h2 ck bH bF oM aE
    exact .pure H (by simp[execOp,cA,Instr.index,jv.jt,asIntOf,run_underlying hu,ev,ak.1,ak.2,run_sizeOf h2,aq]) au
  · rename_i hu
    split at J<;>try(cases J;done)
    rename_i y j U h2
    cases J
    have rx:=bE.dO U
    have jv:=bE.dO h2
    simp only[evalOp] at he
    split at he<;>try(cases he;done)
    rename_i str k mT ae aA
    rw[ae] at rx;rw[aA] at jv
    split at he<;>try(cases he;done)
    rename_i ak
    obtain⟨HF,ad,he⟩:=Option.map_eq_some_iff.1 he
    cases he
    refine .pure H (cv:= .int .u8 HF.toNat) ?_ (.val _ _ (.int _ _))
    simp[execOp,cA,Instr.index,jv.jt,asIntOf,run_underlying hu,rx.vz,ak,ad]
 case extract x i=>
  obtain⟨y,aQ,rfl⟩:=Option.map_eq_some_iff.1 J
  simp only[evalOp] at he
  split at he<;>try(cases he;done)
  rename_i vs ae
  obtain⟨u,hu,he⟩:=Option.map_eq_some_iff.1 he
  cases he
  have rx:=bE.dO aQ
  rw[ae] at rx
  obtain⟨cs,ev,bH,bF⟩:=rx.GR
  obtain⟨ab,rfl⟩:=List.getElem?_eq_some_iff.1 hu
  have bB:i<cs.size:=by omega
  exact .pure H (by simp[execOp,cA,Instr.extract,ev,bB]) (bF i ab bB)
 case call oN=>
  obtain⟨callee,args,argTypes⟩:=oN
  cases callee with
  | value f=>
    simp only[fv] at J
    split at J<;>try(cases J;done)
    cases J
    simp only[evalOp] at he;cases he
  | invoke _ _=>simp only[fv] at J;cases J
  | builtin b=>
    cases b<;>try(simp only[fv] at J;cases J;done)
    case append=>
     obtain⟨bc,cv,aO,aq,au,aV,bR,eS⟩:=QQ (ty:=o.type) H bE aT J he
     exact ⟨bc,cv,aO,.inl (by simp[execOp,cA,resolve,invoke,builtin,aq]),au,aV,bR,eS⟩
    case len=>
     simp only[fv] at J
     split at J<;>try(cases J;done)
     rename_i t X aL e7
     have rV:args= #[X]:=by rw[<-Array.toList_inj];exact e7
     subst rV
     split at J<;>try(cases J;done)
     · rename_i e x hu ae
       cases J
       have rx:=bE.dO ae
       simp only[evalOp] at he
       split at he
       · rename_i xs ex al
         simp only[if_true] at he
         cases he
         rw[al] at rx
         have aT:=rx.qy
         generalize kq:a.eval X=jd at aT rx
         cases aT with
         | sl _ _ A c _ _ _ _ _ _ _ _=>
           refine .pure H (cv:= .int .i64 xs.length) ?_ (.val _ _ (.int _ _))
           simp[execOp,cA,resolve,invoke,builtin,Builtin.len_,aL,run_underlying hu,kq,goInt]
       · rename_i id off len cap al
         simp only[if_true] at he
         cases he
         rw[al] at rx
         obtain⟨A,c,b,sz,jf,_⟩:=rx.qz
         refine .pure H (cv:= .int .i64 len) ?_ (.val _ _ (.int _ _))
         simp[execOp,cA,resolve,invoke,builtin,Builtin.len_,aL,run_underlying hu,jf,goInt]
       · simp only[Bool.false_eq_true,if_false] at he;cases he
       · cases he
     · rename_i x hu ae
       cases J
       have rx:=bE.dO ae
       simp only[evalOp] at he
       split at he
       · simp only[Bool.true_eq_false,if_false] at he;cases he
       · simp only[Bool.true_eq_false,if_false] at he;cases he
       · rename_i s al
         simp only[if_true] at he
         cases he
         rw[al] at rx
         refine .pure H (cv:= .int .i64 s.size) ?_ (.val _ _ (.int _ _))
         simp[execOp,cA,resolve,invoke,builtin,Builtin.len_,aL,run_underlying hu,rx.vz,goInt]
       · cases he
    case min=>
     obtain⟨xs,nY,rfl⟩:=Option.map_eq_some_iff.1 J
     obtain⟨bH,bF⟩:=rQ bE nY
     simp only[evalOp] at he
     obtain⟨u,hu,he⟩:=Option.map_eq_some_iff.1 he
     cases he
     cases xs with
     | nil=>simp[jI] at hu
     | cons x xs=>
       cases e7:args.toList with
       | nil=>rw[e7] at bH;simp at bH
       | cons X B1=>
         rw[e7] at bH
         have r0:=bF 0 (by simp) (by simp[e7])
         simp only[e7,List.getElem_cons_zero] at r0
         simp only[List.map_cons] at hu
         cases ae:x.ev G F<;>rw[ae] at hu<;>try(simp[jI] at hu;done)
         rename_i k n
         rw[ae] at r0
         obtain⟨cv,aq,au⟩:=Ht (P:=P) (w:=w) (σ:=σ) (bn base okin σ h) (xs.map (aR.ev G F)) k n (B1.map a.eval) v hu (by simpa using bH) (fun i ab bS=>by
          have:=bF (i+1) (by simpa using ab) (by simpa[e7] using bS)
          simpa[e7] using this)
         refine .pure H ?_ au
         simp[execOp,cA,resolve,invoke,builtin,Builtin.min_,e7,r0.jt,aq]
    case max=>
     obtain⟨xs,nY,rfl⟩:=Option.map_eq_some_iff.1 J
     obtain⟨bH,bF⟩:=rQ bE nY
     simp only[evalOp] at he
     obtain⟨u,hu,he⟩:=Option.map_eq_some_iff.1 he
     cases he
     cases xs with
     | nil=>simp[jI] at hu
     | cons x xs=>
       cases e7:args.toList with
       | nil=>rw[e7] at bH;simp at bH
       | cons X B1=>
         rw[e7] at bH
         have r0:=bF 0 (by simp) (by simp[e7])
         simp only[e7,List.getElem_cons_zero] at r0
         simp only[List.map_cons] at hu
         cases ae:x.ev G F<;>rw[ae] at hu<;>try(simp[jI] at hu;done)
         rename_i k n
         rw[ae] at r0
         obtain⟨cv,aq,au⟩:=Hu (P:=P) (w:=w) (σ:=σ) (bn base okin σ h) (xs.map (aR.ev G F)) k n (B1.map a.eval) v hu (by simpa using bH) (fun i ab bS=>by
          have:=bF (i+1) (by simpa using ab) (by simpa[e7] using bS)
          simpa[e7] using this)
         refine .pure H ?_ au
         simp[execOp,cA,resolve,invoke,builtin,Builtin.max_,e7,r0.jt,aq]
end
end Go.Eng
